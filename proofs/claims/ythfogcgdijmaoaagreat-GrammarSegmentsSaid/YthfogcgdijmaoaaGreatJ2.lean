/-
  Part 2 of the proof: Arg GramClean. Conditions: those of the statements.
-/
import Derived.Test.YthfogcgdijmaoaaGreatJ1
import Derived.ProofKit
import Derived.OpenShut
import Derived.SizedLaws
import Derived.Deep.Grids
import Derived.Test.YthfogcgdijmaoaaGreatProg
import Derived.Deep.DeepCutAuto
import Derived.WalkLawsBesides
set_option maxRecDepth 100000
set_option maxHeartbeats 16000000
set_option linter.unusedVariables false
set_option linter.unusedSimpArgs false
namespace Go.Proofs.YthfogcgdijmaoaaGreat
open Go.RowKit Go.ChangeShapes Go.WideShapes
structure Arg (k:IntKind) (by_:Nat) (w:World) (A:Option Addr) (n c:Nat) (zs:List Int):Prop where
 rd:Rd w A n (zs.map (Value.int k))
 cap:n≤c
 reach:c*by_≤140737488351232
 wf: ∀z∈zs,(Lit.int k z).wf=true
theorem arg_ints {H:Type} {enc:TypeId×Value→H} {P:Program} {w:World} {base:Nat} {held:Bool} {t e:TypeId} {k:IntKind} {fuel by_:Nat} {A:Option Addr} {n c:Nat} {d:DataW H} {p:List MemPlace}
 (ht:P.underlying t=some (.slice e)) (he:P.underlying e=some (.int k)) (hc:P.cellsOf e=1)
 (h:DataW.trod enc P w base (fun _=>true) held fuel t (Value.slice A n c).cells.toList=some (d,p))
 (hr: ∀el sp,d=.slice el sp→(el.length+sp.length)*by_≤reachBytes): ∃zs,Arg k by_ w A n c zs:=by
 have hrb:reachBytes=140737488351232:=by decide +kernel
 rcases open_ints ht he hc h with⟨hcs,_⟩|⟨x,l,c',zs,hcs,_,hl,hm,hz,hx,hcell,hwz⟩
 · simp [Value.cells]at hcs
   obtain⟨rfl,rfl,rfl⟩:=hcs
   exact⟨[],Rd.nil _,Nat.le_refl _,by omega,by simp⟩
 · simp [Value.cells]at hcs
   obtain⟨rfl,rfl,rfl⟩:=hcs
   simp only [if_true]at hz
   simp only [Prod.mk.injEq]at hx
   have hreach:=hr _ _ hx.1
   have e1:(lits (H:=H) k (zs.take n)).length=n:=by simp [lits];omega
   have e2:(lits (H:=H) k (zs.drop n)).length=c-n:=by simp [lits];omega
   rw [e1,e2,hrb,Nat.add_sub_cancel' hl]at hreach
   refine⟨zs.take n,⟨by simp;omega,fun hn=>⟨x,rfl,fun j u hu=>?_⟩⟩,hl,hreach,fun z hz'=>hwz z (List.mem_of_mem_take hz')⟩
   rw [List.getElem?_map,List.getElem?_take]at hu
   have hj:j<n:=by
    rcases Nat.lt_or_ge j n with h|h
    · exact h
    · rw [if_neg (by omega)]at hu;cases hu
   rw [if_pos hj]at hu
   have hjl:j<zs.length:=by omega
   rw [hcell j hjl]
   simp [hjl]at hu
   subst hu
   simp [hjl]
structure ArgB (w:World) (A:Option Addr) (n c:Nat) (zs:List Bool):Prop where
 rd:Rd w A n (zs.map Value.bool)
 cap:n≤c
 reach:c*1≤140737488351232
theorem arg_bools {H:Type} {enc:TypeId×Value→H} {P:Program} {w:World} {base:Nat} {held:Bool} {t e:TypeId} {fuel:Nat} {A:Option Addr} {n c:Nat} {d:DataW H} {p:List MemPlace}
 (ht:P.underlying t=some (.slice e)) (he:P.underlying e=some .bool) (hc:P.cellsOf e=1)
 (h:DataW.trod enc P w base (fun _=>true) held fuel t (Value.slice A n c).cells.toList=some (d,p))
 (hr: ∀el sp,d=.slice el sp→(el.length+sp.length)*1≤reachBytes): ∃zs,ArgB w A n c zs:=by
 have hrb:reachBytes=140737488351232:=by decide +kernel
 rcases Go.Deep.open_bools ht he hc h with⟨hcs,_⟩|⟨x,l,c',B,hcs,_,hl,hm,hx,hcell⟩
 · simp [Value.cells]at hcs
   obtain⟨rfl,rfl,rfl⟩:=hcs
   exact⟨[],Rd.nil _,Nat.le_refl _,by omega⟩
 · simp [Value.cells]at hcs
   obtain⟨rfl,rfl,rfl⟩:=hcs
   simp only [Prod.mk.injEq]at hx
   have hreach:=hr _ _ hx.1
   rw [hrb]at hreach
   simp at hreach
   refine⟨(List.range n).map B,⟨by simp,fun hn=>⟨x,rfl,fun j u hu=>?_⟩⟩,hl,by omega⟩
   rw [List.map_map,List.getElem?_map]at hu
   have hj:j<n:=by
    rcases Nat.lt_or_ge j n with h|h
    · exact h
    · rw [List.getElem?_eq_none (by simpa using h)]at hu;cases hu
   rw [hcell j (by omega)]
   simp [hj]at hu
   rw [hu]
section
variable {k :IntKind} {by_:Nat} {w:World} {A:Option Addr} {n c:Nat} {zs:List Int}
theorem Arg.len (h:Arg k by_ w A n c zs):zs.length=n:=h.rd.len
theorem Arg.bytes (h:Arg .u8 by_ w A n c zs):Bytes zs:=by
 intro z hz
 have:=h.wf z hz
 simpa [Lit.wf,IntKind.min,IntKind.max,IntKind.signed,IntKind.bits]using this
end
theorem wf_i64 {x:Int} (h:(Lit.int .i64 x).wf=true):-9223372036854775808≤x∧x≤9223372036854775807:=by
 simpa [Lit.wf,IntKind.min,IntKind.max,IntKind.signed,IntKind.bits]using h
end Go.Proofs.YthfogcgdijmaoaaGreat
namespace Go.Proofs.YthfogcgdijmaoaaGreat
open Go.RowKit
def wasAt (zs:List Int) (i:Nat):Int:=if i=0 then 0 else zs.getD (i-1) 0
def badAt (zs:List Int) (i:Nat):Bool:=(wasAt zs i==255)&&decide (143<zs.getD i 0)
def cleanB (zs:List Int):Bool:=(List.range zs.length).all fun i=>!badAt zs i
theorem lit_any (w:World) (W:Nat) (x y:Int) (hx:0≤x∧x≤255) (hy:0≤y∧y≤255) (h:Blk w W 5 #[.int .u8 y]):
 Calls Tryz.prog 29 #[.int .u8 x,.pointer (some ⟨W,0,none⟩)] w fun e w'=>e=.returned (.bool ((y==255)&&decide (143<x)))∧Blk w' W 5 #[.int .u8 x]∧Keep (fun j=>j=W) w w':=by
 have g0:w.cell? ⟨W,0,none⟩=some (.int .u8 y):=h.cell 0
 have f0:=h.frozen 0
 have hb:=h.set_ 0 (.int .u8 x)
 have hk:=(Keep.refl (fun j=>j=W) w).setR 0 (.int .u8 x)
 by_cases h255:y=255
 · subst h255
   have HB:=hid hb
   have HK:=hid hk
   clear hb hk h
   go_enter Tryz.func29,Tryz.ntmps29
   go_wp2_with fail
   go_ret
   exact⟨ret_bool (by simp),HB.out,HK.out⟩
 · have hy':(y==255)=false:=by simpa using h255
   have HB:=hid hb
   have HK:=hid hk
   clear hb hk h
   go_enter Tryz.func29,Tryz.ntmps29
   go_wp2_with fail
   go_ret
   exact⟨ret_bool (by simp [hy']),HB.out,HK.out⟩
theorem was_byte {zs:List Int} (h:Bytes zs) (i:Nat):0≤wasAt zs i∧wasAt zs i≤255:=by
 unfold wasAt
 split
 · omega
 · rw [List.getD_eq_getElem?_getD]
   rcases Nat.lt_or_ge (i-1) zs.length with hk|hk
   · rw [List.getElem?_eq_getElem hk]
     exact h _ (List.getElem_mem hk)
   · rw [List.getElem?_eq_none hk]
     decide
theorem clean_false {zs:List Int} {i:Nat} (hi:i<zs.length) (h:badAt zs i=true):cleanB zs=false:=by
 rw [Bool.eq_false_iff]
 intro hc
 unfold cleanB at hc
 have:=List.all_eq_true.1 hc i (List.mem_range.2 hi)
 rw [h]at this
 cases this
theorem clean_true {zs:List Int} (h: ∀j,j<zs.length→badAt zs j=false):cleanB zs=true:=by
 unfold cleanB
 rw [List.all_eq_true]
 intro i hi
 rw [h i (List.mem_range.1 hi)]
 rfl
theorem index_any (w:World) (W:Nat) (A:Option Addr) (n c:Nat) (zs:List Int) (hW:Blk w W 5 #[.int .u8 0]) (hr:Rd w A n (zs.map (Value.int .u8))) (hA:0<n→ ∀ad,A=some ad→ad.block≠W) (hby:Bytes zs) (hn:n≤1099511627776):
 Calls Tryz.prog 46 #[.slice A n c,.func (.func 29) #[] #[.pointer (some ⟨W,0,none⟩)]] w fun e w'=>(∃ x:Int,e=.returned (.int .i64 x)∧(decide (0≤x)=!cleanB zs))∧Keep (fun j=>j=W) w w':=by
 have HR:=hid hr
 have HW0:=hid hW
 have HBY:=hid hby
 have hl:=hr.len
 clear hr hW hby
 go_enter Tryz.func46,Tryz.ntmps46
 go_wp2_with fail
 go_loopw [8] (fun v wr=> ∃i:Nat,i≤n∧v=.int .i64 i∧Hid (Blk wr W 5 #[.int .u8 (wasAt zs i)])∧Hid (∀ j,j<i→badAt zs j=false)∧Hid (Keep (fun j=>j=W) w wr)) (fun v _=>n-(intOf v).toNat)
 case atStart=>exact⟨0,by omega,rfl,HW0,hid (fun j h=>by omega),hid (Keep.refl _ w)⟩
 case round=>
  obtain⟨i,hi,rfl,HW,HN,HK⟩:=hrel
  by_cases hin:i<n
  · obtain⟨b,o,rfl,hz⟩:=HR.out.int_ix hin
    have hne:b≠W:=hA (by omega) _ rfl
    have z0:=HK.out.cell hz (fun h:b=W=>hne h)
    have hx:=HBY.out (zs.getD i 0) (by rw [List.getD_eq_getElem?_getD,List.getElem?_eq_getElem (by omega)];exact List.getElem_mem _)
    have hy:0≤wasAt zs i∧wasAt zs i≤255:=was_byte HBY.out i
    have hb:badAt zs i=((wasAt zs i==255)&&decide (143<zs.getD i 0)):=rfl
    have hw:wasAt zs (i+1)=zs.getD i 0:=rfl
    have HC:=hid (fun (hbad:badAt zs i=true)=>clean_false (zs:=zs) (i:=i) (by omega) hbad)
    clear hz
    generalize hg:zs.getD i 0=x at*
    have HG:=hid hg
    clear hg
    have HW':=hid HW.out
    generalize wasAt zs i=y at*
    go_wp2_with fail
    refine(lit_any wr W x y hx hy HW.out).mono ?_
    rintro e w2 ⟨rfl,hb2,hk2⟩
    have HB2:=hid (show Blk w2 W 5 #[.int .u8 (wasAt zs (i+1))] by rw [hw];exact hb2)
    have HK2:=hid (HK.out.trans hk2 (fun _ _ h=>h))
    rw [← hb]
    clear hb2 hk2 hb hw HW HW' z0
    by_cases hbad:badAt zs i=true
    · have hcl:=HC.out hbad
      rw [hbad]
      go_wp2_with fail
      go_ret
      exact⟨⟨i,rfl,by rw [hcl];simp⟩,HK2.out⟩
    · have hbad':badAt zs i=false:=by simpa using hbad
      rw [hbad']
      have HN2:=hid (show∀j,j<i+1→badAt zs j=false from fun j hj=>by
       by_cases h:j=i
       · subst h;exact hbad'
       · exact HN.out j (by omega))
      clear HC
      go_wp2_with fail
      exact⟨⟨i+1,by omega,by go_num,HB2,HN2,HK2⟩,by simp [intOf];omega⟩
  · obtain rfl:n=i:=by omega
    have hcl:cleanB zs=true:=clean_true (fun j hj=>HN.out j (by omega))
    go_wp2_with fail
    go_ret
    exact⟨⟨-1,rfl,by rw [hcl];decide⟩,HK.out⟩
theorem contains_any (w:World) (W:Nat) (A:Option Addr) (n c:Nat) (zs:List Int) (hW:Blk w W 5 #[.int .u8 0]) (hr:Rd w A n (zs.map (Value.int .u8))) (hA:0<n→ ∀ad,A=some ad→ad.block≠W) (hby:Bytes zs) (hn:n≤1099511627776):
 Calls Tryz.prog 28 #[.slice A n c,.func (.func 29) #[] #[.pointer (some ⟨W,0,none⟩)]] w fun e w'=>e=.returned (.bool (!cleanB zs))∧Keep (fun j=>j=W) w w':=by
 have H:=hid (index_any w W A n c zs hW hr hA hby hn)
 clear hW hr hby
 go_enter Tryz.func28,Tryz.ntmps28
 go_wp2_with fail
 refine H.out.mono ?_
 rintro e w2 ⟨⟨x,rfl,hx⟩,hk2⟩
 have HK:=hid hk2
 have HX:=hid hx
 clear hx hk2 H
 go_wp2_with fail
 go_ret
 exact⟨ret_bool (by rw [← HX.out]),HK.out⟩
theorem clean_any (w:World) (A:Option Addr) (n c:Nat) (zs:List Int) (hr:Rd w A n (zs.map (Value.int .u8))) (hby:Bytes zs) (hn:n≤1099511627776):
 Calls Tryz.prog 14 #[.slice A n c] w fun e w'=>e=.returned (.bool (cleanB zs))∧Keep (fun _=>False) w w':=by
 have hmf: ∀(fn:Fn) (first cap:Array Value) (w:World),(Instr.makeFunc fn first cap).run Tryz.prog w=.ok (.func fn first cap) w:=fun _ _ _ _=>rfl
 go_enter Tryz.func14,Tryz.ntmps14
 go_wp2_with fail
 have hb:=Blk.new w 5 #[.int .u8 0]
 have hk:=(Keep.refl (fun _=>False) w).alloc (.cells #[.int .u8 0] 5)
 refine(contains_any _ w.heap.size A n c zs hb (hr.alloc _) (fun h0 ad e=>by have:=hr.lt h0 ad e;omega) hby hn).mono ?_
 rintro e w2 ⟨rfl,hk2⟩
 have HK:=hid (hk.trans hk2 (fun j hj h=>by omega):Keep (fun _=>False) w w2)
 clear hb hk hk2
 go_wp2_with fail
 go_ret
 exact⟨ret_bool (by simp),HK.out⟩
end Go.Proofs.YthfogcgdijmaoaaGreat
