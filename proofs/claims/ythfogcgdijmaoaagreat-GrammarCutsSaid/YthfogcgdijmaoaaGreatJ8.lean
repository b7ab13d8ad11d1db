/-
  Part 8 of the proof: SMq. Conditions: those of the statements.
-/
import Derived.Test.YthfogcgdijmaoaaGreatJ3
import Derived.Test.YthfogcgdijmaoaaGreatJ7
import Derived.Deep.DeepCutAuto
import Derived.WalkLawsBesides
set_option maxRecDepth 100000
set_option maxHeartbeats 16000000
set_option linter.unusedVariables false
set_option linter.unusedSimpArgs false
namespace Go.Proofs.YthfogcgdijmaoaaGreat
open Go.RowKit
theorem ofInt_nat (a:Nat) (h:a<18446744073709551616):(BitVec.ofInt 64 (a:Int)).toNat=a:=by
 rw [BitVec.ofInt_natCast,BitVec.toNat_ofNat];exact Nat.mod_eq_of_lt (by omega)
theorem i64_and_nat (a b:Nat) (ha:a<9223372036854775808) (hb:b<9223372036854775808):bits .and .i64 (a:Int) (b:Int)=((a&&&b:Nat):Int):=by
 have hx:a&&&b≤a:=Nat.and_le_left
 show IntKind.i64.wrap ((BitVec.ofInt 64 (a:Int)&&&BitVec.ofInt 64 (b:Int)).toNat:Int)=_
 rw [BitVec.toNat_and,ofInt_nat a (by omega),ofInt_nat b (by omega),IntWalk.i64_in _ (by omega)]
theorem nat_and_pow (c k:Nat) (h:c<2^(k+1)):c&&&2^k=if 2^k≤c then 2^k else 0:=by
 rw [Nat.pow_succ]at h
 by_cases hc:2^k≤c
 · rw [if_pos hc]
   obtain⟨r,rfl⟩: ∃r,c=2^k+r:=⟨c-2^k,by omega⟩
   have e:2^k+r=2^k|||r:=by
    have:=Nat.two_pow_add_eq_or_of_lt (show r<2^k by omega) 1
    rw [Nat.mul_one]at this
    exact this
   rw [e]
   apply Nat.eq_of_testBit_eq
   intro j
   rw [Nat.testBit_and,Nat.testBit_or,Nat.testBit_two_pow]
   by_cases hj:k=j<;>simp [hj]
 · rw [if_neg hc]
   apply Nat.eq_of_testBit_eq
   intro j
   rw [Nat.testBit_and,Nat.testBit_two_pow,Nat.zero_testBit]
   by_cases hj:k=j
   · subst hj
     have:c.testBit k=false:=Nat.testBit_lt_two_pow (by omega)
     simp [this]
   · simp [hj]
theorem and_carry (c:Int) (h0:0≤c) (h1:c<268435456):bits .and .i64 c 134217728=if 134217728≤c then 134217728 else 0:=by
 obtain⟨C,rfl⟩:=Int.eq_ofNat_of_zero_le h0
 have:=nat_and_pow C 27 (by omega)
 rw [show(134217728:Int)=((2^27:Nat):Int)from rfl,i64_and_nat C (2^27) (by omega) (by omega),this]
 by_cases hc:2^27≤C
 · rw [if_pos hc,if_pos (by omega)]
 · rw [if_neg hc,if_neg (by omega)];rfl
theorem nat_andNot (r:Nat) (h:r<2^27):(2^27+r)&&&(2^64-(2^27+1))=r:=by
 have e:2^27+r=2^27|||r:=by
  have:=Nat.two_pow_add_eq_or_of_lt h 1
  rw [Nat.mul_one]at this
  exact this
 rw [e]
 apply Nat.eq_of_testBit_eq
 intro j
 rw [Nat.testBit_and,Nat.testBit_or,Nat.testBit_two_pow_sub_succ (by decide),Nat.testBit_two_pow]
 by_cases hj:27=j
 · subst hj
   have:r.testBit 27=false:=Nat.testBit_lt_two_pow h
   simp [this]
 · by_cases h64:j<64
   · simp [hj,h64]
   · have:r.testBit j=false:=Nat.testBit_lt_two_pow (Nat.lt_of_lt_of_le h (Nat.pow_le_pow_right (by omega) (by omega)))
     simp [this,hj]
theorem andNot_carry (c:Int) (h0:134217728≤c) (h1:c<268435456):bits .andNot .i64 c 134217728=c-134217728:=by
 obtain⟨C,rfl⟩:=Int.eq_ofNat_of_zero_le (show 0≤c by omega)
 obtain⟨r,rfl⟩: ∃r,C=2^27+r:=⟨C-2^27,by omega⟩
 have hr:r<2^27:=by omega
 have e:((BitVec.ofInt 64 ((2^27+r:Nat):Int))&&& ~~~ (BitVec.ofInt 64 134217728)).toNat=r:=by
  rw [BitVec.toNat_and,BitVec.toNat_not,ofInt_nat _ (by omega),show(134217728:Int)=((2^27:Nat):Int)from rfl,ofInt_nat _ (by omega)]
  have:=nat_andNot r hr
  rw [show 2^64-1-2^27=2^64-(2^27+1)from by decide]
  exact this
 show IntKind.i64.wrap (((BitVec.ofInt 64 ((2^27+r:Nat):Int))&&& ~~~ (BitVec.ofInt 64 134217728)).toNat:Int)=_
 rw [e,IntWalk.i64_in _ (by omega)]
 omega
theorem and_low (x:Int) (k:Nat) (hk:k≤62):bits .and .i64 x (2^k-1)=x%2^k:=by
 have hp:(2:Nat)^k≤2^62:=Nat.pow_le_pow_right (by omega) hk
 have hp1:1≤(2:Nat)^k:=Nat.one_le_two_pow
 have e:(2:Int)^k-1=((2^k-1:Nat):Int):=by
  have:((2^k:Nat):Int)=(2:Int)^k:=by simp
  omega
 have e2:(2:Int)^k=((2^k:Nat):Int):=by simp
 have h1:((BitVec.ofInt 64 x&&&BitVec.ofInt 64 ((2^k-1:Nat):Int)).toNat:Int)=x%2^k:=by
  rw [BitVec.toNat_and,BitVec.ofInt_natCast,BitVec.toNat_ofNat,Nat.mod_eq_of_lt (show 2^k-1<2^64 by omega),Nat.and_two_pow_sub_one_eq_mod,BitVec.toNat_ofInt,e2]
  have hd:((2^k:Nat):Int)∣((2^64:Nat):Int):=Int.natCast_dvd_natCast.2 (Nat.pow_dvd_pow 2 (by omega))
  have h0:0≤x%((2^64:Nat):Int):=Int.emod_nonneg _ (by decide)
  rw [Int.natCast_emod,Int.toNat_of_nonneg h0,Int.emod_emod_of_dvd _ hd]
 show IntKind.i64.wrap ((BitVec.ofInt 64 x&&&BitVec.ofInt 64 ((2:Int)^k-1)).toNat:Int)=_
 rw [e,h1]
 have h2:0≤x%2^k:=Int.emod_nonneg _ (by omega)
 have h3:x%2^k<2^k:=Int.emod_lt_of_pos _ (by omega)
 rw [IntWalk.i64_in _ (by omega)]
theorem low19 (x:Int):bits .and .i64 x 524287=x%524288:=and_low x 19 (by omega)
theorem low20 (x:Int):bits .and .i64 x 1048575=x%1048576:=and_low x 20 (by omega)
theorem or_ffff (c:Int) (h0:0≤c) (h1:c<9223372036854710272):bits .or .i64 c 65535=c/65536*65536+65535:=by
 obtain⟨C,rfl⟩:=Int.eq_ofNat_of_zero_le h0
 have e:C|||65535=C/65536*65536+65535:=by
  have h1:C=2^16*(C/2^16)+C%2^16:=(Nat.div_add_mod C (2^16)).symm
  have h2:2^16*(C/2^16)+C%2^16=2^16*(C/2^16)|||C%2^16:=Nat.two_pow_add_eq_or_of_lt (Nat.mod_lt _ (by decide)) _
  have h3:2^16*(C/2^16)+65535=2^16*(C/2^16)|||65535:=Nat.two_pow_add_eq_or_of_lt (by decide) _
  have h4:C%2^16|||65535=65535:=by
   apply Nat.eq_of_testBit_eq
   intro j
   have e5:(65535:Nat)=2^16-1:=rfl
   rw [Nat.testBit_or,e5,Nat.testBit_two_pow_sub_one]
   by_cases hj:j<16
   · simp [hj]
   · have:(C%2^16).testBit j=false:=Nat.testBit_lt_two_pow (Nat.lt_of_lt_of_le (Nat.mod_lt _ (by decide)) (Nat.pow_le_pow_right (by omega) (by omega)))
     simp [hj,this]
  calc C|||65535=(2^16*(C/2^16)|||C%2^16)|||65535:=by rw [← h2,←h1]
   _=2^16*(C/2^16)|||(C%2^16|||65535):=Nat.or_assoc _ _ _
   _=2^16*(C/2^16)+65535:=by rw [h4,h3]
   _=C/65536*65536+65535:=by rw [Nat.mul_comm]
 rw [show(65535:Int)=((65535:Nat):Int)from rfl,i64_or_nat C 65535 (by omega) (by omega),e]
 omega
def foot (W:Nat) (A:Option Addr) (k:Nat):Prop:=k=W∨ ∃ad,A=some ad∧ad.block=k
def Grew (w:World) (A A':Option Addr):Prop:= ∀ad',A'=some ad'→(∃ ad,A=some ad∧ad.block=ad'.block)∨w.heap.size≤ad'.block
theorem own_foot {A:Option Addr} {n c:Nat} {k:Nat} (h:(Value.slice A n c).ownBlock=some k): ∃ad,A=some ad∧ad.block=k:=by
 cases A with
 |none=>simp [Value.ownBlock]at h
 |some a=>exact⟨a,rfl,by simpa [Value.ownBlock]using h⟩
theorem Grew.of {w:World} {A A':Option Addr} {n n' c c' m:Nat} (h:(Value.slice A' n' c').ownBlock=(Value.slice A n c).ownBlock∨(Value.slice A' n' c').ownBlock=some m) (hm:w.heap.size≤m):Grew w A A':=by
 intro ad' e
 subst e
 rcases h with h|h
 · have:(Value.slice A n c).ownBlock=some ad'.block:=by rw [← h];rfl
   exact .inl (own_foot this)
 · simp [Value.ownBlock]at h
   exact .inr (by omega)
theorem Grew.refl (w:World) (A:Option Addr):Grew w A A:=fun ad e=>.inl ⟨ad,e,rfl⟩
theorem grew_next {w0 w1 w2:World} {W:Nat} {A0 A1 A2:Option Addr} (g1:Grew w0 A0 A1) (k1:Keep (foot W A0) w0 w1) (g2:Grew w1 A1 A2) (k2:Keep (foot W A1) w1 w2):Grew w0 A0 A2∧Keep (foot W A0) w0 w2:=by
 refine⟨fun ad e=>?_,k1.trans k2 (fun i hi h=>?_)⟩
 · rcases g2 ad e with⟨a1,e1,h⟩|h
   · rcases g1 a1 e1 with⟨a0,e0,h'⟩|h'
     · exact .inl ⟨a0,e0,h'.trans h⟩
     · exact .inr (by omega)
   · exact .inr (Nat.le_trans k1.size h)
 · rcases h with h|⟨a1,e1,h⟩
   · exact .inl h
   · rcases g1 a1 e1 with⟨a0,e0,h'⟩|h'
     · exact .inr ⟨a0,e0,by omega⟩
     · omega
theorem Grew.lift {w w':World} {A A':Option Addr} (h:Grew w' A A') (hs:w.heap.size≤w'.heap.size):Grew w A A':=fun ad e=>(h ad e).imp id (fun h=>by omega)
theorem own_foot_lt {w:World} {base n c:Nat} {e:TypeId} {A:Option Addr} {xs:List Value} (h:w.ownsRow base e 1 (.slice A n c) n xs): ∀ad,A=some ad→base≤ad.block∧ad.block<w.heap.size:=fun ad e=>by
 subst e
 exact h.lt ad.block rfl
structure ES where
 a:Int
 c:Int
 ct:Int
 b:List Int
def outM (s:ES):ES:=
 if lastM s.b=255 then⟨s.a,s.c%1048576,7,s.b++[s.c/1048576]⟩
 else if 134217728≤s.c then
  (if lastM s.b+1=255 then⟨s.a,(s.c-134217728)%1048576,7,s.b.set (s.b.length-1) (lastM s.b+1)++[(s.c-134217728)/1048576]⟩
   else⟨s.a,(s.c-134217728)%524288,8,s.b.set (s.b.length-1) (lastM s.b+1)++[(s.c-134217728)/524288]⟩)
 else⟨s.a,s.c%524288,8,s.b++[s.c/524288]⟩
theorem outM_a (s:ES):(outM s).a=s.a:=by
 unfold outM;split; · rfl
 · split
   · split<;>rfl
   · rfl
theorem outM_len (s:ES):(outM s).b.length=s.b.length+1:=by
 unfold outM
 split
 · simp
 · split
   · split<;>simp
   · simp
theorem outM_bytes (s:ES) (h:Bytes s.b) (h0:0≤s.c) (h1:s.c<268435456):Bytes (outM s).b:=by
 have hl:=lastM_byte h
 have hset:lastM s.b≠255→Bytes (s.b.set (s.b.length-1) (lastM s.b+1)):=fun hne z hz=>by
  rcases List.mem_or_eq_of_mem_set hz with hz|hz
  · exact h z hz
  · omega
 have happ: ∀(l:List Int) (y:Int),Bytes l→0≤y→y≤255→Bytes (l++[y]):=fun l y hl h0 h1 z hz=>by
  rcases List.mem_append.1 hz with hz|hz
  · exact hl z hz
  · simp at hz;omega
 unfold outM
 split
 · exact happ _ _ h (by omega) (by omega)
 · rename_i hne
   split
   · split
     · exact happ _ _ (hset hne) (by omega) (by omega)
     · exact happ _ _ (hset hne) (by omega) (by omega)
   · exact happ _ _ h (by omega) (by omega)
structure EInv (s:ES):Prop where
 bytes:Bytes s.b
 some_:0<s.b.length
 c0:0≤s.c
 a0:0<s.a
 ct1:1≤s.ct
 ct12:s.ct≤12
 top:s.c+s.a≤9*2^(24-s.ct).toNat
def dblM (s:ES):ES:=if s.ct-1=0 then outM ⟨s.a*2,s.c*2,s.ct-1,s.b⟩else⟨s.a*2,s.c*2,s.ct-1,s.b⟩
def renM :Nat→ES→ES
 |0,s=>s
 |k+1,s=>if 32768≤(dblM s).a then dblM s else renM k (dblM s)
theorem dblM_a (s:ES):(dblM s).a=s.a*2:=by
 unfold dblM;split; · rw [outM_a]
 · rfl
theorem dblM_len (s:ES):(dblM s).b.length≤s.b.length+1:=by
 unfold dblM;split; · rw [outM_len];exact Nat.le_refl _
 · exact Nat.le_succ _
theorem outM_c (s:ES):(outM s).c<524288∧(outM s).ct=8∨(outM s).c<1048576∧(outM s).ct=7:=by
 unfold outM
 split
 · right;exact⟨by show s.c%1048576<_;omega,rfl⟩
 · split
   · split
     · right;exact⟨by show(s.c-134217728)%1048576<_;omega,rfl⟩
     · left;exact⟨by show(s.c-134217728)%524288<_;omega,rfl⟩
   · left;exact⟨by show s.c%524288<_;omega,rfl⟩
theorem outM_c0 (s:ES):0≤(outM s).c:=by
 unfold outM
 split
 · show 0≤s.c%1048576;omega
 · split
   · split
     · show 0≤(s.c-134217728)%1048576;omega
     · show 0≤(s.c-134217728)%524288;omega
   · show 0≤s.c%524288;omega
theorem EInv.dbl {s:ES} (h:EInv s) (ha:s.a<32768):EInv (dblM s):=by
 have h1:=h.ct1
 have h12:=h.ct12
 have h0:=h.c0
 have ha0:=h.a0
 have ht:=h.top
 obtain⟨k,hk⟩: ∃k:Nat,(24-s.ct).toNat=k:=⟨_,rfl⟩
 rw [hk]at ht
 have e2:(24-(s.ct-1)).toNat=k+1:=by omega
 have e3:(9:Int)*2^(k+1)=9*2^k*2:=by rw [Int.pow_succ,Int.mul_assoc]
 unfold dblM
 by_cases hc:s.ct-1=0
 · rw [if_pos hc]
   have hk23:k=23:=by omega
   subst hk23
   have hc28:s.c*2<268435456:=by
    have:(9:Int)*2^23=75497472:=by decide
    omega
   refine⟨outM_bytes ⟨s.a*2,s.c*2,s.ct-1,s.b⟩ h.bytes (by show 0≤s.c*2;omega) hc28,by rw [outM_len];omega,outM_c0 _,by rw [outM_a];show 0<s.a*2;omega,?_,?_,?_⟩
   · rcases outM_c ⟨s.a*2,s.c*2,s.ct-1,s.b⟩with h|h<;>omega
   · rcases outM_c ⟨s.a*2,s.c*2,s.ct-1,s.b⟩with h|h<;>omega
   · rw [outM_a]
     show _+s.a*2≤_
     rcases outM_c ⟨s.a*2,s.c*2,s.ct-1,s.b⟩with⟨h1,h2⟩|⟨h1,h2⟩
     · rw [h2]
       have:(9:Int)*2^(24-8:Int).toNat=589824:=by decide
       omega
     · rw [h2]
       have:(9:Int)*2^(24-7:Int).toNat=1179648:=by decide
       omega
 · rw [if_neg hc]
   refine⟨h.bytes,h.some_,by show 0≤s.c*2;omega,by show 0<s.a*2;omega,by show 1≤s.ct-1;omega,by show s.ct-1≤12;omega,?_⟩
   show s.c*2+s.a*2≤9*2^(24-(s.ct-1)).toNat
   rw [e2,e3]
   omega
theorem EInv.c28 {s:ES} (h:EInv s) (hc:s.ct-1=0):s.c*2<268435456:=by
 have ht:=h.top
 have h0:=h.a0
 have e:(24-s.ct).toNat=23:=by omega
 rw [e]at ht
 have:(9:Int)*2^23=75497472:=by decide
 omega
def farA (E:Nat) (w:World):Nat:=match w.cell? ⟨E,1,none⟩with
 |some (.int _ a)=>(32768-a).toNat
 |_=>0
def cxL :List (Nat×Nat)→List Value
 |[]=>[]
 |p::l=>.int .i64 p.1::.int .i64 p.2::cxL l
def cxCells (l:List (Nat×Nat)):Array Value:=(cxL l).toArray
def cxAt (l:List (Nat×Nat)) (k:Nat):Nat×Nat:=l.getD k (0,0)
theorem cxL_I (l:List (Nat×Nat)): ∀k,k<l.length→(cxL l)[k*2]?=some (.int .i64 (cxAt l k).1)∧(cxL l)[k*2+1]?=some (.int .i64 (cxAt l k).2):=by
 induction l with
 |nil=>intro k h;simp at h
 |cons p l ih=>
  intro k h
  cases k with
  |zero=>exact⟨rfl,rfl⟩
  |succ k=>
   have e1:(k+1)*2=k*2+1+1:=by omega
   have e2:(k+1)*2+1=k*2+1+1+1:=by omega
   rw [e1]
   exact ih k (by simpa using h)
theorem cxL_setI (l:List (Nat×Nat)): ∀k (x:Nat),k<l.length→(cxL l).set (k*2) (.int .i64 x)=cxL (l.set k (x,(cxAt l k).2))∧(cxL l).set (k*2+1) (.int .i64 x)=cxL (l.set k ((cxAt l k).1,x)):=by
 induction l with
 |nil=>intro k x h;simp at h
 |cons p l ih=>
  intro k x h
  cases k with
  |zero=>exact⟨rfl,rfl⟩
  |succ k=>
   have e1:(k+1)*2=k*2+1+1:=by omega
   rw [e1]
   obtain⟨h1,h2⟩:=ih k x (by simpa using h)
   constructor
   · show _::_::(cxL l).set (k*2) _=_::_::cxL (l.set k _)
     rw [h1];rfl
   · show _::_::(cxL l).set (k*2+1) _=_::_::cxL (l.set k _)
     rw [h2];rfl
theorem cx_I {l:List (Nat×Nat)} {k:Nat} (h:k<l.length):(cxCells l)[k*2]?=some (.int .i64 (cxAt l k).1):=by
 rw [cxCells,List.getElem?_toArray];exact(cxL_I l k h).1
theorem cx_setI {l:List (Nat×Nat)} {k:Nat} (h:k<l.length) (x:Nat):(cxCells l).setIfInBounds (k*2) (.int .i64 x)=cxCells (l.set k (x,(cxAt l k).2)):=by
 rw [cxCells,List.setIfInBounds_toArray,(cxL_setI l k x h).1,cxCells]
structure Cxs (l:List (Nat×Nat)):Prop where
 len:l.length=19
 st: ∀k,(cxAt l k).1<47
 sg: ∀k,(cxAt l k).2<2
def lessM (p:Nat×Nat) (lp:Nat) (s:Bool):Nat×Nat:=(lp,if s=true then 1-p.2 else p.2)
def encM (s:ES) (q:Nat) (is:Bool):ES:=
 if is=true then
  if 32768≤s.a-q then⟨s.a-q,s.c+q,s.ct,s.b⟩
  else renM 16 (if s.a-q<q then⟨q,s.c,s.ct,s.b⟩else⟨s.a-q,s.c+q,s.ct,s.b⟩)
 else renM 16 (if s.a-q<q then⟨s.a-q,s.c+q,s.ct,s.b⟩else⟨q,s.c,s.ct,s.b⟩)
def encC (a:Int) (p:Nat×Nat) (t:Nat×Nat×Nat×Bool) (is:Bool):Nat×Nat:=
 if is=true then
  if 32768≤a-t.1 then p else(t.2.1,p.2)
 else lessM p t.2.2.1 t.2.2.2
theorem tab_q (i:Nat) (h:i<47):1≤(tabAt i).1∧(tabAt i).1≤22017:=by
 have: ∀i,i<47→1≤(tabAt i).1∧(tabAt i).1≤22017:=by decide +kernel
 exact this i h
theorem valM_tab (i:Nat) (h:i<47):valM i=tabAt i:=by
 unfold valM
 rw [if_pos (by omega)];rfl
theorem bit_and (x:Int):bits .and .i64 x 1=x%2:=and_low x 1 (by omega)
theorem EInv.step {s:ES} (h:EInv s) {a C:Int} (ha:0<a) (hC:0≤C) (ht:C+a≤s.c+s.a):EInv ⟨a,C,s.ct,s.b⟩:=
 ⟨h.bytes,h.some_,hC,ha,h.ct1,h.ct12,Int.le_trans ht h.top⟩
theorem with_blk {P:Program} {f:FuncId} {args:Array Value} {W w2:World} {Q:Ending→World→Prop} {E:Nat} {t:TypeId} {cs cs':Array Value} (h:Keep (fun j=>j=E) w2 W) (b:Blk W E t cs) (e:cs=cs') (k: ∀w3,Keep (fun j=>j=E) w2 w3→Blk w3 E t cs'→Calls P f args w3 Q):Calls P f args W Q:=k W h (e▸b)
theorem Blk.as {w:World} {g:Nat} {t:TypeId} {cs cs':Array Value} (h:Blk w g t cs) (e:cs=cs'):Blk w g t cs':=e▸h
def newM :ES:=⟨32768,0,12,[0]⟩
theorem newM_inv :EInv newM:=⟨fun z hz=>by simp [newM]at hz;omega,by decide,by decide,by decide,by decide,by decide,by decide⟩
def begL :List (Nat×Nat):=[(4,0),(0,0),(0,0),(0,0),(0,0),(0,0),(0,0),(0,0),(0,0),(0,0),(0,0),(0,0),(0,0),(0,0),(0,0),(0,0),(0,0),(3,0),(46,0)]
def begTo (k:Nat):List (Nat×Nat):=begL.take k++List.replicate (19-k) (0,0)
theorem begTo_len (k:Nat) (h:k≤19):(begTo k).length=19:=by
 unfold begTo
 rw [List.length_append,List.length_take,List.length_replicate]
 show min k 19+_=_
 omega
theorem begTo_next (k:Nat) (h:k<19):(begTo k).set k ((begM k).toNat,(cxAt (begTo k) k).2)=begTo (k+1)∧0≤begM k:=by
 have: ∀k:Nat,k<19→(begTo k).set k ((begM (k:Int)).toNat,(cxAt (begTo k) k).2)=begTo (k+1)∧0≤begM (k:Int):=by decide +kernel
 exact this k h
def zeros19 :List (Nat×Nat):=List.replicate 19 (0,0)
theorem cx_size (l:List (Nat×Nat)) (h:l.length=19):(cxCells l).size=38:=by
 have: ∀l:List (Nat×Nat),(cxL l).length=2*l.length:=by
  intro l
  induction l with
  |nil=>rfl
  |cons p l ih=>simp [cxL,ih];omega
 show(cxL l).length=38
 rw [this,h]
theorem cx_one (l:List (Nat×Nat)):(cxCells l).all (·.oneCell')=true:=by
 unfold cxCells
 rw [List.all_toArray]
 induction l with
 |nil=>rfl
 |cons p l ih=>simpa [cxL,Value.oneCell']using ih
theorem Blk.row {w:World} {g:Nat} {t:TypeId} {cs cs':Array Value} (h:Blk w g t cs):Blk (w.setRow g cs') g t cs':=by
 show(w.heap.modify g _)[g]?=_
 rw [Array.getElem?_modify,if_pos rfl,show w.heap[g]?=some (.cells cs t (0,0))from h]
 rfl
theorem Keep.row {S:Nat→Prop} {a w:World} (h:Keep S a w) {g:Nat} (hg:S g∨a.heap.size≤g) (cs:Array Value):Keep S a (w.setRow g cs):=by
 refine⟨h.os,h.tape,h.output,?_,?_⟩
 · have:=h.size
   show _≤(w.heap.modify g _).size
   rwa [Array.size_modify]
 · intro i hi hS
   show(w.heap.modify g _)[i]?=_
   have:g≠i:=fun e=>by
    subst e;rcases hg with hg|hg
    · exact hS hg
    · omega
   rw [Array.getElem?_modify,if_neg this]
   exact h.block i hi hS
def endC (c a:Int):Int:=if c+a≤c/65536*65536+65535 then c/65536*65536+65535-32768 else c/65536*65536+65535
def flM (s:ES):ES:=outM ⟨s.a,s.c*2^s.ct.toNat,s.ct,s.b⟩
def flushE (s:ES):List Int:=(flM (flM ⟨s.a,endC s.c s.a,s.ct,s.b⟩)).b.tail
def flushM (l:List Int):List Int:=if lastM l=255 then l.dropLast else l
structure FInv (s:ES):Prop where
 bytes:Bytes s.b
 some_:0<s.b.length
 c0:0≤s.c
 ct0:0≤s.ct
 ct12:s.ct≤12
 top:s.c*2^s.ct.toNat<268435456
theorem FInv.fl {s:ES} (h:FInv s):FInv (flM s):=by
 have h0:=h.c0
 have hp:(0:Int)<2^s.ct.toNat:=Int.pow_pos (by decide)
 have hc:0≤s.c*2^s.ct.toNat:=Int.mul_nonneg h0 (by omega)
 have hr:=outM_c ⟨s.a,s.c*2^s.ct.toNat,s.ct,s.b⟩
 refine⟨outM_bytes _ h.bytes hc h.top,by rw [flM,outM_len];omega,outM_c0 _,?_,?_,?_⟩
 · unfold flM;rcases hr with hr|hr<;>omega
 · unfold flM;rcases hr with hr|hr<;>omega
 · unfold flM
   rcases hr with⟨h1,h2⟩|⟨h1,h2⟩
   · rw [h2]
     have:(2:Int)^(8:Int).toNat=256:=by decide
     rw [this];omega
   · rw [h2]
     have:(2:Int)^(7:Int).toNat=128:=by decide
     rw [this];omega
theorem endC_lt (c a:Int) (ha:32768≤a) (hc:0≤c):0≤endC c a∧endC c a<c+a:=by
 unfold endC
 split<;>omega
theorem EInv.fl {s:ES} (h:EInv s) (ha:32768≤s.a):FInv ⟨s.a,endC s.c s.a,s.ct,s.b⟩:=by
 have h1:=h.ct1
 have h12:=h.ct12
 have hc:=endC_lt s.c s.a ha h.c0
 refine⟨h.bytes,h.some_,hc.1,by show 0≤s.ct;omega,h12,?_⟩
 show endC s.c s.a*2^s.ct.toNat<268435456
 have ht:=h.top
 obtain⟨k,hk⟩: ∃k:Nat,s.ct=k:=⟨s.ct.toNat,by omega⟩
 rw [hk]at ht ⊢
 have e1:(24-(k:Int)).toNat=24-k:=by omega
 have e2:((k:Int)).toNat=k:=by omega
 rw [e1]at ht
 rw [e2]
 have e3:(2:Int)^(24-k)*2^k=16777216:=by
  rw [← Int.pow_add,Nat.sub_add_cancel (by omega)];decide
 have hp:(0:Int)<2^k:=Int.pow_pos (by decide)
 have h5:endC s.c s.a*2^k≤9*2^(24-k)*2^k:=Int.mul_le_mul_of_nonneg_right (by omega) (by omega)
 rw [Int.mul_assoc,e3]at h5
 omega
def flN :Nat→ES→ES
 |0,s=>s
 |k+1,s=>flN k (flM s)
theorem renM_ok : ∀(k:Nat) (t:ES),EInv t→t.a<32768→32768≤t.a*2^k→EInv (renM k t)∧32768≤(renM k t).a∧(renM k t).a<65536∧(renM k t).b.length≤t.b.length+k
 |0,t,h,h1,h2=>by
  have:(2:Int)^0=1:=rfl
  rw [this]at h2;omega
 |k+1,t,h,h1,h2=>by
  have hd:=h.dbl h1
  have hl:=dblM_len t
  have ha:=dblM_a t
  have h0:=h.a0
  show EInv (if 32768≤(dblM t).a then dblM t else renM k (dblM t))∧_
  by_cases hc:32768≤(dblM t).a
  · have e:renM (k+1) t=dblM t:=if_pos hc
    rw [if_pos hc,e]
    exact⟨hd,hc,by omega,by omega⟩
  · have e:renM (k+1) t=renM k (dblM t):=if_neg hc
    rw [if_neg hc,e]
    obtain⟨h3,h4,h5,h6⟩:=renM_ok k (dblM t) hd (by omega) (by
     rw [ha]
     have e2:(2:Int)^(k+1)=2*2^k:=by rw [Int.pow_succ,Int.mul_comm]
     rw [e2,←Int.mul_assoc]at h2
     exact h2)
    exact⟨h3,h4,h5,by omega⟩
theorem far16 {a:Int} (h:0<a):32768≤a*2^16:=by
 have:(2:Int)^16=65536:=by decide
 rw [this];omega
theorem encM_ok {s:ES} (h:EInv s) (hlo:32768≤s.a) (hhi:s.a<65536) {q:Nat} (q1:1≤q) (q2:q≤22017) (is:Bool):
 EInv (encM s q is)∧32768≤(encM s q is).a∧(encM s q is).a<65536∧(encM s q is).b.length≤s.b.length+16:=by
 have h0:=h.c0
 have hA: ∀t:ES,EInv t→t.a<32768→t.b=s.b→EInv (renM 16 t)∧32768≤(renM 16 t).a∧(renM 16 t).a<65536∧(renM 16 t).b.length≤s.b.length+16:=fun t ht h1 e=>by
  rw [← e];exact renM_ok 16 t ht h1 (far16 ht.a0)
 have i1:EInv ⟨q,s.c,s.ct,s.b⟩:=h.step (by omega) (by omega) (by omega)
 have i2:EInv ⟨s.a-q,s.c+q,s.ct,s.b⟩:=h.step (by omega) (by omega) (by omega)
 unfold encM
 split
 · split
   · rename_i hc
     exact⟨i2,hc,by show s.a-q<_;omega,by show s.b.length≤_;omega⟩
   · split
     · exact hA _ i1 (by show(q:Int)<_;omega) rfl
     · rename_i hc _
       exact hA _ i2 (by show s.a-q<_;omega) rfl
 · split
   · rename_i hc
     exact hA _ i2 (by show s.a-q<_;omega) rfl
   · exact hA _ i1 (by show(q:Int)<_;omega) rfl
theorem info_u8 :(Tryz.prog.info? 5).map (fun i=>(i.zero,i.size,i.bytes))=some (some (.int .u8 0),1,1):=by kernel_rfl
end Go.Proofs.YthfogcgdijmaoaaGreat
