/-
  Part 5 of the proof: SMq SRef. Conditions: those of the statements.
-/
import Derived.Test.YthfogcgdijmaoaaGreatW2
import Derived.Test.YthfogcgdijmaoaaGreatW4
import Derived.Deep.DeepCutAuto
import Derived.WalkLawsBesides
import Derived.DeepKeys
set_option maxRecDepth 100000
set_option maxHeartbeats 16000000
set_option linter.unusedVariables false
set_option linter.unusedSimpArgs false
namespace Go.Proofs.YthfogcgdijmaoaaGreat
open Go.RowKit
theorem ofInt_nat (a:Nat) (h:a<18446744073709551616):(BitVec.ofInt 64 (a:Int)).toNat=a:=by
 rw [BitVec.ofInt_natCast,BitVec.toNat_ofNat];exact Nat.mod_eq_of_lt (by omega)
theorem i64_and_nat (a b:Nat) (ha:a<9223372036854775808) (hb:b<9223372036854775808):bits .and .i64 (a:Int) (b:Int)=((a&&&b:Nat):Int):=by
 have hx:a&&&b≤a:=Nat.and_le_left
 show IntKind.i64.wrap ((BitVec.ofInt 64 (a:Int)&&&BitVec.ofInt 64 (b:Int)).toNat:Int)=_
 rw [BitVec.toNat_and,ofInt_nat a (by omega),ofInt_nat b (by omega),IntWalk.i64_in _ (by omega)]
theorem nat_and_pow (c k:Nat) (h:c<2^(k+1)):c&&&2^k=if 2^k≤c then 2^k else 0:=by
 rw [Nat.pow_succ]at h
 by_cases hc:2^k≤c
 · rw [if_pos hc]
   obtain⟨r,rfl⟩: ∃r,c=2^k+r:=⟨c-2^k,by omega⟩
   have e:2^k+r=2^k|||r:=by
    have:=Nat.two_pow_add_eq_or_of_lt (show r<2^k by omega) 1
    rw [Nat.mul_one]at this
    exact this
   rw [e]
   apply Nat.eq_of_testBit_eq
   intro j
   rw [Nat.testBit_and,Nat.testBit_or,Nat.testBit_two_pow]
   by_cases hj:k=j<;>simp [hj]
 · rw [if_neg hc]
   apply Nat.eq_of_testBit_eq
   intro j
   rw [Nat.testBit_and,Nat.testBit_two_pow,Nat.zero_testBit]
   by_cases hj:k=j
   · subst hj
     have:c.testBit k=false:=Nat.testBit_lt_two_pow (by omega)
     simp [this]
   · simp [hj]
theorem and_carry (c:Int) (h0:0≤c) (h1:c<268435456):bits .and .i64 c 134217728=if 134217728≤c then 134217728 else 0:=by
 obtain⟨C,rfl⟩:=Int.eq_ofNat_of_zero_le h0
 have:=nat_and_pow C 27 (by omega)
 rw [show(134217728:Int)=((2^27:Nat):Int)from rfl,i64_and_nat C (2^27) (by omega) (by omega),this]
 by_cases hc:2^27≤C
 · rw [if_pos hc,if_pos (by omega)]
 · rw [if_neg hc,if_neg (by omega)];rfl
theorem nat_andNot (r:Nat) (h:r<2^27):(2^27+r)&&&(2^64-(2^27+1))=r:=by
 have e:2^27+r=2^27|||r:=by
  have:=Nat.two_pow_add_eq_or_of_lt h 1
  rw [Nat.mul_one]at this
  exact this
 rw [e]
 apply Nat.eq_of_testBit_eq
 intro j
 rw [Nat.testBit_and,Nat.testBit_or,Nat.testBit_two_pow_sub_succ (by decide),Nat.testBit_two_pow]
 by_cases hj:27=j
 · subst hj
   have:r.testBit 27=false:=Nat.testBit_lt_two_pow h
   simp [this]
 · by_cases h64:j<64
   · simp [hj,h64]
   · have:r.testBit j=false:=Nat.testBit_lt_two_pow (Nat.lt_of_lt_of_le h (Nat.pow_le_pow_right (by omega) (by omega)))
     simp [this,hj]
theorem andNot_carry (c:Int) (h0:134217728≤c) (h1:c<268435456):bits .andNot .i64 c 134217728=c-134217728:=by
 obtain⟨C,rfl⟩:=Int.eq_ofNat_of_zero_le (show 0≤c by omega)
 obtain⟨r,rfl⟩: ∃r,C=2^27+r:=⟨C-2^27,by omega⟩
 have hr:r<2^27:=by omega
 have e:((BitVec.ofInt 64 ((2^27+r:Nat):Int))&&& ~~~ (BitVec.ofInt 64 134217728)).toNat=r:=by
  rw [BitVec.toNat_and,BitVec.toNat_not,ofInt_nat _ (by omega),show(134217728:Int)=((2^27:Nat):Int)from rfl,ofInt_nat _ (by omega)]
  have:=nat_andNot r hr
  rw [show 2^64-1-2^27=2^64-(2^27+1)from by decide]
  exact this
 show IntKind.i64.wrap (((BitVec.ofInt 64 ((2^27+r:Nat):Int))&&& ~~~ (BitVec.ofInt 64 134217728)).toNat:Int)=_
 rw [e,IntWalk.i64_in _ (by omega)]
 omega
theorem and_low (x:Int) (k:Nat) (hk:k≤62):bits .and .i64 x (2^k-1)=x%2^k:=by
 have hp:(2:Nat)^k≤2^62:=Nat.pow_le_pow_right (by omega) hk
 have hp1:1≤(2:Nat)^k:=Nat.one_le_two_pow
 have e:(2:Int)^k-1=((2^k-1:Nat):Int):=by
  have:((2^k:Nat):Int)=(2:Int)^k:=by simp
  omega
 have e2:(2:Int)^k=((2^k:Nat):Int):=by simp
 have h1:((BitVec.ofInt 64 x&&&BitVec.ofInt 64 ((2^k-1:Nat):Int)).toNat:Int)=x%2^k:=by
  rw [BitVec.toNat_and,BitVec.ofInt_natCast,BitVec.toNat_ofNat,Nat.mod_eq_of_lt (show 2^k-1<2^64 by omega),Nat.and_two_pow_sub_one_eq_mod,BitVec.toNat_ofInt,e2]
  have hd:((2^k:Nat):Int)∣((2^64:Nat):Int):=Int.natCast_dvd_natCast.2 (Nat.pow_dvd_pow 2 (by omega))
  have h0:0≤x%((2^64:Nat):Int):=Int.emod_nonneg _ (by decide)
  rw [Int.natCast_emod,Int.toNat_of_nonneg h0,Int.emod_emod_of_dvd _ hd]
 show IntKind.i64.wrap ((BitVec.ofInt 64 x&&&BitVec.ofInt 64 ((2:Int)^k-1)).toNat:Int)=_
 rw [e,h1]
 have h2:0≤x%2^k:=Int.emod_nonneg _ (by omega)
 have h3:x%2^k<2^k:=Int.emod_lt_of_pos _ (by omega)
 rw [IntWalk.i64_in _ (by omega)]
theorem low19 (x:Int):bits .and .i64 x 524287=x%524288:=and_low x 19 (by omega)
theorem low20 (x:Int):bits .and .i64 x 1048575=x%1048576:=and_low x 20 (by omega)
theorem or_ffff (c:Int) (h0:0≤c) (h1:c<9223372036854710272):bits .or .i64 c 65535=c/65536*65536+65535:=by
 obtain⟨C,rfl⟩:=Int.eq_ofNat_of_zero_le h0
 have e:C|||65535=C/65536*65536+65535:=by
  have h1:C=2^16*(C/2^16)+C%2^16:=(Nat.div_add_mod C (2^16)).symm
  have h2:2^16*(C/2^16)+C%2^16=2^16*(C/2^16)|||C%2^16:=Nat.two_pow_add_eq_or_of_lt (Nat.mod_lt _ (by decide)) _
  have h3:2^16*(C/2^16)+65535=2^16*(C/2^16)|||65535:=Nat.two_pow_add_eq_or_of_lt (by decide) _
  have h4:C%2^16|||65535=65535:=by
   apply Nat.eq_of_testBit_eq
   intro j
   have e5:(65535:Nat)=2^16-1:=rfl
   rw [Nat.testBit_or,e5,Nat.testBit_two_pow_sub_one]
   by_cases hj:j<16
   · simp [hj]
   · have:(C%2^16).testBit j=false:=Nat.testBit_lt_two_pow (Nat.lt_of_lt_of_le (Nat.mod_lt _ (by decide)) (Nat.pow_le_pow_right (by omega) (by omega)))
     simp [hj,this]
  calc C|||65535=(2^16*(C/2^16)|||C%2^16)|||65535:=by rw [← h2,←h1]
   _=2^16*(C/2^16)|||(C%2^16|||65535):=Nat.or_assoc _ _ _
   _=2^16*(C/2^16)+65535:=by rw [h4,h3]
   _=C/65536*65536+65535:=by rw [Nat.mul_comm]
 rw [show(65535:Int)=((65535:Nat):Int)from rfl,i64_or_nat C 65535 (by omega) (by omega),e]
 omega
def foot (W:Nat) (A:Option Addr) (k:Nat):Prop:=k=W∨ ∃ad,A=some ad∧ad.block=k
def Grew (w:World) (A A':Option Addr):Prop:= ∀ad',A'=some ad'→(∃ ad,A=some ad∧ad.block=ad'.block)∨w.heap.size≤ad'.block
theorem own_foot {A:Option Addr} {n c:Nat} {k:Nat} (h:(Value.slice A n c).ownBlock=some k): ∃ad,A=some ad∧ad.block=k:=by
 cases A with
 |none=>simp [Value.ownBlock]at h
 |some a=>exact⟨a,rfl,by simpa [Value.ownBlock]using h⟩
theorem Grew.of {w:World} {A A':Option Addr} {n n' c c' m:Nat} (h:(Value.slice A' n' c').ownBlock=(Value.slice A n c).ownBlock∨(Value.slice A' n' c').ownBlock=some m) (hm:w.heap.size≤m):Grew w A A':=by
 intro ad' e
 subst e
 rcases h with h|h
 · have:(Value.slice A n c).ownBlock=some ad'.block:=by rw [← h];rfl
   exact .inl (own_foot this)
 · simp [Value.ownBlock]at h
   exact .inr (by omega)
theorem Grew.refl (w:World) (A:Option Addr):Grew w A A:=fun ad e=>.inl ⟨ad,e,rfl⟩
theorem grew_next {w0 w1 w2:World} {W:Nat} {A0 A1 A2:Option Addr} (g1:Grew w0 A0 A1) (k1:Keep (foot W A0) w0 w1) (g2:Grew w1 A1 A2) (k2:Keep (foot W A1) w1 w2):Grew w0 A0 A2∧Keep (foot W A0) w0 w2:=by
 refine⟨fun ad e=>?_,k1.trans k2 (fun i hi h=>?_)⟩
 · rcases g2 ad e with⟨a1,e1,h⟩|h
   · rcases g1 a1 e1 with⟨a0,e0,h'⟩|h'
     · exact .inl ⟨a0,e0,h'.trans h⟩
     · exact .inr (by omega)
   · exact .inr (Nat.le_trans k1.size h)
 · rcases h with h|⟨a1,e1,h⟩
   · exact .inl h
   · rcases g1 a1 e1 with⟨a0,e0,h'⟩|h'
     · exact .inr ⟨a0,e0,by omega⟩
     · omega
theorem Grew.lift {w w':World} {A A':Option Addr} (h:Grew w' A A') (hs:w.heap.size≤w'.heap.size):Grew w A A':=fun ad e=>(h ad e).imp id (fun h=>by omega)
theorem own_foot_lt {w:World} {base n c:Nat} {e:TypeId} {A:Option Addr} {xs:List Value} (h:w.ownsRow base e 1 (.slice A n c) n xs): ∀ad,A=some ad→base≤ad.block∧ad.block<w.heap.size:=fun ad e=>by
 subst e
 exact h.lt ad.block rfl
structure ES where
 a:Int
 c:Int
 ct:Int
 b:List Int
def outM (s:ES):ES:=
 if lastM s.b=255 then⟨s.a,s.c%1048576,7,s.b++[s.c/1048576]⟩
 else if 134217728≤s.c then
  (if lastM s.b+1=255 then⟨s.a,(s.c-134217728)%1048576,7,s.b.set (s.b.length-1) (lastM s.b+1)++[(s.c-134217728)/1048576]⟩
   else⟨s.a,(s.c-134217728)%524288,8,s.b.set (s.b.length-1) (lastM s.b+1)++[(s.c-134217728)/524288]⟩)
 else⟨s.a,s.c%524288,8,s.b++[s.c/524288]⟩
theorem outM_a (s:ES):(outM s).a=s.a:=by
 unfold outM;split; · rfl
 · split
   · split<;>rfl
   · rfl
theorem outM_len (s:ES):(outM s).b.length=s.b.length+1:=by
 unfold outM
 split
 · simp
 · split
   · split<;>simp
   · simp
theorem outM_bytes (s:ES) (h:Bytes s.b) (h0:0≤s.c) (h1:s.c<268435456):Bytes (outM s).b:=by
 have hl:=lastM_byte h
 have hset:lastM s.b≠255→Bytes (s.b.set (s.b.length-1) (lastM s.b+1)):=fun hne z hz=>by
  rcases List.mem_or_eq_of_mem_set hz with hz|hz
  · exact h z hz
  · omega
 have happ: ∀(l:List Int) (y:Int),Bytes l→0≤y→y≤255→Bytes (l++[y]):=fun l y hl h0 h1 z hz=>by
  rcases List.mem_append.1 hz with hz|hz
  · exact hl z hz
  · simp at hz;omega
 unfold outM
 split
 · exact happ _ _ h (by omega) (by omega)
 · rename_i hne
   split
   · split
     · exact happ _ _ (hset hne) (by omega) (by omega)
     · exact happ _ _ (hset hne) (by omega) (by omega)
   · exact happ _ _ h (by omega) (by omega)
structure EInv (s:ES):Prop where
 bytes:Bytes s.b
 some_:0<s.b.length
 c0:0≤s.c
 a0:0<s.a
 ct1:1≤s.ct
 ct12:s.ct≤12
 top:s.c+s.a≤9*2^(24-s.ct).toNat
def dblM (s:ES):ES:=if s.ct-1=0 then outM ⟨s.a*2,s.c*2,s.ct-1,s.b⟩else⟨s.a*2,s.c*2,s.ct-1,s.b⟩
def renM :Nat→ES→ES
 |0,s=>s
 |k+1,s=>if 32768≤(dblM s).a then dblM s else renM k (dblM s)
theorem dblM_a (s:ES):(dblM s).a=s.a*2:=by
 unfold dblM;split; · rw [outM_a]
 · rfl
theorem dblM_len (s:ES):(dblM s).b.length≤s.b.length+1:=by
 unfold dblM;split; · rw [outM_len];exact Nat.le_refl _
 · exact Nat.le_succ _
theorem outM_c (s:ES):(outM s).c<524288∧(outM s).ct=8∨(outM s).c<1048576∧(outM s).ct=7:=by
 unfold outM
 split
 · right;exact⟨by show s.c%1048576<_;omega,rfl⟩
 · split
   · split
     · right;exact⟨by show(s.c-134217728)%1048576<_;omega,rfl⟩
     · left;exact⟨by show(s.c-134217728)%524288<_;omega,rfl⟩
   · left;exact⟨by show s.c%524288<_;omega,rfl⟩
theorem outM_c0 (s:ES):0≤(outM s).c:=by
 unfold outM
 split
 · show 0≤s.c%1048576;omega
 · split
   · split
     · show 0≤(s.c-134217728)%1048576;omega
     · show 0≤(s.c-134217728)%524288;omega
   · show 0≤s.c%524288;omega
theorem EInv.dbl {s:ES} (h:EInv s) (ha:s.a<32768):EInv (dblM s):=by
 have h1:=h.ct1
 have h12:=h.ct12
 have h0:=h.c0
 have ha0:=h.a0
 have ht:=h.top
 obtain⟨k,hk⟩: ∃k:Nat,(24-s.ct).toNat=k:=⟨_,rfl⟩
 rw [hk]at ht
 have e2:(24-(s.ct-1)).toNat=k+1:=by omega
 have e3:(9:Int)*2^(k+1)=9*2^k*2:=by rw [Int.pow_succ,Int.mul_assoc]
 unfold dblM
 by_cases hc:s.ct-1=0
 · rw [if_pos hc]
   have hk23:k=23:=by omega
   subst hk23
   have hc28:s.c*2<268435456:=by
    have:(9:Int)*2^23=75497472:=by decide
    omega
   refine⟨outM_bytes ⟨s.a*2,s.c*2,s.ct-1,s.b⟩ h.bytes (by show 0≤s.c*2;omega) hc28,by rw [outM_len];omega,outM_c0 _,by rw [outM_a];show 0<s.a*2;omega,?_,?_,?_⟩
   · rcases outM_c ⟨s.a*2,s.c*2,s.ct-1,s.b⟩with h|h<;>omega
   · rcases outM_c ⟨s.a*2,s.c*2,s.ct-1,s.b⟩with h|h<;>omega
   · rw [outM_a]
     show _+s.a*2≤_
     rcases outM_c ⟨s.a*2,s.c*2,s.ct-1,s.b⟩with⟨h1,h2⟩|⟨h1,h2⟩
     · rw [h2]
       have:(9:Int)*2^(24-8:Int).toNat=589824:=by decide
       omega
     · rw [h2]
       have:(9:Int)*2^(24-7:Int).toNat=1179648:=by decide
       omega
 · rw [if_neg hc]
   refine⟨h.bytes,h.some_,by show 0≤s.c*2;omega,by show 0<s.a*2;omega,by show 1≤s.ct-1;omega,by show s.ct-1≤12;omega,?_⟩
   show s.c*2+s.a*2≤9*2^(24-(s.ct-1)).toNat
   rw [e2,e3]
   omega
theorem EInv.c28 {s:ES} (h:EInv s) (hc:s.ct-1=0):s.c*2<268435456:=by
 have ht:=h.top
 have h0:=h.a0
 have e:(24-s.ct).toNat=23:=by omega
 rw [e]at ht
 have:(9:Int)*2^23=75497472:=by decide
 omega
def farA (E:Nat) (w:World):Nat:=match w.cell? ⟨E,1,none⟩with
 |some (.int _ a)=>(32768-a).toNat
 |_=>0
def cxL :List (Nat×Nat)→List Value
 |[]=>[]
 |p::l=>.int .i64 p.1::.int .i64 p.2::cxL l
def cxCells (l:List (Nat×Nat)):Array Value:=(cxL l).toArray
def cxAt (l:List (Nat×Nat)) (k:Nat):Nat×Nat:=l.getD k (0,0)
theorem cxL_I (l:List (Nat×Nat)): ∀k,k<l.length→(cxL l)[k*2]? =some (.int .i64 (cxAt l k).1)∧(cxL l)[k*2+1]? =some (.int .i64 (cxAt l k).2):=by
 induction l with
 |nil=>intro k h;simp at h
 |cons p l ih=>
  intro k h
  cases k with
  |zero=>exact⟨rfl,rfl⟩
  |succ k=>
   have e1:(k+1)*2=k*2+1+1:=by omega
   have e2:(k+1)*2+1=k*2+1+1+1:=by omega
   rw [e1]
   exact ih k (by simpa using h)
theorem cxL_setI (l:List (Nat×Nat)): ∀k (x:Nat),k<l.length→(cxL l).set (k*2) (.int .i64 x)=cxL (l.set k (x,(cxAt l k).2))∧(cxL l).set (k*2+1) (.int .i64 x)=cxL (l.set k ((cxAt l k).1,x)):=by
 induction l with
 |nil=>intro k x h;simp at h
 |cons p l ih=>
  intro k x h
  cases k with
  |zero=>exact⟨rfl,rfl⟩
  |succ k=>
   have e1:(k+1)*2=k*2+1+1:=by omega
   rw [e1]
   obtain⟨h1,h2⟩:=ih k x (by simpa using h)
   constructor
   · show _::_::(cxL l).set (k*2) _=_::_::cxL (l.set k _)
     rw [h1];rfl
   · show _::_::(cxL l).set (k*2+1) _=_::_::cxL (l.set k _)
     rw [h2];rfl
theorem cx_I {l:List (Nat×Nat)} {k:Nat} (h:k<l.length):(cxCells l)[k*2]? =some (.int .i64 (cxAt l k).1):=by
 rw [cxCells,List.getElem?_toArray];exact(cxL_I l k h).1
theorem cx_setI {l:List (Nat×Nat)} {k:Nat} (h:k<l.length) (x:Nat):(cxCells l).setIfInBounds (k*2) (.int .i64 x)=cxCells (l.set k (x,(cxAt l k).2)):=by
 rw [cxCells,List.setIfInBounds_toArray,(cxL_setI l k x h).1,cxCells]
structure Cxs (l:List (Nat×Nat)):Prop where
 len:l.length=19
 st: ∀k,(cxAt l k).1<47
 sg: ∀k,(cxAt l k).2<2
def lessM (p:Nat×Nat) (lp:Nat) (s:Bool):Nat×Nat:=(lp,if s=true then 1-p.2 else p.2)
def encM (s:ES) (q:Nat) (is:Bool):ES:=
 if is=true then
  if 32768≤s.a-q then⟨s.a-q,s.c+q,s.ct,s.b⟩
  else renM 16 (if s.a-q<q then⟨q,s.c,s.ct,s.b⟩else⟨s.a-q,s.c+q,s.ct,s.b⟩)
 else renM 16 (if s.a-q<q then⟨s.a-q,s.c+q,s.ct,s.b⟩else⟨q,s.c,s.ct,s.b⟩)
def encC (a:Int) (p:Nat×Nat) (t:Nat×Nat×Nat×Bool) (is:Bool):Nat×Nat:=
 if is=true then
  if 32768≤a-t.1 then p else(t.2.1,p.2)
 else lessM p t.2.2.1 t.2.2.2
theorem tab_q (i:Nat) (h:i<47):1≤(tabAt i).1∧(tabAt i).1≤22017:=by
 have: ∀i,i<47→1≤(tabAt i).1∧(tabAt i).1≤22017:=by decide +kernel
 exact this i h
theorem valM_tab (i:Nat) (h:i<47):valM i=tabAt i:=by
 unfold valM
 rw [if_pos (by omega)];rfl
theorem bit_and (x:Int):bits .and .i64 x 1=x%2:=and_low x 1 (by omega)
theorem EInv.step {s:ES} (h:EInv s) {a C:Int} (ha:0<a) (hC:0≤C) (ht:C+a≤s.c+s.a):EInv ⟨a,C,s.ct,s.b⟩:=
 ⟨h.bytes,h.some_,hC,ha,h.ct1,h.ct12,Int.le_trans ht h.top⟩
theorem with_blk {P:Program} {f:FuncId} {args:Array Value} {W w2:World} {Q:Ending→World→Prop} {E:Nat} {t:TypeId} {cs cs':Array Value} (h:Keep (fun j=>j=E) w2 W) (b:Blk W E t cs) (e:cs=cs') (k: ∀w3,Keep (fun j=>j=E) w2 w3→Blk w3 E t cs'→Calls P f args w3 Q):Calls P f args W Q:=k W h (e▸b)
theorem Blk.as {w:World} {g:Nat} {t:TypeId} {cs cs':Array Value} (h:Blk w g t cs) (e:cs=cs'):Blk w g t cs':=e▸h
def newM :ES:=⟨32768,0,12,[0]⟩
theorem newM_inv :EInv newM:=⟨fun z hz=>by simp [newM]at hz;omega,by decide,by decide,by decide,by decide,by decide,by decide⟩
def begL :List (Nat×Nat):=[(4,0),(0,0),(0,0),(0,0),(0,0),(0,0),(0,0),(0,0),(0,0),(0,0),(0,0),(0,0),(0,0),(0,0),(0,0),(0,0),(0,0),(3,0),(46,0)]
def begTo (k:Nat):List (Nat×Nat):=begL.take k++List.replicate (19-k) (0,0)
theorem begTo_len (k:Nat) (h:k≤19):(begTo k).length=19:=by
 unfold begTo
 rw [List.length_append,List.length_take,List.length_replicate]
 show min k 19+_=_
 omega
theorem begTo_next (k:Nat) (h:k<19):(begTo k).set k ((begM k).toNat,(cxAt (begTo k) k).2)=begTo (k+1)∧0≤begM k:=by
 have: ∀k:Nat,k<19→(begTo k).set k ((begM (k:Int)).toNat,(cxAt (begTo k) k).2)=begTo (k+1)∧0≤begM (k:Int):=by decide +kernel
 exact this k h
def zeros19 :List (Nat×Nat):=List.replicate 19 (0,0)
theorem cx_size (l:List (Nat×Nat)) (h:l.length=19):(cxCells l).size=38:=by
 have: ∀l:List (Nat×Nat),(cxL l).length=2*l.length:=by
  intro l
  induction l with
  |nil=>rfl
  |cons p l ih=>simp [cxL,ih];omega
 show(cxL l).length=38
 rw [this,h]
theorem cx_one (l:List (Nat×Nat)):(cxCells l).all (·.oneCell')=true:=by
 unfold cxCells
 rw [List.all_toArray]
 induction l with
 |nil=>rfl
 |cons p l ih=>simpa [cxL,Value.oneCell']using ih
def endC (c a:Int):Int:=if c+a≤c/65536*65536+65535 then c/65536*65536+65535-32768 else c/65536*65536+65535
def flM (s:ES):ES:=outM ⟨s.a,s.c*2^s.ct.toNat,s.ct,s.b⟩
def flushE (s:ES):List Int:=(flM (flM ⟨s.a,endC s.c s.a,s.ct,s.b⟩)).b.tail
def flushM (l:List Int):List Int:=if lastM l=255 then l.dropLast else l
structure FInv (s:ES):Prop where
 bytes:Bytes s.b
 some_:0<s.b.length
 c0:0≤s.c
 ct0:0≤s.ct
 ct12:s.ct≤12
 top:s.c*2^s.ct.toNat<268435456
theorem FInv.fl {s:ES} (h:FInv s):FInv (flM s):=by
 have h0:=h.c0
 have hp:(0:Int)<2^s.ct.toNat:=Int.pow_pos (by decide)
 have hc:0≤s.c*2^s.ct.toNat:=Int.mul_nonneg h0 (by omega)
 have hr:=outM_c ⟨s.a,s.c*2^s.ct.toNat,s.ct,s.b⟩
 refine⟨outM_bytes _ h.bytes hc h.top,by rw [flM,outM_len];omega,outM_c0 _,?_,?_,?_⟩
 · unfold flM;rcases hr with hr|hr<;>omega
 · unfold flM;rcases hr with hr|hr<;>omega
 · unfold flM
   rcases hr with⟨h1,h2⟩|⟨h1,h2⟩
   · rw [h2]
     have:(2:Int)^(8:Int).toNat=256:=by decide
     rw [this];omega
   · rw [h2]
     have:(2:Int)^(7:Int).toNat=128:=by decide
     rw [this];omega
theorem endC_lt (c a:Int) (ha:32768≤a) (hc:0≤c):0≤endC c a∧endC c a<c+a:=by
 unfold endC
 split<;>omega
theorem EInv.fl {s:ES} (h:EInv s) (ha:32768≤s.a):FInv ⟨s.a,endC s.c s.a,s.ct,s.b⟩:=by
 have h1:=h.ct1
 have h12:=h.ct12
 have hc:=endC_lt s.c s.a ha h.c0
 refine⟨h.bytes,h.some_,hc.1,by show 0≤s.ct;omega,h12,?_⟩
 show endC s.c s.a*2^s.ct.toNat<268435456
 have ht:=h.top
 obtain⟨k,hk⟩: ∃k:Nat,s.ct=k:=⟨s.ct.toNat,by omega⟩
 rw [hk]at ht ⊢
 have e1:(24-(k:Int)).toNat=24-k:=by omega
 have e2:((k:Int)).toNat=k:=by omega
 rw [e1]at ht
 rw [e2]
 have e3:(2:Int)^(24-k)*2^k=16777216:=by
  rw [← Int.pow_add,Nat.sub_add_cancel (by omega)];decide
 have hp:(0:Int)<2^k:=Int.pow_pos (by decide)
 have h5:endC s.c s.a*2^k≤9*2^(24-k)*2^k:=Int.mul_le_mul_of_nonneg_right (by omega) (by omega)
 rw [Int.mul_assoc,e3]at h5
 omega
def flN :Nat→ES→ES
 |0,s=>s
 |k+1,s=>flN k (flM s)
theorem renM_ok : ∀(k:Nat) (t:ES),EInv t→t.a<32768→32768≤t.a*2^k→EInv (renM k t)∧32768≤(renM k t).a∧(renM k t).a<65536∧(renM k t).b.length≤t.b.length+k
 |0,t,h,h1,h2=>by
  have:(2:Int)^0=1:=rfl
  rw [this]at h2;omega
 |k+1,t,h,h1,h2=>by
  have hd:=h.dbl h1
  have hl:=dblM_len t
  have ha:=dblM_a t
  have h0:=h.a0
  show EInv (if 32768≤(dblM t).a then dblM t else renM k (dblM t))∧_
  by_cases hc:32768≤(dblM t).a
  · have e:renM (k+1) t=dblM t:=if_pos hc
    rw [if_pos hc,e]
    exact⟨hd,hc,by omega,by omega⟩
  · have e:renM (k+1) t=renM k (dblM t):=if_neg hc
    rw [if_neg hc,e]
    obtain⟨h3,h4,h5,h6⟩:=renM_ok k (dblM t) hd (by omega) (by
     rw [ha]
     have e2:(2:Int)^(k+1)=2*2^k:=by rw [Int.pow_succ,Int.mul_comm]
     rw [e2,←Int.mul_assoc]at h2
     exact h2)
    exact⟨h3,h4,h5,by omega⟩
theorem far16 {a:Int} (h:0<a):32768≤a*2^16:=by
 have:(2:Int)^16=65536:=by decide
 rw [this];omega
theorem encM_ok {s:ES} (h:EInv s) (hlo:32768≤s.a) (hhi:s.a<65536) {q:Nat} (q1:1≤q) (q2:q≤22017) (is:Bool):
 EInv (encM s q is)∧32768≤(encM s q is).a∧(encM s q is).a<65536∧(encM s q is).b.length≤s.b.length+16:=by
 have h0:=h.c0
 have hA: ∀t:ES,EInv t→t.a<32768→t.b=s.b→EInv (renM 16 t)∧32768≤(renM 16 t).a∧(renM 16 t).a<65536∧(renM 16 t).b.length≤s.b.length+16:=fun t ht h1 e=>by
  rw [← e];exact renM_ok 16 t ht h1 (far16 ht.a0)
 have i1:EInv ⟨q,s.c,s.ct,s.b⟩:=h.step (by omega) (by omega) (by omega)
 have i2:EInv ⟨s.a-q,s.c+q,s.ct,s.b⟩:=h.step (by omega) (by omega) (by omega)
 unfold encM
 split
 · split
   · rename_i hc
     exact⟨i2,hc,by show s.a-q<_;omega,by show s.b.length≤_;omega⟩
   · split
     · exact hA _ i1 (by show(q:Int)<_;omega) rfl
     · rename_i hc _
       exact hA _ i2 (by show s.a-q<_;omega) rfl
 · split
   · rename_i hc
     exact hA _ i2 (by show s.a-q<_;omega) rfl
   · exact hA _ i1 (by show(q:Int)<_;omega) rfl
theorem info_u8 :(Tryz.prog.info? 5).map (fun i=>(i.zero,i.size,i.bytes))=some (some (.int .u8 0),1,1):=by kernel_rfl
end Go.Proofs.YthfogcgdijmaoaaGreat
namespace Go.Proofs.YthfogcgdijmaoaaGreat.Mq
open Go.RowKit
theorem wpList_store_blk {P:Program} {ops:Array Oper} {rest:List Oper} {o:Oper} {a:Act} {W:World} {Q:Exit→Act→World→Prop} {zs:Array Value} {t:TypeId} {g:Nat} (hb:Blk W g t zs) (hgd:o.guard=none) (ty:TypeId) (x y:Operand) (ho:o.op=.store ty x y)
 (hd:o.dst=none) (cells:Array Value) (hx:a.eval x=.pointer (some ⟨g,0,none⟩)) (hy:a.eval y=.agg cells)
 (hi:(P.info? ty).map (·.size)=some cells.size) (hold:zs.size=cells.size) (h1:cells.all (·.oneCell')=true)
 (K: ∀w2,Blk w2 g t cells→Keep (fun j=>j=g) W w2→wpList P ops Q rest a w2):wpList P ops Q (o::rest) a W:=by
 refine wpList_store_row hgd ty x y ho g cells hx hy t zs hb hi hold h1 ?_
 rw [hd]
 exact K _ hb.row ((Keep.refl (fun j=>j=g) W).row (.inl rfl) _)
structure Er (w:World) (base E:Nat) (A:Option Addr) (n c:Nat) (s:ES):Prop where
 blk:Blk w E 189 #[.int .i64 s.a,.int .i64 s.c,.int .i64 s.ct,.slice A n c]
 own:w.ownsRow base 5 1 (.slice A n c) n (s.b.map (Value.int .u8))
theorem Er.len {w:World} {base E:Nat} {A:Option Addr} {n c:Nat} {s:ES} (h:Er w base E A n c s):s.b.length=n:=by have:=h.own.1;simpa using this
theorem Er.keep {w w':World} {base E:Nat} {A:Option Addr} {n c:Nat} {s:ES} (h:Er w base E A n c s) {S:Nat→Prop} (hk:Keep S w w') (hW: ¬S E) (hA: ∀ad,A=some ad→ ¬S ad.block):Er w' base E A n c s:=
 ⟨h.blk.keep hk hW,own_keep h.own hk (fun k e hs=>by
  obtain⟨ad,rfl,rfl⟩:=own_foot e
  exact hA ad rfl hs)⟩
def ErP (w:World) (base E:Nat) (A:Option Addr) (s:ES) (e:Ending) (w':World):Prop:=
 ∃A' n' c',e=.returned (.tuple #[])∧Er w' base E A' n' c' s∧Grew w A A'∧Keep (foot E A) w w'
theorem rout_any (w:World) (base E:Nat) (A:Option Addr) (n c:Nat) (s:ES) (h:Er w base E A n c s) (hb:base≤w.heap.size) (hn0:0<n) (hn:n≤1073741824) (hby:Bytes s.b) (hc0:0≤s.c) (hc1:s.c<268435456):
 Calls Tryz.prog 111 #[.pointer (some ⟨E,0,none⟩)] w (ErP w base E A (outM s)):=by
 obtain⟨i0,hi0,hz0,hz1,hz2⟩:=info_parts info_u8
 obtain⟨a,C,ct,l⟩:=s
 simp only at hby hc0 hc1
 have h0:w.cell? ⟨E,3,none⟩=some (.slice A n c):=h.blk.cell 3
 have h2:w.cell? ⟨E,1,none⟩=some (.int .i64 C):=h.blk.cell 1
 have f0:=h.blk.frozen 3
 have f2:=h.blk.frozen 1
 have f3:=h.blk.frozen 2
 have hl:=lastM_byte hby
 obtain⟨g,rfl,hgc,hgb,hgl,hgf⟩:=own_at h.own hn0
 obtain⟨m,rfl⟩: ∃m,n=m+1:=⟨n-1,by omega⟩
 have hlen:=h.len
 simp only at hlen
 have g0:w.cell? ⟨g,m,none⟩=some (.int .u8 (lastM l)):=by
  have:=hgl m _ (map_at _ _ m (by rw [hlen];omega))
  unfold lastM
  rw [hlen]
  exact this
 have fg:=hgf m
 have hne:g≠E:=fun e=>own_ne h.own h.blk (by decide) (by rw [e];rfl)
 have wm:IntKind.i64.wrap (((m+1:Nat):Int)-1)=(m:Int):=by rw [IntWalk.i64_in _ (by omega)];omega
 have HB0:=hid h.blk
 have HO0:=hid h.own
 have HLEN:=hid hlen
 clear h hgl hgf hlen
 by_cases hz:lastM l=255
 · have HM:=hid (show outM ⟨a,C,ct,l⟩=⟨a,C%1048576,7,l++[C/1048576]⟩ by unfold outM;rw [if_pos hz])
   rw [hz]at g0
   clear hz
   rw [HM.out]
   go_enter Tryz.func111,Tryz.ntmps111
   go_wp2_with fail
   have HB5:=HB0
   have HO5:=HO0
   have hb5:base≤w.drew.heap.size:=hb
   have HKW:=hid (Keep.refl (foot E (some ⟨g,0,none⟩)) w)
   have c0:(w).cell? ⟨E,3,none⟩=some (.slice (some ⟨g,0,none⟩) (m+1) c):=HB5.out.cell 3
   have c2:(w).cell? ⟨E,1,none⟩=some (.int .i64 C):=HB5.out.cell 1
   have d0:=HB5.out.frozen 3
   have hne:=own_ne HO5.out HB5.out (by decide)
   have HN:=hid hne
   have hE5:=HB5.out.lt
   clear hne
   refine At.start (L:=#[false,false,false,false,false,false,false,false,false,false,false,false,false,false,false,false]) (by kernel_rfl) rfl ?_
   refine AtP 0 49 ?_
   refine AtP 1 50 ?_
   refine AtP 2 51 ?_
   refine AtP 3 52 ?_
   refine At.read 4 (some 53) (fun w'=>w'.cell? ⟨E,3,none⟩=some (.slice (some ⟨g,0,none⟩) (m+1) c)) (v:=(.slice (some ⟨g,0,none⟩) (m+1) c)) rfl rfl (by kernel_rfl) (fun _ _ _ h=>h) rfl c0 (fun w' hw'=>?y4a) ?_
   case y4a=>skip;go_simp;try with_reducible rfl
   try simp only [NS]
   refine AtP 5 54 ?_
   refine AtP 6 55 ?_
   refine AtP 7 56 ?_
   refine At.read 8 (some 57) (fun w'=>w'.cell? ⟨E,1,none⟩=some (.int .i64 C)) (v:=(.int .i64 C)) rfl rfl (by kernel_rfl) (fun _ _ _ h=>h) rfl c2 (fun w' hw'=>?y8a) ?_
   case y8a=>skip;go_simp;try with_reducible rfl
   try simp only [NS]
   refine AtP 9 58 ?_
   refine AtP 10 59 ?_
   refine At.call 11 (pend':=[(4,(fun w'=>w'.cell? ⟨E,3,none⟩=some (.slice (some ⟨g,0,none⟩) (m+1) c)))]) rfl (by kernel_rfl) rfl (by kernel_rfl) (fun K hK=>?_)
   go_simp
   skip
   refine hK _ _ (all_cons (((Keep.refl (fun _=>False) _).alloc _).cell c0 (fun h=>h)) all_nil) ?_
   clear hK K
   try simp only [NS]
   refine AtC 12 fun K hK=>?_
   refine wp_append_one (w).drew (.tmp 53) (.tmp 60) _ rfl base 5 i0 _ 1 Tryz.underlying25 hi0 hz0 hz1 hz2 rfl HO5.out.drew rfl _ rfl rfl (by simp only [maxLen];omega) (by omega) hb5 ?_
   intro v2 w2 hown2 hg2 hat2 _hold2
   obtain⟨A2,c2,rfl⟩:=own_form hown2
   have b2:=(HB5.out.drew.alloc _).grown hg2 (Ne.symm HN.out)
   have e0:w2.cell? ⟨E,3,none⟩=some (.slice (some ⟨g,0,none⟩) (m+1) c):=b2.cell 3
   have e1:w2.cell? ⟨E,1,none⟩=some (.int .i64 C):=b2.cell 1
   have e2:w2.cell? ⟨E,2,none⟩=some (.int .i64 ct):=b2.cell 2
   have e3:=b2.frozen 3
   have e4:=b2.frozen 1
   have e5:=b2.frozen 2
   have B2:=hid b2
   have hk2:Keep (fun k=>(Value.slice (some ⟨g,0,none⟩) (m+1) c).ownBlock=some k) w w2:=(((Keep.refl _ w).drew).alloc _).grown hg2 (fun k hk=>.inl hk)
   have HK2:=hid hk2
   have HO2:=hid hown2
   have HA2:=hid hat2
   have HNE2:=hid (own_ne hown2 b2 (by decide))
   clear b2 hk2 hown2 hat2 _hold2 hg2
   refine hK _ _ all_nil ?_
   clear hK K
   try simp only [NS]
   refine AtP 13 62 ?_
   refine AtP 14 63 ?_
   refine AtC 15 fun K hK=>?_
   go_simp
   skip
   refine hK _ _ all_nil ?_
   clear hK K
   try simp only [NS]
   refine At.done (by kernel_rfl) ?_
   have HF2:=hid (show∀w6,Keep (fun k=>k=E) w2 w6→Blk w6 E 189 #[.int .i64 a,.int .i64 (C%1048576),.int .i64 7,.slice A2 ((m+1)+1) c2]→ErP w base E (some ⟨g,0,none⟩) ⟨a,C%1048576,7,l++[C/1048576]⟩ (.returned (.tuple #[])) w6 from fun w6 hk6 hb6=>by
    refine⟨A2,(m+1)+1,c2,rfl,⟨hb6,?_⟩,?_,?_⟩
    · have:=own_keep HO2.out hk6 (fun k e hk=>HNE2.out (by rw [e,hk]))
      rw [show IntKind.u8.wrap (C/1048576)=C/1048576 from IntWalk.u8_in _ (by omega)]at this
      simpa using this
    · exact Grew.of HA2.out (by have:=HKW.out.size;show _≤(w).heap.size+1;omega)
    · exact HKW.out.trans ((HK2.out.mono (fun k _ h=>.inr (own_foot h))).trans hk6 (fun k _ h=>.inl h)) (fun k _ h=>h))
   have hlow:=low20 (C)
   go_wp2_with fail
   refine bodyPost_ret (results_none rfl _ _ _) rfl ?_
   refine HF2.out _ ?_ ?_
   · with_reducible (repeat(first|refine Keep.drew ?_|refine Keep.setR ?_ _ _|exact Keep.refl _ _))
   · exact((B2.out.set_ 3 (.slice A2 ((m+1)+1) c2)).set_ 1 (.int .i64 (C%1048576))).set_ 2 (.int .i64 7)
 · have hz1f:(lastM l==255)=false:=by simpa using hz
   have hz2t:(lastM l != 255)=true:=by simpa using hz
   by_cases hcar:134217728≤C
   · have hand:bits .and .i64 C 134217728=134217728:=by rw [and_carry C hc0 hc1,if_pos hcar]
     have hnot:=andNot_carry C hcar hc1
     have hl1:l.length-1=m:=by rw [HLEN.out];omega
     have HM:=hid (show outM ⟨a,C,ct,l⟩=(if lastM l+1=255 then⟨a,(C-134217728)%1048576,7,l.set m (lastM l+1)++[(C-134217728)/1048576]⟩else⟨a,(C-134217728)%524288,8,l.set m (lastM l+1)++[(C-134217728)/524288]⟩) by unfold outM;rw [if_neg hz,if_pos hcar,hl1])
     have hm1:m<l.length:=by rw [HLEN.out];omega
     clear hl1
     generalize lastM l=z at*
     have hz3:z<255:=by omega
     have hb5':Blk ((w.setCell ⟨g,m,none⟩ (.int .u8 (z+1))).setCell ⟨E,1,none⟩ (.int .i64 (C-134217728))) E 189 #[.int .i64 a,.int .i64 (C-134217728),.int .i64 ct,.slice (some ⟨g,0,none⟩) (m+1) c]:=
      (HB0.out.far (p:=⟨g,m,none⟩) (Ne.symm hne) (.int .u8 (z+1))).set_ 1 (.int .i64 (C-134217728))
     have ho5':((w.setCell ⟨g,m,none⟩ (.int .u8 (z+1))).setCell ⟨E,1,none⟩ (.int .i64 (C-134217728))).ownsRow base 5 1 (.slice (some ⟨g,0,none⟩) (m+1) c) (m+1) ((l.set m (z+1)).map (Value.int .u8)):=by
      have h1:=(World.ownsRow.stored HO0.out m (.int .u8 (z+1))).1
      rw [← List.map_set]at h1
      exact own_keep h1 (Keep.set1 _ E 1 _) (fun k e hk=>hne (by simp [Value.ownBlock]at e;omega))
     have hk5':Keep (foot E (some ⟨g,0,none⟩)) w ((w.setCell ⟨g,m,none⟩ (.int .u8 (z+1))).setCell ⟨E,1,none⟩ (.int .i64 (C-134217728))):=
      Keep.setCell (Keep.setCell (Keep.refl _ w) (p:=⟨g,m,none⟩) (.inl (.inr ⟨_,rfl,rfl⟩)) _) (p:=⟨E,1,none⟩) (.inl (.inl rfl)) _
     have hg5':((w.setCell ⟨g,m,none⟩ (.int .u8 (z+1))).setCell ⟨E,1,none⟩ (.int .i64 (C-134217728))).cell? ⟨g,m,none⟩=some (.int .u8 (z+1)):=by
      obtain⟨g',hg',_,_,hcl,_⟩:=own_at ho5' (by omega)
      injection hg' with hg'
      injection hg' with hg'
      subst hg'
      have:=hcl m _ (map_at _ _ m (by rw [List.length_set];exact hm1))
      rw [List.getD_eq_getElem?_getD,List.getElem?_set_self hm1]at this
      exact this
     have HB5:=hid hb5'
     have HO5:=hid ho5'
     have HKW:=hid hk5'
     have HG5:=hid hg5'
     clear hb5' ho5' hk5' hg5' hm1
     by_cases h254:z+1=255
     · rw [HM.out,if_pos h254]
       have H254:=hid h254
       clear h254
       go_enter Tryz.func111,Tryz.ntmps111
       go_upto_region 4 with fail
       have hb5:base≤((w.setCell ⟨g,m,none⟩ (.int .u8 (z+1))).setCell ⟨E,1,none⟩ (.int .i64 (C-134217728))).drew.heap.size:=Nat.le_trans hb HKW.out.size
       have hC1:0≤C-134217728:=by omega
       have hC2:C-134217728<134217728:=by omega
       clear hcar hc0 hc1 HM
       generalize hw5:(w.setCell ⟨g,m,none⟩ (.int .u8 (z+1))).setCell ⟨E,1,none⟩ (.int .i64 (C-134217728))=w5 at*
       generalize C-134217728=C1 at*
       clear hw5 h0 h2 g0 fg f0 f2 f3
       generalize z+1=z1 at*
       have q0:w5.cell? ⟨E,3,none⟩=some (.slice (some ⟨g,0,none⟩) (m+1) c):=HB5.out.cell 3
       have q1:=HG5.out
       obtain rfl:z1=255:=H254.out
       go_wp2_with fail
       have c0:(w5).cell? ⟨E,3,none⟩=some (.slice (some ⟨g,0,none⟩) (m+1) c):=HB5.out.cell 3
       have c2:(w5).cell? ⟨E,1,none⟩=some (.int .i64 C1):=HB5.out.cell 1
       have d0:=HB5.out.frozen 3
       have hne:=own_ne HO5.out HB5.out (by decide)
       have HN:=hid hne
       have hE5:=HB5.out.lt
       clear hne
       refine At.start (L:=#[false,false,false,false,false,false,false,false,false,false,false,false,false,false,false,false]) (by kernel_rfl) rfl ?_
       refine AtP 0 49 ?_
       refine AtP 1 50 ?_
       refine AtP 2 51 ?_
       refine AtP 3 52 ?_
       refine At.read 4 (some 53) (fun w'=>w'.cell? ⟨E,3,none⟩=some (.slice (some ⟨g,0,none⟩) (m+1) c)) (v:=(.slice (some ⟨g,0,none⟩) (m+1) c)) rfl rfl (by kernel_rfl) (fun _ _ _ h=>h) rfl c0 (fun w' hw'=>?y4b) ?_
       case y4b=>skip;go_simp;try with_reducible rfl
       try simp only [NS]
       refine AtP 5 54 ?_
       refine AtP 6 55 ?_
       refine AtP 7 56 ?_
       refine At.read 8 (some 57) (fun w'=>w'.cell? ⟨E,1,none⟩=some (.int .i64 C1)) (v:=(.int .i64 C1)) rfl rfl (by kernel_rfl) (fun _ _ _ h=>h) rfl c2 (fun w' hw'=>?y8b) ?_
       case y8b=>skip;go_simp;try with_reducible rfl
       try simp only [NS]
       refine AtP 9 58 ?_
       refine AtP 10 59 ?_
       refine At.call 11 (pend':=[(4,(fun w'=>w'.cell? ⟨E,3,none⟩=some (.slice (some ⟨g,0,none⟩) (m+1) c)))]) rfl (by kernel_rfl) rfl (by kernel_rfl) (fun K hK=>?_)
       go_simp
       skip
       refine hK _ _ (all_cons (((Keep.refl (fun _=>False) _).alloc _).cell c0 (fun h=>h)) all_nil) ?_
       clear hK K
       try simp only [NS]
       refine AtC 12 fun K hK=>?_
       refine wp_append_one (w5).drew (.tmp 53) (.tmp 60) _ rfl base 5 i0 _ 1 Tryz.underlying25 hi0 hz0 hz1 hz2 rfl HO5.out.drew rfl _ rfl rfl (by simp only [maxLen];omega) (by omega) hb5 ?_
       intro v2 w2 hown2 hg2 hat2 _hold2
       obtain⟨A2,c2,rfl⟩:=own_form hown2
       have b2:=(HB5.out.drew.alloc _).grown hg2 (Ne.symm HN.out)
       have e0:w2.cell? ⟨E,3,none⟩=some (.slice (some ⟨g,0,none⟩) (m+1) c):=b2.cell 3
       have e1:w2.cell? ⟨E,1,none⟩=some (.int .i64 C1):=b2.cell 1
       have e2:w2.cell? ⟨E,2,none⟩=some (.int .i64 ct):=b2.cell 2
       have e3:=b2.frozen 3
       have e4:=b2.frozen 1
       have e5:=b2.frozen 2
       have B2:=hid b2
       have hk2:Keep (fun k=>(Value.slice (some ⟨g,0,none⟩) (m+1) c).ownBlock=some k) w5 w2:=(((Keep.refl _ w5).drew).alloc _).grown hg2 (fun k hk=>.inl hk)
       have HK2:=hid hk2
       have HO2:=hid hown2
       have HA2:=hid hat2
       have HNE2:=hid (own_ne hown2 b2 (by decide))
       clear b2 hk2 hown2 hat2 _hold2 hg2
       refine hK _ _ all_nil ?_
       clear hK K
       try simp only [NS]
       refine AtP 13 62 ?_
       refine AtP 14 63 ?_
       refine AtC 15 fun K hK=>?_
       go_simp
       skip
       refine hK _ _ all_nil ?_
       clear hK K
       try simp only [NS]
       refine At.done (by kernel_rfl) ?_
       have HF2:=hid (show∀w6,Keep (fun k=>k=E) w2 w6→Blk w6 E 189 #[.int .i64 a,.int .i64 (C1%1048576),.int .i64 7,.slice A2 ((m+1)+1) c2]→ErP w base E (some ⟨g,0,none⟩) ⟨a,C1%1048576,7,(l.set m (255))++[C1/1048576]⟩ (.returned (.tuple #[])) w6 from fun w6 hk6 hb6=>by
        refine⟨A2,(m+1)+1,c2,rfl,⟨hb6,?_⟩,?_,?_⟩
        · have:=own_keep HO2.out hk6 (fun k e hk=>HNE2.out (by rw [e,hk]))
          rw [show IntKind.u8.wrap (C1/1048576)=C1/1048576 from IntWalk.u8_in _ (by omega)]at this
          simpa using this
        · exact Grew.of HA2.out (by have:=HKW.out.size;show _≤(w5).heap.size+1;omega)
        · exact HKW.out.trans ((HK2.out.mono (fun k _ h=>.inr (own_foot h))).trans hk6 (fun k _ h=>.inl h)) (fun k _ h=>h))
       have hlow:=low20 (C1)
       go_wp2_with fail
       refine bodyPost_ret (results_none rfl _ _ _) rfl ?_
       refine HF2.out _ ?_ ?_
       · with_reducible (repeat(first|refine Keep.drew ?_|refine Keep.setR ?_ _ _|exact Keep.refl _ _))
       · exact((B2.out.set_ 3 (.slice A2 ((m+1)+1) c2)).set_ 1 (.int .i64 (C1%1048576))).set_ 2 (.int .i64 7)
     · rw [HM.out,if_neg h254]
       go_enter Tryz.func111,Tryz.ntmps111
       go_upto_region 4 with fail
       have hb5:base≤((w.setCell ⟨g,m,none⟩ (.int .u8 (z+1))).setCell ⟨E,1,none⟩ (.int .i64 (C-134217728))).drew.heap.size:=Nat.le_trans hb HKW.out.size
       have hC1:0≤C-134217728:=by omega
       have hC2:C-134217728<134217728:=by omega
       clear hcar hc0 hc1 HM
       generalize hw5:(w.setCell ⟨g,m,none⟩ (.int .u8 (z+1))).setCell ⟨E,1,none⟩ (.int .i64 (C-134217728))=w5 at*
       generalize C-134217728=C1 at*
       clear hw5 h0 h2 g0 fg f0 f2 f3
       generalize z+1=z1 at*
       have q0:w5.cell? ⟨E,3,none⟩=some (.slice (some ⟨g,0,none⟩) (m+1) c):=HB5.out.cell 3
       have q1:=HG5.out
       have hq:(z1==255)=false:=by simp [h254]
       go_wp2_with fail
       have c0:(w5).cell? ⟨E,3,none⟩=some (.slice (some ⟨g,0,none⟩) (m+1) c):=HB5.out.cell 3
       have c2:(w5).cell? ⟨E,1,none⟩=some (.int .i64 C1):=HB5.out.cell 1
       have d0:=HB5.out.frozen 3
       have hne:=own_ne HO5.out HB5.out (by decide)
       have HN:=hid hne
       have hE5:=HB5.out.lt
       clear hne
       refine At.start (L:=#[false,false,false,false,false,false,false,false,false,false,false,false,false,false,false,false]) (by kernel_rfl) rfl ?_
       refine AtP 0 75 ?_
       refine AtP 1 76 ?_
       refine AtP 2 77 ?_
       refine AtP 3 78 ?_
       refine At.read 4 (some 79) (fun w'=>w'.cell? ⟨E,3,none⟩=some (.slice (some ⟨g,0,none⟩) (m+1) c)) (v:=(.slice (some ⟨g,0,none⟩) (m+1) c)) rfl rfl (by kernel_rfl) (fun _ _ _ h=>h) rfl c0 (fun w' hw'=>?y4c) ?_
       case y4c=>skip;go_simp;try with_reducible rfl
       try simp only [NS]
       refine AtP 5 80 ?_
       refine AtP 6 81 ?_
       refine AtP 7 82 ?_
       refine At.read 8 (some 83) (fun w'=>w'.cell? ⟨E,1,none⟩=some (.int .i64 C1)) (v:=(.int .i64 C1)) rfl rfl (by kernel_rfl) (fun _ _ _ h=>h) rfl c2 (fun w' hw'=>?y8c) ?_
       case y8c=>skip;go_simp;try with_reducible rfl
       try simp only [NS]
       refine AtP 9 84 ?_
       refine AtP 10 85 ?_
       refine At.call 11 (pend':=[(4,(fun w'=>w'.cell? ⟨E,3,none⟩=some (.slice (some ⟨g,0,none⟩) (m+1) c)))]) rfl (by kernel_rfl) rfl (by kernel_rfl) (fun K hK=>?_)
       go_simp
       skip
       refine hK _ _ (all_cons (((Keep.refl (fun _=>False) _).alloc _).cell c0 (fun h=>h)) all_nil) ?_
       clear hK K
       try simp only [NS]
       refine AtC 12 fun K hK=>?_
       refine wp_append_one (w5).drew (.tmp 79) (.tmp 86) _ rfl base 5 i0 _ 1 Tryz.underlying25 hi0 hz0 hz1 hz2 rfl HO5.out.drew rfl _ rfl rfl (by simp only [maxLen];omega) (by omega) hb5 ?_
       intro v2 w2 hown2 hg2 hat2 _hold2
       obtain⟨A2,c2,rfl⟩:=own_form hown2
       have b2:=(HB5.out.drew.alloc _).grown hg2 (Ne.symm HN.out)
       have e0:w2.cell? ⟨E,3,none⟩=some (.slice (some ⟨g,0,none⟩) (m+1) c):=b2.cell 3
       have e1:w2.cell? ⟨E,1,none⟩=some (.int .i64 C1):=b2.cell 1
       have e2:w2.cell? ⟨E,2,none⟩=some (.int .i64 ct):=b2.cell 2
       have e3:=b2.frozen 3
       have e4:=b2.frozen 1
       have e5:=b2.frozen 2
       have B2:=hid b2
       have hk2:Keep (fun k=>(Value.slice (some ⟨g,0,none⟩) (m+1) c).ownBlock=some k) w5 w2:=(((Keep.refl _ w5).drew).alloc _).grown hg2 (fun k hk=>.inl hk)
       have HK2:=hid hk2
       have HO2:=hid hown2
       have HA2:=hid hat2
       have HNE2:=hid (own_ne hown2 b2 (by decide))
       clear b2 hk2 hown2 hat2 _hold2 hg2
       refine hK _ _ all_nil ?_
       clear hK K
       try simp only [NS]
       refine AtP 13 88 ?_
       refine AtP 14 89 ?_
       refine AtC 15 fun K hK=>?_
       go_simp
       skip
       refine hK _ _ all_nil ?_
       clear hK K
       try simp only [NS]
       refine At.done (by kernel_rfl) ?_
       have HF2:=hid (show∀w6,Keep (fun k=>k=E) w2 w6→Blk w6 E 189 #[.int .i64 a,.int .i64 (C1%524288),.int .i64 8,.slice A2 ((m+1)+1) c2]→ErP w base E (some ⟨g,0,none⟩) ⟨a,C1%524288,8,(l.set m (z1))++[C1/524288]⟩ (.returned (.tuple #[])) w6 from fun w6 hk6 hb6=>by
        refine⟨A2,(m+1)+1,c2,rfl,⟨hb6,?_⟩,?_,?_⟩
        · have:=own_keep HO2.out hk6 (fun k e hk=>HNE2.out (by rw [e,hk]))
          rw [show IntKind.u8.wrap (C1/524288)=C1/524288 from IntWalk.u8_in _ (by omega)]at this
          simpa using this
        · exact Grew.of HA2.out (by have:=HKW.out.size;show _≤(w5).heap.size+1;omega)
        · exact HKW.out.trans ((HK2.out.mono (fun k _ h=>.inr (own_foot h))).trans hk6 (fun k _ h=>.inl h)) (fun k _ h=>h))
       have hlow:=low19 (C1)
       go_wp2_with fail
       go_end0
       refine HF2.out _ ?_ ?_
       · with_reducible (repeat(first|refine Keep.drew ?_|refine Keep.setR ?_ _ _|exact Keep.refl _ _))
       · exact((B2.out.set_ 3 (.slice A2 ((m+1)+1) c2)).set_ 1 (.int .i64 (C1%524288))).set_ 2 (.int .i64 8)
   · have HM:=hid (show outM ⟨a,C,ct,l⟩=⟨a,C%524288,8,l++[C/524288]⟩ by unfold outM;rw [if_neg hz,if_neg hcar])
     clear hz
     rw [HM.out]
     generalize lastM l=z at*
     go_enter Tryz.func111,Tryz.ntmps111
     go_wp2_with fail
     have HB5:=HB0
     have HO5:=HO0
     have hb5:base≤w.drew.heap.size:=hb
     have HKW:=hid (Keep.refl (foot E (some ⟨g,0,none⟩)) w)
     have c0:(w).cell? ⟨E,3,none⟩=some (.slice (some ⟨g,0,none⟩) (m+1) c):=HB5.out.cell 3
     have c2:(w).cell? ⟨E,1,none⟩=some (.int .i64 C):=HB5.out.cell 1
     have d0:=HB5.out.frozen 3
     have hne:=own_ne HO5.out HB5.out (by decide)
     have HN:=hid hne
     have hE5:=HB5.out.lt
     clear hne
     refine At.start (L:=#[false,false,false,false,false,false,false,false,false,false,false,false,false,false,false,false]) (by kernel_rfl) rfl ?_
     refine AtP 0 75 ?_
     refine AtP 1 76 ?_
     refine AtP 2 77 ?_
     refine AtP 3 78 ?_
     refine At.read 4 (some 79) (fun w'=>w'.cell? ⟨E,3,none⟩=some (.slice (some ⟨g,0,none⟩) (m+1) c)) (v:=(.slice (some ⟨g,0,none⟩) (m+1) c)) rfl rfl (by kernel_rfl) (fun _ _ _ h=>h) rfl c0 (fun w' hw'=>?y4d) ?_
     case y4d=>skip;go_simp;try with_reducible rfl
     try simp only [NS]
     refine AtP 5 80 ?_
     refine AtP 6 81 ?_
     refine AtP 7 82 ?_
     refine At.read 8 (some 83) (fun w'=>w'.cell? ⟨E,1,none⟩=some (.int .i64 C)) (v:=(.int .i64 C)) rfl rfl (by kernel_rfl) (fun _ _ _ h=>h) rfl c2 (fun w' hw'=>?y8d) ?_
     case y8d=>skip;go_simp;try with_reducible rfl
     try simp only [NS]
     refine AtP 9 84 ?_
     refine AtP 10 85 ?_
     refine At.call 11 (pend':=[(4,(fun w'=>w'.cell? ⟨E,3,none⟩=some (.slice (some ⟨g,0,none⟩) (m+1) c)))]) rfl (by kernel_rfl) rfl (by kernel_rfl) (fun K hK=>?_)
     go_simp
     skip
     refine hK _ _ (all_cons (((Keep.refl (fun _=>False) _).alloc _).cell c0 (fun h=>h)) all_nil) ?_
     clear hK K
     try simp only [NS]
     refine AtC 12 fun K hK=>?_
     refine wp_append_one (w).drew (.tmp 79) (.tmp 86) _ rfl base 5 i0 _ 1 Tryz.underlying25 hi0 hz0 hz1 hz2 rfl HO5.out.drew rfl _ rfl rfl (by simp only [maxLen];omega) (by omega) hb5 ?_
     intro v2 w2 hown2 hg2 hat2 _hold2
     obtain⟨A2,c2,rfl⟩:=own_form hown2
     have b2:=(HB5.out.drew.alloc _).grown hg2 (Ne.symm HN.out)
     have e0:w2.cell? ⟨E,3,none⟩=some (.slice (some ⟨g,0,none⟩) (m+1) c):=b2.cell 3
     have e1:w2.cell? ⟨E,1,none⟩=some (.int .i64 C):=b2.cell 1
     have e2:w2.cell? ⟨E,2,none⟩=some (.int .i64 ct):=b2.cell 2
     have e3:=b2.frozen 3
     have e4:=b2.frozen 1
     have e5:=b2.frozen 2
     have B2:=hid b2
     have hk2:Keep (fun k=>(Value.slice (some ⟨g,0,none⟩) (m+1) c).ownBlock=some k) w w2:=(((Keep.refl _ w).drew).alloc _).grown hg2 (fun k hk=>.inl hk)
     have HK2:=hid hk2
     have HO2:=hid hown2
     have HA2:=hid hat2
     have HNE2:=hid (own_ne hown2 b2 (by decide))
     clear b2 hk2 hown2 hat2 _hold2 hg2
     refine hK _ _ all_nil ?_
     clear hK K
     try simp only [NS]
     refine AtP 13 88 ?_
     refine AtP 14 89 ?_
     refine AtC 15 fun K hK=>?_
     go_simp
     skip
     refine hK _ _ all_nil ?_
     clear hK K
     try simp only [NS]
     refine At.done (by kernel_rfl) ?_
     have HF2:=hid (show∀w6,Keep (fun k=>k=E) w2 w6→Blk w6 E 189 #[.int .i64 a,.int .i64 (C%524288),.int .i64 8,.slice A2 ((m+1)+1) c2]→ErP w base E (some ⟨g,0,none⟩) ⟨a,C%524288,8,l++[C/524288]⟩ (.returned (.tuple #[])) w6 from fun w6 hk6 hb6=>by
      refine⟨A2,(m+1)+1,c2,rfl,⟨hb6,?_⟩,?_,?_⟩
      · have:=own_keep HO2.out hk6 (fun k e hk=>HNE2.out (by rw [e,hk]))
        rw [show IntKind.u8.wrap (C/524288)=C/524288 from IntWalk.u8_in _ (by omega)]at this
        simpa using this
      · exact Grew.of HA2.out (by have:=HKW.out.size;show _≤(w).heap.size+1;omega)
      · exact HKW.out.trans ((HK2.out.mono (fun k _ h=>.inr (own_foot h))).trans hk6 (fun k _ h=>.inl h)) (fun k _ h=>h))
     have hlow:=low19 (C)
     go_wp2_with fail
     go_end0
     refine HF2.out _ ?_ ?_
     · with_reducible (repeat(first|refine Keep.drew ?_|refine Keep.setR ?_ _ _|exact Keep.refl _ _))
     · exact((B2.out.set_ 3 (.slice A2 ((m+1)+1) c2)).set_ 1 (.int .i64 (C%524288))).set_ 2 (.int .i64 8)
def RCtx (w:World) (K:Nat) (l:List (Nat×Nat)):Prop:=Blk w K 159 (cxCells l)
theorem rctx_info :(Tryz.prog.info? 159).map (·.size)=some 38:=by kernel_rfl
theorem rnewe_any (w:World):
 Calls Tryz.prog 86 #[] w fun e w'=> ∃E A n c,e=.returned (.pointer (some ⟨E,0,none⟩))∧w.heap.size≤E∧Er w' w.heap.size E A n c newM∧Keep (fun _=>False) w w':=by
 go_enter Tryz.func86,Tryz.ntmps86
 go_wp2_with fail
 go_ret
 refine⟨w.heap.size+1,some ⟨w.heap.size,0,none⟩,1,1,rfl,Nat.le_succ _,⟨?_,?_⟩,((Keep.refl _ w).alloc _).alloc _⟩
 · have:=Blk.new (w.alloc (.cells #[.int .u8 0] 5)) 189 #[.int .i64 32768,.int .i64 0,.int .i64 12,.slice (some ⟨w.heap.size,0,none⟩) 1 1]
   rw [World.size_alloc]at this
   exact this
 · exact⟨by simp [newM],.inr ⟨w.heap.size,1,#[.int .u8 0],rfl,Nat.le_refl _,(Blk.new w 5 #[.int .u8 0]).alloc _,Nat.le_refl _,by simp [maxLen],rfl,by simp [newM]⟩⟩
theorem route_any (w:World) (base E:Nat) (A:Option Addr) (n c:Nat) (s:ES) (h:Er w base E A n c s) (hn0:0<n) (hn:n≤1099511627776):
 Calls Tryz.prog 89 #[.pointer (some ⟨E,0,none⟩)] w fun e w'=>e=.returned (.int .i64 (s.b.length-1))∧w=w':=by
 have h0:w.cell? ⟨E,3,none⟩=some (.slice A n c):=h.blk.cell 3
 have hl:=hid h.len
 clear h
 go_enter Tryz.func89,Tryz.ntmps89
 go_wp2_with fail
 go_ret
 exact⟨by rw [hl.out];rfl,rfl⟩
theorem rfresh_any (w:World):
 Calls Tryz.prog 106 #[] w fun e w'=>e=.returned (.agg (cxCells begL))∧Keep (fun _=>False) w w':=by
 go_enter Tryz.func106,Tryz.ntmps106
 go_wp2_with (refine wpList_store_blk (g:=w.heap.size+1) (zs:=cxCells zeros19) (t:=159) (by have:=Blk.new (w.alloc (.cells (cxCells zeros19) 159)) 159 (cxCells zeros19);rw [World.size_alloc]at this;exact this) rfl 159 _ _ rfl rfl (cxCells (begTo 0)) rfl rfl rctx_info rfl (cx_one _) ?_;intro w2 hb2 hk2)
 have hz2:Blk w2 w.heap.size 159 (cxCells zeros19):=Blk.keep (Blk.alloc (Blk.new w 159 (cxCells zeros19)) _) hk2 (by omega)
 have HZ2:=hid hz2
 have HB2:=hid hb2
 have HK2:=hid ((((Keep.refl (fun _=>False) w).alloc _).alloc _).trans hk2 (fun j hj h=>by omega))
 clear hz2 hb2 hk2
 go_loopw [2] (fun v wr=> ∃k:Nat,k≤19∧v=.int .i64 k∧Hid (Blk wr w.heap.size 159 (cxCells zeros19))∧Hid (Blk wr (w.heap.size+1) 159 (cxCells (begTo k)))∧Hid (Keep (fun _=>False) w wr)) (fun v _=>19-(intOf v).toNat)
 case atStart=>exact⟨0,by omega,rfl,HZ2,HB2,HK2⟩
 case round=>
  obtain⟨k,hk,rfl,HZ,HB,HK⟩:=hrel
  clear HZ2 HB2 HK2
  by_cases hk19:k<19
  · go_wp2_with fail
    refine(rbegin_any k wr).mono ?_
    rintro e w2 ⟨rfl,hw⟩
    obtain rfl:wr=w2:=hw
    obtain⟨hs,h0⟩:=begTo_next k hk19
    have b2:=HB.out
    have c2:=(b2.cell (k*2)).trans (cx_I (by rw [begTo_len k (by omega)];omega))
    have f2:=b2.frozen (k*2)
    have b3:=b2.set_ (k*2) (.int .i64 (begM k))
    have e1:begM k=((begM k).toNat:Int):=by omega
    rw [e1,cx_setI (by rw [begTo_len k (by omega)];omega),hs,←e1]at b3
    have HB3:=hid b3
    clear b2 b3 hs h0 e1
    generalize begM k=z at*
    go_wp2_with fail
    refine⟨⟨k+1,by omega,by simp,hid (HZ.out.far (by simp) _),HB3,hid (HK.out.setCell (p:=⟨w.heap.size+1,k*2,none⟩) (.inr (Nat.le_succ _)) _)⟩,by simp [intOf];omega⟩
  · obtain rfl:k=19:=by omega
    go_wp2_with (
     first
     |refine wpList_load_row rfl 159 _ rfl (w.heap.size+1) rfl 159 (cxCells (begTo 19)) (0,0) _ HB.out Tryz.underlying159 rfl (by rw [cx_size _ (begTo_len 19 (by omega))];exact rctx_info) ?_
     |refine wpList_store_row rfl 159 _ _ rfl w.heap.size (cxCells (begTo 19)) rfl rfl 159 (cxCells zeros19) HZ.out (by rw [cx_size _ (begTo_len 19 (by omega))];exact rctx_info) (by rw [cx_size _ (begTo_len 19 (by omega)),cx_size _ rfl]) (cx_one _) ?_)
    have hz:=HZ.out.row (cs':=cxCells (begTo 19))
    refine bodyPost_ret (results_cell_row Tryz.results106 _ _ w.heap.size 159 (cxCells (begTo 19)) (0,0) _ rfl hz Tryz.underlying159 rfl (by rw [cx_size _ (begTo_len 19 (by omega))];exact rctx_info)) rfl ?_
    exact⟨rfl,HK.out.row (.inr (Nat.le_refl _)) _⟩
theorem rflush_any (w:World) (base E:Nat) (A:Option Addr) (n c:Nat) (s:ES) (h:Er w base E A n c s) (hi:EInv s) (ha:32768≤s.a) (ha2:s.a<65536) (hb:base≤w.heap.size) (hn:n≤1073741000):
 Calls Tryz.prog 92 #[.pointer (some ⟨E,0,none⟩)] w fun e w'=> ∃A' n' c',e=.returned (.slice A' n' c')∧
  Rd w' A' n' ((flushM (flushE s)).map (Value.int .u8))∧(∀ ad,A'=some ad→w.heap.size≤ad.block)∧Keep (foot E A) w w':=by
 obtain⟨i0,hi0,hz0,hz1,hz2⟩:=info_parts info_u8
 have HE:=hid h
 have HI:=hid (hi.fl ha)
 have hC0:=hi.c0
 have hC1:s.c<301989888:=by
  have h1:=hi.top
  have:(2:Int)^(24-s.ct).toNat≤2^24:=by
   have h1:=hi.ct1
   have:(2:Nat)^(24-s.ct).toNat≤2^24:=Nat.pow_le_pow_right (by omega) (by omega)
   exact_mod_cast this
  omega
 have hor:=or_ffff s.c hC0 (by omega)
 have HFL:=hid (show flushE s=(flN 2 ⟨s.a,endC s.c s.a,s.ct,s.b⟩).b.tail from rfl)
 have HEC:=hid (show endC s.c s.a=if s.c+s.a≤s.c/65536*65536+65535 then s.c/65536*65536+65535-32768 else s.c/65536*65536+65535 from rfl)
 clear h hi
 obtain⟨a,C,ct,b⟩:=s
 simp only at ha ha2 hC0 hC1 hor HEC
 have hq0:0≤C/65536*65536+65535:=by omega
 have hq1:C/65536*65536+65535<302055424:=by omega
 generalize hQ:C/65536*65536+65535=Q at*
 have HQ:=hid hQ
 clear hQ
 have e1:w.cell? ⟨E,0,none⟩=some (.int .i64 a):=HE.out.blk.cell 0
 have e2:w.cell? ⟨E,1,none⟩=some (.int .i64 C):=HE.out.blk.cell 1
 have f2:=HE.out.blk.frozen 1
 go_enter Tryz.func92,Tryz.ntmps92
 have HX:Hid (∀ w3 cs,Keep (fun j=>j=E) w w3→Blk w3 E 189 cs→cs=#[.int .i64 a,.int .i64 (endC C a),.int .i64 ct,.slice A n c]→Er w3 base E A n c ⟨a,endC C a,ct,b⟩∧Keep (fun j=>j=E) w w3):=hid (fun w3 cs hk hb e=>by
  subst e
  exact⟨⟨hb,own_keep HE.out.own hk (fun k e hk=>own_ne HE.out.own HE.out.blk (by decide) (by rw [e,hk]))⟩,hk⟩)
 have HB:=hid HE.out.blk
 go_wp2_with fail
 go_region
 go_upto_if 28 with fail
 go_cut [] (fun wx=>Hid (Er wx base E A n c ⟨a,endC C a,ct,b⟩∧Keep (fun j=>j=E) w wx))
 case first=>
  go_wp2_with fail
  all_goals go_meet
  all_goals refine hid ?_
  all_goals apply HX.out
  · with_reducible (repeat(first|refine Keep.drew ?_|refine Keep.setR ?_ _ _|exact Keep.refl _ _))
  · with_reducible (repeat(first|apply Blk.drew|apply Blk.set_|exact HB.out))
  · rw [HEC.out,if_pos (by omega)];first|rfl|simp
  · with_reducible (repeat(first|refine Keep.drew ?_|refine Keep.setR ?_ _ _|exact Keep.refl _ _))
  · with_reducible (repeat(first|apply Blk.drew|apply Blk.set_|exact HB.out))
  · rw [HEC.out,if_neg (by omega)];first|rfl|simp
 case rest=>
  have hb3:base≤wc.heap.size:=Nat.le_trans hb hcut.out.2.size
  clear HX HB e1 e2 f2 hor HEC hq0 hq1 HQ
  go_wp2_with fail
  go_loopw [4] (fun v wr=> ∃(j:Nat) (t:ES) (A1:Option Addr) (c1:Nat),j≤2∧v=.int .i64 j∧Hid (Er wr base E A1 (n+j) c1 t)∧Hid (FInv t)∧Hid (flN (2-j) t=flN 2 ⟨a,endC C a,ct,b⟩)∧Hid (Grew w A A1)∧Hid (Keep (foot E A) w wr)) (fun v _=>2-(intOf v).toNat)
  case atStart=>exact⟨0,⟨a,endC C a,ct,b⟩,A,c,by omega,rfl,hid hcut.out.1,HI,hid rfl,hid (Grew.refl w A),hid (hcut.out.2.mono (fun _ _ h=>.inl h))⟩
  case round=>
   obtain⟨j,t,A1,c1,hj,rfl,HE1,HI1,HF1,HG1,HK1⟩:=hrel
   by_cases hj2:j<2
   · have hl1:=HE1.out.len
     have hsome:=HI1.out.some_
     have HBY:=hid HI1.out.bytes
     have HFI:=hid HI1.out.fl
     have HFE:=hid (show flM t=outM ⟨t.a,t.c*2^t.ct.toNat,t.ct,t.b⟩from rfl)
     obtain⟨a1,C1,t1,b1⟩:=t
     have hc0:0≤C1:=HI1.out.c0
     have ht0:0≤t1:=HI1.out.ct0
     have ht12:t1≤12:=HI1.out.ct12
     have htop:C1*2^t1.toNat<268435456:=HI1.out.top
     simp only at hl1 hsome
     have hp:(0:Int)<2^t1.toNat:=Int.pow_pos (by decide)
     have hc1:0≤C1*2^t1.toNat:=Int.mul_nonneg hc0 (by omega)
     have g2:wr.cell? ⟨E,1,none⟩=some (.int .i64 C1):=HE1.out.blk.cell 1
     have g3:wr.cell? ⟨E,2,none⟩=some (.int .i64 t1):=HE1.out.blk.cell 2
     have k2:=HE1.out.blk.frozen 1
     have hw:IntKind.i64.wrap (C1*2^t1.toNat)=C1*2^t1.toNat:=IntWalk.i64_in _ (by omega)
     go_wp2_with fail
     go_region
     go_wp2_with fail
     have HT:=hid (show Er (wr.setCell ⟨E,1,none⟩ (.int .i64 (C1*2^t1.toNat))).drew base E A1 (n+j) c1 ⟨a1,C1*2^t1.toNat,t1,b1⟩from
      ⟨(HE1.out.blk.set_ 1 (.int .i64 (C1*2^t1.toNat))).drew,own_keep HE1.out.own ((Keep.refl (fun k=>k=E) wr).setR 1 _).drew (fun k e hk=>own_ne HE1.out.own HE1.out.blk (by decide) (by rw [e,hk]))⟩)
     have hk5:Keep (foot E A1) wr (wr.setCell ⟨E,1,none⟩ (.int .i64 (C1*2^t1.toNat))).drew:=((Keep.refl (fun k=>k=E) wr).setR 1 _).drew.mono (fun _ _ h=>.inl h)
     refine(rout_any _ base E A1 (n+j) c1 _ HT.out (Nat.le_trans hb (Nat.le_trans HK1.out.size hk5.size)) (by omega) (by omega) HBY.out hc1 htop).mono ?_
     rintro e w6 ⟨A6,n6,c6,rfl,h6,g6,k6⟩
     have hgn:=grew_next (Grew.refl wr A1) hk5 g6 k6
     have hgn2:=grew_next HG1.out HK1.out hgn.1 hgn.2
     have hn6:n6=n+(j+1):=by
      have h1:=h6.len
      rw [outM_len]at h1
      simp only at h1
      omega
     subst hn6
     have HR:=hid (show∃(j':Nat) (t:ES) (A1:Option Addr) (c1:Nat),j'≤2∧Value.int .i64 ((j:Int)+1)=.int .i64 j'∧Hid (Er w6 base E A1 (n+j') c1 t)∧Hid (FInv t)∧Hid (flN (2-j') t=flN 2 ⟨a,endC C a,ct,b⟩)∧Hid (Grew w A A1)∧Hid (Keep (foot E A) w w6)from
      ⟨j+1,_,A6,c6,by omega,rfl,hid h6,HFI,hid (by
       have:=HF1.out
       rw [show 2-j=(2-(j+1))+1 by omega]at this
       exact this),hid hgn2.1,hid hgn2.2⟩)
     clear HT hk5 hgn hgn2 h6 g6 k6
     go_wp2_with fail
     exact⟨HR.out,by simp [intOf];omega⟩
   · obtain rfl:j=2:=by omega
     have HT:=hid (show flushE ⟨a,C,ct,b⟩=t.b.tail from by rw [HFL.out,←HF1.out];rfl)
     have hlen:=HE1.out.len
     obtain⟨g,rfl,hgc,hgb,hgl,hgf⟩:=own_at HE1.out.own (by omega)
     have g0:wr.cell? ⟨E,3,none⟩=some (.slice (some ⟨g,0,none⟩) (n+2) c1):=HE1.out.blk.cell 3
     have g1:wr.cell? ⟨g,1+n,none⟩=some (.int .u8 (lastM t.b)):=by
      rw [Nat.add_comm 1 n]
      have:=hgl (n+1) _ (map_at _ _ (n+1) (by rw [hlen];omega))
      unfold lastM
      rw [hlen]
      exact this
     have hRd:Rd wr (some ⟨g,1,none⟩) (n+1) (t.b.tail.map (Value.int .u8)):=by
      have:=(Rd.of_own HE1.out.own).drop (k:=1) (cap:=c1) (by omega) (by omega)
      rw [if_neg (by omega),←List.map_drop,List.drop_one]at this
      exact this
     have hlt:lastM t.b.tail=lastM t.b:=by
      unfold lastM
      rw [List.length_tail,List.getD_eq_getElem?_getD,List.getD_eq_getElem?_getD,List.getElem?_tail]
      congr 3
      omega
     have g0a:(wr.alloc (.cells #[] 5)).cell? ⟨E,3,none⟩=some (.slice (some ⟨g,0,none⟩) (n+2) c1):=((Keep.refl (fun _=>False) wr).alloc _).cell g0 (fun h=>h)
     have HRD:=hid hRd
     have HLT:=hid hlt
     have HLN:=hid hlen
     have htl:t.b.tail.getD n 0=lastM t.b:=by
      rw [← HLT.out]
      unfold lastM
      rw [List.length_tail,HLN.out,show n+2-1-1=n by omega]
     have hcm:(n:Int)+2≤c1:=by omega
     by_cases hz:lastM t.b=255
     · have HF:=hid (show flushM t.b.tail=t.b.tail.dropLast from if_pos (by rw [hlt];exact hz))
       have HTL:=hid (htl.trans hz)
       clear hz htl hlt hRd hgl hgf g1 hlen
       go_wp2_with (
        at_builtin
        refine wpList_append_src _ rfl (.tmp 56) (.tmp 61) _ rfl wr.heap.size 5 i0 _ 1 Tryz.underlying25 hi0 hz0 hz1 hz2 rfl
         (World.ownsRow_made wr #[] 0 (Nat.le_refl _) (by simp [maxLen]) rfl) rfl (HRD.out.alloc _) rfl (oneCell_ints _ _) (by simp only [maxLen];omega) (by omega) (by simp) ?_
        intro v4 w4 hown4 hg4 hat4 _hold
        simp only [Nat.zero_add,List.nil_append]at hown4
        obtain⟨A4,c4,rfl⟩:=own_form hown4
        obtain⟨g4,rfl,hgc4,hgb4,hgl4,hgf4⟩:=own_at hown4 (by omega)
        have z4:w4.cell? ⟨g4,n,none⟩=some (.int .u8 (t.b.tail.getD n 0)):=hgl4 n _ (map_at _ _ n (by rw [List.length_tail,HLN.out];omega))
        rw [HTL.out]at z4
        have HO4:=hid hown4
        have HK6:=hid ((HK1.out.trans (((Keep.refl (fun _=>False) wr).alloc _).grown hg4 (fun k hk=>by simp [Value.ownBlock]at hk;omega)) (fun _ _ h=>h.elim)))
        have hb4:w.heap.size≤g4:=Nat.le_trans HK1.out.size hgb4
        clear hown4 hg4 hat4 _hold hgl4 hgf4 hgb4)
       have HR6:Hid (Rd w4 (some ⟨g4,0,none⟩) n ((flushM (flushE ⟨a,C,ct,b⟩)).map (Value.int .u8))):=hid (by
        rw [HT.out,HF.out]
        have:=(Rd.of_own HO4.out).take (k:=n) (by omega)
        rw [← List.map_take]at this
        have e:t.b.tail.take n=t.b.tail.dropLast:=by rw [List.dropLast_eq_take,List.length_tail,HLN.out];rfl
        rwa [e]at this)
       clear HO4
       go_ret
       exact⟨some ⟨g4,0,none⟩,n,c4,rfl,HR6.out,fun ad e=>by injection e with e;subst e;exact hb4,HK6.out⟩
     · have HF:=hid (show flushM t.b.tail=t.b.tail from if_neg (by rw [hlt];exact hz))
       have hz':(lastM t.b==255)=false:=by simpa using hz
       have HTL:=hid htl
       clear hz hlt hRd hgl hgf g1 hlen htl
       go_wp2_with (
        at_builtin
        refine wpList_append_src _ rfl (.tmp 56) (.tmp 61) _ rfl wr.heap.size 5 i0 _ 1 Tryz.underlying25 hi0 hz0 hz1 hz2 rfl
         (World.ownsRow_made wr #[] 0 (Nat.le_refl _) (by simp [maxLen]) rfl) rfl (HRD.out.alloc _) rfl (oneCell_ints _ _) (by simp only [maxLen];omega) (by omega) (by simp) ?_
        intro v4 w4 hown4 hg4 hat4 _hold
        simp only [Nat.zero_add,List.nil_append]at hown4
        obtain⟨A4,c4,rfl⟩:=own_form hown4
        obtain⟨g4,rfl,hgc4,hgb4,hgl4,hgf4⟩:=own_at hown4 (by omega)
        have z4:w4.cell? ⟨g4,n,none⟩=some (.int .u8 (t.b.tail.getD n 0)):=hgl4 n _ (map_at _ _ n (by rw [List.length_tail,HLN.out];omega))
        rw [HTL.out]at z4
        have HO4:=hid hown4
        have HK6:=hid ((HK1.out.trans (((Keep.refl (fun _=>False) wr).alloc _).grown hg4 (fun k hk=>by simp [Value.ownBlock]at hk;omega)) (fun _ _ h=>h.elim)))
        have hb4:w.heap.size≤g4:=Nat.le_trans HK1.out.size hgb4
        clear hown4 hg4 hat4 _hold hgl4 hgf4 hgb4)
       have HR6:Hid (Rd w4 (some ⟨g4,0,none⟩) (n+1) ((flushM (flushE ⟨a,C,ct,b⟩)).map (Value.int .u8))):=hid (by
        rw [HT.out,HF.out]
        exact Rd.of_own HO4.out)
       clear HO4
       go_ret
       exact⟨some ⟨g4,0,none⟩,n+1,c4,rfl,HR6.out,fun ad e=>by injection e with e;subst e;exact hb4,HK6.out⟩
end Go.Proofs.YthfogcgdijmaoaaGreat.Mq
