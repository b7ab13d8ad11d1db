/-
  Part 3 of the proof: BitModel. Conditions: those of the statements.
-/
import Derived.Test.YthfogcgdijmaoaaGreatJ1
import Derived.Laws.BitsAllLaws
set_option maxRecDepth 100000
set_option maxHeartbeats 16000000
set_option linter.unusedVariables false
set_option linter.unusedSimpArgs false
namespace Go.Proofs.YthfogcgdijmaoaaGreat
open Go.RowKit
def lastM (l:List Int):Int:=l.getD (l.length-1) 0
def topM (l:List Int):Int:=if lastM l=255 then 7 else 8
def stepL (l:List Int) (r x:Int):List Int:=if r=0 then l++[x%2*2^((topM l).toNat-1)]else l.set (l.length-1) (lastM l+x%2*2^(r.toNat-1))
def stepR (l:List Int) (r:Int):Int:=(if r=0 then topM l else r)-1
theorem lastM_snoc (l:List Int) (z:Int):lastM (l++[z])=z:=by simp [lastM]
theorem top_le (l:List Int):7≤topM l∧topM l≤8:=by unfold topM;split<;>omega
theorem set_last (l:List Int) (h:0<l.length) (z:Int):l.set (l.length-1) z=l.dropLast++[z]:=by
 obtain⟨a,b,rfl⟩: ∃a b,l=a++[b]:=by
  rcases List.eq_nil_or_concat l with h0|⟨a,b,h0⟩
  · subst h0;simp at h
  · exact⟨a,b,by simpa using h0⟩
 simp [List.set_append]
theorem snoc_last (l:List Int) (h:0<l.length):l.dropLast++[lastM l]=l:=by
 obtain⟨a,b,rfl⟩: ∃a b,l=a++[b]:=by
  rcases List.eq_nil_or_concat l with h0|⟨a,b,h0⟩
  · subst h0;simp at h
  · exact⟨a,b,by simpa using h0⟩
 simp [lastM]
structure BInv (l:List Int) (r:Int):Prop where
 bytes:Bytes l
 r0:0≤r
 r7:r≤7
 some_:0<r→0<l.length
 low:lastM l%2^r.toNat=0
 stuffed: ∀i,i+1<l.length→l.getD i 0=255→l.getD (i+1) 0≤127
 top:0<r→r<topM l.dropLast
theorem BInv.nil :BInv [] 0:=⟨fun z hz=>(by cases hz),by omega,by omega,fun h=>(by omega),(by simp [lastM]),fun i h=>(by simp at h),fun h=>(by omega)⟩
theorem lastM_byte {l:List Int} (h:Bytes l):0≤lastM l∧lastM l≤255:=by
 unfold lastM
 rcases Nat.eq_zero_or_pos l.length with h0|h0
 · rw [List.eq_nil_of_length_eq_zero h0];simp
 · have:l.getD (l.length-1) 0=l[l.length-1]'(by omega):=by rw [List.getD_eq_getElem?_getD,List.getElem?_eq_getElem (by omega)];rfl
   rw [this]
   exact h _ (List.getElem_mem _)
theorem add_fits (z b:Int) (r:Nat) (h0:0≤z) (T:Nat) (h1:z<2^T) (hr:r<T) (hz:z%2^(r+1)=0) (hb:0≤b∧b≤1):0≤z+b*2^r∧z+b*2^r<2^T∧(z+b*2^r)%2^r=0:=by
 have hp:(0:Int)<2^r:=Int.pow_pos (by omega)
 have e1:(2:Int)^(r+1)=2*2^r:=by rw [Int.pow_succ];omega
 have e2:(2:Int)^T=2^(T-(r+1))*(2*2^r):=by rw [← e1,←Int.pow_add];congr 1;omega
 have hq:(0:Int)<2^(T-(r+1)):=Int.pow_pos (by omega)
 rw [e1]at hz
 obtain⟨k,rfl⟩:=Int.dvd_of_emod_eq_zero hz
 rw [e2]at h1 ⊢
 generalize (2:Int)^r=p at*
 generalize (2:Int)^(T-(r+1))=q at*
 have hk:k<q:=by
  rw [Int.mul_comm]at h1
  exact Int.lt_of_mul_lt_mul_right h1 (by omega)
 have hk0:0≤k:=by
  rcases Int.lt_or_le k 0 with h|h
  · have:2*p*k<0:=Int.mul_neg_of_pos_of_neg (by omega) h
    omega
  · exact h
 have hkq:2*p*k≤2*p*(q-1):=Int.mul_le_mul_of_nonneg_left (by omega) (by omega)
 have e3:2*p*(q-1)=q*(2*p)-2*p:=by rw [Int.mul_sub,Int.mul_one,Int.mul_comm (2*p) q]
 have hbp:0≤b*p∧b*p≤p:=by
  have:b=0∨b=1:=by omega
  rcases this with rfl|rfl<;>omega
 refine⟨?_,?_,?_⟩
 · omega
 · omega
 · have:2*p*k+b*p=p*(2*k+b):=by rw [Int.mul_add,Int.mul_comm p b,←Int.mul_assoc,Int.mul_comm p 2]
   rw [this]
   exact Int.mul_emod_right _ _
theorem mod2 (x:Int):0≤x%2∧x%2≤1:=by omega
theorem getD_snoc (l:List Int) (z:Int) (i:Nat):(l++[z]).getD i 0=if i<l.length then l.getD i 0 else if i=l.length then z else 0:=by
 split
 · rename_i h;simp [List.getElem?_append,h]
 · split
   · rename_i h;subst h;simp
   · rename_i h1 h2;rw [List.getD_eq_getElem?_getD,List.getElem?_eq_none (by simp;omega)];rfl
theorem BInv.step {l:List Int} {r:Int} (h:BInv l r) (x:Int):BInv (stepL l r x) (stepR l r):=by
 have hx:=mod2 x
 unfold stepL stepR
 by_cases hr:r=0
 · rw [if_pos hr,if_pos hr]
   have ht:=top_le l
   obtain⟨t,ht'⟩: ∃t:Nat,topM l=t+1:=⟨(topM l).toNat-1,by omega⟩
   have e:(topM l).toNat-1=t:=by omega
   have e':topM l-1=t:=by omega
   have hf:=add_fits 0 (x%2) t (by omega) (t+1) (Int.pow_pos (by omega)) (by omega) (by simp) hx
   simp only [Int.zero_add]at hf
   have h8:(2:Int)^(t+1)≤256:=by
    have:t=6∨t=7:=by omega
    rcases this with rfl|rfl<;>decide
   rw [e,e']
   refine⟨?_,by omega,by omega,fun _=>by simp,?_,?_,fun _=>by rw [List.dropLast_concat];omega⟩
   · intro z hz
     rcases List.mem_append.1 hz with hz|hz
     · exact h.bytes z hz
     · simp at hz;subst hz;omega
   · rw [lastM_snoc,Int.toNat_natCast];exact hf.2.2
   · intro i hi he
     rw [getD_snoc]at he ⊢
     simp at hi
     by_cases h1:i+1<l.length
     · rw [if_pos h1]
       rw [if_pos (by omega)]at he
       exact h.stuffed i h1 he
     · rw [if_neg h1,if_pos (by omega)]
       rw [if_pos (by omega)]at he
       have:lastM l=255:=by unfold lastM;rw [← he];congr 1;omega
       have h7:topM l=7:=if_pos this
       have:t=6:=by omega
       subst this
       have:x%2=0∨x%2=1:=by omega
       rcases this with e|e<;>rw [e]<;>decide
 · rw [if_neg hr,if_neg hr]
   have hl:=h.some_ (by have:=h.r0;omega)
   have hb:=lastM_byte h.bytes
   obtain⟨t,rfl⟩: ∃t:Nat,r=t+1:=⟨r.toNat-1,by have:=h.r0;omega⟩
   have e:((t:Int)+1).toNat-1=t:=by omega
   have e':(t:Int)+1-1=t:=by omega
   have e2:((t:Int)+1).toNat=t+1:=by omega
   have hlow:=h.low
   have h7:=h.r7
   rw [e2]at hlow
   rw [e,e']
   have hf:=add_fits (lastM l) (x%2) t hb.1 8 (by omega) (by omega) hlow hx
   rw [set_last l hl]
   have hmem: ∀z∈l.dropLast,0≤z∧z≤255:=fun z hz=>h.bytes z ((List.dropLast_sublist l).subset hz)
   have htop:=h.top (by omega)
   refine⟨?_,by omega,by omega,fun _=>by simp,?_,?_,fun _=>by rw [List.dropLast_concat];omega⟩
   · intro z hz
     rcases List.mem_append.1 hz with hz|hz
     · exact hmem z hz
     · simp at hz;subst hz;omega
   · rw [lastM_snoc];simpa using hf.2.2
   · intro i hi he
     have hst:=h.stuffed i
     rw [← snoc_last l hl,getD_snoc,getD_snoc]at hst
     rw [getD_snoc]at he ⊢
     simp only [List.length_append,List.length_dropLast,List.length_cons,List.length_nil]at hi hst he ⊢
     by_cases h1:i+1<l.length-1
     · rw [if_pos h1]
       rw [if_pos (by omega)]at he
       rw [if_pos h1,if_pos (by omega)]at hst
       exact hst (by omega) he
     · rw [if_neg h1,if_pos (by omega)]
       rw [if_pos (by omega)]at he
       rw [if_neg h1,if_pos (show i+1=l.length-1 by omega),if_pos (by omega)]at hst
       have:=hst (by omega) he
       have:=add_fits (lastM l) (x%2) t hb.1 7 (by omega) (by omega) hlow hx
       omega
theorem and_one (x:Int):bits .and .i64 x 1=x%2:=by
 have h1:((BitVec.ofInt 64 x&&&BitVec.ofInt 64 1).toNat:Int)=x%2:=by
  rw [BitVec.toNat_and]
  have:(BitVec.ofInt 64 1).toNat=1:=by decide
  rw [this,Nat.and_one_is_mod,BitVec.toNat_ofInt]
  omega
 show IntKind.i64.wrap ((BitVec.ofInt 64 x&&&BitVec.ofInt 64 1).toNat:Int)=_
 rw [h1,IntWalk.i64_in _ (by omega)]
theorem nat_or_add (z b r:Nat) (hz:z%2^(r+1)=0) (hb:b≤1):z|||b*2^r=z+b*2^r:=by
 obtain⟨k,rfl⟩:=Nat.dvd_of_mod_eq_zero hz
 have hlt:b*2^r<2^(r+1):=by
  rw [Nat.pow_succ]
  have:0<2^r:=Nat.two_pow_pos r
  have:b=0∨b=1:=by omega
  rcases this with rfl|rfl<;>omega
 rw [Nat.two_pow_add_eq_or_of_lt hlt]
theorem i64_or_nat (a b:Nat) (ha:a<9223372036854775808) (hb:b<9223372036854775808):bits .or .i64 (a:Int) (b:Int)=((a|||b:Nat):Int):=by
 have hx:a|||b<2^63:=Nat.or_lt_two_pow (by omega) (by omega)
 have e: ∀a:Nat,a<9223372036854775808→(BitVec.ofInt 64 (a:Int)).toNat=a:=fun a ha=>by
  rw [BitVec.ofInt_natCast,BitVec.toNat_ofNat];exact Nat.mod_eq_of_lt (by omega)
 show IntKind.i64.wrap ((BitVec.ofInt 64 (a:Int)|||BitVec.ofInt 64 (b:Int)).toNat:Int)=_
 rw [BitVec.toNat_or,e a ha,e b hb,IntWalk.i64_in _ (by omega)]
theorem pow_le_128 (t:Nat) (ht:t≤7):(1:Int)≤2^t∧(2:Int)^t≤128:=by
 have: ∀t:Nat,t≤7→(1:Int)≤2^t∧(2:Int)^t≤128:=by decide
 exact this t ht
theorem bit_pow (x:Int) (t:Nat) (ht:t≤7):0≤x%2*2^t∧x%2*2^t≤128:=by
 have:=pow_le_128 t ht
 have:x%2=0∨x%2=1:=by omega
 rcases this with e|e<;>rw [e]<;>omega
theorem orI_add (z x:Int) (t:Nat) (h0:0≤z) (h1:z≤255) (ht:t≤7) (hz:z%2^(t+1)=0):bits .or .i64 z (wrap64 (bits .and .i64 x 1*2^t))=z+x%2*2^t:=by
 have hbp:=bit_pow x t ht
 rw [and_one,IntWalk.wrap64_in _ (by omega)]
 obtain⟨Z,rfl⟩:=Int.eq_ofNat_of_zero_le h0
 obtain⟨b,hb⟩:=Int.eq_ofNat_of_zero_le (mod2 x).1
 rw [hb]at hbp ⊢
 have e3:(b:Int)*2^t=((b*2^t:Nat):Int):=by simp
 rw [e3]at hbp ⊢
 have hz':Z%2^(t+1)=0:=by
  have:((Z%2^(t+1):Nat):Int)=0:=by simpa using hz
  omega
 rw [i64_or_nat Z (b*2^t) (by omega) (by omega),nat_or_add Z b t hz' (by have:=(mod2 x).2;omega)]
 simp
def stepM (s:List Int×Int) (x:Int):List Int×Int:=(stepL s.1 s.2 x,stepR s.1 s.2)
def runM (s:List Int×Int) (bs:List Int):List Int×Int:=bs.foldl stepM s
def bitsOf (x:Int):Nat→List Int
 |0=>[]
 |k+1=>x/2^k%2::bitsOf x k
def numB (x size:Int):List Int:=if 1≤size∧size≤32 then bitsOf x size.toNat else []
theorem bitsOf_length (x:Int) (k:Nat):(bitsOf x k).length=k:=by induction k with|zero=>rfl|succ k ih=>simp [bitsOf,ih]
theorem numB_le (x size:Int):(numB x size).length≤32:=by
 unfold numB
 split
 · rw [bitsOf_length];omega
 · simp
theorem stepL_mod (l:List Int) (r x:Int):stepL l r (x%2)=stepL l r x:=by
 have:x%2%2=x%2:=by omega
 unfold stepL
 rw [this]
theorem stepL_length (l:List Int) (r x:Int):(stepL l r x).length≤l.length+1:=by
 unfold stepL
 split<;>simp
theorem runM_length (bs:List Int): ∀s,(runM s bs).1.length≤s.1.length+bs.length:=by
 induction bs with
 |nil=>intro s;simp [runM]
 |cons b bs ih=>
  intro s
  have h1:=ih (stepM s b)
  have h2:=stepL_length s.1 s.2 b
  show(runM (stepM s b) bs).1.length≤_
  simp only [stepM,List.length_cons]at*
  omega
theorem runM_inv (bs:List Int): ∀s,BInv s.1 s.2→BInv (runM s bs).1 (runM s bs).2:=by
 induction bs with
 |nil=>intro s h;exact h
 |cons b bs ih=>intro s h;exact ih (stepM s b) (h.step b)
def outB (l:List Int):List Int:=if lastM l=255 then l++[0]else l
theorem outB_le (l:List Int):(outB l).length≤l.length+1:=by unfold outB;split<;>simp
theorem outB_bytes {l:List Int} (h:Bytes l):Bytes (outB l):=by
 unfold outB
 split
 · intro z hz
   rcases List.mem_append.1 hz with hz|hz
   · exact h z hz
   · simp at hz;omega
 · exact h
end Go.Proofs.YthfogcgdijmaoaaGreat
