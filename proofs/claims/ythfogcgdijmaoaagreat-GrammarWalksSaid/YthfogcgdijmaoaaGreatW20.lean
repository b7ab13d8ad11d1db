/-
  Part 20 of the proof: SEnc. Conditions: those of the statements.
-/
import Derived.Test.YthfogcgdijmaoaaGreatW5
set_option maxRecDepth 100000
set_option maxHeartbeats 16000000
set_option linter.unusedVariables false
set_option linter.unusedSimpArgs false
namespace Go.Proofs.YthfogcgdijmaoaaGreat.Mq
open Go.RowKit
theorem with_two {P:Program} {code:Code} {Q:Exit→Act→World→Prop} {a:Act} {W w2:World} {E K:Nat} {t t2:TypeId} {cs cs' ds ds':Array Value} (h:Keep (fun j=>j=E∨j=K) w2 W) (b:Blk W E t cs) (e:cs=cs') (b2:Blk W K t2 ds) (e2:ds=ds')
 (k: ∀w3,Keep (fun j=>j=E∨j=K) w2 w3→Blk w3 E t cs'→Blk w3 K t2 ds'→code.wp P Q a w3):code.wp P Q a W:=k W h (e▸b) (e2▸b2)
def RencP (w:World) (base E K:Nat) (A:Option Addr) (s:ES) (l:Array Value) (e:Ending) (w':World):Prop:=
 ∃A' n' c',e=.returned (.tuple #[])∧Er w' base E A' n' c' s∧Blk w' K 165 l∧Grew w A A'∧Keep (fun j=>foot E A j∨j=K) w w'
def farR (E:Nat) (w:World):Nat:=match w.cell? ⟨E,0,none⟩with
 |some (.int _ a)=>(32768-a).toNat
 |_=>0
theorem farR_er {w:World} {base E:Nat} {A:Option Addr} {n c:Nat} {s:ES} (h:Er w base E A n c s):farR E w=(32768-s.a).toNat:=by
 unfold farR
 rw [show w.cell? ⟨E,0,none⟩=some (.int .i64 s.a)from h.blk.cell 0]
def RR (w:World) (base E:Nat) (A:Option Addr) (n:Nat) (F:ES) (wr:World):Prop:=
 ∃(k:Nat) (t:ES) (A1:Option Addr) (n1 c1:Nat),k≤16∧Hid (Er wr base E A1 n1 c1 t)∧Hid (EInv t)∧Hid ((t.a<32768∧32768≤t.a*2^k∧renM k t=F)∨(32768≤t.a∧t=F))∧n1+k≤n+16∧Hid (Grew w A A1)∧Hid (Keep (foot E A) w wr)
theorem rr_round {w wr:World} {base E:Nat} {A A1:Option Addr} {n n1 c1 k:Nat} {F t:ES} (hk:k≤16) (hta:t.a<32768) (HTA:32768≤t.a*2^k) (HE:Er wr base E A1 n1 c1 t) (HI:EInv t) (HR:renM k t=F) (hn1:n1+k≤n+16)
 {w6:World} {A6:Option Addr} {n6 c6:Nat} (h6:Er w6 base E A6 n6 c6 (dblM t)) (g6:Grew w A A6) (k6:Keep (foot E A) w w6):
 RR w base E A n F w6∧farR E w6<farR E wr:=by
 have ha0:=HI.a0
 have ha:=dblM_a t
 obtain⟨k',rfl⟩: ∃k',k=k'+1:=by
  cases k with
  |zero=>simp at HTA;omega
  |succ k=>exact⟨k,rfl⟩
 have hl1:=HE.len
 have hl6:=h6.len
 have hl:=dblM_len t
 refine⟨⟨k',dblM t,A6,n6,c6,by omega,hid h6,hid (HI.dbl hta),hid ?_,by omega,hid g6,hid k6⟩,by rw [farR_er h6,farR_er HE,ha];omega⟩
 by_cases hc:32768≤(dblM t).a
 · right
   have e:renM (k'+1) t=dblM t:=if_pos hc
   exact⟨hc,by rw [← HR,e]⟩
 · left
   have e:renM (k'+1) t=renM k' (dblM t):=if_neg hc
   refine⟨by omega,?_,by rw [← HR,e]⟩
   rw [ha]
   have e2:(2:Int)^(k'+1)=2*2^k':=by rw [Int.pow_succ,Int.mul_comm]
   rw [e2,←Int.mul_assoc]at HTA
   exact HTA
theorem Er.trip {w:World} {base E:Nat} {A:Option Addr} {n c:Nat} {a C ct:Int} {l:List Int} (h:Er w base E A n c ⟨a,C,ct,l⟩) {w':World} {cs:Array Value} (a' C' ct':Int) (hk:Keep (fun j=>j=E) w w') (hb:Blk w' E 189 cs) (e:cs=#[.int .i64 a',.int .i64 C',.int .i64 ct',.slice A n c]):
 Er w' base E A n c ⟨a',C',ct',l⟩∧Keep (fun j=>j=E) w w':=by
 subst e
 exact⟨⟨hb,own_keep h.own hk (fun k e hk=>own_ne h.own h.blk (by decide) (by rw [e,hk]))⟩,hk⟩
theorem Blk.farK {w:World} {g k:Nat} (hne:g≠k) {t:TypeId} {cs:Array Value} {i:Nat} {u:Value} (h:Blk w g t cs):Blk (w.setCell ⟨k,i,none⟩ u) g t cs:=Blk.far h (p:=⟨k,i,none⟩) hne u
theorem Keep.setE {E K:Nat} {a w:World} (h:Keep (fun j=>j=E∨j=K) a w) (i:Nat) (u:Value):Keep (fun j=>j=E∨j=K) a (w.setCell ⟨E,i,none⟩ u):=Keep.setCell (S:=fun j=>j=E∨j=K) h (p:=⟨E,i,none⟩) (.inl (.inl rfl)) u
theorem Keep.setK {E K:Nat} {a w:World} (h:Keep (fun j=>j=E∨j=K) a w) (i:Nat) (u:Value):Keep (fun j=>j=E∨j=K) a (w.setCell ⟨K,i,none⟩ u):=Keep.setCell (S:=fun j=>j=E∨j=K) h (p:=⟨K,i,none⟩) (.inl (.inr rfl)) u
theorem rr_fin {w wr:World} {base E:Nat} {A A1:Option Addr} {n n1 c1:Nat} {F:ES} {a C ct:Int} {b:List Int} (HD: ∀(w6:World) (A6:Option Addr) (n6 c6:Nat),Er w6 base E A6 n6 c6 ⟨a*2,C*2,ct-1,b⟩→Grew w A A6→Keep (foot E A) w w6→RR w base E A n F w6∧farR E w6<farR E wr)
 (HE:Er wr base E A1 n1 c1 ⟨a,C,ct,b⟩) (HG:Grew w A A1) (HK:Keep (foot E A) w wr) {W:World} {cs:Array Value} (h:Keep (fun j=>j=E) wr W) (hb:Blk W E 189 cs) (e:cs=#[.int .i64 (a*2),.int .i64 (C*2),.int .i64 (ct-1),.slice A1 n1 c1]):
 RR w base E A n F W∧farR E W<farR E wr:=by
 obtain⟨r1,r2⟩:=HE.trip (a*2) (C*2) (ct-1) h hb e
 exact HD W A1 n1 c1 r1 HG (HK.trans r2 (fun _ _ h=>.inl h))
theorem renc_b1 (w:World) (base E K k:Nat) (A:Option Addr) (n c:Nat) (s:ES) (l:Array Value) (I M:Nat) (bit:Int) (h:Er w base E A n c s) (hi:EInv s) (ha:32768≤s.a) (ha2:s.a<65536) (hC:Blk w K 165 l) (hlI:l[9+k*2]? =some (.int .i64 I)) (hlM:l[9+k*2+1]? =some (.int .i64 M)) (hI46:I<47) (hM2:M<2) (hk:k<19) (hb:base≤w.heap.size) (hn:n≤1073741000)
 (hbe:(bit%2==(M:Int))=true) (q m lp:Nat) (sw:Bool) (ht:tabAt I=(q,m,lp,sw)) (h32:32768≤s.a-(q:Int)):
 Calls Tryz.prog 130 #[.pointer (some ⟨E,0,none⟩),.pointer (some ⟨K,9,none⟩),.int .i64 k,.int .i64 bit] w (RencP w base E K A (encM s q true) (l)):=by
 have HT:=hid ((valM_tab _ hI46).trans ht)
 obtain⟨hq1,hq2⟩:=tab_q _ hI46
 rw [ht]at hq1 hq2
 simp only at hq1 hq2
 have HE:=hid h
 have HI:=hid hi
 have HC:=hid hC
 have HLI:=hid hlI
 have HLM:=hid hlM
 have hC0:=hi.c0
 have hC1:s.c<4611686018427387904:=by
  have h1:=hi.top
  have:(2:Int)^(24-s.ct).toNat≤2^24:=by
   have h1:=hi.ct1
   have:(2:Nat)^(24-s.ct).toNat≤2^24:=Nat.pow_le_pow_right (by omega) (by omega)
   exact_mod_cast this
  omega
 have hbit:=bit_and bit
 have k0:w.cell? ⟨K,9+k*2,none⟩=some (.int .i64 I):=(Blk.cell hC (9+k*2)).trans hlI
 clear h hi hC hlI hlM ht
 obtain⟨a,C,ct,b⟩:=s
 simp only at ha ha2 hC0 hC1 h32
 have hnE:K≠E:=Blk.ne_ HC.out HE.out.blk (by decide)
 have hEK:E≠K:=hnE.symm
 have HAK:=hid (show∀ad,A=some ad→ad.block≠K from fun ad e he=>own_ne HE.out.own HC.out (by decide) (by subst e;simp [Value.ownBlock];exact he))
 have hM:encM ⟨a,C,ct,b⟩ q true=⟨a-q,C+q,ct,b⟩:=by unfold encM;rw [if_pos rfl,if_pos h32]
 rw [hM]
 clear hM
 go_enter Tryz.func130,Tryz.ntmps130
 go_wp2_with fail
 refine(rat_all I q m lp sw w HT.out).mono ?_
 rintro e w1 ⟨rfl,hk1⟩
 have HW:=hid (fun (w2:World) (h2:w2=w1.alloc (.cells #[.int .i64 q,.int .i64 m,.int .i64 lp,.bool sw] 203))=>by
  have hk2:Keep (fun _=>False) w w2:=by rw [h2];exact hk1.alloc _
  have hS:Blk w2 w1.heap.size 203 #[.int .i64 q,.int .i64 m,.int .i64 lp,.bool sw]:=by rw [h2];exact Blk.new w1 _ _
  exact(⟨hk2,hS,HE.out.keep hk2 (fun h=>h) (fun _ _ h=>h),Blk.keep HC.out hk2 (fun h=>h)⟩:Keep (fun _=>False) w w2∧Blk w2 w1.heap.size 203 #[.int .i64 q,.int .i64 m,.int .i64 lp,.bool sw]∧Er w2 base E A n c ⟨a,C,ct,b⟩∧Blk w2 K 165 l))
 clear hk1 k0
 go_wp2_with fail
 generalize w1.alloc (.cells #[.int .i64 q,.int .i64 m,.int .i64 lp,.bool sw] 203)=w2 at*
 obtain⟨hk2,hS,hE2,hC2⟩:=HW.out w2 rfl
 clear HW
 generalize w1.heap.size=S at*
 have s0:w2.cell? ⟨S,0,none⟩=some (.int .i64 q):=hS.cell 0
 have s1:w2.cell? ⟨S,1,none⟩=some (.int .i64 m):=hS.cell 1
 have s2:w2.cell? ⟨S,2,none⟩=some (.int .i64 lp):=hS.cell 2
 have s3:w2.cell? ⟨S,3,none⟩=some (.bool sw):=hS.cell 3
 have e0:w2.cell? ⟨E,0,none⟩=some (.int .i64 a):=hE2.blk.cell 0
 have e1:w2.cell? ⟨E,1,none⟩=some (.int .i64 C):=hE2.blk.cell 1
 have f0:=hE2.blk.frozen 0
 have f1:=hE2.blk.frozen 1
 have k0:w2.cell? ⟨K,9+k*2,none⟩=some (.int .i64 I):=(Blk.cell hC2 (9+k*2)).trans HLI.out
 have k1:w2.cell? ⟨K,9+k*2+1,none⟩=some (.int .i64 M):=(Blk.cell hC2 (9+k*2+1)).trans HLM.out
 have fk0:=Blk.frozen hC2 (9+k*2)
 have fk1:=Blk.frozen hC2 (9+k*2+1)
 have hSE:S≠E:=Blk.ne_ hS hE2.blk (by decide)
 have hSK:S≠K:=Blk.ne_ hS hC2 (by decide)
 have HE2:=hid hE2
 have HB2:=hid hE2.blk
 have HC2:=hid (show Blk w2 K 165 l from hC2)
 have HK2:=hid hk2
 clear hk2 hS hE2 hC2
 have HR:Hid (∀ (w3:World) (cs:Array Value),Keep (fun j=>j=E) w2 w3→Blk w3 E 189 cs→cs=#[.int .i64 (a-q),.int .i64 (C+q),.int .i64 ct,.slice A n c]→RencP w base E K A ⟨a-q,C+q,ct,b⟩ l (.returned (.tuple #[])) w3):=hid (fun w3 cs h3 b3 e3=>by
  obtain⟨r1,r2⟩:=HE2.out.trip (a-q) (C+q) ct h3 b3 e3
  exact⟨A,n,c,rfl,r1,Blk.keep HC2.out r2 hnE,Grew.refl w A,(HK2.out.mono (fun _ _ h=>h.elim)).trans r2 (fun _ _ h=>.inl (.inl h))⟩)
 go_region
 go_wp2_with fail
 go_region
 go_wp2_with fail
 refine bodyPost_ret (results_none rfl _ _ _) rfl ?_
 apply HR.out
 · with_reducible (repeat(first|refine Keep.drew ?_|refine Keep.setR ?_ _ _|exact Keep.refl _ _))
 · with_reducible (repeat(first|apply Blk.drew|apply Blk.set_|exact HB2.out))
 · first|rfl|simp
theorem renc_b2 (w:World) (base E K k:Nat) (A:Option Addr) (n c:Nat) (s:ES) (l:Array Value) (I M:Nat) (bit:Int) (h:Er w base E A n c s) (hi:EInv s) (ha:32768≤s.a) (ha2:s.a<65536) (hC:Blk w K 165 l) (hlI:l[9+k*2]? =some (.int .i64 I)) (hlM:l[9+k*2+1]? =some (.int .i64 M)) (hI46:I<47) (hM2:M<2) (hk:k<19) (hb:base≤w.heap.size) (hn:n≤1073741000)
 (hbe:(bit%2==(M:Int))=true) (q m lp:Nat) (sw:Bool) (ht:tabAt I=(q,m,lp,sw)) (h32: ¬32768≤s.a-(q:Int)) (hsm:s.a-(q:Int)<q):
 Calls Tryz.prog 130 #[.pointer (some ⟨E,0,none⟩),.pointer (some ⟨K,9,none⟩),.int .i64 k,.int .i64 bit] w (RencP w base E K A (encM s q true) (l.setIfInBounds (9+k*2) (.int .i64 m))):=by
 have HT:=hid ((valM_tab _ hI46).trans ht)
 obtain⟨hq1,hq2⟩:=tab_q _ hI46
 rw [ht]at hq1 hq2
 simp only at hq1 hq2
 have HE:=hid h
 have HI:=hid hi
 have HC:=hid hC
 have HLI:=hid hlI
 have HLM:=hid hlM
 have hC0:=hi.c0
 have hC1:s.c<4611686018427387904:=by
  have h1:=hi.top
  have:(2:Int)^(24-s.ct).toNat≤2^24:=by
   have h1:=hi.ct1
   have:(2:Nat)^(24-s.ct).toNat≤2^24:=Nat.pow_le_pow_right (by omega) (by omega)
   exact_mod_cast this
  omega
 have hbit:=bit_and bit
 have k0:w.cell? ⟨K,9+k*2,none⟩=some (.int .i64 I):=(Blk.cell hC (9+k*2)).trans hlI
 clear h hi hC hlI hlM ht
 obtain⟨a,C,ct,b⟩:=s
 simp only at ha ha2 hC0 hC1 h32 hsm
 have hnE:K≠E:=Blk.ne_ HC.out HE.out.blk (by decide)
 have hEK:E≠K:=hnE.symm
 have HAK:=hid (show∀ad,A=some ad→ad.block≠K from fun ad e he=>own_ne HE.out.own HC.out (by decide) (by subst e;simp [Value.ownBlock];exact he))
 have hM:encM ⟨a,C,ct,b⟩ q true=renM 16 ⟨q,C,ct,b⟩:=by unfold encM;rw [if_pos rfl,if_neg h32,if_pos hsm]
 have hM2':(M:Int)<2:=by omega
 rw [hM]
 clear hM
 go_enter Tryz.func130,Tryz.ntmps130
 go_wp2_with fail
 refine(rat_all I q m lp sw w HT.out).mono ?_
 rintro e w1 ⟨rfl,hk1⟩
 have HW:=hid (fun (w2:World) (h2:w2=w1.alloc (.cells #[.int .i64 q,.int .i64 m,.int .i64 lp,.bool sw] 203))=>by
  have hk2:Keep (fun _=>False) w w2:=by rw [h2];exact hk1.alloc _
  have hS:Blk w2 w1.heap.size 203 #[.int .i64 q,.int .i64 m,.int .i64 lp,.bool sw]:=by rw [h2];exact Blk.new w1 _ _
  exact(⟨hk2,hS,HE.out.keep hk2 (fun h=>h) (fun _ _ h=>h),Blk.keep HC.out hk2 (fun h=>h)⟩:Keep (fun _=>False) w w2∧Blk w2 w1.heap.size 203 #[.int .i64 q,.int .i64 m,.int .i64 lp,.bool sw]∧Er w2 base E A n c ⟨a,C,ct,b⟩∧Blk w2 K 165 l))
 clear hk1 k0
 go_wp2_with fail
 generalize w1.alloc (.cells #[.int .i64 q,.int .i64 m,.int .i64 lp,.bool sw] 203)=w2 at*
 obtain⟨hk2,hS,hE2,hC2⟩:=HW.out w2 rfl
 clear HW
 generalize w1.heap.size=S at*
 have s0:w2.cell? ⟨S,0,none⟩=some (.int .i64 q):=hS.cell 0
 have s1:w2.cell? ⟨S,1,none⟩=some (.int .i64 m):=hS.cell 1
 have s2:w2.cell? ⟨S,2,none⟩=some (.int .i64 lp):=hS.cell 2
 have s3:w2.cell? ⟨S,3,none⟩=some (.bool sw):=hS.cell 3
 have e0:w2.cell? ⟨E,0,none⟩=some (.int .i64 a):=hE2.blk.cell 0
 have e1:w2.cell? ⟨E,1,none⟩=some (.int .i64 C):=hE2.blk.cell 1
 have f0:=hE2.blk.frozen 0
 have f1:=hE2.blk.frozen 1
 have k0:w2.cell? ⟨K,9+k*2,none⟩=some (.int .i64 I):=(Blk.cell hC2 (9+k*2)).trans HLI.out
 have k1:w2.cell? ⟨K,9+k*2+1,none⟩=some (.int .i64 M):=(Blk.cell hC2 (9+k*2+1)).trans HLM.out
 have fk0:=Blk.frozen hC2 (9+k*2)
 have fk1:=Blk.frozen hC2 (9+k*2+1)
 have hSE:S≠E:=Blk.ne_ hS hE2.blk (by decide)
 have hSK:S≠K:=Blk.ne_ hS hC2 (by decide)
 have HE2:=hid hE2
 have HB2:=hid hE2.blk
 have HC2:=hid (show Blk w2 K 165 l from hC2)
 have HK2:=hid hk2
 clear hk2 hS hE2 hC2
 go_region
 go_wp2_with fail
 go_region
 go_wp2_with fail
 go_region
 go_wp2_with fail
 apply with_two (w2:=w2) (E:=E) (K:=K) (t:=189) (t2:=165) (cs':=#[.int .i64 ((q:Int)),.int .i64 (C),.int .i64 ct,.slice A n c]) (ds':=(l.setIfInBounds (9+k*2) (.int .i64 m)))
 · with_reducible (repeat(first|refine Keep.drew ?_|refine Keep.setE ?_ _ _|refine Keep.setK ?_ _ _|exact Keep.refl _ _))
 · with_reducible (repeat(first|apply Blk.drew|apply Blk.set_|apply Blk.farK hEK|exact HB2.out))
 · first|rfl|simp
 · with_reducible (repeat(first|apply Blk.drew|apply Blk.set_|apply Blk.farK hnE|exact HC2.out))
 · rfl
 intro w3 hk3 hbE hbK
 have HE3:Hid (Er w3 base E A n c ⟨(q:Int),C,ct,b⟩):=hid ⟨hbE,own_keep HE2.out.own hk3 (fun j e hj=>by
  rcases hj with hj|hj
  · exact own_ne HE2.out.own HE2.out.blk (by decide) (by rw [e,hj])
  · exact own_ne HE2.out.own HC2.out (by decide) (by rw [e,hj]))⟩
 have HC3:=hid (show Blk w3 K 165 (l.setIfInBounds (9+k*2) (.int .i64 m))from hbK)
 have HK3:=hid ((HK2.out.mono (fun _ _ h=>h.elim):Keep (fun j=>foot E A j∨j=K) w w2).trans hk3 (fun j _ h=>by
  rcases h with h|h
  · exact .inl (.inl h)
  · exact .inr h))
 have hb3:base≤w3.heap.size:=Nat.le_trans hb HK3.out.size
 have HI3:=hid (HI.out.step (a:=(q:Int)) (C:=C) (by omega) (by omega) (by simp only;omega))
 clear hk3 hbE hbK s0 s1 s2 s3 e0 e1 f0 f1 k0 k1 fk0 fk1 HE2 HB2 HC2 HK2 hSE hSK hbe
 go_loopw [] (fun wr=>RR w3 base E A n (renM 16 ⟨(q:Int),C,ct,b⟩) wr) (fun wr=>farR E wr)
 case atStart=>exact⟨16,_,A,n,c,by omega,HE3,HI3,hid (.inl ⟨by show((q:Int):Int)<32768;omega,far16 HI3.out.a0,rfl⟩),by omega,hid (Grew.refl _ _),hid (Keep.refl _ _)⟩
 case round=>
  obtain⟨j,t,A1,n1,c1,hj,HEt,HIt,HRt,hn1,HG,HKr⟩:=hrel
  have hl1:=HEt.out.len
  have hsome:=HIt.out.some_
  have h28:=hid (fun h=>HIt.out.c28 h)
  have HDB:=hid (show dblM t=if t.ct-1=0 then outM ⟨t.a*2,t.c*2,t.ct-1,t.b⟩else⟨t.a*2,t.c*2,t.ct-1,t.b⟩from rfl)
  have HDR:=hid (fun (hta:t.a<32768) (w6:World) (A6:Option Addr) (n6 c6:Nat) (h6:Er w6 base E A6 n6 c6 (dblM t)) (g6:Grew w3 A A6) (k6:Keep (foot E A) w3 w6)=>by
   rcases HRt.out with⟨_,r2,r3⟩|⟨r1,_⟩
   · exact rr_round hj hta r2 HEt.out HIt.out r3 hn1 h6 g6 k6
   · omega)
  have HBY:=hid HIt.out.bytes
  have hct1:=HIt.out.ct1
  have hct12:=HIt.out.ct12
  have ha1:=HIt.out.a0
  have hc0:=HIt.out.c0
  have hctop:t.c<4611686018427387904:=by
   have h1:=HIt.out.top
   have:(2:Int)^(24-t.ct).toNat≤2^24:=by
    have:(2:Nat)^(24-t.ct).toNat≤2^24:=Nat.pow_le_pow_right (by omega) (by omega)
    exact_mod_cast this
   omega
  obtain⟨a1,C1,t1,b1⟩:=t
  simp only at hl1 hsome hct1 hct12 ha1 hc0 hctop
  have r0:wr.cell? ⟨E,0,none⟩=some (.int .i64 a1):=HEt.out.blk.cell 0
  have r1:wr.cell? ⟨E,1,none⟩=some (.int .i64 C1):=HEt.out.blk.cell 1
  have r2:wr.cell? ⟨E,2,none⟩=some (.int .i64 t1):=HEt.out.blk.cell 2
  have g0:=HEt.out.blk.frozen 0
  have g1:=HEt.out.blk.frozen 1
  have g2:=HEt.out.blk.frozen 2
  have HBr:=hid HEt.out.blk
  by_cases hlt:a1<32768
  · have HDR:=hid (HDR.out hlt)
    by_cases hc:t1-1=0
    · have h28':=h28.out hc
      rw [HDB.out,if_pos hc]at HDR
      have hc':(t1-1==0)=true:=by simpa using hc
      clear hc HDB h28
      go_wp2_with fail
      go_region
      go_wp2_with fail
      apply with_blk (w2:=wr) (E:=E) (t:=189) (cs':=#[.int .i64 (a1*2),.int .i64 (C1*2),.int .i64 (t1-1),.slice A1 n1 c1])
      · with_reducible (repeat(first|refine Keep.drew ?_|refine Keep.setR ?_ _ _|exact Keep.refl _ _))
      · with_reducible (repeat(first|apply Blk.drew|apply Blk.set_|exact HBr.out))
      · first|rfl|simp [Int.mul_comm]
      intro w5 h5 b5
      obtain⟨q1,q2⟩:=HEt.out.trip (a1*2) (C1*2) (t1-1) h5 b5 rfl
      refine(rout_any w5 base E A1 n1 c1 _ q1 (Nat.le_trans hb3 (Nat.le_trans HKr.out.size q2.size)) (by omega) (by omega) HBY.out (by simp only;omega) h28').mono ?_
      rintro e w6 ⟨A6,n6,c6,rfl,h6,g6,k6⟩
      have hgn:=grew_next HG.out (HKr.out.trans q2 (fun _ _ h=>.inl h)) g6 k6
      have HZ:=hid (HDR.out w6 A6 n6 c6 h6 hgn.1 hgn.2)
      clear h6 g6 k6 hgn q1 q2 h5 b5 HDR
      go_wp2_with fail
      exact HZ.out
    · rw [HDB.out,if_neg hc]at HDR
      have hc':(t1-1==0)=false:=by simpa using hc
      clear hc HDB h28
      go_wp2_with fail
      go_region
      go_wp2_with fail
      apply rr_fin HDR.out HEt.out HG.out HKr.out
      · with_reducible (repeat(first|refine Keep.drew ?_|refine Keep.setR ?_ _ _|exact Keep.refl _ _))
      · with_reducible (repeat(first|apply Blk.drew|apply Blk.set_|exact HBr.out))
      · first|rfl|simp [Int.mul_comm]
  · have hF:(⟨a1,C1,t1,b1⟩:ES)=renM 16 ⟨(q:Int),C,ct,b⟩:=by
     rcases HRt.out with⟨r1,_⟩|⟨_,r2⟩
     · exact absurd r1 hlt
     · exact r2
    have HZ:Hid (RencP w base E K A (renM 16 ⟨(q:Int),C,ct,b⟩) (l.setIfInBounds (9+k*2) (.int .i64 m)) (.returned (.tuple #[])) wr):=hid (by
     have hE:=HEt.out
     rw [hF]at hE
     refine⟨A1,n1,c1,rfl,hE,Blk.keep HC3.out HKr.out (fun h=>?_),HG.out.lift HK3.out.size,HK3.out.trans HKr.out (fun _ _ h=>.inl h)⟩
     rcases h with h|⟨ad,e,h⟩
     · exact hnE h
     · exact HAK.out ad e h)
    clear hF HDR HDB h28
    go_wp2_with fail
    go_end0
    exact HZ.out
theorem renc_b3 (w:World) (base E K k:Nat) (A:Option Addr) (n c:Nat) (s:ES) (l:Array Value) (I M:Nat) (bit:Int) (h:Er w base E A n c s) (hi:EInv s) (ha:32768≤s.a) (ha2:s.a<65536) (hC:Blk w K 165 l) (hlI:l[9+k*2]? =some (.int .i64 I)) (hlM:l[9+k*2+1]? =some (.int .i64 M)) (hI46:I<47) (hM2:M<2) (hk:k<19) (hb:base≤w.heap.size) (hn:n≤1073741000)
 (hbe:(bit%2==(M:Int))=true) (q m lp:Nat) (sw:Bool) (ht:tabAt I=(q,m,lp,sw)) (h32: ¬32768≤s.a-(q:Int)) (hsm: ¬s.a-(q:Int)<q):
 Calls Tryz.prog 130 #[.pointer (some ⟨E,0,none⟩),.pointer (some ⟨K,9,none⟩),.int .i64 k,.int .i64 bit] w (RencP w base E K A (encM s q true) (l.setIfInBounds (9+k*2) (.int .i64 m))):=by
 have HT:=hid ((valM_tab _ hI46).trans ht)
 obtain⟨hq1,hq2⟩:=tab_q _ hI46
 rw [ht]at hq1 hq2
 simp only at hq1 hq2
 have HE:=hid h
 have HI:=hid hi
 have HC:=hid hC
 have HLI:=hid hlI
 have HLM:=hid hlM
 have hC0:=hi.c0
 have hC1:s.c<4611686018427387904:=by
  have h1:=hi.top
  have:(2:Int)^(24-s.ct).toNat≤2^24:=by
   have h1:=hi.ct1
   have:(2:Nat)^(24-s.ct).toNat≤2^24:=Nat.pow_le_pow_right (by omega) (by omega)
   exact_mod_cast this
  omega
 have hbit:=bit_and bit
 have k0:w.cell? ⟨K,9+k*2,none⟩=some (.int .i64 I):=(Blk.cell hC (9+k*2)).trans hlI
 clear h hi hC hlI hlM ht
 obtain⟨a,C,ct,b⟩:=s
 simp only at ha ha2 hC0 hC1 h32 hsm
 have hnE:K≠E:=Blk.ne_ HC.out HE.out.blk (by decide)
 have hEK:E≠K:=hnE.symm
 have HAK:=hid (show∀ad,A=some ad→ad.block≠K from fun ad e he=>own_ne HE.out.own HC.out (by decide) (by subst e;simp [Value.ownBlock];exact he))
 have hM:encM ⟨a,C,ct,b⟩ q true=renM 16 ⟨a-q,C+q,ct,b⟩:=by unfold encM;rw [if_pos rfl,if_neg h32,if_neg hsm]
 have hM2':(M:Int)<2:=by omega
 rw [hM]
 clear hM
 go_enter Tryz.func130,Tryz.ntmps130
 go_wp2_with fail
 refine(rat_all I q m lp sw w HT.out).mono ?_
 rintro e w1 ⟨rfl,hk1⟩
 have HW:=hid (fun (w2:World) (h2:w2=w1.alloc (.cells #[.int .i64 q,.int .i64 m,.int .i64 lp,.bool sw] 203))=>by
  have hk2:Keep (fun _=>False) w w2:=by rw [h2];exact hk1.alloc _
  have hS:Blk w2 w1.heap.size 203 #[.int .i64 q,.int .i64 m,.int .i64 lp,.bool sw]:=by rw [h2];exact Blk.new w1 _ _
  exact(⟨hk2,hS,HE.out.keep hk2 (fun h=>h) (fun _ _ h=>h),Blk.keep HC.out hk2 (fun h=>h)⟩:Keep (fun _=>False) w w2∧Blk w2 w1.heap.size 203 #[.int .i64 q,.int .i64 m,.int .i64 lp,.bool sw]∧Er w2 base E A n c ⟨a,C,ct,b⟩∧Blk w2 K 165 l))
 clear hk1 k0
 go_wp2_with fail
 generalize w1.alloc (.cells #[.int .i64 q,.int .i64 m,.int .i64 lp,.bool sw] 203)=w2 at*
 obtain⟨hk2,hS,hE2,hC2⟩:=HW.out w2 rfl
 clear HW
 generalize w1.heap.size=S at*
 have s0:w2.cell? ⟨S,0,none⟩=some (.int .i64 q):=hS.cell 0
 have s1:w2.cell? ⟨S,1,none⟩=some (.int .i64 m):=hS.cell 1
 have s2:w2.cell? ⟨S,2,none⟩=some (.int .i64 lp):=hS.cell 2
 have s3:w2.cell? ⟨S,3,none⟩=some (.bool sw):=hS.cell 3
 have e0:w2.cell? ⟨E,0,none⟩=some (.int .i64 a):=hE2.blk.cell 0
 have e1:w2.cell? ⟨E,1,none⟩=some (.int .i64 C):=hE2.blk.cell 1
 have f0:=hE2.blk.frozen 0
 have f1:=hE2.blk.frozen 1
 have k0:w2.cell? ⟨K,9+k*2,none⟩=some (.int .i64 I):=(Blk.cell hC2 (9+k*2)).trans HLI.out
 have k1:w2.cell? ⟨K,9+k*2+1,none⟩=some (.int .i64 M):=(Blk.cell hC2 (9+k*2+1)).trans HLM.out
 have fk0:=Blk.frozen hC2 (9+k*2)
 have fk1:=Blk.frozen hC2 (9+k*2+1)
 have hSE:S≠E:=Blk.ne_ hS hE2.blk (by decide)
 have hSK:S≠K:=Blk.ne_ hS hC2 (by decide)
 have HE2:=hid hE2
 have HB2:=hid hE2.blk
 have HC2:=hid (show Blk w2 K 165 l from hC2)
 have HK2:=hid hk2
 clear hk2 hS hE2 hC2
 go_region
 go_wp2_with fail
 go_region
 go_wp2_with fail
 go_region
 go_wp2_with fail
 go_region
 go_wp2_with fail
 apply with_two (w2:=w2) (E:=E) (K:=K) (t:=189) (t2:=165) (cs':=#[.int .i64 (a-q),.int .i64 (C+q),.int .i64 ct,.slice A n c]) (ds':=(l.setIfInBounds (9+k*2) (.int .i64 m)))
 · with_reducible (repeat(first|refine Keep.drew ?_|refine Keep.setE ?_ _ _|refine Keep.setK ?_ _ _|exact Keep.refl _ _))
 · with_reducible (repeat(first|apply Blk.drew|apply Blk.set_|apply Blk.farK hEK|exact HB2.out))
 · first|rfl|simp
 · with_reducible (repeat(first|apply Blk.drew|apply Blk.set_|apply Blk.farK hnE|exact HC2.out))
 · rfl
 intro w3 hk3 hbE hbK
 have HE3:Hid (Er w3 base E A n c ⟨a-q,C+q,ct,b⟩):=hid ⟨hbE,own_keep HE2.out.own hk3 (fun j e hj=>by
  rcases hj with hj|hj
  · exact own_ne HE2.out.own HE2.out.blk (by decide) (by rw [e,hj])
  · exact own_ne HE2.out.own HC2.out (by decide) (by rw [e,hj]))⟩
 have HC3:=hid (show Blk w3 K 165 (l.setIfInBounds (9+k*2) (.int .i64 m))from hbK)
 have HK3:=hid ((HK2.out.mono (fun _ _ h=>h.elim):Keep (fun j=>foot E A j∨j=K) w w2).trans hk3 (fun j _ h=>by
  rcases h with h|h
  · exact .inl (.inl h)
  · exact .inr h))
 have hb3:base≤w3.heap.size:=Nat.le_trans hb HK3.out.size
 have HI3:=hid (HI.out.step (a:=a-q) (C:=C+q) (by omega) (by omega) (by simp only;omega))
 clear hk3 hbE hbK s0 s1 s2 s3 e0 e1 f0 f1 k0 k1 fk0 fk1 HE2 HB2 HC2 HK2 hSE hSK hbe
 go_loopw [] (fun wr=>RR w3 base E A n (renM 16 ⟨a-q,C+q,ct,b⟩) wr) (fun wr=>farR E wr)
 case atStart=>exact⟨16,_,A,n,c,by omega,HE3,HI3,hid (.inl ⟨by show(a-q:Int)<32768;omega,far16 HI3.out.a0,rfl⟩),by omega,hid (Grew.refl _ _),hid (Keep.refl _ _)⟩
 case round=>
  obtain⟨j,t,A1,n1,c1,hj,HEt,HIt,HRt,hn1,HG,HKr⟩:=hrel
  have hl1:=HEt.out.len
  have hsome:=HIt.out.some_
  have h28:=hid (fun h=>HIt.out.c28 h)
  have HDB:=hid (show dblM t=if t.ct-1=0 then outM ⟨t.a*2,t.c*2,t.ct-1,t.b⟩else⟨t.a*2,t.c*2,t.ct-1,t.b⟩from rfl)
  have HDR:=hid (fun (hta:t.a<32768) (w6:World) (A6:Option Addr) (n6 c6:Nat) (h6:Er w6 base E A6 n6 c6 (dblM t)) (g6:Grew w3 A A6) (k6:Keep (foot E A) w3 w6)=>by
   rcases HRt.out with⟨_,r2,r3⟩|⟨r1,_⟩
   · exact rr_round hj hta r2 HEt.out HIt.out r3 hn1 h6 g6 k6
   · omega)
  have HBY:=hid HIt.out.bytes
  have hct1:=HIt.out.ct1
  have hct12:=HIt.out.ct12
  have ha1:=HIt.out.a0
  have hc0:=HIt.out.c0
  have hctop:t.c<4611686018427387904:=by
   have h1:=HIt.out.top
   have:(2:Int)^(24-t.ct).toNat≤2^24:=by
    have:(2:Nat)^(24-t.ct).toNat≤2^24:=Nat.pow_le_pow_right (by omega) (by omega)
    exact_mod_cast this
   omega
  obtain⟨a1,C1,t1,b1⟩:=t
  simp only at hl1 hsome hct1 hct12 ha1 hc0 hctop
  have r0:wr.cell? ⟨E,0,none⟩=some (.int .i64 a1):=HEt.out.blk.cell 0
  have r1:wr.cell? ⟨E,1,none⟩=some (.int .i64 C1):=HEt.out.blk.cell 1
  have r2:wr.cell? ⟨E,2,none⟩=some (.int .i64 t1):=HEt.out.blk.cell 2
  have g0:=HEt.out.blk.frozen 0
  have g1:=HEt.out.blk.frozen 1
  have g2:=HEt.out.blk.frozen 2
  have HBr:=hid HEt.out.blk
  by_cases hlt:a1<32768
  · have HDR:=hid (HDR.out hlt)
    by_cases hc:t1-1=0
    · have h28':=h28.out hc
      rw [HDB.out,if_pos hc]at HDR
      have hc':(t1-1==0)=true:=by simpa using hc
      clear hc HDB h28
      go_wp2_with fail
      go_region
      go_wp2_with fail
      apply with_blk (w2:=wr) (E:=E) (t:=189) (cs':=#[.int .i64 (a1*2),.int .i64 (C1*2),.int .i64 (t1-1),.slice A1 n1 c1])
      · with_reducible (repeat(first|refine Keep.drew ?_|refine Keep.setR ?_ _ _|exact Keep.refl _ _))
      · with_reducible (repeat(first|apply Blk.drew|apply Blk.set_|exact HBr.out))
      · first|rfl|simp [Int.mul_comm]
      intro w5 h5 b5
      obtain⟨q1,q2⟩:=HEt.out.trip (a1*2) (C1*2) (t1-1) h5 b5 rfl
      refine(rout_any w5 base E A1 n1 c1 _ q1 (Nat.le_trans hb3 (Nat.le_trans HKr.out.size q2.size)) (by omega) (by omega) HBY.out (by simp only;omega) h28').mono ?_
      rintro e w6 ⟨A6,n6,c6,rfl,h6,g6,k6⟩
      have hgn:=grew_next HG.out (HKr.out.trans q2 (fun _ _ h=>.inl h)) g6 k6
      have HZ:=hid (HDR.out w6 A6 n6 c6 h6 hgn.1 hgn.2)
      clear h6 g6 k6 hgn q1 q2 h5 b5 HDR
      go_wp2_with fail
      exact HZ.out
    · rw [HDB.out,if_neg hc]at HDR
      have hc':(t1-1==0)=false:=by simpa using hc
      clear hc HDB h28
      go_wp2_with fail
      go_region
      go_wp2_with fail
      apply rr_fin HDR.out HEt.out HG.out HKr.out
      · with_reducible (repeat(first|refine Keep.drew ?_|refine Keep.setR ?_ _ _|exact Keep.refl _ _))
      · with_reducible (repeat(first|apply Blk.drew|apply Blk.set_|exact HBr.out))
      · first|rfl|simp [Int.mul_comm]
  · have hF:(⟨a1,C1,t1,b1⟩:ES)=renM 16 ⟨a-q,C+q,ct,b⟩:=by
     rcases HRt.out with⟨r1,_⟩|⟨_,r2⟩
     · exact absurd r1 hlt
     · exact r2
    have HZ:Hid (RencP w base E K A (renM 16 ⟨a-q,C+q,ct,b⟩) (l.setIfInBounds (9+k*2) (.int .i64 m)) (.returned (.tuple #[])) wr):=hid (by
     have hE:=HEt.out
     rw [hF]at hE
     refine⟨A1,n1,c1,rfl,hE,Blk.keep HC3.out HKr.out (fun h=>?_),HG.out.lift HK3.out.size,HK3.out.trans HKr.out (fun _ _ h=>.inl h)⟩
     rcases h with h|⟨ad,e,h⟩
     · exact hnE h
     · exact HAK.out ad e h)
    clear hF HDR HDB h28
    go_wp2_with fail
    go_end0
    exact HZ.out
theorem renc_b4t (w:World) (base E K k:Nat) (A:Option Addr) (n c:Nat) (s:ES) (l:Array Value) (I M:Nat) (bit:Int) (h:Er w base E A n c s) (hi:EInv s) (ha:32768≤s.a) (ha2:s.a<65536) (hC:Blk w K 165 l) (hlI:l[9+k*2]? =some (.int .i64 I)) (hlM:l[9+k*2+1]? =some (.int .i64 M)) (hI46:I<47) (hM2:M<2) (hk:k<19) (hb:base≤w.heap.size) (hn:n≤1073741000)
 (hbe:(bit%2==(M:Int))=false) (q m lp:Nat)   (ht:tabAt I=(q,m,lp,true)) (hsm:s.a-(q:Int)<q):
 Calls Tryz.prog 130 #[.pointer (some ⟨E,0,none⟩),.pointer (some ⟨K,9,none⟩),.int .i64 k,.int .i64 bit] w (RencP w base E K A (encM s q false) ((l.setIfInBounds (9+k*2+1) (.int .i64 (1-(M:Int)))).setIfInBounds (9+k*2) (.int .i64 lp))):=by
 have HT:=hid ((valM_tab _ hI46).trans ht)
 obtain⟨hq1,hq2⟩:=tab_q _ hI46
 rw [ht]at hq1 hq2
 simp only at hq1 hq2
 have HE:=hid h
 have HI:=hid hi
 have HC:=hid hC
 have HLI:=hid hlI
 have HLM:=hid hlM
 have hC0:=hi.c0
 have hC1:s.c<4611686018427387904:=by
  have h1:=hi.top
  have:(2:Int)^(24-s.ct).toNat≤2^24:=by
   have h1:=hi.ct1
   have:(2:Nat)^(24-s.ct).toNat≤2^24:=Nat.pow_le_pow_right (by omega) (by omega)
   exact_mod_cast this
  omega
 have hbit:=bit_and bit
 have k0:w.cell? ⟨K,9+k*2,none⟩=some (.int .i64 I):=(Blk.cell hC (9+k*2)).trans hlI
 clear h hi hC hlI hlM ht
 obtain⟨a,C,ct,b⟩:=s
 simp only at ha ha2 hC0 hC1 hsm
 have hnE:K≠E:=Blk.ne_ HC.out HE.out.blk (by decide)
 have hEK:E≠K:=hnE.symm
 have HAK:=hid (show∀ad,A=some ad→ad.block≠K from fun ad e he=>own_ne HE.out.own HC.out (by decide) (by subst e;simp [Value.ownBlock];exact he))
 have hM:encM ⟨a,C,ct,b⟩ q false=renM 16 ⟨a-q,C+q,ct,b⟩:=by unfold encM;rw [if_neg (by simp),if_pos hsm]
 have hM2':(M:Int)<2:=by omega
 rw [hM]
 clear hM
 go_enter Tryz.func130,Tryz.ntmps130
 go_wp2_with fail
 refine(rat_all I q m lp true w HT.out).mono ?_
 rintro e w1 ⟨rfl,hk1⟩
 have HW:=hid (fun (w2:World) (h2:w2=w1.alloc (.cells #[.int .i64 q,.int .i64 m,.int .i64 lp,.bool true] 203))=>by
  have hk2:Keep (fun _=>False) w w2:=by rw [h2];exact hk1.alloc _
  have hS:Blk w2 w1.heap.size 203 #[.int .i64 q,.int .i64 m,.int .i64 lp,.bool true]:=by rw [h2];exact Blk.new w1 _ _
  exact(⟨hk2,hS,HE.out.keep hk2 (fun h=>h) (fun _ _ h=>h),Blk.keep HC.out hk2 (fun h=>h)⟩:Keep (fun _=>False) w w2∧Blk w2 w1.heap.size 203 #[.int .i64 q,.int .i64 m,.int .i64 lp,.bool true]∧Er w2 base E A n c ⟨a,C,ct,b⟩∧Blk w2 K 165 l))
 clear hk1 k0
 go_wp2_with fail
 generalize w1.alloc (.cells #[.int .i64 q,.int .i64 m,.int .i64 lp,.bool true] 203)=w2 at*
 obtain⟨hk2,hS,hE2,hC2⟩:=HW.out w2 rfl
 clear HW
 generalize w1.heap.size=S at*
 have s0:w2.cell? ⟨S,0,none⟩=some (.int .i64 q):=hS.cell 0
 have s1:w2.cell? ⟨S,1,none⟩=some (.int .i64 m):=hS.cell 1
 have s2:w2.cell? ⟨S,2,none⟩=some (.int .i64 lp):=hS.cell 2
 have s3:w2.cell? ⟨S,3,none⟩=some (.bool true):=hS.cell 3
 have e0:w2.cell? ⟨E,0,none⟩=some (.int .i64 a):=hE2.blk.cell 0
 have e1:w2.cell? ⟨E,1,none⟩=some (.int .i64 C):=hE2.blk.cell 1
 have f0:=hE2.blk.frozen 0
 have f1:=hE2.blk.frozen 1
 have k0:w2.cell? ⟨K,9+k*2,none⟩=some (.int .i64 I):=(Blk.cell hC2 (9+k*2)).trans HLI.out
 have k1:w2.cell? ⟨K,9+k*2+1,none⟩=some (.int .i64 M):=(Blk.cell hC2 (9+k*2+1)).trans HLM.out
 have fk0:=Blk.frozen hC2 (9+k*2)
 have fk1:=Blk.frozen hC2 (9+k*2+1)
 have hSE:S≠E:=Blk.ne_ hS hE2.blk (by decide)
 have hSK:S≠K:=Blk.ne_ hS hC2 (by decide)
 have HE2:=hid hE2
 have HB2:=hid hE2.blk
 have HC2:=hid (show Blk w2 K 165 l from hC2)
 have HK2:=hid hk2
 clear hk2 hS hE2 hC2
 go_region
 go_wp2_with fail
 go_region
 go_wp2_with fail
 go_region
 go_wp2_with fail
 go_region
 go_wp2_with fail
 go_region
 go_wp2_with fail
 apply with_two (w2:=w2) (E:=E) (K:=K) (t:=189) (t2:=165) (cs':=#[.int .i64 (a-q),.int .i64 (C+q),.int .i64 ct,.slice A n c]) (ds':=((l.setIfInBounds (9+k*2+1) (.int .i64 (1-(M:Int)))).setIfInBounds (9+k*2) (.int .i64 lp)))
 · with_reducible (repeat(first|refine Keep.drew ?_|refine Keep.setE ?_ _ _|refine Keep.setK ?_ _ _|exact Keep.refl _ _))
 · with_reducible (repeat(first|apply Blk.drew|apply Blk.set_|apply Blk.farK hEK|exact HB2.out))
 · first|rfl|simp
 · with_reducible (repeat(first|apply Blk.drew|apply Blk.set_|apply Blk.farK hnE|exact HC2.out))
 · rfl
 intro w3 hk3 hbE hbK
 have HE3:Hid (Er w3 base E A n c ⟨a-q,C+q,ct,b⟩):=hid ⟨hbE,own_keep HE2.out.own hk3 (fun j e hj=>by
  rcases hj with hj|hj
  · exact own_ne HE2.out.own HE2.out.blk (by decide) (by rw [e,hj])
  · exact own_ne HE2.out.own HC2.out (by decide) (by rw [e,hj]))⟩
 have HC3:=hid (show Blk w3 K 165 ((l.setIfInBounds (9+k*2+1) (.int .i64 (1-(M:Int)))).setIfInBounds (9+k*2) (.int .i64 lp))from hbK)
 have HK3:=hid ((HK2.out.mono (fun _ _ h=>h.elim):Keep (fun j=>foot E A j∨j=K) w w2).trans hk3 (fun j _ h=>by
  rcases h with h|h
  · exact .inl (.inl h)
  · exact .inr h))
 have hb3:base≤w3.heap.size:=Nat.le_trans hb HK3.out.size
 have HI3:=hid (HI.out.step (a:=a-q) (C:=C+q) (by omega) (by omega) (by simp only;omega))
 clear hk3 hbE hbK s0 s1 s2 s3 e0 e1 f0 f1 k0 k1 fk0 fk1 HE2 HB2 HC2 HK2 hSE hSK hbe
 go_loopw [] (fun wr=>RR w3 base E A n (renM 16 ⟨a-q,C+q,ct,b⟩) wr) (fun wr=>farR E wr)
 case atStart=>exact⟨16,_,A,n,c,by omega,HE3,HI3,hid (.inl ⟨by show(a-q:Int)<32768;omega,far16 HI3.out.a0,rfl⟩),by omega,hid (Grew.refl _ _),hid (Keep.refl _ _)⟩
 case round=>
  obtain⟨j,t,A1,n1,c1,hj,HEt,HIt,HRt,hn1,HG,HKr⟩:=hrel
  have hl1:=HEt.out.len
  have hsome:=HIt.out.some_
  have h28:=hid (fun h=>HIt.out.c28 h)
  have HDB:=hid (show dblM t=if t.ct-1=0 then outM ⟨t.a*2,t.c*2,t.ct-1,t.b⟩else⟨t.a*2,t.c*2,t.ct-1,t.b⟩from rfl)
  have HDR:=hid (fun (hta:t.a<32768) (w6:World) (A6:Option Addr) (n6 c6:Nat) (h6:Er w6 base E A6 n6 c6 (dblM t)) (g6:Grew w3 A A6) (k6:Keep (foot E A) w3 w6)=>by
   rcases HRt.out with⟨_,r2,r3⟩|⟨r1,_⟩
   · exact rr_round hj hta r2 HEt.out HIt.out r3 hn1 h6 g6 k6
   · omega)
  have HBY:=hid HIt.out.bytes
  have hct1:=HIt.out.ct1
  have hct12:=HIt.out.ct12
  have ha1:=HIt.out.a0
  have hc0:=HIt.out.c0
  have hctop:t.c<4611686018427387904:=by
   have h1:=HIt.out.top
   have:(2:Int)^(24-t.ct).toNat≤2^24:=by
    have:(2:Nat)^(24-t.ct).toNat≤2^24:=Nat.pow_le_pow_right (by omega) (by omega)
    exact_mod_cast this
   omega
  obtain⟨a1,C1,t1,b1⟩:=t
  simp only at hl1 hsome hct1 hct12 ha1 hc0 hctop
  have r0:wr.cell? ⟨E,0,none⟩=some (.int .i64 a1):=HEt.out.blk.cell 0
  have r1:wr.cell? ⟨E,1,none⟩=some (.int .i64 C1):=HEt.out.blk.cell 1
  have r2:wr.cell? ⟨E,2,none⟩=some (.int .i64 t1):=HEt.out.blk.cell 2
  have g0:=HEt.out.blk.frozen 0
  have g1:=HEt.out.blk.frozen 1
  have g2:=HEt.out.blk.frozen 2
  have HBr:=hid HEt.out.blk
  by_cases hlt:a1<32768
  · have HDR:=hid (HDR.out hlt)
    by_cases hc:t1-1=0
    · have h28':=h28.out hc
      rw [HDB.out,if_pos hc]at HDR
      have hc':(t1-1==0)=true:=by simpa using hc
      clear hc HDB h28
      go_wp2_with fail
      go_region
      go_wp2_with fail
      apply with_blk (w2:=wr) (E:=E) (t:=189) (cs':=#[.int .i64 (a1*2),.int .i64 (C1*2),.int .i64 (t1-1),.slice A1 n1 c1])
      · with_reducible (repeat(first|refine Keep.drew ?_|refine Keep.setR ?_ _ _|exact Keep.refl _ _))
      · with_reducible (repeat(first|apply Blk.drew|apply Blk.set_|exact HBr.out))
      · first|rfl|simp [Int.mul_comm]
      intro w5 h5 b5
      obtain⟨q1,q2⟩:=HEt.out.trip (a1*2) (C1*2) (t1-1) h5 b5 rfl
      refine(rout_any w5 base E A1 n1 c1 _ q1 (Nat.le_trans hb3 (Nat.le_trans HKr.out.size q2.size)) (by omega) (by omega) HBY.out (by simp only;omega) h28').mono ?_
      rintro e w6 ⟨A6,n6,c6,rfl,h6,g6,k6⟩
      have hgn:=grew_next HG.out (HKr.out.trans q2 (fun _ _ h=>.inl h)) g6 k6
      have HZ:=hid (HDR.out w6 A6 n6 c6 h6 hgn.1 hgn.2)
      clear h6 g6 k6 hgn q1 q2 h5 b5 HDR
      go_wp2_with fail
      exact HZ.out
    · rw [HDB.out,if_neg hc]at HDR
      have hc':(t1-1==0)=false:=by simpa using hc
      clear hc HDB h28
      go_wp2_with fail
      go_region
      go_wp2_with fail
      apply rr_fin HDR.out HEt.out HG.out HKr.out
      · with_reducible (repeat(first|refine Keep.drew ?_|refine Keep.setR ?_ _ _|exact Keep.refl _ _))
      · with_reducible (repeat(first|apply Blk.drew|apply Blk.set_|exact HBr.out))
      · first|rfl|simp [Int.mul_comm]
  · have hF:(⟨a1,C1,t1,b1⟩:ES)=renM 16 ⟨a-q,C+q,ct,b⟩:=by
     rcases HRt.out with⟨r1,_⟩|⟨_,r2⟩
     · exact absurd r1 hlt
     · exact r2
    have HZ:Hid (RencP w base E K A (renM 16 ⟨a-q,C+q,ct,b⟩) ((l.setIfInBounds (9+k*2+1) (.int .i64 (1-(M:Int)))).setIfInBounds (9+k*2) (.int .i64 lp)) (.returned (.tuple #[])) wr):=hid (by
     have hE:=HEt.out
     rw [hF]at hE
     refine⟨A1,n1,c1,rfl,hE,Blk.keep HC3.out HKr.out (fun h=>?_),HG.out.lift HK3.out.size,HK3.out.trans HKr.out (fun _ _ h=>.inl h)⟩
     rcases h with h|⟨ad,e,h⟩
     · exact hnE h
     · exact HAK.out ad e h)
    clear hF HDR HDB h28
    go_wp2_with fail
    go_end0
    exact HZ.out
theorem renc_b5t (w:World) (base E K k:Nat) (A:Option Addr) (n c:Nat) (s:ES) (l:Array Value) (I M:Nat) (bit:Int) (h:Er w base E A n c s) (hi:EInv s) (ha:32768≤s.a) (ha2:s.a<65536) (hC:Blk w K 165 l) (hlI:l[9+k*2]? =some (.int .i64 I)) (hlM:l[9+k*2+1]? =some (.int .i64 M)) (hI46:I<47) (hM2:M<2) (hk:k<19) (hb:base≤w.heap.size) (hn:n≤1073741000)
 (hbe:(bit%2==(M:Int))=false) (q m lp:Nat)   (ht:tabAt I=(q,m,lp,true)) (hsm: ¬s.a-(q:Int)<q):
 Calls Tryz.prog 130 #[.pointer (some ⟨E,0,none⟩),.pointer (some ⟨K,9,none⟩),.int .i64 k,.int .i64 bit] w (RencP w base E K A (encM s q false) ((l.setIfInBounds (9+k*2+1) (.int .i64 (1-(M:Int)))).setIfInBounds (9+k*2) (.int .i64 lp))):=by
 have HT:=hid ((valM_tab _ hI46).trans ht)
 obtain⟨hq1,hq2⟩:=tab_q _ hI46
 rw [ht]at hq1 hq2
 simp only at hq1 hq2
 have HE:=hid h
 have HI:=hid hi
 have HC:=hid hC
 have HLI:=hid hlI
 have HLM:=hid hlM
 have hC0:=hi.c0
 have hC1:s.c<4611686018427387904:=by
  have h1:=hi.top
  have:(2:Int)^(24-s.ct).toNat≤2^24:=by
   have h1:=hi.ct1
   have:(2:Nat)^(24-s.ct).toNat≤2^24:=Nat.pow_le_pow_right (by omega) (by omega)
   exact_mod_cast this
  omega
 have hbit:=bit_and bit
 have k0:w.cell? ⟨K,9+k*2,none⟩=some (.int .i64 I):=(Blk.cell hC (9+k*2)).trans hlI
 clear h hi hC hlI hlM ht
 obtain⟨a,C,ct,b⟩:=s
 simp only at ha ha2 hC0 hC1 hsm
 have hnE:K≠E:=Blk.ne_ HC.out HE.out.blk (by decide)
 have hEK:E≠K:=hnE.symm
 have HAK:=hid (show∀ad,A=some ad→ad.block≠K from fun ad e he=>own_ne HE.out.own HC.out (by decide) (by subst e;simp [Value.ownBlock];exact he))
 have hM:encM ⟨a,C,ct,b⟩ q false=renM 16 ⟨q,C,ct,b⟩:=by unfold encM;rw [if_neg (by simp),if_neg hsm]
 have hM2':(M:Int)<2:=by omega
 rw [hM]
 clear hM
 go_enter Tryz.func130,Tryz.ntmps130
 go_wp2_with fail
 refine(rat_all I q m lp true w HT.out).mono ?_
 rintro e w1 ⟨rfl,hk1⟩
 have HW:=hid (fun (w2:World) (h2:w2=w1.alloc (.cells #[.int .i64 q,.int .i64 m,.int .i64 lp,.bool true] 203))=>by
  have hk2:Keep (fun _=>False) w w2:=by rw [h2];exact hk1.alloc _
  have hS:Blk w2 w1.heap.size 203 #[.int .i64 q,.int .i64 m,.int .i64 lp,.bool true]:=by rw [h2];exact Blk.new w1 _ _
  exact(⟨hk2,hS,HE.out.keep hk2 (fun h=>h) (fun _ _ h=>h),Blk.keep HC.out hk2 (fun h=>h)⟩:Keep (fun _=>False) w w2∧Blk w2 w1.heap.size 203 #[.int .i64 q,.int .i64 m,.int .i64 lp,.bool true]∧Er w2 base E A n c ⟨a,C,ct,b⟩∧Blk w2 K 165 l))
 clear hk1 k0
 go_wp2_with fail
 generalize w1.alloc (.cells #[.int .i64 q,.int .i64 m,.int .i64 lp,.bool true] 203)=w2 at*
 obtain⟨hk2,hS,hE2,hC2⟩:=HW.out w2 rfl
 clear HW
 generalize w1.heap.size=S at*
 have s0:w2.cell? ⟨S,0,none⟩=some (.int .i64 q):=hS.cell 0
 have s1:w2.cell? ⟨S,1,none⟩=some (.int .i64 m):=hS.cell 1
 have s2:w2.cell? ⟨S,2,none⟩=some (.int .i64 lp):=hS.cell 2
 have s3:w2.cell? ⟨S,3,none⟩=some (.bool true):=hS.cell 3
 have e0:w2.cell? ⟨E,0,none⟩=some (.int .i64 a):=hE2.blk.cell 0
 have e1:w2.cell? ⟨E,1,none⟩=some (.int .i64 C):=hE2.blk.cell 1
 have f0:=hE2.blk.frozen 0
 have f1:=hE2.blk.frozen 1
 have k0:w2.cell? ⟨K,9+k*2,none⟩=some (.int .i64 I):=(Blk.cell hC2 (9+k*2)).trans HLI.out
 have k1:w2.cell? ⟨K,9+k*2+1,none⟩=some (.int .i64 M):=(Blk.cell hC2 (9+k*2+1)).trans HLM.out
 have fk0:=Blk.frozen hC2 (9+k*2)
 have fk1:=Blk.frozen hC2 (9+k*2+1)
 have hSE:S≠E:=Blk.ne_ hS hE2.blk (by decide)
 have hSK:S≠K:=Blk.ne_ hS hC2 (by decide)
 have HE2:=hid hE2
 have HB2:=hid hE2.blk
 have HC2:=hid (show Blk w2 K 165 l from hC2)
 have HK2:=hid hk2
 clear hk2 hS hE2 hC2
 go_region
 go_wp2_with fail
 go_region
 go_wp2_with fail
 go_region
 go_wp2_with fail
 go_region
 go_wp2_with fail
 apply with_two (w2:=w2) (E:=E) (K:=K) (t:=189) (t2:=165) (cs':=#[.int .i64 ((q:Int)),.int .i64 (C),.int .i64 ct,.slice A n c]) (ds':=((l.setIfInBounds (9+k*2+1) (.int .i64 (1-(M:Int)))).setIfInBounds (9+k*2) (.int .i64 lp)))
 · with_reducible (repeat(first|refine Keep.drew ?_|refine Keep.setE ?_ _ _|refine Keep.setK ?_ _ _|exact Keep.refl _ _))
 · with_reducible (repeat(first|apply Blk.drew|apply Blk.set_|apply Blk.farK hEK|exact HB2.out))
 · first|rfl|simp
 · with_reducible (repeat(first|apply Blk.drew|apply Blk.set_|apply Blk.farK hnE|exact HC2.out))
 · rfl
 intro w3 hk3 hbE hbK
 have HE3:Hid (Er w3 base E A n c ⟨(q:Int),C,ct,b⟩):=hid ⟨hbE,own_keep HE2.out.own hk3 (fun j e hj=>by
  rcases hj with hj|hj
  · exact own_ne HE2.out.own HE2.out.blk (by decide) (by rw [e,hj])
  · exact own_ne HE2.out.own HC2.out (by decide) (by rw [e,hj]))⟩
 have HC3:=hid (show Blk w3 K 165 ((l.setIfInBounds (9+k*2+1) (.int .i64 (1-(M:Int)))).setIfInBounds (9+k*2) (.int .i64 lp))from hbK)
 have HK3:=hid ((HK2.out.mono (fun _ _ h=>h.elim):Keep (fun j=>foot E A j∨j=K) w w2).trans hk3 (fun j _ h=>by
  rcases h with h|h
  · exact .inl (.inl h)
  · exact .inr h))
 have hb3:base≤w3.heap.size:=Nat.le_trans hb HK3.out.size
 have HI3:=hid (HI.out.step (a:=(q:Int)) (C:=C) (by omega) (by omega) (by simp only;omega))
 clear hk3 hbE hbK s0 s1 s2 s3 e0 e1 f0 f1 k0 k1 fk0 fk1 HE2 HB2 HC2 HK2 hSE hSK hbe
 go_loopw [] (fun wr=>RR w3 base E A n (renM 16 ⟨(q:Int),C,ct,b⟩) wr) (fun wr=>farR E wr)
 case atStart=>exact⟨16,_,A,n,c,by omega,HE3,HI3,hid (.inl ⟨by show((q:Int):Int)<32768;omega,far16 HI3.out.a0,rfl⟩),by omega,hid (Grew.refl _ _),hid (Keep.refl _ _)⟩
 case round=>
  obtain⟨j,t,A1,n1,c1,hj,HEt,HIt,HRt,hn1,HG,HKr⟩:=hrel
  have hl1:=HEt.out.len
  have hsome:=HIt.out.some_
  have h28:=hid (fun h=>HIt.out.c28 h)
  have HDB:=hid (show dblM t=if t.ct-1=0 then outM ⟨t.a*2,t.c*2,t.ct-1,t.b⟩else⟨t.a*2,t.c*2,t.ct-1,t.b⟩from rfl)
  have HDR:=hid (fun (hta:t.a<32768) (w6:World) (A6:Option Addr) (n6 c6:Nat) (h6:Er w6 base E A6 n6 c6 (dblM t)) (g6:Grew w3 A A6) (k6:Keep (foot E A) w3 w6)=>by
   rcases HRt.out with⟨_,r2,r3⟩|⟨r1,_⟩
   · exact rr_round hj hta r2 HEt.out HIt.out r3 hn1 h6 g6 k6
   · omega)
  have HBY:=hid HIt.out.bytes
  have hct1:=HIt.out.ct1
  have hct12:=HIt.out.ct12
  have ha1:=HIt.out.a0
  have hc0:=HIt.out.c0
  have hctop:t.c<4611686018427387904:=by
   have h1:=HIt.out.top
   have:(2:Int)^(24-t.ct).toNat≤2^24:=by
    have:(2:Nat)^(24-t.ct).toNat≤2^24:=Nat.pow_le_pow_right (by omega) (by omega)
    exact_mod_cast this
   omega
  obtain⟨a1,C1,t1,b1⟩:=t
  simp only at hl1 hsome hct1 hct12 ha1 hc0 hctop
  have r0:wr.cell? ⟨E,0,none⟩=some (.int .i64 a1):=HEt.out.blk.cell 0
  have r1:wr.cell? ⟨E,1,none⟩=some (.int .i64 C1):=HEt.out.blk.cell 1
  have r2:wr.cell? ⟨E,2,none⟩=some (.int .i64 t1):=HEt.out.blk.cell 2
  have g0:=HEt.out.blk.frozen 0
  have g1:=HEt.out.blk.frozen 1
  have g2:=HEt.out.blk.frozen 2
  have HBr:=hid HEt.out.blk
  by_cases hlt:a1<32768
  · have HDR:=hid (HDR.out hlt)
    by_cases hc:t1-1=0
    · have h28':=h28.out hc
      rw [HDB.out,if_pos hc]at HDR
      have hc':(t1-1==0)=true:=by simpa using hc
      clear hc HDB h28
      go_wp2_with fail
      go_region
      go_wp2_with fail
      apply with_blk (w2:=wr) (E:=E) (t:=189) (cs':=#[.int .i64 (a1*2),.int .i64 (C1*2),.int .i64 (t1-1),.slice A1 n1 c1])
      · with_reducible (repeat(first|refine Keep.drew ?_|refine Keep.setR ?_ _ _|exact Keep.refl _ _))
      · with_reducible (repeat(first|apply Blk.drew|apply Blk.set_|exact HBr.out))
      · first|rfl|simp [Int.mul_comm]
      intro w5 h5 b5
      obtain⟨q1,q2⟩:=HEt.out.trip (a1*2) (C1*2) (t1-1) h5 b5 rfl
      refine(rout_any w5 base E A1 n1 c1 _ q1 (Nat.le_trans hb3 (Nat.le_trans HKr.out.size q2.size)) (by omega) (by omega) HBY.out (by simp only;omega) h28').mono ?_
      rintro e w6 ⟨A6,n6,c6,rfl,h6,g6,k6⟩
      have hgn:=grew_next HG.out (HKr.out.trans q2 (fun _ _ h=>.inl h)) g6 k6
      have HZ:=hid (HDR.out w6 A6 n6 c6 h6 hgn.1 hgn.2)
      clear h6 g6 k6 hgn q1 q2 h5 b5 HDR
      go_wp2_with fail
      exact HZ.out
    · rw [HDB.out,if_neg hc]at HDR
      have hc':(t1-1==0)=false:=by simpa using hc
      clear hc HDB h28
      go_wp2_with fail
      go_region
      go_wp2_with fail
      apply rr_fin HDR.out HEt.out HG.out HKr.out
      · with_reducible (repeat(first|refine Keep.drew ?_|refine Keep.setR ?_ _ _|exact Keep.refl _ _))
      · with_reducible (repeat(first|apply Blk.drew|apply Blk.set_|exact HBr.out))
      · first|rfl|simp [Int.mul_comm]
  · have hF:(⟨a1,C1,t1,b1⟩:ES)=renM 16 ⟨(q:Int),C,ct,b⟩:=by
     rcases HRt.out with⟨r1,_⟩|⟨_,r2⟩
     · exact absurd r1 hlt
     · exact r2
    have HZ:Hid (RencP w base E K A (renM 16 ⟨(q:Int),C,ct,b⟩) ((l.setIfInBounds (9+k*2+1) (.int .i64 (1-(M:Int)))).setIfInBounds (9+k*2) (.int .i64 lp)) (.returned (.tuple #[])) wr):=hid (by
     have hE:=HEt.out
     rw [hF]at hE
     refine⟨A1,n1,c1,rfl,hE,Blk.keep HC3.out HKr.out (fun h=>?_),HG.out.lift HK3.out.size,HK3.out.trans HKr.out (fun _ _ h=>.inl h)⟩
     rcases h with h|⟨ad,e,h⟩
     · exact hnE h
     · exact HAK.out ad e h)
    clear hF HDR HDB h28
    go_wp2_with fail
    go_end0
    exact HZ.out
theorem renc_b4f (w:World) (base E K k:Nat) (A:Option Addr) (n c:Nat) (s:ES) (l:Array Value) (I M:Nat) (bit:Int) (h:Er w base E A n c s) (hi:EInv s) (ha:32768≤s.a) (ha2:s.a<65536) (hC:Blk w K 165 l) (hlI:l[9+k*2]? =some (.int .i64 I)) (hlM:l[9+k*2+1]? =some (.int .i64 M)) (hI46:I<47) (hM2:M<2) (hk:k<19) (hb:base≤w.heap.size) (hn:n≤1073741000)
 (hbe:(bit%2==(M:Int))=false) (q m lp:Nat)   (ht:tabAt I=(q,m,lp,false)) (hsm:s.a-(q:Int)<q):
 Calls Tryz.prog 130 #[.pointer (some ⟨E,0,none⟩),.pointer (some ⟨K,9,none⟩),.int .i64 k,.int .i64 bit] w (RencP w base E K A (encM s q false) (l.setIfInBounds (9+k*2) (.int .i64 lp))):=by
 have HT:=hid ((valM_tab _ hI46).trans ht)
 obtain⟨hq1,hq2⟩:=tab_q _ hI46
 rw [ht]at hq1 hq2
 simp only at hq1 hq2
 have HE:=hid h
 have HI:=hid hi
 have HC:=hid hC
 have HLI:=hid hlI
 have HLM:=hid hlM
 have hC0:=hi.c0
 have hC1:s.c<4611686018427387904:=by
  have h1:=hi.top
  have:(2:Int)^(24-s.ct).toNat≤2^24:=by
   have h1:=hi.ct1
   have:(2:Nat)^(24-s.ct).toNat≤2^24:=Nat.pow_le_pow_right (by omega) (by omega)
   exact_mod_cast this
  omega
 have hbit:=bit_and bit
 have k0:w.cell? ⟨K,9+k*2,none⟩=some (.int .i64 I):=(Blk.cell hC (9+k*2)).trans hlI
 clear h hi hC hlI hlM ht
 obtain⟨a,C,ct,b⟩:=s
 simp only at ha ha2 hC0 hC1 hsm
 have hnE:K≠E:=Blk.ne_ HC.out HE.out.blk (by decide)
 have hEK:E≠K:=hnE.symm
 have HAK:=hid (show∀ad,A=some ad→ad.block≠K from fun ad e he=>own_ne HE.out.own HC.out (by decide) (by subst e;simp [Value.ownBlock];exact he))
 have hM:encM ⟨a,C,ct,b⟩ q false=renM 16 ⟨a-q,C+q,ct,b⟩:=by unfold encM;rw [if_neg (by simp),if_pos hsm]
 have hM2':(M:Int)<2:=by omega
 rw [hM]
 clear hM
 go_enter Tryz.func130,Tryz.ntmps130
 go_wp2_with fail
 refine(rat_all I q m lp false w HT.out).mono ?_
 rintro e w1 ⟨rfl,hk1⟩
 have HW:=hid (fun (w2:World) (h2:w2=w1.alloc (.cells #[.int .i64 q,.int .i64 m,.int .i64 lp,.bool false] 203))=>by
  have hk2:Keep (fun _=>False) w w2:=by rw [h2];exact hk1.alloc _
  have hS:Blk w2 w1.heap.size 203 #[.int .i64 q,.int .i64 m,.int .i64 lp,.bool false]:=by rw [h2];exact Blk.new w1 _ _
  exact(⟨hk2,hS,HE.out.keep hk2 (fun h=>h) (fun _ _ h=>h),Blk.keep HC.out hk2 (fun h=>h)⟩:Keep (fun _=>False) w w2∧Blk w2 w1.heap.size 203 #[.int .i64 q,.int .i64 m,.int .i64 lp,.bool false]∧Er w2 base E A n c ⟨a,C,ct,b⟩∧Blk w2 K 165 l))
 clear hk1 k0
 go_wp2_with fail
 generalize w1.alloc (.cells #[.int .i64 q,.int .i64 m,.int .i64 lp,.bool false] 203)=w2 at*
 obtain⟨hk2,hS,hE2,hC2⟩:=HW.out w2 rfl
 clear HW
 generalize w1.heap.size=S at*
 have s0:w2.cell? ⟨S,0,none⟩=some (.int .i64 q):=hS.cell 0
 have s1:w2.cell? ⟨S,1,none⟩=some (.int .i64 m):=hS.cell 1
 have s2:w2.cell? ⟨S,2,none⟩=some (.int .i64 lp):=hS.cell 2
 have s3:w2.cell? ⟨S,3,none⟩=some (.bool false):=hS.cell 3
 have e0:w2.cell? ⟨E,0,none⟩=some (.int .i64 a):=hE2.blk.cell 0
 have e1:w2.cell? ⟨E,1,none⟩=some (.int .i64 C):=hE2.blk.cell 1
 have f0:=hE2.blk.frozen 0
 have f1:=hE2.blk.frozen 1
 have k0:w2.cell? ⟨K,9+k*2,none⟩=some (.int .i64 I):=(Blk.cell hC2 (9+k*2)).trans HLI.out
 have k1:w2.cell? ⟨K,9+k*2+1,none⟩=some (.int .i64 M):=(Blk.cell hC2 (9+k*2+1)).trans HLM.out
 have fk0:=Blk.frozen hC2 (9+k*2)
 have fk1:=Blk.frozen hC2 (9+k*2+1)
 have hSE:S≠E:=Blk.ne_ hS hE2.blk (by decide)
 have hSK:S≠K:=Blk.ne_ hS hC2 (by decide)
 have HE2:=hid hE2
 have HB2:=hid hE2.blk
 have HC2:=hid (show Blk w2 K 165 l from hC2)
 have HK2:=hid hk2
 clear hk2 hS hE2 hC2
 go_region
 go_wp2_with fail
 go_region
 go_wp2_with fail
 go_region
 go_wp2_with fail
 go_region
 go_wp2_with fail
 apply with_two (w2:=w2) (E:=E) (K:=K) (t:=189) (t2:=165) (cs':=#[.int .i64 (a-q),.int .i64 (C+q),.int .i64 ct,.slice A n c]) (ds':=(l.setIfInBounds (9+k*2) (.int .i64 lp)))
 · with_reducible (repeat(first|refine Keep.drew ?_|refine Keep.setE ?_ _ _|refine Keep.setK ?_ _ _|exact Keep.refl _ _))
 · with_reducible (repeat(first|apply Blk.drew|apply Blk.set_|apply Blk.farK hEK|exact HB2.out))
 · first|rfl|simp
 · with_reducible (repeat(first|apply Blk.drew|apply Blk.set_|apply Blk.farK hnE|exact HC2.out))
 · rfl
 intro w3 hk3 hbE hbK
 have HE3:Hid (Er w3 base E A n c ⟨a-q,C+q,ct,b⟩):=hid ⟨hbE,own_keep HE2.out.own hk3 (fun j e hj=>by
  rcases hj with hj|hj
  · exact own_ne HE2.out.own HE2.out.blk (by decide) (by rw [e,hj])
  · exact own_ne HE2.out.own HC2.out (by decide) (by rw [e,hj]))⟩
 have HC3:=hid (show Blk w3 K 165 (l.setIfInBounds (9+k*2) (.int .i64 lp))from hbK)
 have HK3:=hid ((HK2.out.mono (fun _ _ h=>h.elim):Keep (fun j=>foot E A j∨j=K) w w2).trans hk3 (fun j _ h=>by
  rcases h with h|h
  · exact .inl (.inl h)
  · exact .inr h))
 have hb3:base≤w3.heap.size:=Nat.le_trans hb HK3.out.size
 have HI3:=hid (HI.out.step (a:=a-q) (C:=C+q) (by omega) (by omega) (by simp only;omega))
 clear hk3 hbE hbK s0 s1 s2 s3 e0 e1 f0 f1 k0 k1 fk0 fk1 HE2 HB2 HC2 HK2 hSE hSK hbe
 go_loopw [] (fun wr=>RR w3 base E A n (renM 16 ⟨a-q,C+q,ct,b⟩) wr) (fun wr=>farR E wr)
 case atStart=>exact⟨16,_,A,n,c,by omega,HE3,HI3,hid (.inl ⟨by show(a-q:Int)<32768;omega,far16 HI3.out.a0,rfl⟩),by omega,hid (Grew.refl _ _),hid (Keep.refl _ _)⟩
 case round=>
  obtain⟨j,t,A1,n1,c1,hj,HEt,HIt,HRt,hn1,HG,HKr⟩:=hrel
  have hl1:=HEt.out.len
  have hsome:=HIt.out.some_
  have h28:=hid (fun h=>HIt.out.c28 h)
  have HDB:=hid (show dblM t=if t.ct-1=0 then outM ⟨t.a*2,t.c*2,t.ct-1,t.b⟩else⟨t.a*2,t.c*2,t.ct-1,t.b⟩from rfl)
  have HDR:=hid (fun (hta:t.a<32768) (w6:World) (A6:Option Addr) (n6 c6:Nat) (h6:Er w6 base E A6 n6 c6 (dblM t)) (g6:Grew w3 A A6) (k6:Keep (foot E A) w3 w6)=>by
   rcases HRt.out with⟨_,r2,r3⟩|⟨r1,_⟩
   · exact rr_round hj hta r2 HEt.out HIt.out r3 hn1 h6 g6 k6
   · omega)
  have HBY:=hid HIt.out.bytes
  have hct1:=HIt.out.ct1
  have hct12:=HIt.out.ct12
  have ha1:=HIt.out.a0
  have hc0:=HIt.out.c0
  have hctop:t.c<4611686018427387904:=by
   have h1:=HIt.out.top
   have:(2:Int)^(24-t.ct).toNat≤2^24:=by
    have:(2:Nat)^(24-t.ct).toNat≤2^24:=Nat.pow_le_pow_right (by omega) (by omega)
    exact_mod_cast this
   omega
  obtain⟨a1,C1,t1,b1⟩:=t
  simp only at hl1 hsome hct1 hct12 ha1 hc0 hctop
  have r0:wr.cell? ⟨E,0,none⟩=some (.int .i64 a1):=HEt.out.blk.cell 0
  have r1:wr.cell? ⟨E,1,none⟩=some (.int .i64 C1):=HEt.out.blk.cell 1
  have r2:wr.cell? ⟨E,2,none⟩=some (.int .i64 t1):=HEt.out.blk.cell 2
  have g0:=HEt.out.blk.frozen 0
  have g1:=HEt.out.blk.frozen 1
  have g2:=HEt.out.blk.frozen 2
  have HBr:=hid HEt.out.blk
  by_cases hlt:a1<32768
  · have HDR:=hid (HDR.out hlt)
    by_cases hc:t1-1=0
    · have h28':=h28.out hc
      rw [HDB.out,if_pos hc]at HDR
      have hc':(t1-1==0)=true:=by simpa using hc
      clear hc HDB h28
      go_wp2_with fail
      go_region
      go_wp2_with fail
      apply with_blk (w2:=wr) (E:=E) (t:=189) (cs':=#[.int .i64 (a1*2),.int .i64 (C1*2),.int .i64 (t1-1),.slice A1 n1 c1])
      · with_reducible (repeat(first|refine Keep.drew ?_|refine Keep.setR ?_ _ _|exact Keep.refl _ _))
      · with_reducible (repeat(first|apply Blk.drew|apply Blk.set_|exact HBr.out))
      · first|rfl|simp [Int.mul_comm]
      intro w5 h5 b5
      obtain⟨q1,q2⟩:=HEt.out.trip (a1*2) (C1*2) (t1-1) h5 b5 rfl
      refine(rout_any w5 base E A1 n1 c1 _ q1 (Nat.le_trans hb3 (Nat.le_trans HKr.out.size q2.size)) (by omega) (by omega) HBY.out (by simp only;omega) h28').mono ?_
      rintro e w6 ⟨A6,n6,c6,rfl,h6,g6,k6⟩
      have hgn:=grew_next HG.out (HKr.out.trans q2 (fun _ _ h=>.inl h)) g6 k6
      have HZ:=hid (HDR.out w6 A6 n6 c6 h6 hgn.1 hgn.2)
      clear h6 g6 k6 hgn q1 q2 h5 b5 HDR
      go_wp2_with fail
      exact HZ.out
    · rw [HDB.out,if_neg hc]at HDR
      have hc':(t1-1==0)=false:=by simpa using hc
      clear hc HDB h28
      go_wp2_with fail
      go_region
      go_wp2_with fail
      apply rr_fin HDR.out HEt.out HG.out HKr.out
      · with_reducible (repeat(first|refine Keep.drew ?_|refine Keep.setR ?_ _ _|exact Keep.refl _ _))
      · with_reducible (repeat(first|apply Blk.drew|apply Blk.set_|exact HBr.out))
      · first|rfl|simp [Int.mul_comm]
  · have hF:(⟨a1,C1,t1,b1⟩:ES)=renM 16 ⟨a-q,C+q,ct,b⟩:=by
     rcases HRt.out with⟨r1,_⟩|⟨_,r2⟩
     · exact absurd r1 hlt
     · exact r2
    have HZ:Hid (RencP w base E K A (renM 16 ⟨a-q,C+q,ct,b⟩) (l.setIfInBounds (9+k*2) (.int .i64 lp)) (.returned (.tuple #[])) wr):=hid (by
     have hE:=HEt.out
     rw [hF]at hE
     refine⟨A1,n1,c1,rfl,hE,Blk.keep HC3.out HKr.out (fun h=>?_),HG.out.lift HK3.out.size,HK3.out.trans HKr.out (fun _ _ h=>.inl h)⟩
     rcases h with h|⟨ad,e,h⟩
     · exact hnE h
     · exact HAK.out ad e h)
    clear hF HDR HDB h28
    go_wp2_with fail
    go_end0
    exact HZ.out
theorem renc_b5f (w:World) (base E K k:Nat) (A:Option Addr) (n c:Nat) (s:ES) (l:Array Value) (I M:Nat) (bit:Int) (h:Er w base E A n c s) (hi:EInv s) (ha:32768≤s.a) (ha2:s.a<65536) (hC:Blk w K 165 l) (hlI:l[9+k*2]? =some (.int .i64 I)) (hlM:l[9+k*2+1]? =some (.int .i64 M)) (hI46:I<47) (hM2:M<2) (hk:k<19) (hb:base≤w.heap.size) (hn:n≤1073741000)
 (hbe:(bit%2==(M:Int))=false) (q m lp:Nat)   (ht:tabAt I=(q,m,lp,false)) (hsm: ¬s.a-(q:Int)<q):
 Calls Tryz.prog 130 #[.pointer (some ⟨E,0,none⟩),.pointer (some ⟨K,9,none⟩),.int .i64 k,.int .i64 bit] w (RencP w base E K A (encM s q false) (l.setIfInBounds (9+k*2) (.int .i64 lp))):=by
 have HT:=hid ((valM_tab _ hI46).trans ht)
 obtain⟨hq1,hq2⟩:=tab_q _ hI46
 rw [ht]at hq1 hq2
 simp only at hq1 hq2
 have HE:=hid h
 have HI:=hid hi
 have HC:=hid hC
 have HLI:=hid hlI
 have HLM:=hid hlM
 have hC0:=hi.c0
 have hC1:s.c<4611686018427387904:=by
  have h1:=hi.top
  have:(2:Int)^(24-s.ct).toNat≤2^24:=by
   have h1:=hi.ct1
   have:(2:Nat)^(24-s.ct).toNat≤2^24:=Nat.pow_le_pow_right (by omega) (by omega)
   exact_mod_cast this
  omega
 have hbit:=bit_and bit
 have k0:w.cell? ⟨K,9+k*2,none⟩=some (.int .i64 I):=(Blk.cell hC (9+k*2)).trans hlI
 clear h hi hC hlI hlM ht
 obtain⟨a,C,ct,b⟩:=s
 simp only at ha ha2 hC0 hC1 hsm
 have hnE:K≠E:=Blk.ne_ HC.out HE.out.blk (by decide)
 have hEK:E≠K:=hnE.symm
 have HAK:=hid (show∀ad,A=some ad→ad.block≠K from fun ad e he=>own_ne HE.out.own HC.out (by decide) (by subst e;simp [Value.ownBlock];exact he))
 have hM:encM ⟨a,C,ct,b⟩ q false=renM 16 ⟨q,C,ct,b⟩:=by unfold encM;rw [if_neg (by simp),if_neg hsm]
 have hM2':(M:Int)<2:=by omega
 rw [hM]
 clear hM
 go_enter Tryz.func130,Tryz.ntmps130
 go_wp2_with fail
 refine(rat_all I q m lp false w HT.out).mono ?_
 rintro e w1 ⟨rfl,hk1⟩
 have HW:=hid (fun (w2:World) (h2:w2=w1.alloc (.cells #[.int .i64 q,.int .i64 m,.int .i64 lp,.bool false] 203))=>by
  have hk2:Keep (fun _=>False) w w2:=by rw [h2];exact hk1.alloc _
  have hS:Blk w2 w1.heap.size 203 #[.int .i64 q,.int .i64 m,.int .i64 lp,.bool false]:=by rw [h2];exact Blk.new w1 _ _
  exact(⟨hk2,hS,HE.out.keep hk2 (fun h=>h) (fun _ _ h=>h),Blk.keep HC.out hk2 (fun h=>h)⟩:Keep (fun _=>False) w w2∧Blk w2 w1.heap.size 203 #[.int .i64 q,.int .i64 m,.int .i64 lp,.bool false]∧Er w2 base E A n c ⟨a,C,ct,b⟩∧Blk w2 K 165 l))
 clear hk1 k0
 go_wp2_with fail
 generalize w1.alloc (.cells #[.int .i64 q,.int .i64 m,.int .i64 lp,.bool false] 203)=w2 at*
 obtain⟨hk2,hS,hE2,hC2⟩:=HW.out w2 rfl
 clear HW
 generalize w1.heap.size=S at*
 have s0:w2.cell? ⟨S,0,none⟩=some (.int .i64 q):=hS.cell 0
 have s1:w2.cell? ⟨S,1,none⟩=some (.int .i64 m):=hS.cell 1
 have s2:w2.cell? ⟨S,2,none⟩=some (.int .i64 lp):=hS.cell 2
 have s3:w2.cell? ⟨S,3,none⟩=some (.bool false):=hS.cell 3
 have e0:w2.cell? ⟨E,0,none⟩=some (.int .i64 a):=hE2.blk.cell 0
 have e1:w2.cell? ⟨E,1,none⟩=some (.int .i64 C):=hE2.blk.cell 1
 have f0:=hE2.blk.frozen 0
 have f1:=hE2.blk.frozen 1
 have k0:w2.cell? ⟨K,9+k*2,none⟩=some (.int .i64 I):=(Blk.cell hC2 (9+k*2)).trans HLI.out
 have k1:w2.cell? ⟨K,9+k*2+1,none⟩=some (.int .i64 M):=(Blk.cell hC2 (9+k*2+1)).trans HLM.out
 have fk0:=Blk.frozen hC2 (9+k*2)
 have fk1:=Blk.frozen hC2 (9+k*2+1)
 have hSE:S≠E:=Blk.ne_ hS hE2.blk (by decide)
 have hSK:S≠K:=Blk.ne_ hS hC2 (by decide)
 have HE2:=hid hE2
 have HB2:=hid hE2.blk
 have HC2:=hid (show Blk w2 K 165 l from hC2)
 have HK2:=hid hk2
 clear hk2 hS hE2 hC2
 go_region
 go_wp2_with fail
 go_region
 go_wp2_with fail
 go_region
 go_wp2_with fail
 apply with_two (w2:=w2) (E:=E) (K:=K) (t:=189) (t2:=165) (cs':=#[.int .i64 ((q:Int)),.int .i64 (C),.int .i64 ct,.slice A n c]) (ds':=(l.setIfInBounds (9+k*2) (.int .i64 lp)))
 · with_reducible (repeat(first|refine Keep.drew ?_|refine Keep.setE ?_ _ _|refine Keep.setK ?_ _ _|exact Keep.refl _ _))
 · with_reducible (repeat(first|apply Blk.drew|apply Blk.set_|apply Blk.farK hEK|exact HB2.out))
 · first|rfl|simp
 · with_reducible (repeat(first|apply Blk.drew|apply Blk.set_|apply Blk.farK hnE|exact HC2.out))
 · rfl
 intro w3 hk3 hbE hbK
 have HE3:Hid (Er w3 base E A n c ⟨(q:Int),C,ct,b⟩):=hid ⟨hbE,own_keep HE2.out.own hk3 (fun j e hj=>by
  rcases hj with hj|hj
  · exact own_ne HE2.out.own HE2.out.blk (by decide) (by rw [e,hj])
  · exact own_ne HE2.out.own HC2.out (by decide) (by rw [e,hj]))⟩
 have HC3:=hid (show Blk w3 K 165 (l.setIfInBounds (9+k*2) (.int .i64 lp))from hbK)
 have HK3:=hid ((HK2.out.mono (fun _ _ h=>h.elim):Keep (fun j=>foot E A j∨j=K) w w2).trans hk3 (fun j _ h=>by
  rcases h with h|h
  · exact .inl (.inl h)
  · exact .inr h))
 have hb3:base≤w3.heap.size:=Nat.le_trans hb HK3.out.size
 have HI3:=hid (HI.out.step (a:=(q:Int)) (C:=C) (by omega) (by omega) (by simp only;omega))
 clear hk3 hbE hbK s0 s1 s2 s3 e0 e1 f0 f1 k0 k1 fk0 fk1 HE2 HB2 HC2 HK2 hSE hSK hbe
 go_loopw [] (fun wr=>RR w3 base E A n (renM 16 ⟨(q:Int),C,ct,b⟩) wr) (fun wr=>farR E wr)
 case atStart=>exact⟨16,_,A,n,c,by omega,HE3,HI3,hid (.inl ⟨by show((q:Int):Int)<32768;omega,far16 HI3.out.a0,rfl⟩),by omega,hid (Grew.refl _ _),hid (Keep.refl _ _)⟩
 case round=>
  obtain⟨j,t,A1,n1,c1,hj,HEt,HIt,HRt,hn1,HG,HKr⟩:=hrel
  have hl1:=HEt.out.len
  have hsome:=HIt.out.some_
  have h28:=hid (fun h=>HIt.out.c28 h)
  have HDB:=hid (show dblM t=if t.ct-1=0 then outM ⟨t.a*2,t.c*2,t.ct-1,t.b⟩else⟨t.a*2,t.c*2,t.ct-1,t.b⟩from rfl)
  have HDR:=hid (fun (hta:t.a<32768) (w6:World) (A6:Option Addr) (n6 c6:Nat) (h6:Er w6 base E A6 n6 c6 (dblM t)) (g6:Grew w3 A A6) (k6:Keep (foot E A) w3 w6)=>by
   rcases HRt.out with⟨_,r2,r3⟩|⟨r1,_⟩
   · exact rr_round hj hta r2 HEt.out HIt.out r3 hn1 h6 g6 k6
   · omega)
  have HBY:=hid HIt.out.bytes
  have hct1:=HIt.out.ct1
  have hct12:=HIt.out.ct12
  have ha1:=HIt.out.a0
  have hc0:=HIt.out.c0
  have hctop:t.c<4611686018427387904:=by
   have h1:=HIt.out.top
   have:(2:Int)^(24-t.ct).toNat≤2^24:=by
    have:(2:Nat)^(24-t.ct).toNat≤2^24:=Nat.pow_le_pow_right (by omega) (by omega)
    exact_mod_cast this
   omega
  obtain⟨a1,C1,t1,b1⟩:=t
  simp only at hl1 hsome hct1 hct12 ha1 hc0 hctop
  have r0:wr.cell? ⟨E,0,none⟩=some (.int .i64 a1):=HEt.out.blk.cell 0
  have r1:wr.cell? ⟨E,1,none⟩=some (.int .i64 C1):=HEt.out.blk.cell 1
  have r2:wr.cell? ⟨E,2,none⟩=some (.int .i64 t1):=HEt.out.blk.cell 2
  have g0:=HEt.out.blk.frozen 0
  have g1:=HEt.out.blk.frozen 1
  have g2:=HEt.out.blk.frozen 2
  have HBr:=hid HEt.out.blk
  by_cases hlt:a1<32768
  · have HDR:=hid (HDR.out hlt)
    by_cases hc:t1-1=0
    · have h28':=h28.out hc
      rw [HDB.out,if_pos hc]at HDR
      have hc':(t1-1==0)=true:=by simpa using hc
      clear hc HDB h28
      go_wp2_with fail
      go_region
      go_wp2_with fail
      apply with_blk (w2:=wr) (E:=E) (t:=189) (cs':=#[.int .i64 (a1*2),.int .i64 (C1*2),.int .i64 (t1-1),.slice A1 n1 c1])
      · with_reducible (repeat(first|refine Keep.drew ?_|refine Keep.setR ?_ _ _|exact Keep.refl _ _))
      · with_reducible (repeat(first|apply Blk.drew|apply Blk.set_|exact HBr.out))
      · first|rfl|simp [Int.mul_comm]
      intro w5 h5 b5
      obtain⟨q1,q2⟩:=HEt.out.trip (a1*2) (C1*2) (t1-1) h5 b5 rfl
      refine(rout_any w5 base E A1 n1 c1 _ q1 (Nat.le_trans hb3 (Nat.le_trans HKr.out.size q2.size)) (by omega) (by omega) HBY.out (by simp only;omega) h28').mono ?_
      rintro e w6 ⟨A6,n6,c6,rfl,h6,g6,k6⟩
      have hgn:=grew_next HG.out (HKr.out.trans q2 (fun _ _ h=>.inl h)) g6 k6
      have HZ:=hid (HDR.out w6 A6 n6 c6 h6 hgn.1 hgn.2)
      clear h6 g6 k6 hgn q1 q2 h5 b5 HDR
      go_wp2_with fail
      exact HZ.out
    · rw [HDB.out,if_neg hc]at HDR
      have hc':(t1-1==0)=false:=by simpa using hc
      clear hc HDB h28
      go_wp2_with fail
      go_region
      go_wp2_with fail
      apply rr_fin HDR.out HEt.out HG.out HKr.out
      · with_reducible (repeat(first|refine Keep.drew ?_|refine Keep.setR ?_ _ _|exact Keep.refl _ _))
      · with_reducible (repeat(first|apply Blk.drew|apply Blk.set_|exact HBr.out))
      · first|rfl|simp [Int.mul_comm]
  · have hF:(⟨a1,C1,t1,b1⟩:ES)=renM 16 ⟨(q:Int),C,ct,b⟩:=by
     rcases HRt.out with⟨r1,_⟩|⟨_,r2⟩
     · exact absurd r1 hlt
     · exact r2
    have HZ:Hid (RencP w base E K A (renM 16 ⟨(q:Int),C,ct,b⟩) (l.setIfInBounds (9+k*2) (.int .i64 lp)) (.returned (.tuple #[])) wr):=hid (by
     have hE:=HEt.out
     rw [hF]at hE
     refine⟨A1,n1,c1,rfl,hE,Blk.keep HC3.out HKr.out (fun h=>?_),HG.out.lift HK3.out.size,HK3.out.trans HKr.out (fun _ _ h=>.inl h)⟩
     rcases h with h|⟨ad,e,h⟩
     · exact hnE h
     · exact HAK.out ad e h)
    clear hF HDR HDB h28
    go_wp2_with fail
    go_end0
    exact HZ.out
theorem dbl_phi (s:ES) (h:1≤s.ct) (h2:s.ct≤12):7*((dblM s).b.length:Int)+8-(dblM s).ct≤7*(s.b.length:Int)+8-s.ct+1:=by
 unfold dblM
 split
 · have h1:=outM_c ⟨s.a*2,s.c*2,s.ct-1,s.b⟩
   have h2:=outM_len ⟨s.a*2,s.c*2,s.ct-1,s.b⟩
   simp only at h2
   rcases h1 with⟨_,h1⟩|⟨_,h1⟩<;>omega
 · simp only
   omega
theorem dbl_len (s:ES):s.b.length≤(dblM s).b.length:=by
 unfold dblM
 split
 · have h2:=outM_len ⟨s.a*2,s.c*2,s.ct-1,s.b⟩
   simp only at h2
   omega
 · exact Nat.le_refl _
theorem ren_phi : ∀(k:Nat) (s:ES),EInv s→s.a<32768→7*((renM k s).b.length:Int)+8-(renM k s).ct≤7*(s.b.length:Int)+8-s.ct+k∧s.b.length≤(renM k s).b.length
 |0,s,_,_=>⟨by show 7*(s.b.length:Int)+8-s.ct≤_;omega,Nat.le_refl _⟩
 |k+1,s,hi,ha=>by
  have h1:=dbl_phi s hi.ct1 hi.ct12
  have h2:=dbl_len s
  unfold renM
  split
  · exact⟨by omega,h2⟩
  · rename_i hc
    have ih:=ren_phi k (dblM s) (hi.dbl ha) (by omega)
    exact⟨by omega,by omega⟩
theorem enc_phi {s:ES} (h:EInv s) (hlo:32768≤s.a) (hhi:s.a<65536) {q:Nat} (q1:1≤q) (q2:q≤22017) (is:Bool):
 7*((encM s q is).b.length:Int)+8-(encM s q is).ct≤7*(s.b.length:Int)+8-s.ct+16∧s.b.length≤(encM s q is).b.length:=by
 have h0:=h.c0
 have i1:EInv ⟨q,s.c,s.ct,s.b⟩:=h.step (by omega) (by omega) (by omega)
 have i2:EInv ⟨s.a-q,s.c+q,s.ct,s.b⟩:=h.step (by omega) (by omega) (by omega)
 unfold encM
 split
 · split
   · exact⟨by simp only;omega,Nat.le_refl _⟩
   · split
     · exact ren_phi 16 _ i1 (by simp only;omega)
     · exact ren_phi 16 _ i2 (by simp only;omega)
 · split
   · exact ren_phi 16 _ i2 (by simp only;omega)
   · exact ren_phi 16 _ i1 (by simp only;omega)
structure CxUp (cs cs':Array Value) (a:Nat):Prop where
 far: ∀j,j≠a→j≠a+1→cs'[j]? =cs[j]?
 at_: ∃i m:Nat,i≤46∧m≤1∧cs'[a]? =some (.int .i64 i)∧cs'[a+1]? =some (.int .i64 m)
def SencP (w:World) (base E K a:Nat) (A:Option Addr) (n:Nat) (s:ES) (cs:Array Value) (e:Ending) (w':World):Prop:=
 ∃A' n' c' s' cs',e=.returned (.tuple #[])∧Er w' base E A' n' c' s'∧EInv s'∧32768≤s'.a∧s'.a<65536∧7*(n':Int)+8-s'.ct≤7*(n:Int)+8-s.ct+16∧n≤n'∧Blk w' K 165 cs'∧CxUp cs cs' a∧Grew w A A'∧Keep (fun j=>foot E A j∨j=K) w w'
theorem tab_next : ∀i,i<47→(tabAt i).2.1<47∧(tabAt i).2.2.1<47:=by decide +kernel
theorem renc_fin {w:World} {base E K k:Nat} {A:Option Addr} {n:Nat} {s:ES} {l L:Array Value} {q:Nat} {is:Bool} (hlen:s.b.length=n) (hi:EInv s) (ha:32768≤s.a) (ha2:s.a<65536) (q1:1≤q) (q2:q≤22017) (hL:CxUp l L (9+k*2)):
 ∀e w',RencP w base E K A (encM s q is) L e w'→SencP w base E K (9+k*2) A n s l e w':=by
 rintro e w' ⟨A',n',c',rfl,h1,h2,h3,h4⟩
 obtain⟨e1,e2,e3,_⟩:=encM_ok hi ha ha2 q1 q2 is
 obtain⟨p1,p2⟩:=enc_phi hi ha ha2 q1 q2 is
 rw [h1.len,hlen]at p1 p2
 exact⟨A',n',c',_,L,rfl,h1,e1,e2,e3,p1,p2,h2,hL,h3,h4⟩
theorem cxup0 {l:Array Value} {a I M:Nat} (hlI:l[a]? =some (.int .i64 I)) (hlM:l[a+1]? =some (.int .i64 M)) (hI:I<47) (hM:M<2):CxUp l l a:=⟨fun _ _ _=>rfl,I,M,by omega,by omega,hlI,hlM⟩
theorem at_lt {l:Array Value} {a:Nat} {v:Value} (h:l[a]? =some v):a<l.size:=(Array.getElem?_eq_some_iff.1 h).1
theorem CxUp.setI {l l':Array Value} {a m:Nat} (h:CxUp l l' a) (hm:m<47):CxUp l (l'.setIfInBounds a (.int .i64 m)) a:=by
 obtain⟨i,x,h1,h2,h3,h4⟩:=h.at_
 refine⟨fun j h5 h6=>?_,m,x,by omega,h2,?_,?_⟩
 · rw [Array.getElem?_setIfInBounds_ne (by omega)]
   exact h.far j h5 h6
 · rw [Array.getElem?_setIfInBounds_self_of_lt (at_lt h3)]
 · rw [Array.getElem?_setIfInBounds_ne (by omega)]
   exact h4
theorem CxUp.setM {l l':Array Value} {a M:Nat} (h:CxUp l l' a) (hM:M<2):CxUp l (l'.setIfInBounds (a+1) (.int .i64 (1-(M:Int)))) a:=by
 obtain⟨i,x,h1,h2,h3,h4⟩:=h.at_
 refine⟨fun j h5 h6=>?_,i,1-M,by omega,by omega,?_,?_⟩
 · rw [Array.getElem?_setIfInBounds_ne (by omega)]
   exact h.far j h5 h6
 · rw [Array.getElem?_setIfInBounds_ne (by omega)]
   exact h3
 · rw [Array.getElem?_setIfInBounds_self_of_lt (at_lt h4),show(1-(M:Int))=((1-M:Nat):Int) by omega]
theorem senc_any (w:World) (base E K k:Nat) (A:Option Addr) (n c:Nat) (s:ES) (l:Array Value) (I M:Nat) (bit:Int) (h:Er w base E A n c s) (hi:EInv s) (ha:32768≤s.a) (ha2:s.a<65536) (hC:Blk w K 165 l) (hlI:l[9+k*2]? =some (.int .i64 I)) (hlM:l[9+k*2+1]? =some (.int .i64 M)) (hI46:I<47) (hM2:M<2) (hk:k<19) (hb:base≤w.heap.size) (hn:n≤1073741000):
 Calls Tryz.prog 130 #[.pointer (some ⟨E,0,none⟩),.pointer (some ⟨K,9,none⟩),.int .i64 k,.int .i64 bit] w (SencP w base E K (9+k*2) A n s l):=by
 obtain⟨q,m,lp,sw,ht⟩: ∃q m lp sw,tabAt I=(q,m,lp,sw):=⟨_,_,_,_,rfl⟩
 obtain⟨q1,q2⟩:=tab_q I hI46
 obtain⟨n1,n2⟩:=tab_next I hI46
 rw [ht]at q1 q2 n1 n2
 simp only at q1 q2 n1 n2
 have hlen:=h.len
 have u0:=cxup0 hlI hlM hI46 hM2
 cases his:(bit%2==(M:Int))with
 |true=>
  by_cases h32:32768≤s.a-(q:Int)
  · exact(renc_b1 w base E K k A n c s l I M bit h hi ha ha2 hC hlI hlM hI46 hM2 hk hb hn his q m lp sw ht h32).mono (renc_fin hlen hi ha ha2 q1 q2 u0)
  · by_cases hsm:s.a-(q:Int)<q
    · exact(renc_b2 w base E K k A n c s l I M bit h hi ha ha2 hC hlI hlM hI46 hM2 hk hb hn his q m lp sw ht h32 hsm).mono (renc_fin hlen hi ha ha2 q1 q2 (u0.setI n1))
    · exact(renc_b3 w base E K k A n c s l I M bit h hi ha ha2 hC hlI hlM hI46 hM2 hk hb hn his q m lp sw ht h32 hsm).mono (renc_fin hlen hi ha ha2 q1 q2 (u0.setI n1))
 |false=>
  by_cases hsm:s.a-(q:Int)<q
  · cases sw with
    |true=>exact(renc_b4t w base E K k A n c s l I M bit h hi ha ha2 hC hlI hlM hI46 hM2 hk hb hn his q m lp ht hsm).mono (renc_fin hlen hi ha ha2 q1 q2 ((u0.setM hM2).setI n2))
    |false=>exact(renc_b4f w base E K k A n c s l I M bit h hi ha ha2 hC hlI hlM hI46 hM2 hk hb hn his q m lp ht hsm).mono (renc_fin hlen hi ha ha2 q1 q2 (u0.setI n2))
  · cases sw with
    |true=>exact(renc_b5t w base E K k A n c s l I M bit h hi ha ha2 hC hlI hlM hI46 hM2 hk hb hn his q m lp ht hsm).mono (renc_fin hlen hi ha ha2 q1 q2 ((u0.setM hM2).setI n2))
    |false=>exact(renc_b5f w base E K k A n c s l I M bit h hi ha ha2 hC hlI hlM hI46 hM2 hk hb hn his q m lp ht hsm).mono (renc_fin hlen hi ha ha2 q1 q2 (u0.setI n2))
end Go.Proofs.YthfogcgdijmaoaaGreat.Mq
