/-
  Part 35 of the proof: RefWalk. Conditions: those of the statements.
-/
import Derived.Test.YthfogcgdijmaoaaGreatW16
set_option maxRecDepth 100000
set_option maxHeartbeats 16000000
set_option linter.unusedVariables false
set_option linter.unusedSimpArgs false
namespace Go.Proofs.YthfogcgdijmaoaaGreat
open Go.RowKit
def InRef (w:World) (A:Option Addr) (n:Nat) (zs:List Int) (wr:World) (x m:Nat) (M:Option Addr) (cm:Nat) (T:Option Addr) (ct:Nat) (acc:List (Int×Nat)) (tl:Bool):Prop:=
 Keep (fun _=>False) w wr∧Pair wr w.heap.size M m cm T ct acc∧Leads zs x tl acc (walkM zs)∧m≤x∧Rd wr A n (zs.map (Value.int .u8))
theorem walkP_mk {w w':World} {zs:List Int} {M:Option Addr} {m cm:Nat} {T:Option Addr} {ct:Nat} {l:List (Int×Nat)} (hk:Keep (fun _=>False) w w') (hp:Pair w' w.heap.size M m cm T ct l) (hm:walkM zs=some l):WalkP w zs (.returned (.tuple #[.slice M m cm,.slice T m ct,.int .i64 0])) w':=by
 have hl:l.length=m:=by have:=(Rd.of_own hp.oM).1;simpa using this
 refine⟨hk,?_⟩
 rw [hm]
 subst hl
 exact⟨M,cm,T,ct,rfl,by rw [← map_marks_];exact hp.oM,by rw [← map_places];exact hp.oT⟩
theorem or_word (a z:Int) (ha:0≤a∧a≤65535) (hz:0≤z∧z≤65535):bits .or .i64 (a*65536) z=a*65536+z:=by
 obtain⟨x,rfl⟩:=Int.eq_ofNat_of_zero_le ha.1
 obtain⟨y,rfl⟩:=Int.eq_ofNat_of_zero_le hz.1
 have e:((x:Int)*65536)=((x*65536:Nat):Int):=by omega
 rw [e,i64_or_nat (x*65536) y (by omega) (by omega)]
 have h:=Nat.shiftLeft_add_eq_or_of_lt (a:=x) (b:=y) (i:=16) (by omega)
 rw [Nat.shiftLeft_eq]at h
 have e8:(2:Nat)^16=65536:=rfl
 rw [e8]at h
 rw [← h]
 omega
theorem refwalk_any (w:World) (A:Option Addr) (n c:Nat) (zs:List Int) (hr:Rd w A n (zs.map (Value.int .u8))) (hby:Bytes zs) (hcap:n≤c) (hn:n≤1099511627776):
 Calls Tryz.prog 12 #[.slice A n c] w (WalkP w zs):=by
 obtain⟨i0,hi0,hj0,hj1,hj2⟩:=info_parts info_int
 have hl:zs.length=n:=by have:=hr.1;simpa using this
 have HL:=hid hl
 have HR:=hid hr
 have HBY:=hid hby
 have HNO:=hid (show∀w',Keep (fun _=>False) w w'→walkM zs=none→WalkP w zs (.returned (.tuple #[.slice none 0 0,.slice none 0 0,.int .i64 10])) w' from fun w' k g=>⟨k,by rw [g]⟩)
 clear hr hby hl
 have TW0:=hid (reftwo_any w A n c zs 0 HR.out HBY.out hn (by omega))
 go_enter Tryz.func12,Tryz.ntmps12
 go_wp2_with fail
 refine TW0.out.mono ?_
 rintro e w2 ⟨rfl,hk2⟩
 have HK2:=hid hk2
 clear hk2 TW0
 by_cases hsoc:two zs 0=65359
 · have HLD:=hid (leads_start hsoc)
   rw [hsoc]
   have HP:Hid (Pair ((w2.alloc (.cells #[.int .i64 65359] 3)).alloc (.cells #[.int .i64 0] 3)) w.heap.size (some ⟨w2.heap.size,0,none⟩) 1 1 (some ⟨w2.heap.size+1,0,none⟩) 1 [(65359,0)]):=hid (by
    have hs:=HK2.out.size
    refine⟨(World.ownsRow_lit w2 #[.int .i64 65359] 1 hs (by simp [maxLen]) rfl).alloc _,?_,fun j e h=>?_⟩
    · have:=World.ownsRow_lit (base:=w.heap.size) (e:=3) (size:=1) (w2.alloc (.cells #[.int .i64 65359] 3)) #[.int .i64 0] 1 (by simp;omega) (by simp [maxLen]) rfl
      simpa using this
    · simp [Value.ownBlock]at e h
      omega)
   have HI:Hid (InRef w A n zs ((w2.alloc (.cells #[.int .i64 65359] 3)).alloc (.cells #[.int .i64 0] 3)) 2 1 (some ⟨w2.heap.size,0,none⟩) 1 (some ⟨w2.heap.size+1,0,none⟩) 1 [(65359,0)] false):=hid
    ⟨(HK2.out.alloc _).alloc _,HP.out,HLD.out,by omega,((HR.out.keep HK2.out (fun _ _ h=>h)).alloc _).alloc _⟩
   clear HP HLD HK2
   go_wp2_with fail
   go_loopw [5,6,7,8] (fun u5 u6 u7 u8 wr=> ∃(x m:Nat) (M:Option Addr) (cm:Nat) (T:Option Addr) (ct:Nat) (acc:List (Int×Nat)) (tl:Bool),u5=.slice M m cm∧u6=.slice T m ct∧u7=.int .i64 (x:Int)∧u8=.bool tl∧Hid (InRef w A n zs wr x m M cm T ct acc tl)) (fun _ _ u7 _ _=>n-(intOf u7).toNat)
   case atStart=>exact⟨2,1,_,1,_,1,_,false,rfl,rfl,rfl,rfl,HI⟩
   case round=>
    clear HI hsoc
    obtain⟨x,m,M,cm,T,ct,acc,tl,rfl,rfl,rfl,rfl,hin⟩:=hrel
    have HIN:=hid hin.out
    have hxl:x≤n:=by rw [← HL.out];exact hin.out.2.2.1.1
    have hmx:m≤x:=hin.out.2.2.2.1
    have HLD:=hid hin.out.2.2.1
    have HK:=hid hin.out.1
    have HP:=hid hin.out.2.1
    have HRr:=hid hin.out.2.2.2.2
    have TW:=hid (reftwo_any wr A n c zs x HRr.out HBY.out hn (by omega))
    clear hin HIN
    go_wp2_with fail
    refine TW.out.mono ?_
    rintro e w3 ⟨rfl,hk3⟩
    have HK3:=hid (HK.out.trans hk3 (fun _ _ h=>h))
    have HR3:=hid (HRr.out.keep hk3 (fun _ _ h=>h))
    have HP3:=hid (show Pair w3 w.heap.size M m cm T ct acc from⟨own_keep HP.out.oM hk3 (fun _ _ h=>h),own_keep HP.out.oT hk3 (fun _ _ h=>h),HP.out.dj⟩)
    clear hk3 TW HK HP HRr
    by_cases hmk:two zs x<65280
    · skip
      have HF:=hid (HNO.out w3 HK3.out (leads_bad HLD.out (step_low (.inl hmk))))
      clear HP3 HR3 HLD
      generalize two zs x=z at*
      go_wp2_with fail
      exact bodyPost_ret (v:=.tuple #[.slice none 0 0,.slice none 0 0,.int .i64 10]) (by simp [results,Tryz.results12,go_sem]) rfl HF.out
    · have hxn:x+2≤n:=by rw [← HL.out];exact(two_parts HBY.out (by omega)).1
      by_cases hc1:two zs x=65359
      · skip
        have HF:=hid (HNO.out w3 HK3.out (leads_bad HLD.out (step_low (.inr (.inl hc1)))))
        clear HP3 HR3 HLD
        rw [hc1]
        go_wp2_with fail
        exact bodyPost_ret (v:=.tuple #[.slice none 0 0,.slice none 0 0,.int .i64 10]) (by simp [results,Tryz.results12,go_sem]) rfl HF.out
      · by_cases hc2:two zs x=65427
        · skip
          have HF:=hid (HNO.out w3 HK3.out (leads_bad HLD.out (step_low (.inr (.inr hc2)))))
          clear HP3 HR3 HLD
          rw [hc2]
          go_wp2_with fail
          exact bodyPost_ret (v:=.tuple #[.slice none 0 0,.slice none 0 0,.int .i64 10]) (by simp [results,Tryz.results12,go_sem]) rfl HF.out
        · by_cases hc3:two zs x=65497
          · have HST:=hid (step_end (tl:=tl) hc3)
            cases tl with
            |false=>
             skip
             have HF:=hid (HNO.out w3 HK3.out (leads_bad HLD.out (HST.out.trans (if_neg (by simp)))))
             clear HP3 HR3 HLD
             rw [hc3]
             go_wp2_with fail
             exact bodyPost_ret (v:=.tuple #[.slice none 0 0,.slice none 0 0,.int .i64 10]) (by simp [results,Tryz.results12,go_sem]) rfl HF.out
            |true=>
             rw [hc3]
             have hw2:IntKind.i64.wrap ((x:Int)+2)=(x:Int)+2:=IntWalk.i64_in _ (by omega)
             by_cases hend:n=x+2
             · have hne:((n:Int) != (x:Int)+2)=false:=by simp;omega
               have HFI:=hid (leads_fin HLD.out (HST.out.trans (if_pos ⟨rfl,by rw [HL.out];exact hend⟩)))
               clear hend HR3 HLD HNO HST
               go_wp2_with (
                at_builtin
                first
                |(refine wpList_append_one w3 rfl (.tmp 49) (.tmp 51) _ rfl w.heap.size 3 i0 _ 8 Tryz.underlying22 hi0 hj0 hj1 hj2 rfl HP3.out.oM rfl (.int .i64 65497) rfl rfl (by simp only [maxLen];omega) (by omega) (by have:=HK3.out.size;omega) ?_
                  intro v4 w4a hown4 hg4 hat4 hold4
                  obtain⟨M4a,cm4a,rfl⟩:=own_form hown4
                  obtain⟨hh4,hk4⟩:=pair_half HP3.out hown4 hg4 hat4
                  have HH4a:=hid hh4
                  have HK4a:=hid (show Keep (fun _=>False) w w4a from HK3.out.new hk4 (fun i h=>h))
                  clear hown4 hg4 hat4 hold4 hh4 hk4)
                |(refine wpList_append_one w4a rfl (.tmp 53) (.tmp 55) _ rfl w.heap.size 3 i0 _ 8 Tryz.underlying22 hi0 hj0 hj1 hj2 rfl HH4a.out.oT rfl (.int .i64 ((x:Nat):Int)) rfl rfl (by simp only [maxLen];omega) (by omega) (by have:=HK4a.out.size;omega) ?_
                  intro v5 w5a hown5 hg5 hat5 hold5
                  obtain⟨T5a,ct5a,rfl⟩:=own_form hown5
                  obtain⟨hp5,hk5⟩:=half_pair HH4a.out hown5 hg5 hat5
                  have HP5a:=hid hp5
                  have HK5a:=hid (show Keep (fun _=>False) w w5a from HK4a.out.new hk5 (fun i h=>h))
                  clear hown5 hg5 hat5 hold5 hp5 hk5))
               exact bodyPost_ret (v:=.tuple #[.slice M4a (m+1) cm4a,.slice T5a (m+1) ct5a,.int .i64 0]) (by simp [results,Tryz.results12,go_sem]) rfl (walkP_mk HK5a.out HP5a.out HFI.out)
             · have hne:((n:Int) != (x:Int)+2)=true:=by simp;omega
               have HBD:=hid (leads_bad HLD.out (HST.out.trans (if_neg (fun h=>hend (by rw [← HL.out];exact h.2)))))
               clear hend HR3 HLD HST
               go_wp2_with (
                at_builtin
                first
                |(refine wpList_append_one w3 rfl (.tmp 49) (.tmp 51) _ rfl w.heap.size 3 i0 _ 8 Tryz.underlying22 hi0 hj0 hj1 hj2 rfl HP3.out.oM rfl (.int .i64 65497) rfl rfl (by simp only [maxLen];omega) (by omega) (by have:=HK3.out.size;omega) ?_
                  intro v4 w4a hown4 hg4 hat4 hold4
                  obtain⟨M4a,cm4a,rfl⟩:=own_form hown4
                  obtain⟨hh4,hk4⟩:=pair_half HP3.out hown4 hg4 hat4
                  have HH4a:=hid hh4
                  have HK4a:=hid (show Keep (fun _=>False) w w4a from HK3.out.new hk4 (fun i h=>h))
                  clear hown4 hg4 hat4 hold4 hh4 hk4)
                |(refine wpList_append_one w4a rfl (.tmp 53) (.tmp 55) _ rfl w.heap.size 3 i0 _ 8 Tryz.underlying22 hi0 hj0 hj1 hj2 rfl HH4a.out.oT rfl (.int .i64 ((x:Nat):Int)) rfl rfl (by simp only [maxLen];omega) (by omega) (by have:=HK4a.out.size;omega) ?_
                  intro v5 w5a hown5 hg5 hat5 hold5
                  obtain⟨T5a,ct5a,rfl⟩:=own_form hown5
                  obtain⟨hp5,hk5⟩:=half_pair HH4a.out hown5 hg5 hat5
                  have HP5a:=hid hp5
                  have HK5a:=hid (show Keep (fun _=>False) w w5a from HK4a.out.new hk5 (fun i h=>h))
                  clear hown5 hg5 hat5 hold5 hp5 hk5))
               have HF:=hid (HNO.out w5a HK5a.out HBD.out)
               exact bodyPost_ret (v:=.tuple #[.slice none 0 0,.slice none 0 0,.int .i64 10]) (by simp [results,Tryz.results12,go_sem]) rfl HF.out
          · by_cases hc4:two zs x=65424
            · have HST:=hid (step_tile (tl:=tl) hc4)
              rw [hc4]
              have hlen:=HL.out
              have HBD:=hid (show¬tileGood zs x→walkM zs=none from fun h=>leads_bad HLD.out (HST.out.trans (if_neg h)))
              have HGO:=hid (show tileGood zs x→Leads zs (x+(tileSize zs x).toNat) true (acc++[(65424,x),(65427,x+12)]) (walkM zs)from fun h=>leads_go HLD.out (HST.out.trans (if_pos h)))
              have hw2:IntKind.i64.wrap ((x:Int)+2)=(x:Int)+2:=IntWalk.i64_in _ (by omega)
              have hw12:IntKind.i64.wrap ((x:Int)+12)=(x:Int)+12:=IntWalk.i64_in _ (by omega)
              have hw6:IntKind.i64.wrap ((x:Int)+6)=(x:Int)+6:=IntWalk.i64_in _ (by omega)
              have hw8:IntKind.i64.wrap ((x:Int)+8)=(x:Int)+8:=IntWalk.i64_in _ (by omega)
              have hv1:IntKind.i64.wrap ((n:Int)-x)=(n:Int)-x:=IntWalk.i64_in _ (by omega)
              have hv2:IntKind.i64.wrap ((n:Int)-x-2)=(n:Int)-x-2:=IntWalk.i64_in _ (by omega)
              clear HLD HST hc1 hc2 hc3 hc4 hmk HR3
              have HG0:=hid (show tileGood zs x↔two zs (x+2)=10∧12≤(n:Int)-x∧two zs (x+12)=65427∧14≤tileSize zs x∧tileSize zs x≤(n:Int)-x from by rw [← hlen];exact Iff.rfl)
              cases tl with
              |false=>
               skip
               go_wp2_with (
                at_builtin
                first
                |(refine wpList_append_one w3 rfl (.tmp 49) (.tmp 51) _ rfl w.heap.size 3 i0 _ 8 Tryz.underlying22 hi0 hj0 hj1 hj2 rfl HP3.out.oM rfl (.int .i64 65424) rfl rfl (by simp only [maxLen];omega) (by omega) (by have:=HK3.out.size;omega) ?_
                  intro v4 w4a hown4 hg4 hat4 hold4
                  obtain⟨M4a,cm4a,rfl⟩:=own_form hown4
                  obtain⟨hh4,hk4⟩:=pair_half HP3.out hown4 hg4 hat4
                  have HH4a:=hid hh4
                  have HK4a:=hid (show Keep (fun _=>False) w w4a from HK3.out.new hk4 (fun i h=>h))
                  clear hown4 hg4 hat4 hold4 hh4 hk4)
                |(refine wpList_append_one w4a rfl (.tmp 53) (.tmp 55) _ rfl w.heap.size 3 i0 _ 8 Tryz.underlying22 hi0 hj0 hj1 hj2 rfl HH4a.out.oT rfl (.int .i64 ((x:Nat):Int)) rfl rfl (by simp only [maxLen];omega) (by omega) (by have:=HK4a.out.size;omega) ?_
                  intro v5 w5a hown5 hg5 hat5 hold5
                  obtain⟨T5a,ct5a,rfl⟩:=own_form hown5
                  obtain⟨hp5,hk5⟩:=half_pair HH4a.out hown5 hg5 hat5
                  have HP5a:=hid hp5
                  have HK5a:=hid (show Keep (fun _=>False) w w5a from HK4a.out.new hk5 (fun i h=>h))
                  clear hown5 hg5 hat5 hold5 hp5 hk5))
               have TW2:Hid (Calls Tryz.prog 27 #[.slice A n c,.int .i64 ((x:Int)+2)] w5a fun e w'=>e=.returned (.int .i64 (two zs (x+2)))∧Keep (fun _=>False) w5a w'):=hid (reftwo_any w5a A n c zs (x+2) (HR.out.keep HK5a.out (fun _ _ h=>h)) HBY.out hn (by omega))
               go_wp2_with fail
               refine TW2.out.mono ?_
               rintro e w6 ⟨rfl,hk6⟩
               have HK6:=hid (HK5a.out.trans hk6 (fun _ _ h=>h))
               have HP6:=hid (show Pair w6 w.heap.size M4a (m+1) cm4a T5a ct5a (acc++[(65424,x)])from⟨own_keep HP5a.out.oM hk6 (fun _ _ h=>h),own_keep HP5a.out.oT hk6 (fun _ _ h=>h),HP5a.out.dj⟩)
               clear hk6 TW2 HP5a HK5a
               have hrg:=two_range HBY.out (x+2)
               by_cases hq1:two zs (x+2)<2
               · have HF:=hid (HNO.out w6 HK6.out (HBD.out (fun h=>by have:=(HG0.out.1 h).1;omega)))
                 generalize two zs (x+2)=y at*
                 go_wp2_with fail
                 exact bodyPost_ret (v:=.tuple #[.slice none 0 0,.slice none 0 0,.int .i64 10]) (by simp [results,Tryz.results12,go_sem]) rfl HF.out
               · by_cases hq2:(n:Int)-x-2<two zs (x+2)
                 · have HF:=hid (HNO.out w6 HK6.out (HBD.out (fun h=>by have:=(HG0.out.1 h).1;have:=(HG0.out.1 h).2.1;omega)))
                   generalize two zs (x+2)=y at*
                   go_wp2_with fail
                   exact bodyPost_ret (v:=.tuple #[.slice none 0 0,.slice none 0 0,.int .i64 10]) (by simp [results,Tryz.results12,go_sem]) rfl HF.out
                 · by_cases hq3:two zs (x+2)=10
                   · rw [hq3]at hq2 ⊢
                     have hn12:12≤(n:Int)-x:=by omega
                     have TW7:Hid (Calls Tryz.prog 27 #[.slice A n c,.int .i64 ((x:Int)+12)] w6 fun e w'=>e=.returned (.int .i64 (two zs (x+12)))∧Keep (fun _=>False) w6 w'):=hid (reftwo_any w6 A n c zs (x+12) (HR.out.keep HK6.out (fun _ _ h=>h)) HBY.out hn (by omega))
                     go_wp2_with fail
                     refine TW7.out.mono ?_
                     rintro e w7 ⟨rfl,hk6⟩
                     have HK7:=hid (HK6.out.trans hk6 (fun _ _ h=>h))
                     have HP7:=hid (show Pair w7 w.heap.size M4a (m+1) cm4a T5a ct5a (acc++[(65424,x)])from⟨own_keep HP6.out.oM hk6 (fun _ _ h=>h),own_keep HP6.out.oT hk6 (fun _ _ h=>h),HP6.out.dj⟩)
                     clear hk6 TW7 HP6 HK6
                     by_cases hs:two zs (x+12)=65427
                     · rw [hs]
                       go_wp2_with (
                        at_builtin
                        first
                        |(refine wpList_append_one w7 rfl (.tmp 108) (.tmp 109) _ rfl w.heap.size 3 i0 _ 8 Tryz.underlying22 hi0 hj0 hj1 hj2 rfl HP7.out.oM rfl (.int .i64 65427) rfl rfl (by simp only [maxLen];omega) (by omega) (by have:=HK7.out.size;omega) ?_
                          intro v4 w4b hown4 hg4 hat4 hold4
                          obtain⟨M4b,cm4b,rfl⟩:=own_form hown4
                          obtain⟨hh4,hk4⟩:=pair_half HP7.out hown4 hg4 hat4
                          have HH4b:=hid hh4
                          have HK4b:=hid (show Keep (fun _=>False) w w4b from HK7.out.new hk4 (fun i h=>h))
                          clear hown4 hg4 hat4 hold4 hh4 hk4)
                        |(refine wpList_append_one w4b rfl (.tmp 111) (.tmp 114) _ rfl w.heap.size 3 i0 _ 8 Tryz.underlying22 hi0 hj0 hj1 hj2 rfl HH4b.out.oT rfl (.int .i64 (((x+12):Nat):Int)) rfl rfl (by simp only [maxLen];omega) (by omega) (by have:=HK4b.out.size;omega) ?_
                          intro v5 w5b hown5 hg5 hat5 hold5
                          obtain⟨T5b,ct5b,rfl⟩:=own_form hown5
                          obtain⟨hp5,hk5⟩:=half_pair HH4b.out hown5 hg5 hat5
                          have HP5b:=hid hp5
                          have HK5b:=hid (show Keep (fun _=>False) w w5b from HK4b.out.new hk5 (fun i h=>h))
                          clear hown5 hg5 hat5 hold5 hp5 hk5))
                       have TW8:Hid (Calls Tryz.prog 27 #[.slice A n c,.int .i64 ((x:Int)+6)] w5b fun e w'=>e=.returned (.int .i64 (two zs (x+6)))∧Keep (fun _=>False) w5b w'):=hid (reftwo_any w5b A n c zs (x+6) (HR.out.keep HK5b.out (fun _ _ h=>h)) HBY.out hn (by omega))
                       go_wp2_with fail
                       refine TW8.out.mono ?_
                       rintro e w8 ⟨rfl,hk6⟩
                       have HK8:=hid (HK5b.out.trans hk6 (fun _ _ h=>h))
                       have HP8:=hid (show Pair w8 w.heap.size M4b (m+1+1) cm4b T5b ct5b (acc++[(65424,x)]++[(65427,x+12)])from⟨own_keep HP5b.out.oM hk6 (fun _ _ h=>h),own_keep HP5b.out.oT hk6 (fun _ _ h=>h),HP5b.out.dj⟩)
                       clear hk6 TW8 HP5b HK5b
                       have h60:0≤two zs (x+6):=by have:=(two_byte HBY.out (p:=x+6) (by omega));omega
                       have h6r:=two_range HBY.out (x+6)
                       have TW9:Hid (Calls Tryz.prog 27 #[.slice A n c,.int .i64 ((x:Int)+8)] w8 fun e w'=>e=.returned (.int .i64 (two zs (x+8)))∧Keep (fun _=>False) w8 w'):=hid (reftwo_any w8 A n c zs (x+8) (HR.out.keep HK8.out (fun _ _ h=>h)) HBY.out hn (by omega))
                       go_wp2_with fail
                       refine TW9.out.mono ?_
                       rintro e w9 ⟨rfl,hk6⟩
                       have HK9:=hid (HK8.out.trans hk6 (fun _ _ h=>h))
                       have HP9:=hid (show Pair w9 w.heap.size M4b (m+1+1) cm4b T5b ct5b (acc++[(65424,x)]++[(65427,x+12)])from⟨own_keep HP8.out.oM hk6 (fun _ _ h=>h),own_keep HP8.out.oT hk6 (fun _ _ h=>h),HP8.out.dj⟩)
                       clear hk6 TW9 HP8 HK8
                       have h80:0≤two zs (x+8):=by have:=(two_byte HBY.out (p:=x+8) (by omega));omega
                       have h8r:=two_range HBY.out (x+8)
                       have hor:=or_word (two zs (x+6)) (two zs (x+8)) ⟨h60,h6r.2⟩ ⟨h80,h8r.2⟩
                       have HTS:=hid (show tileSize zs x=two zs (x+6)*65536+two zs (x+8)from rfl)
                       generalize two zs (x+6)=y6 at*
                       generalize two zs (x+8)=y8 at*
                       have hwm:IntKind.i64.wrap (y6*65536)=y6*65536:=IntWalk.i64_in _ (by omega)
                       obtain⟨S,hS⟩: ∃S,y6*65536+y8=S:=⟨_,rfl⟩
                       rw [hS]at hor HTS
                       have hSr:0≤S∧S≤4294967295:=by omega
                       clear hS
                       have hwS:IntKind.i64.wrap ((x:Int)+S)=(x:Int)+S:=IntWalk.i64_in _ (by omega)
                       by_cases hq4:S<14
                       · have HF:=hid (HNO.out w9 HK9.out (HBD.out (fun h=>by have:=(HG0.out.1 h).2.2.2.1;have:=HTS.out;omega)))
                         go_wp2_with fail
                         exact bodyPost_ret (v:=.tuple #[.slice none 0 0,.slice none 0 0,.int .i64 10]) (by simp [results,Tryz.results12,go_sem]) rfl HF.out
                       · by_cases hq5:(n:Int)-x<S
                         · have HF:=hid (HNO.out w9 HK9.out (HBD.out (fun h=>by have:=(HG0.out.1 h).2.2.2.2;have:=HTS.out;omega)))
                           go_wp2_with fail
                           exact bodyPost_ret (v:=.tuple #[.slice none 0 0,.slice none 0 0,.int .i64 10]) (by simp [results,Tryz.results12,go_sem]) rfl HF.out
                         · have hyes:tileGood zs x:=HG0.out.2 ⟨hq3,hn12,hs,by have:=HTS.out;omega,by have:=HTS.out;omega⟩
                           have HIN:=hid (show InRef w A n zs w9 (x+S.toNat) (m+1+1) M4b cm4b T5b ct5b (acc++[(65424,x)]++[(65427,x+12)]) true from⟨HK9.out,HP9.out,by have:=HGO.out hyes;rw [HTS.out]at this;rw [List.append_assoc];exact this,by omega,HR.out.keep HK9.out (fun _ _ h=>h)⟩)
                           have HXY:=hid (show(x:Int)+S=((x+S.toNat:Nat):Int) by omega)
                           clear HGO HBD HP9 HK9 HG0 hyes
                           go_wp2_with fail
                           exact⟨⟨x+S.toNat,m+1+1,_,_,_,_,_,_,rfl,rfl,by rw [HXY.out],rfl,HIN⟩,by simp [intOf];omega⟩
                     · have HF:=hid (HNO.out w7 HK7.out (HBD.out (fun h=>hs (HG0.out.1 h).2.2.1)))
                       have hne:(two zs (x+12) != 65427)=true:=by simpa using hs
                       generalize two zs (x+12)=y at*
                       go_wp2_with fail
                       exact bodyPost_ret (v:=.tuple #[.slice none 0 0,.slice none 0 0,.int .i64 10]) (by simp [results,Tryz.results12,go_sem]) rfl HF.out
                   · have HF:=hid (HNO.out w6 HK6.out (HBD.out (fun h=>hq3 (HG0.out.1 h).1)))
                     have hne:(two zs (x+2) != 10)=true:=by simpa using hq3
                     generalize two zs (x+2)=y at*
                     go_wp2_with fail
                     exact bodyPost_ret (v:=.tuple #[.slice none 0 0,.slice none 0 0,.int .i64 10]) (by simp [results,Tryz.results12,go_sem]) rfl HF.out
              |true=>
               skip
               go_wp2_with (
                at_builtin
                first
                |(refine wpList_append_one w3 rfl (.tmp 49) (.tmp 51) _ rfl w.heap.size 3 i0 _ 8 Tryz.underlying22 hi0 hj0 hj1 hj2 rfl HP3.out.oM rfl (.int .i64 65424) rfl rfl (by simp only [maxLen];omega) (by omega) (by have:=HK3.out.size;omega) ?_
                  intro v4 w4a hown4 hg4 hat4 hold4
                  obtain⟨M4a,cm4a,rfl⟩:=own_form hown4
                  obtain⟨hh4,hk4⟩:=pair_half HP3.out hown4 hg4 hat4
                  have HH4a:=hid hh4
                  have HK4a:=hid (show Keep (fun _=>False) w w4a from HK3.out.new hk4 (fun i h=>h))
                  clear hown4 hg4 hat4 hold4 hh4 hk4)
                |(refine wpList_append_one w4a rfl (.tmp 53) (.tmp 55) _ rfl w.heap.size 3 i0 _ 8 Tryz.underlying22 hi0 hj0 hj1 hj2 rfl HH4a.out.oT rfl (.int .i64 ((x:Nat):Int)) rfl rfl (by simp only [maxLen];omega) (by omega) (by have:=HK4a.out.size;omega) ?_
                  intro v5 w5a hown5 hg5 hat5 hold5
                  obtain⟨T5a,ct5a,rfl⟩:=own_form hown5
                  obtain⟨hp5,hk5⟩:=half_pair HH4a.out hown5 hg5 hat5
                  have HP5a:=hid hp5
                  have HK5a:=hid (show Keep (fun _=>False) w w5a from HK4a.out.new hk5 (fun i h=>h))
                  clear hown5 hg5 hat5 hold5 hp5 hk5))
               have TW2:Hid (Calls Tryz.prog 27 #[.slice A n c,.int .i64 ((x:Int)+2)] w5a fun e w'=>e=.returned (.int .i64 (two zs (x+2)))∧Keep (fun _=>False) w5a w'):=hid (reftwo_any w5a A n c zs (x+2) (HR.out.keep HK5a.out (fun _ _ h=>h)) HBY.out hn (by omega))
               go_wp2_with fail
               refine TW2.out.mono ?_
               rintro e w6 ⟨rfl,hk6⟩
               have HK6:=hid (HK5a.out.trans hk6 (fun _ _ h=>h))
               have HP6:=hid (show Pair w6 w.heap.size M4a (m+1) cm4a T5a ct5a (acc++[(65424,x)])from⟨own_keep HP5a.out.oM hk6 (fun _ _ h=>h),own_keep HP5a.out.oT hk6 (fun _ _ h=>h),HP5a.out.dj⟩)
               clear hk6 TW2 HP5a HK5a
               have hrg:=two_range HBY.out (x+2)
               by_cases hq1:two zs (x+2)<2
               · have HF:=hid (HNO.out w6 HK6.out (HBD.out (fun h=>by have:=(HG0.out.1 h).1;omega)))
                 generalize two zs (x+2)=y at*
                 go_wp2_with fail
                 exact bodyPost_ret (v:=.tuple #[.slice none 0 0,.slice none 0 0,.int .i64 10]) (by simp [results,Tryz.results12,go_sem]) rfl HF.out
               · by_cases hq2:(n:Int)-x-2<two zs (x+2)
                 · have HF:=hid (HNO.out w6 HK6.out (HBD.out (fun h=>by have:=(HG0.out.1 h).1;have:=(HG0.out.1 h).2.1;omega)))
                   generalize two zs (x+2)=y at*
                   go_wp2_with fail
                   exact bodyPost_ret (v:=.tuple #[.slice none 0 0,.slice none 0 0,.int .i64 10]) (by simp [results,Tryz.results12,go_sem]) rfl HF.out
                 · by_cases hq3:two zs (x+2)=10
                   · rw [hq3]at hq2 ⊢
                     have hn12:12≤(n:Int)-x:=by omega
                     have TW7:Hid (Calls Tryz.prog 27 #[.slice A n c,.int .i64 ((x:Int)+12)] w6 fun e w'=>e=.returned (.int .i64 (two zs (x+12)))∧Keep (fun _=>False) w6 w'):=hid (reftwo_any w6 A n c zs (x+12) (HR.out.keep HK6.out (fun _ _ h=>h)) HBY.out hn (by omega))
                     go_wp2_with fail
                     refine TW7.out.mono ?_
                     rintro e w7 ⟨rfl,hk6⟩
                     have HK7:=hid (HK6.out.trans hk6 (fun _ _ h=>h))
                     have HP7:=hid (show Pair w7 w.heap.size M4a (m+1) cm4a T5a ct5a (acc++[(65424,x)])from⟨own_keep HP6.out.oM hk6 (fun _ _ h=>h),own_keep HP6.out.oT hk6 (fun _ _ h=>h),HP6.out.dj⟩)
                     clear hk6 TW7 HP6 HK6
                     by_cases hs:two zs (x+12)=65427
                     · rw [hs]
                       go_wp2_with (
                        at_builtin
                        first
                        |(refine wpList_append_one w7 rfl (.tmp 108) (.tmp 109) _ rfl w.heap.size 3 i0 _ 8 Tryz.underlying22 hi0 hj0 hj1 hj2 rfl HP7.out.oM rfl (.int .i64 65427) rfl rfl (by simp only [maxLen];omega) (by omega) (by have:=HK7.out.size;omega) ?_
                          intro v4 w4b hown4 hg4 hat4 hold4
                          obtain⟨M4b,cm4b,rfl⟩:=own_form hown4
                          obtain⟨hh4,hk4⟩:=pair_half HP7.out hown4 hg4 hat4
                          have HH4b:=hid hh4
                          have HK4b:=hid (show Keep (fun _=>False) w w4b from HK7.out.new hk4 (fun i h=>h))
                          clear hown4 hg4 hat4 hold4 hh4 hk4)
                        |(refine wpList_append_one w4b rfl (.tmp 111) (.tmp 114) _ rfl w.heap.size 3 i0 _ 8 Tryz.underlying22 hi0 hj0 hj1 hj2 rfl HH4b.out.oT rfl (.int .i64 (((x+12):Nat):Int)) rfl rfl (by simp only [maxLen];omega) (by omega) (by have:=HK4b.out.size;omega) ?_
                          intro v5 w5b hown5 hg5 hat5 hold5
                          obtain⟨T5b,ct5b,rfl⟩:=own_form hown5
                          obtain⟨hp5,hk5⟩:=half_pair HH4b.out hown5 hg5 hat5
                          have HP5b:=hid hp5
                          have HK5b:=hid (show Keep (fun _=>False) w w5b from HK4b.out.new hk5 (fun i h=>h))
                          clear hown5 hg5 hat5 hold5 hp5 hk5))
                       have TW8:Hid (Calls Tryz.prog 27 #[.slice A n c,.int .i64 ((x:Int)+6)] w5b fun e w'=>e=.returned (.int .i64 (two zs (x+6)))∧Keep (fun _=>False) w5b w'):=hid (reftwo_any w5b A n c zs (x+6) (HR.out.keep HK5b.out (fun _ _ h=>h)) HBY.out hn (by omega))
                       go_wp2_with fail
                       refine TW8.out.mono ?_
                       rintro e w8 ⟨rfl,hk6⟩
                       have HK8:=hid (HK5b.out.trans hk6 (fun _ _ h=>h))
                       have HP8:=hid (show Pair w8 w.heap.size M4b (m+1+1) cm4b T5b ct5b (acc++[(65424,x)]++[(65427,x+12)])from⟨own_keep HP5b.out.oM hk6 (fun _ _ h=>h),own_keep HP5b.out.oT hk6 (fun _ _ h=>h),HP5b.out.dj⟩)
                       clear hk6 TW8 HP5b HK5b
                       have h60:0≤two zs (x+6):=by have:=(two_byte HBY.out (p:=x+6) (by omega));omega
                       have h6r:=two_range HBY.out (x+6)
                       have TW9:Hid (Calls Tryz.prog 27 #[.slice A n c,.int .i64 ((x:Int)+8)] w8 fun e w'=>e=.returned (.int .i64 (two zs (x+8)))∧Keep (fun _=>False) w8 w'):=hid (reftwo_any w8 A n c zs (x+8) (HR.out.keep HK8.out (fun _ _ h=>h)) HBY.out hn (by omega))
                       go_wp2_with fail
                       refine TW9.out.mono ?_
                       rintro e w9 ⟨rfl,hk6⟩
                       have HK9:=hid (HK8.out.trans hk6 (fun _ _ h=>h))
                       have HP9:=hid (show Pair w9 w.heap.size M4b (m+1+1) cm4b T5b ct5b (acc++[(65424,x)]++[(65427,x+12)])from⟨own_keep HP8.out.oM hk6 (fun _ _ h=>h),own_keep HP8.out.oT hk6 (fun _ _ h=>h),HP8.out.dj⟩)
                       clear hk6 TW9 HP8 HK8
                       have h80:0≤two zs (x+8):=by have:=(two_byte HBY.out (p:=x+8) (by omega));omega
                       have h8r:=two_range HBY.out (x+8)
                       have hor:=or_word (two zs (x+6)) (two zs (x+8)) ⟨h60,h6r.2⟩ ⟨h80,h8r.2⟩
                       have HTS:=hid (show tileSize zs x=two zs (x+6)*65536+two zs (x+8)from rfl)
                       generalize two zs (x+6)=y6 at*
                       generalize two zs (x+8)=y8 at*
                       have hwm:IntKind.i64.wrap (y6*65536)=y6*65536:=IntWalk.i64_in _ (by omega)
                       obtain⟨S,hS⟩: ∃S,y6*65536+y8=S:=⟨_,rfl⟩
                       rw [hS]at hor HTS
                       have hSr:0≤S∧S≤4294967295:=by omega
                       clear hS
                       have hwS:IntKind.i64.wrap ((x:Int)+S)=(x:Int)+S:=IntWalk.i64_in _ (by omega)
                       by_cases hq4:S<14
                       · have HF:=hid (HNO.out w9 HK9.out (HBD.out (fun h=>by have:=(HG0.out.1 h).2.2.2.1;have:=HTS.out;omega)))
                         go_wp2_with fail
                         exact bodyPost_ret (v:=.tuple #[.slice none 0 0,.slice none 0 0,.int .i64 10]) (by simp [results,Tryz.results12,go_sem]) rfl HF.out
                       · by_cases hq5:(n:Int)-x<S
                         · have HF:=hid (HNO.out w9 HK9.out (HBD.out (fun h=>by have:=(HG0.out.1 h).2.2.2.2;have:=HTS.out;omega)))
                           go_wp2_with fail
                           exact bodyPost_ret (v:=.tuple #[.slice none 0 0,.slice none 0 0,.int .i64 10]) (by simp [results,Tryz.results12,go_sem]) rfl HF.out
                         · have hyes:tileGood zs x:=HG0.out.2 ⟨hq3,hn12,hs,by have:=HTS.out;omega,by have:=HTS.out;omega⟩
                           have HIN:=hid (show InRef w A n zs w9 (x+S.toNat) (m+1+1) M4b cm4b T5b ct5b (acc++[(65424,x)]++[(65427,x+12)]) true from⟨HK9.out,HP9.out,by have:=HGO.out hyes;rw [HTS.out]at this;rw [List.append_assoc];exact this,by omega,HR.out.keep HK9.out (fun _ _ h=>h)⟩)
                           have HXY:=hid (show(x:Int)+S=((x+S.toNat:Nat):Int) by omega)
                           clear HGO HBD HP9 HK9 HG0 hyes
                           go_wp2_with fail
                           exact⟨⟨x+S.toNat,m+1+1,_,_,_,_,_,_,rfl,rfl,by rw [HXY.out],rfl,HIN⟩,by simp [intOf];omega⟩
                     · have HF:=hid (HNO.out w7 HK7.out (HBD.out (fun h=>hs (HG0.out.1 h).2.2.1)))
                       have hne:(two zs (x+12) != 65427)=true:=by simpa using hs
                       generalize two zs (x+12)=y at*
                       go_wp2_with fail
                       exact bodyPost_ret (v:=.tuple #[.slice none 0 0,.slice none 0 0,.int .i64 10]) (by simp [results,Tryz.results12,go_sem]) rfl HF.out
                   · have HF:=hid (HNO.out w6 HK6.out (HBD.out (fun h=>hq3 (HG0.out.1 h).1)))
                     have hne:(two zs (x+2) != 10)=true:=by simpa using hq3
                     generalize two zs (x+2)=y at*
                     go_wp2_with fail
                     exact bodyPost_ret (v:=.tuple #[.slice none 0 0,.slice none 0 0,.int .i64 10]) (by simp [results,Tryz.results12,go_sem]) rfl HF.out
            · have e1:(two zs x==65359)=false:=by simp;omega
              have e2:(two zs x==65427)=false:=by simp;omega
              have e4:(two zs x==65497)=false:=by simp;omega
              have n3:(two zs x != 65424)=true:=by simp;omega
              have n4:(two zs x != 65497)=true:=by simp;omega
              have e3:(two zs x==65424)=false:=by simp;omega
              cases tl with
              |true=>
               have HF:=hid (HNO.out w3 HK3.out (leads_bad HLD.out (step_late hc4 hc3)))
               clear HP3 HR3 HLD
               generalize two zs x=z at*
               go_wp2_with fail
               exact bodyPost_ret (v:=.tuple #[.slice none 0 0,.slice none 0 0,.int .i64 10]) (by simp [results,Tryz.results12,go_sem]) rfl HF.out
              |false=>
               have HST:=hid (step_seg (zs:=zs) (x:=x) (by omega) hc1 hc2 hc4 hc3)
               have hw2:IntKind.i64.wrap ((x:Int)+2)=(x:Int)+2:=IntWalk.i64_in _ (by omega)
               have hlen:=HL.out
               by_cases hr:65328≤two zs x∧two zs x≤65343
               · have HGO:=hid (leads_go HLD.out (HST.out.trans (if_pos hr)))
                 obtain⟨hr1,hr2⟩:=hr
                 clear HLD HST hc1 hc2 hc3 hc4
                 generalize two zs x=z at*
                 go_wp2_with (
                  at_builtin
                  first
                  |(refine wpList_append_one w3 rfl (.tmp 49) (.tmp 51) _ rfl w.heap.size 3 i0 _ 8 Tryz.underlying22 hi0 hj0 hj1 hj2 rfl HP3.out.oM rfl (.int .i64 z) rfl rfl (by simp only [maxLen];omega) (by omega) (by have:=HK3.out.size;omega) ?_
                    intro v4 w4a hown4 hg4 hat4 hold4
                    obtain⟨M4a,cm4a,rfl⟩:=own_form hown4
                    obtain⟨hh4,hk4⟩:=pair_half HP3.out hown4 hg4 hat4
                    have HH4a:=hid hh4
                    have HK4a:=hid (show Keep (fun _=>False) w w4a from HK3.out.new hk4 (fun i h=>h))
                    clear hown4 hg4 hat4 hold4 hh4 hk4)
                  |(refine wpList_append_one w4a rfl (.tmp 53) (.tmp 55) _ rfl w.heap.size 3 i0 _ 8 Tryz.underlying22 hi0 hj0 hj1 hj2 rfl HH4a.out.oT rfl (.int .i64 ((x:Nat):Int)) rfl rfl (by simp only [maxLen];omega) (by omega) (by have:=HK4a.out.size;omega) ?_
                    intro v5 w5a hown5 hg5 hat5 hold5
                    obtain⟨T5a,ct5a,rfl⟩:=own_form hown5
                    obtain⟨hp5,hk5⟩:=half_pair HH4a.out hown5 hg5 hat5
                    have HP5a:=hid hp5
                    have HK5a:=hid (show Keep (fun _=>False) w w5a from HK4a.out.new hk5 (fun i h=>h))
                    clear hown5 hg5 hat5 hold5 hp5 hk5))
                 have HIN:=hid (show InRef w A n zs w5a (x+2) (m+1) M4a cm4a T5a ct5a (acc++[(z,x)]) false from⟨HK5a.out,HP5a.out,HGO.out,by omega,HR.out.keep HK5a.out (fun _ _ h=>h)⟩)
                 exact⟨⟨x+2,m+1,_,_,_,_,_,_,rfl,rfl,rfl,rfl,HIN⟩,by simp [intOf];omega⟩
               · have HS1:=hid (HST.out.trans (if_neg hr))
                 have HBD:=hid (show two zs (x+2)<2∨(n:Int)-x-2<two zs (x+2)→walkM zs=none from fun h=>leads_bad HLD.out (HS1.out.trans (if_pos (by rw [hlen];exact h))))
                 have HGO:=hid (show¬(two zs (x+2)<2∨(n:Int)-x-2<two zs (x+2))→Leads zs (x+2+(two zs (x+2)).toNat) false (acc++[(two zs x,x)]) (walkM zs)from fun h=>leads_go HLD.out (HS1.out.trans (if_neg (by rw [hlen];exact h))))
                 clear HS1
                 by_cases hr1:65328≤two zs x
                 · have hr2: ¬two zs x≤65343:=fun h=>hr ⟨hr1,h⟩
                   clear hr
                   clear HLD HST hc1 hc2 hc3 hc4
                   generalize two zs x=z at*
                   go_wp2_with (
                    at_builtin
                    first
                    |(refine wpList_append_one w3 rfl (.tmp 49) (.tmp 51) _ rfl w.heap.size 3 i0 _ 8 Tryz.underlying22 hi0 hj0 hj1 hj2 rfl HP3.out.oM rfl (.int .i64 z) rfl rfl (by simp only [maxLen];omega) (by omega) (by have:=HK3.out.size;omega) ?_
                      intro v4 w4a hown4 hg4 hat4 hold4
                      obtain⟨M4a,cm4a,rfl⟩:=own_form hown4
                      obtain⟨hh4,hk4⟩:=pair_half HP3.out hown4 hg4 hat4
                      have HH4a:=hid hh4
                      have HK4a:=hid (show Keep (fun _=>False) w w4a from HK3.out.new hk4 (fun i h=>h))
                      clear hown4 hg4 hat4 hold4 hh4 hk4)
                    |(refine wpList_append_one w4a rfl (.tmp 53) (.tmp 55) _ rfl w.heap.size 3 i0 _ 8 Tryz.underlying22 hi0 hj0 hj1 hj2 rfl HH4a.out.oT rfl (.int .i64 ((x:Nat):Int)) rfl rfl (by simp only [maxLen];omega) (by omega) (by have:=HK4a.out.size;omega) ?_
                      intro v5 w5a hown5 hg5 hat5 hold5
                      obtain⟨T5a,ct5a,rfl⟩:=own_form hown5
                      obtain⟨hp5,hk5⟩:=half_pair HH4a.out hown5 hg5 hat5
                      have HP5a:=hid hp5
                      have HK5a:=hid (show Keep (fun _=>False) w w5a from HK4a.out.new hk5 (fun i h=>h))
                      clear hown5 hg5 hat5 hold5 hp5 hk5))
                   have TW2:Hid (Calls Tryz.prog 27 #[.slice A n c,.int .i64 ((x:Int)+2)] w5a fun e w'=>e=.returned (.int .i64 (two zs (x+2)))∧Keep (fun _=>False) w5a w'):=hid (reftwo_any w5a A n c zs (x+2) (HR.out.keep HK5a.out (fun _ _ h=>h)) HBY.out hn (by omega))
                   go_wp2_with fail
                   refine TW2.out.mono ?_
                   rintro e w6 ⟨rfl,hk6⟩
                   have HK6:=hid (HK5a.out.trans hk6 (fun _ _ h=>h))
                   have HP6:=hid (show Pair w6 w.heap.size M4a (m+1) cm4a T5a ct5a (acc++[(z,x)])from⟨own_keep HP5a.out.oM hk6 (fun _ _ h=>h),own_keep HP5a.out.oT hk6 (fun _ _ h=>h),HP5a.out.dj⟩)
                   have hrg:=two_range HBY.out (x+2)
                   clear hk6 TW2 HP5a HK5a
                   generalize two zs (x+2)=y at*
                   have hv1:IntKind.i64.wrap ((n:Int)-x)=(n:Int)-x:=IntWalk.i64_in _ (by omega)
                   have hv2:IntKind.i64.wrap ((n:Int)-x-2)=(n:Int)-x-2:=IntWalk.i64_in _ (by omega)
                   have hv3:IntKind.i64.wrap ((x:Int)+2+y)=(x:Int)+2+y:=IntWalk.i64_in _ (by omega)
                   by_cases hq1:y<2
                   · have HF:=hid (HNO.out w6 HK6.out (HBD.out (.inl hq1)))
                     go_wp2_with fail
                     exact bodyPost_ret (v:=.tuple #[.slice none 0 0,.slice none 0 0,.int .i64 10]) (by simp [results,Tryz.results12,go_sem]) rfl HF.out
                   · by_cases hq2:(n:Int)-x-2<y
                     · have HF:=hid (HNO.out w6 HK6.out (HBD.out (.inr hq2)))
                       go_wp2_with fail
                       exact bodyPost_ret (v:=.tuple #[.slice none 0 0,.slice none 0 0,.int .i64 10]) (by simp [results,Tryz.results12,go_sem]) rfl HF.out
                     · have HIN:=hid (show InRef w A n zs w6 (x+2+y.toNat) (m+1) M4a cm4a T5a ct5a (acc++[(z,x)]) false from⟨HK6.out,HP6.out,HGO.out (by omega),by omega,HR.out.keep HK6.out (fun _ _ h=>h)⟩)
                       have hxy:(x:Int)+2+y=((x+2+y.toNat:Nat):Int):=by omega
                       have HXY:=hid hxy
                       clear hxy HGO HBD HP6 HK6
                       go_wp2_with fail
                       exact⟨⟨x+2+y.toNat,m+1,_,_,_,_,_,_,rfl,rfl,by rw [HXY.out],rfl,HIN⟩,by simp [intOf];omega⟩
                 · clear hr
                   clear HLD HST hc1 hc2 hc3 hc4
                   generalize two zs x=z at*
                   go_wp2_with (
                    at_builtin
                    first
                    |(refine wpList_append_one w3 rfl (.tmp 49) (.tmp 51) _ rfl w.heap.size 3 i0 _ 8 Tryz.underlying22 hi0 hj0 hj1 hj2 rfl HP3.out.oM rfl (.int .i64 z) rfl rfl (by simp only [maxLen];omega) (by omega) (by have:=HK3.out.size;omega) ?_
                      intro v4 w4a hown4 hg4 hat4 hold4
                      obtain⟨M4a,cm4a,rfl⟩:=own_form hown4
                      obtain⟨hh4,hk4⟩:=pair_half HP3.out hown4 hg4 hat4
                      have HH4a:=hid hh4
                      have HK4a:=hid (show Keep (fun _=>False) w w4a from HK3.out.new hk4 (fun i h=>h))
                      clear hown4 hg4 hat4 hold4 hh4 hk4)
                    |(refine wpList_append_one w4a rfl (.tmp 53) (.tmp 55) _ rfl w.heap.size 3 i0 _ 8 Tryz.underlying22 hi0 hj0 hj1 hj2 rfl HH4a.out.oT rfl (.int .i64 ((x:Nat):Int)) rfl rfl (by simp only [maxLen];omega) (by omega) (by have:=HK4a.out.size;omega) ?_
                      intro v5 w5a hown5 hg5 hat5 hold5
                      obtain⟨T5a,ct5a,rfl⟩:=own_form hown5
                      obtain⟨hp5,hk5⟩:=half_pair HH4a.out hown5 hg5 hat5
                      have HP5a:=hid hp5
                      have HK5a:=hid (show Keep (fun _=>False) w w5a from HK4a.out.new hk5 (fun i h=>h))
                      clear hown5 hg5 hat5 hold5 hp5 hk5))
                   have TW2:Hid (Calls Tryz.prog 27 #[.slice A n c,.int .i64 ((x:Int)+2)] w5a fun e w'=>e=.returned (.int .i64 (two zs (x+2)))∧Keep (fun _=>False) w5a w'):=hid (reftwo_any w5a A n c zs (x+2) (HR.out.keep HK5a.out (fun _ _ h=>h)) HBY.out hn (by omega))
                   go_wp2_with fail
                   refine TW2.out.mono ?_
                   rintro e w6 ⟨rfl,hk6⟩
                   have HK6:=hid (HK5a.out.trans hk6 (fun _ _ h=>h))
                   have HP6:=hid (show Pair w6 w.heap.size M4a (m+1) cm4a T5a ct5a (acc++[(z,x)])from⟨own_keep HP5a.out.oM hk6 (fun _ _ h=>h),own_keep HP5a.out.oT hk6 (fun _ _ h=>h),HP5a.out.dj⟩)
                   have hrg:=two_range HBY.out (x+2)
                   clear hk6 TW2 HP5a HK5a
                   generalize two zs (x+2)=y at*
                   have hv1:IntKind.i64.wrap ((n:Int)-x)=(n:Int)-x:=IntWalk.i64_in _ (by omega)
                   have hv2:IntKind.i64.wrap ((n:Int)-x-2)=(n:Int)-x-2:=IntWalk.i64_in _ (by omega)
                   have hv3:IntKind.i64.wrap ((x:Int)+2+y)=(x:Int)+2+y:=IntWalk.i64_in _ (by omega)
                   by_cases hq1:y<2
                   · have HF:=hid (HNO.out w6 HK6.out (HBD.out (.inl hq1)))
                     go_wp2_with fail
                     exact bodyPost_ret (v:=.tuple #[.slice none 0 0,.slice none 0 0,.int .i64 10]) (by simp [results,Tryz.results12,go_sem]) rfl HF.out
                   · by_cases hq2:(n:Int)-x-2<y
                     · have HF:=hid (HNO.out w6 HK6.out (HBD.out (.inr hq2)))
                       go_wp2_with fail
                       exact bodyPost_ret (v:=.tuple #[.slice none 0 0,.slice none 0 0,.int .i64 10]) (by simp [results,Tryz.results12,go_sem]) rfl HF.out
                     · have HIN:=hid (show InRef w A n zs w6 (x+2+y.toNat) (m+1) M4a cm4a T5a ct5a (acc++[(z,x)]) false from⟨HK6.out,HP6.out,HGO.out (by omega),by omega,HR.out.keep HK6.out (fun _ _ h=>h)⟩)
                       have hxy:(x:Int)+2+y=((x+2+y.toNat:Nat):Int):=by omega
                       have HXY:=hid hxy
                       clear hxy HGO HBD HP6 HK6
                       go_wp2_with fail
                       exact⟨⟨x+2+y.toNat,m+1,_,_,_,_,_,_,rfl,rfl,by rw [HXY.out],rfl,HIN⟩,by simp [intOf];omega⟩
 · have HF:=hid (HNO.out w2 HK2.out (walkM_none hsoc))
   have hne:(two zs 0 != 65359)=true:=by simpa using hsoc
   generalize two zs 0=z at*
   go_wp2_with fail
   exact bodyPost_ret (v:=.tuple #[.slice none 0 0,.slice none 0 0,.int .i64 10]) (by simp [results,Tryz.results12,go_sem]) rfl HF.out
end Go.Proofs.YthfogcgdijmaoaaGreat
