/-
  Part 19 of the proof: SRef. Conditions: those of the statements.
-/
import Derived.Test.YthfogcgdijmaoaaGreatJ4
import Derived.Test.YthfogcgdijmaoaaGreatJ8
import Derived.DeepKeys
set_option maxRecDepth 100000
set_option maxHeartbeats 16000000
set_option linter.unusedVariables false
set_option linter.unusedSimpArgs false
namespace Go.Proofs.YthfogcgdijmaoaaGreat.Mq
open Go.RowKit
theorem wpList_store_blk {P:Program} {ops:Array Oper} {rest:List Oper} {o:Oper} {a:Act} {W:World} {Q:Exit→Act→World→Prop} {zs:Array Value} {t:TypeId} {g:Nat} (hb:Blk W g t zs) (hgd:o.guard=none) (ty:TypeId) (x y:Operand) (ho:o.op=.store ty x y)
 (hd:o.dst=none) (cells:Array Value) (hx:a.eval x=.pointer (some ⟨g,0,none⟩)) (hy:a.eval y=.agg cells)
 (hi:(P.info? ty).map (·.size)=some cells.size) (hold:zs.size=cells.size) (h1:cells.all (·.oneCell')=true)
 (K: ∀w2,Blk w2 g t cells→Keep (fun j=>j=g) W w2→wpList P ops Q rest a w2):wpList P ops Q (o::rest) a W:=by
 refine wpList_store_row hgd ty x y ho g cells hx hy t zs hb hi hold h1 ?_
 rw [hd]
 exact K _ hb.row ((Keep.refl (fun j=>j=g) W).row (.inl rfl) _)
structure Er (w:World) (base E:Nat) (A:Option Addr) (n c:Nat) (s:ES):Prop where
 blk:Blk w E 189 #[.int .i64 s.a,.int .i64 s.c,.int .i64 s.ct,.slice A n c]
 own:w.ownsRow base 5 1 (.slice A n c) n (s.b.map (Value.int .u8))
theorem Er.len {w:World} {base E:Nat} {A:Option Addr} {n c:Nat} {s:ES} (h:Er w base E A n c s):s.b.length=n:=by have:=h.own.1;simpa using this
theorem Er.keep {w w':World} {base E:Nat} {A:Option Addr} {n c:Nat} {s:ES} (h:Er w base E A n c s) {S:Nat→Prop} (hk:Keep S w w') (hW: ¬S E) (hA: ∀ad,A=some ad→ ¬S ad.block):Er w' base E A n c s:=
 ⟨h.blk.keep hk hW,own_keep h.own hk (fun k e hs=>by
  obtain⟨ad,rfl,rfl⟩:=own_foot e
  exact hA ad rfl hs)⟩
def ErP (w:World) (base E:Nat) (A:Option Addr) (s:ES) (e:Ending) (w':World):Prop:=
 ∃A' n' c',e=.returned (.tuple #[])∧Er w' base E A' n' c' s∧Grew w A A'∧Keep (foot E A) w w'
theorem rout_any (w:World) (base E:Nat) (A:Option Addr) (n c:Nat) (s:ES) (h:Er w base E A n c s) (hb:base≤w.heap.size) (hn0:0<n) (hn:n≤1073741824) (hby:Bytes s.b) (hc0:0≤s.c) (hc1:s.c<268435456):
 Calls Tryz.prog 111 #[.pointer (some ⟨E,0,none⟩)] w (ErP w base E A (outM s)):=by
 obtain⟨i0,hi0,hz0,hz1,hz2⟩:=info_parts info_u8
 obtain⟨a,C,ct,l⟩:=s
 simp only at hby hc0 hc1
 have h0:w.cell? ⟨E,3,none⟩=some (.slice A n c):=h.blk.cell 3
 have h2:w.cell? ⟨E,1,none⟩=some (.int .i64 C):=h.blk.cell 1
 have f0:=h.blk.frozen 3
 have f2:=h.blk.frozen 1
 have f3:=h.blk.frozen 2
 have hl:=lastM_byte hby
 obtain⟨g,rfl,hgc,hgb,hgl,hgf⟩:=own_at h.own hn0
 obtain⟨m,rfl⟩: ∃m,n=m+1:=⟨n-1,by omega⟩
 have hlen:=h.len
 simp only at hlen
 have g0:w.cell? ⟨g,m,none⟩=some (.int .u8 (lastM l)):=by
  have:=hgl m _ (map_at _ _ m (by rw [hlen];omega))
  unfold lastM
  rw [hlen]
  exact this
 have fg:=hgf m
 have hne:g≠E:=fun e=>own_ne h.own h.blk (by decide) (by rw [e];rfl)
 have wm:IntKind.i64.wrap (((m+1:Nat):Int)-1)=(m:Int):=by rw [IntWalk.i64_in _ (by omega)];omega
 have HB0:=hid h.blk
 have HO0:=hid h.own
 have HLEN:=hid hlen
 clear h hgl hgf hlen
 by_cases hz:lastM l=255
 · have HM:=hid (show outM ⟨a,C,ct,l⟩=⟨a,C%1048576,7,l++[C/1048576]⟩ by unfold outM;rw [if_pos hz])
   rw [hz]at g0
   clear hz
   rw [HM.out]
   go_enter Tryz.func111,Tryz.ntmps111
   go_wp2_with fail
   have HB5:=HB0
   have HO5:=HO0
   have hb5:base≤w.drew.heap.size:=hb
   have HKW:=hid (Keep.refl (foot E (some ⟨g,0,none⟩)) w)
   have c0:(w).cell? ⟨E,3,none⟩=some (.slice (some ⟨g,0,none⟩) (m+1) c):=HB5.out.cell 3
   have c2:(w).cell? ⟨E,1,none⟩=some (.int .i64 C):=HB5.out.cell 1
   have d0:=HB5.out.frozen 3
   have hne:=own_ne HO5.out HB5.out (by decide)
   have HN:=hid hne
   have hE5:=HB5.out.lt
   clear hne
   refine At.start (L:=#[false,false,false,false,false,false,false,false,false,false,false,false,false,false,false,false]) (by kernel_rfl) rfl ?_
   refine AtP 0 (some 49) ?_
   try simp only [NS]
   refine AtP 1 (some 50) ?_
   try simp only [NS]
   refine AtP 2 (some 51) ?_
   try simp only [NS]
   refine AtP 3 (some 52) ?_
   try simp only [NS]
   refine At.read 4 (some 53) (fun w'=>w'.cell? ⟨E,3,none⟩=some (.slice (some ⟨g,0,none⟩) (m+1) c)) (v:=(.slice (some ⟨g,0,none⟩) (m+1) c)) rfl rfl (by kernel_rfl) (fun _ _ _ h=>h) rfl c0 (fun w' hw'=>?y4a) ?_
   case y4a=>skip;go_simp;try with_reducible rfl
   try simp only [NS]
   refine AtP 5 (some 54) ?_
   try simp only [NS]
   refine AtP 6 (some 55) ?_
   try simp only [NS]
   refine AtP 7 (some 56) ?_
   try simp only [NS]
   refine At.read 8 (some 57) (fun w'=>w'.cell? ⟨E,1,none⟩=some (.int .i64 C)) (v:=(.int .i64 C)) rfl rfl (by kernel_rfl) (fun _ _ _ h=>h) rfl c2 (fun w' hw'=>?y8a) ?_
   case y8a=>skip;go_simp;try with_reducible rfl
   try simp only [NS]
   refine AtP 9 (some 58) ?_
   try simp only [NS]
   refine AtP 10 (some 59) ?_
   try simp only [NS]
   refine At.call 11 (pend':=[(4,(fun w'=>w'.cell? ⟨E,3,none⟩=some (.slice (some ⟨g,0,none⟩) (m+1) c)))]) rfl (by kernel_rfl) rfl (by kernel_rfl) (fun K hK=>?_)
   go_simp
   skip
   refine hK _ _ (all_cons (((Keep.refl (fun _=>False) _).alloc _).cell c0 (fun h=>h)) all_nil) ?_
   clear hK K
   try simp only [NS]
   refine AtC 12 fun K hK=>?_
   refine wp_append_one (w).drew (.tmp 53) (.tmp 60) _ rfl base 5 i0 _ 1 Tryz.underlying25 hi0 hz0 hz1 hz2 rfl HO5.out.drew rfl _ rfl rfl (by simp only [maxLen];omega) (by omega) hb5 ?_
   intro v2 w2 hown2 hg2 hat2 _hold2
   obtain⟨A2,c2,rfl⟩:=own_form hown2
   have b2:=(HB5.out.drew.alloc _).grown hg2 (Ne.symm HN.out)
   have e0:w2.cell? ⟨E,3,none⟩=some (.slice (some ⟨g,0,none⟩) (m+1) c):=b2.cell 3
   have e1:w2.cell? ⟨E,1,none⟩=some (.int .i64 C):=b2.cell 1
   have e2:w2.cell? ⟨E,2,none⟩=some (.int .i64 ct):=b2.cell 2
   have e3:=b2.frozen 3
   have e4:=b2.frozen 1
   have e5:=b2.frozen 2
   have B2:=hid b2
   have hk2:Keep (fun k=>(Value.slice (some ⟨g,0,none⟩) (m+1) c).ownBlock=some k) w w2:=(((Keep.refl _ w).drew).alloc _).grown hg2 (fun k hk=>.inl hk)
   have HK2:=hid hk2
   have HO2:=hid hown2
   have HA2:=hid hat2
   have HNE2:=hid (own_ne hown2 b2 (by decide))
   clear b2 hk2 hown2 hat2 _hold2 hg2
   refine hK _ _ all_nil ?_
   clear hK K
   try simp only [NS]
   refine AtP 13 (some 62) ?_
   try simp only [NS]
   refine AtP 14 (some 63) ?_
   try simp only [NS]
   refine AtC 15 fun K hK=>?_
   go_simp
   skip
   refine hK _ _ all_nil ?_
   clear hK K
   try simp only [NS]
   refine At.done (by kernel_rfl) ?_
   have HF2:=hid (show∀w6,Keep (fun k=>k=E) w2 w6→Blk w6 E 189 #[.int .i64 a,.int .i64 (C%1048576),.int .i64 7,.slice A2 ((m+1)+1) c2]→ErP w base E (some ⟨g,0,none⟩) ⟨a,C%1048576,7,l++[C/1048576]⟩ (.returned (.tuple #[])) w6 from fun w6 hk6 hb6=>by
    refine⟨A2,(m+1)+1,c2,rfl,⟨hb6,?_⟩,?_,?_⟩
    · have:=own_keep HO2.out hk6 (fun k e hk=>HNE2.out (by rw [e,hk]))
      rw [show IntKind.u8.wrap (C/1048576)=C/1048576 from IntWalk.u8_in _ (by omega)]at this
      simpa using this
    · exact Grew.of HA2.out (by have:=HKW.out.size;show _≤(w).heap.size+1;omega)
    · exact HKW.out.trans ((HK2.out.mono (fun k _ h=>.inr (own_foot h))).trans hk6 (fun k _ h=>.inl h)) (fun k _ h=>h))
   have hlow:=low20 (C)
   go_wp2_with fail
   refine bodyPost_ret (results_none rfl _ _ _) rfl ?_
   refine HF2.out _ ?_ ?_
   · with_reducible (repeat(first|refine Keep.drew ?_|refine Keep.setR ?_ _ _|exact Keep.refl _ _))
   · exact((B2.out.set_ 3 (.slice A2 ((m+1)+1) c2)).set_ 1 (.int .i64 (C%1048576))).set_ 2 (.int .i64 7)
 · have hz1f:(lastM l==255)=false:=by simpa using hz
   have hz2t:(lastM l != 255)=true:=by simpa using hz
   by_cases hcar:134217728≤C
   · have hand:bits .and .i64 C 134217728=134217728:=by rw [and_carry C hc0 hc1,if_pos hcar]
     have hnot:=andNot_carry C hcar hc1
     have hl1:l.length-1=m:=by rw [HLEN.out];omega
     have HM:=hid (show outM ⟨a,C,ct,l⟩=(if lastM l+1=255 then⟨a,(C-134217728)%1048576,7,l.set m (lastM l+1)++[(C-134217728)/1048576]⟩else⟨a,(C-134217728)%524288,8,l.set m (lastM l+1)++[(C-134217728)/524288]⟩) by unfold outM;rw [if_neg hz,if_pos hcar,hl1])
     have hm1:m<l.length:=by rw [HLEN.out];omega
     clear hl1
     generalize lastM l=z at*
     have hz3:z<255:=by omega
     have hb5':Blk ((w.setCell ⟨g,m,none⟩ (.int .u8 (z+1))).setCell ⟨E,1,none⟩ (.int .i64 (C-134217728))) E 189 #[.int .i64 a,.int .i64 (C-134217728),.int .i64 ct,.slice (some ⟨g,0,none⟩) (m+1) c]:=
      (HB0.out.far (p:=⟨g,m,none⟩) (Ne.symm hne) (.int .u8 (z+1))).set_ 1 (.int .i64 (C-134217728))
     have ho5':((w.setCell ⟨g,m,none⟩ (.int .u8 (z+1))).setCell ⟨E,1,none⟩ (.int .i64 (C-134217728))).ownsRow base 5 1 (.slice (some ⟨g,0,none⟩) (m+1) c) (m+1) ((l.set m (z+1)).map (Value.int .u8)):=by
      have h1:=(World.ownsRow.stored HO0.out m (.int .u8 (z+1))).1
      rw [← List.map_set]at h1
      exact own_keep h1 (Keep.set1 _ E 1 _) (fun k e hk=>hne (by simp [Value.ownBlock]at e;omega))
     have hk5':Keep (foot E (some ⟨g,0,none⟩)) w ((w.setCell ⟨g,m,none⟩ (.int .u8 (z+1))).setCell ⟨E,1,none⟩ (.int .i64 (C-134217728))):=
      Keep.setCell (Keep.setCell (Keep.refl _ w) (p:=⟨g,m,none⟩) (.inl (.inr ⟨_,rfl,rfl⟩)) _) (p:=⟨E,1,none⟩) (.inl (.inl rfl)) _
     have hg5':((w.setCell ⟨g,m,none⟩ (.int .u8 (z+1))).setCell ⟨E,1,none⟩ (.int .i64 (C-134217728))).cell? ⟨g,m,none⟩=some (.int .u8 (z+1)):=by
      obtain⟨g',hg',_,_,hcl,_⟩:=own_at ho5' (by omega)
      injection hg' with hg'
      injection hg' with hg'
      subst hg'
      have:=hcl m _ (map_at _ _ m (by rw [List.length_set];exact hm1))
      rw [List.getD_eq_getElem?_getD,List.getElem?_set_self hm1]at this
      exact this
     have HB5:=hid hb5'
     have HO5:=hid ho5'
     have HKW:=hid hk5'
     have HG5:=hid hg5'
     clear hb5' ho5' hk5' hg5' hm1
     by_cases h254:z+1=255
     · rw [HM.out,if_pos h254]
       have H254:=hid h254
       clear h254
       go_enter Tryz.func111,Tryz.ntmps111
       go_upto_region 4 with fail
       have hb5:base≤((w.setCell ⟨g,m,none⟩ (.int .u8 (z+1))).setCell ⟨E,1,none⟩ (.int .i64 (C-134217728))).drew.heap.size:=Nat.le_trans hb HKW.out.size
       have hC1:0≤C-134217728:=by omega
       have hC2:C-134217728<134217728:=by omega
       clear hcar hc0 hc1 HM
       generalize hw5:(w.setCell ⟨g,m,none⟩ (.int .u8 (z+1))).setCell ⟨E,1,none⟩ (.int .i64 (C-134217728))=w5 at*
       generalize C-134217728=C1 at*
       clear hw5 h0 h2 g0 fg f0 f2 f3
       generalize z+1=z1 at*
       have q0:w5.cell? ⟨E,3,none⟩=some (.slice (some ⟨g,0,none⟩) (m+1) c):=HB5.out.cell 3
       have q1:=HG5.out
       obtain rfl:z1=255:=H254.out
       go_wp2_with fail
       have c0:(w5).cell? ⟨E,3,none⟩=some (.slice (some ⟨g,0,none⟩) (m+1) c):=HB5.out.cell 3
       have c2:(w5).cell? ⟨E,1,none⟩=some (.int .i64 C1):=HB5.out.cell 1
       have d0:=HB5.out.frozen 3
       have hne:=own_ne HO5.out HB5.out (by decide)
       have HN:=hid hne
       have hE5:=HB5.out.lt
       clear hne
       refine At.start (L:=#[false,false,false,false,false,false,false,false,false,false,false,false,false,false,false,false]) (by kernel_rfl) rfl ?_
       refine AtP 0 (some 49) ?_
       try simp only [NS]
       refine AtP 1 (some 50) ?_
       try simp only [NS]
       refine AtP 2 (some 51) ?_
       try simp only [NS]
       refine AtP 3 (some 52) ?_
       try simp only [NS]
       refine At.read 4 (some 53) (fun w'=>w'.cell? ⟨E,3,none⟩=some (.slice (some ⟨g,0,none⟩) (m+1) c)) (v:=(.slice (some ⟨g,0,none⟩) (m+1) c)) rfl rfl (by kernel_rfl) (fun _ _ _ h=>h) rfl c0 (fun w' hw'=>?y4b) ?_
       case y4b=>skip;go_simp;try with_reducible rfl
       try simp only [NS]
       refine AtP 5 (some 54) ?_
       try simp only [NS]
       refine AtP 6 (some 55) ?_
       try simp only [NS]
       refine AtP 7 (some 56) ?_
       try simp only [NS]
       refine At.read 8 (some 57) (fun w'=>w'.cell? ⟨E,1,none⟩=some (.int .i64 C1)) (v:=(.int .i64 C1)) rfl rfl (by kernel_rfl) (fun _ _ _ h=>h) rfl c2 (fun w' hw'=>?y8b) ?_
       case y8b=>skip;go_simp;try with_reducible rfl
       try simp only [NS]
       refine AtP 9 (some 58) ?_
       try simp only [NS]
       refine AtP 10 (some 59) ?_
       try simp only [NS]
       refine At.call 11 (pend':=[(4,(fun w'=>w'.cell? ⟨E,3,none⟩=some (.slice (some ⟨g,0,none⟩) (m+1) c)))]) rfl (by kernel_rfl) rfl (by kernel_rfl) (fun K hK=>?_)
       go_simp
       skip
       refine hK _ _ (all_cons (((Keep.refl (fun _=>False) _).alloc _).cell c0 (fun h=>h)) all_nil) ?_
       clear hK K
       try simp only [NS]
       refine AtC 12 fun K hK=>?_
       refine wp_append_one (w5).drew (.tmp 53) (.tmp 60) _ rfl base 5 i0 _ 1 Tryz.underlying25 hi0 hz0 hz1 hz2 rfl HO5.out.drew rfl _ rfl rfl (by simp only [maxLen];omega) (by omega) hb5 ?_
       intro v2 w2 hown2 hg2 hat2 _hold2
       obtain⟨A2,c2,rfl⟩:=own_form hown2
       have b2:=(HB5.out.drew.alloc _).grown hg2 (Ne.symm HN.out)
       have e0:w2.cell? ⟨E,3,none⟩=some (.slice (some ⟨g,0,none⟩) (m+1) c):=b2.cell 3
       have e1:w2.cell? ⟨E,1,none⟩=some (.int .i64 C1):=b2.cell 1
       have e2:w2.cell? ⟨E,2,none⟩=some (.int .i64 ct):=b2.cell 2
       have e3:=b2.frozen 3
       have e4:=b2.frozen 1
       have e5:=b2.frozen 2
       have B2:=hid b2
       have hk2:Keep (fun k=>(Value.slice (some ⟨g,0,none⟩) (m+1) c).ownBlock=some k) w5 w2:=(((Keep.refl _ w5).drew).alloc _).grown hg2 (fun k hk=>.inl hk)
       have HK2:=hid hk2
       have HO2:=hid hown2
       have HA2:=hid hat2
       have HNE2:=hid (own_ne hown2 b2 (by decide))
       clear b2 hk2 hown2 hat2 _hold2 hg2
       refine hK _ _ all_nil ?_
       clear hK K
       try simp only [NS]
       refine AtP 13 (some 62) ?_
       try simp only [NS]
       refine AtP 14 (some 63) ?_
       try simp only [NS]
       refine AtC 15 fun K hK=>?_
       go_simp
       skip
       refine hK _ _ all_nil ?_
       clear hK K
       try simp only [NS]
       refine At.done (by kernel_rfl) ?_
       have HF2:=hid (show∀w6,Keep (fun k=>k=E) w2 w6→Blk w6 E 189 #[.int .i64 a,.int .i64 (C1%1048576),.int .i64 7,.slice A2 ((m+1)+1) c2]→ErP w base E (some ⟨g,0,none⟩) ⟨a,C1%1048576,7,(l.set m (255))++[C1/1048576]⟩ (.returned (.tuple #[])) w6 from fun w6 hk6 hb6=>by
        refine⟨A2,(m+1)+1,c2,rfl,⟨hb6,?_⟩,?_,?_⟩
        · have:=own_keep HO2.out hk6 (fun k e hk=>HNE2.out (by rw [e,hk]))
          rw [show IntKind.u8.wrap (C1/1048576)=C1/1048576 from IntWalk.u8_in _ (by omega)]at this
          simpa using this
        · exact Grew.of HA2.out (by have:=HKW.out.size;show _≤(w5).heap.size+1;omega)
        · exact HKW.out.trans ((HK2.out.mono (fun k _ h=>.inr (own_foot h))).trans hk6 (fun k _ h=>.inl h)) (fun k _ h=>h))
       have hlow:=low20 (C1)
       go_wp2_with fail
       refine bodyPost_ret (results_none rfl _ _ _) rfl ?_
       refine HF2.out _ ?_ ?_
       · with_reducible (repeat(first|refine Keep.drew ?_|refine Keep.setR ?_ _ _|exact Keep.refl _ _))
       · exact((B2.out.set_ 3 (.slice A2 ((m+1)+1) c2)).set_ 1 (.int .i64 (C1%1048576))).set_ 2 (.int .i64 7)
     · rw [HM.out,if_neg h254]
       go_enter Tryz.func111,Tryz.ntmps111
       go_upto_region 4 with fail
       have hb5:base≤((w.setCell ⟨g,m,none⟩ (.int .u8 (z+1))).setCell ⟨E,1,none⟩ (.int .i64 (C-134217728))).drew.heap.size:=Nat.le_trans hb HKW.out.size
       have hC1:0≤C-134217728:=by omega
       have hC2:C-134217728<134217728:=by omega
       clear hcar hc0 hc1 HM
       generalize hw5:(w.setCell ⟨g,m,none⟩ (.int .u8 (z+1))).setCell ⟨E,1,none⟩ (.int .i64 (C-134217728))=w5 at*
       generalize C-134217728=C1 at*
       clear hw5 h0 h2 g0 fg f0 f2 f3
       generalize z+1=z1 at*
       have q0:w5.cell? ⟨E,3,none⟩=some (.slice (some ⟨g,0,none⟩) (m+1) c):=HB5.out.cell 3
       have q1:=HG5.out
       have hq:(z1==255)=false:=by simp [h254]
       go_wp2_with fail
       have c0:(w5).cell? ⟨E,3,none⟩=some (.slice (some ⟨g,0,none⟩) (m+1) c):=HB5.out.cell 3
       have c2:(w5).cell? ⟨E,1,none⟩=some (.int .i64 C1):=HB5.out.cell 1
       have d0:=HB5.out.frozen 3
       have hne:=own_ne HO5.out HB5.out (by decide)
       have HN:=hid hne
       have hE5:=HB5.out.lt
       clear hne
       refine At.start (L:=#[false,false,false,false,false,false,false,false,false,false,false,false,false,false,false,false]) (by kernel_rfl) rfl ?_
       refine AtP 0 (some 75) ?_
       try simp only [NS]
       refine AtP 1 (some 76) ?_
       try simp only [NS]
       refine AtP 2 (some 77) ?_
       try simp only [NS]
       refine AtP 3 (some 78) ?_
       try simp only [NS]
       refine At.read 4 (some 79) (fun w'=>w'.cell? ⟨E,3,none⟩=some (.slice (some ⟨g,0,none⟩) (m+1) c)) (v:=(.slice (some ⟨g,0,none⟩) (m+1) c)) rfl rfl (by kernel_rfl) (fun _ _ _ h=>h) rfl c0 (fun w' hw'=>?y4c) ?_
       case y4c=>skip;go_simp;try with_reducible rfl
       try simp only [NS]
       refine AtP 5 (some 80) ?_
       try simp only [NS]
       refine AtP 6 (some 81) ?_
       try simp only [NS]
       refine AtP 7 (some 82) ?_
       try simp only [NS]
       refine At.read 8 (some 83) (fun w'=>w'.cell? ⟨E,1,none⟩=some (.int .i64 C1)) (v:=(.int .i64 C1)) rfl rfl (by kernel_rfl) (fun _ _ _ h=>h) rfl c2 (fun w' hw'=>?y8c) ?_
       case y8c=>skip;go_simp;try with_reducible rfl
       try simp only [NS]
       refine AtP 9 (some 84) ?_
       try simp only [NS]
       refine AtP 10 (some 85) ?_
       try simp only [NS]
       refine At.call 11 (pend':=[(4,(fun w'=>w'.cell? ⟨E,3,none⟩=some (.slice (some ⟨g,0,none⟩) (m+1) c)))]) rfl (by kernel_rfl) rfl (by kernel_rfl) (fun K hK=>?_)
       go_simp
       skip
       refine hK _ _ (all_cons (((Keep.refl (fun _=>False) _).alloc _).cell c0 (fun h=>h)) all_nil) ?_
       clear hK K
       try simp only [NS]
       refine AtC 12 fun K hK=>?_
       refine wp_append_one (w5).drew (.tmp 79) (.tmp 86) _ rfl base 5 i0 _ 1 Tryz.underlying25 hi0 hz0 hz1 hz2 rfl HO5.out.drew rfl _ rfl rfl (by simp only [maxLen];omega) (by omega) hb5 ?_
       intro v2 w2 hown2 hg2 hat2 _hold2
       obtain⟨A2,c2,rfl⟩:=own_form hown2
       have b2:=(HB5.out.drew.alloc _).grown hg2 (Ne.symm HN.out)
       have e0:w2.cell? ⟨E,3,none⟩=some (.slice (some ⟨g,0,none⟩) (m+1) c):=b2.cell 3
       have e1:w2.cell? ⟨E,1,none⟩=some (.int .i64 C1):=b2.cell 1
       have e2:w2.cell? ⟨E,2,none⟩=some (.int .i64 ct):=b2.cell 2
       have e3:=b2.frozen 3
       have e4:=b2.frozen 1
       have e5:=b2.frozen 2
       have B2:=hid b2
       have hk2:Keep (fun k=>(Value.slice (some ⟨g,0,none⟩) (m+1) c).ownBlock=some k) w5 w2:=(((Keep.refl _ w5).drew).alloc _).grown hg2 (fun k hk=>.inl hk)
       have HK2:=hid hk2
       have HO2:=hid hown2
       have HA2:=hid hat2
       have HNE2:=hid (own_ne hown2 b2 (by decide))
       clear b2 hk2 hown2 hat2 _hold2 hg2
       refine hK _ _ all_nil ?_
       clear hK K
       try simp only [NS]
       refine AtP 13 (some 88) ?_
       try simp only [NS]
       refine AtP 14 (some 89) ?_
       try simp only [NS]
       refine AtC 15 fun K hK=>?_
       go_simp
       skip
       refine hK _ _ all_nil ?_
       clear hK K
       try simp only [NS]
       refine At.done (by kernel_rfl) ?_
       have HF2:=hid (show∀w6,Keep (fun k=>k=E) w2 w6→Blk w6 E 189 #[.int .i64 a,.int .i64 (C1%524288),.int .i64 8,.slice A2 ((m+1)+1) c2]→ErP w base E (some ⟨g,0,none⟩) ⟨a,C1%524288,8,(l.set m (z1))++[C1/524288]⟩ (.returned (.tuple #[])) w6 from fun w6 hk6 hb6=>by
        refine⟨A2,(m+1)+1,c2,rfl,⟨hb6,?_⟩,?_,?_⟩
        · have:=own_keep HO2.out hk6 (fun k e hk=>HNE2.out (by rw [e,hk]))
          rw [show IntKind.u8.wrap (C1/524288)=C1/524288 from IntWalk.u8_in _ (by omega)]at this
          simpa using this
        · exact Grew.of HA2.out (by have:=HKW.out.size;show _≤(w5).heap.size+1;omega)
        · exact HKW.out.trans ((HK2.out.mono (fun k _ h=>.inr (own_foot h))).trans hk6 (fun k _ h=>.inl h)) (fun k _ h=>h))
       have hlow:=low19 (C1)
       go_wp2_with fail
       go_end0
       refine HF2.out _ ?_ ?_
       · with_reducible (repeat(first|refine Keep.drew ?_|refine Keep.setR ?_ _ _|exact Keep.refl _ _))
       · exact((B2.out.set_ 3 (.slice A2 ((m+1)+1) c2)).set_ 1 (.int .i64 (C1%524288))).set_ 2 (.int .i64 8)
   · have HM:=hid (show outM ⟨a,C,ct,l⟩=⟨a,C%524288,8,l++[C/524288]⟩ by unfold outM;rw [if_neg hz,if_neg hcar])
     clear hz
     rw [HM.out]
     generalize lastM l=z at*
     go_enter Tryz.func111,Tryz.ntmps111
     go_wp2_with fail
     have HB5:=HB0
     have HO5:=HO0
     have hb5:base≤w.drew.heap.size:=hb
     have HKW:=hid (Keep.refl (foot E (some ⟨g,0,none⟩)) w)
     have c0:(w).cell? ⟨E,3,none⟩=some (.slice (some ⟨g,0,none⟩) (m+1) c):=HB5.out.cell 3
     have c2:(w).cell? ⟨E,1,none⟩=some (.int .i64 C):=HB5.out.cell 1
     have d0:=HB5.out.frozen 3
     have hne:=own_ne HO5.out HB5.out (by decide)
     have HN:=hid hne
     have hE5:=HB5.out.lt
     clear hne
     refine At.start (L:=#[false,false,false,false,false,false,false,false,false,false,false,false,false,false,false,false]) (by kernel_rfl) rfl ?_
     refine AtP 0 (some 75) ?_
     try simp only [NS]
     refine AtP 1 (some 76) ?_
     try simp only [NS]
     refine AtP 2 (some 77) ?_
     try simp only [NS]
     refine AtP 3 (some 78) ?_
     try simp only [NS]
     refine At.read 4 (some 79) (fun w'=>w'.cell? ⟨E,3,none⟩=some (.slice (some ⟨g,0,none⟩) (m+1) c)) (v:=(.slice (some ⟨g,0,none⟩) (m+1) c)) rfl rfl (by kernel_rfl) (fun _ _ _ h=>h) rfl c0 (fun w' hw'=>?y4d) ?_
     case y4d=>skip;go_simp;try with_reducible rfl
     try simp only [NS]
     refine AtP 5 (some 80) ?_
     try simp only [NS]
     refine AtP 6 (some 81) ?_
     try simp only [NS]
     refine AtP 7 (some 82) ?_
     try simp only [NS]
     refine At.read 8 (some 83) (fun w'=>w'.cell? ⟨E,1,none⟩=some (.int .i64 C)) (v:=(.int .i64 C)) rfl rfl (by kernel_rfl) (fun _ _ _ h=>h) rfl c2 (fun w' hw'=>?y8d) ?_
     case y8d=>skip;go_simp;try with_reducible rfl
     try simp only [NS]
     refine AtP 9 (some 84) ?_
     try simp only [NS]
     refine AtP 10 (some 85) ?_
     try simp only [NS]
     refine At.call 11 (pend':=[(4,(fun w'=>w'.cell? ⟨E,3,none⟩=some (.slice (some ⟨g,0,none⟩) (m+1) c)))]) rfl (by kernel_rfl) rfl (by kernel_rfl) (fun K hK=>?_)
     go_simp
     skip
     refine hK _ _ (all_cons (((Keep.refl (fun _=>False) _).alloc _).cell c0 (fun h=>h)) all_nil) ?_
     clear hK K
     try simp only [NS]
     refine AtC 12 fun K hK=>?_
     refine wp_append_one (w).drew (.tmp 79) (.tmp 86) _ rfl base 5 i0 _ 1 Tryz.underlying25 hi0 hz0 hz1 hz2 rfl HO5.out.drew rfl _ rfl rfl (by simp only [maxLen];omega) (by omega) hb5 ?_
     intro v2 w2 hown2 hg2 hat2 _hold2
     obtain⟨A2,c2,rfl⟩:=own_form hown2
     have b2:=(HB5.out.drew.alloc _).grown hg2 (Ne.symm HN.out)
     have e0:w2.cell? ⟨E,3,none⟩=some (.slice (some ⟨g,0,none⟩) (m+1) c):=b2.cell 3
     have e1:w2.cell? ⟨E,1,none⟩=some (.int .i64 C):=b2.cell 1
     have e2:w2.cell? ⟨E,2,none⟩=some (.int .i64 ct):=b2.cell 2
     have e3:=b2.frozen 3
     have e4:=b2.frozen 1
     have e5:=b2.frozen 2
     have B2:=hid b2
     have hk2:Keep (fun k=>(Value.slice (some ⟨g,0,none⟩) (m+1) c).ownBlock=some k) w w2:=(((Keep.refl _ w).drew).alloc _).grown hg2 (fun k hk=>.inl hk)
     have HK2:=hid hk2
     have HO2:=hid hown2
     have HA2:=hid hat2
     have HNE2:=hid (own_ne hown2 b2 (by decide))
     clear b2 hk2 hown2 hat2 _hold2 hg2
     refine hK _ _ all_nil ?_
     clear hK K
     try simp only [NS]
     refine AtP 13 (some 88) ?_
     try simp only [NS]
     refine AtP 14 (some 89) ?_
     try simp only [NS]
     refine AtC 15 fun K hK=>?_
     go_simp
     skip
     refine hK _ _ all_nil ?_
     clear hK K
     try simp only [NS]
     refine At.done (by kernel_rfl) ?_
     have HF2:=hid (show∀w6,Keep (fun k=>k=E) w2 w6→Blk w6 E 189 #[.int .i64 a,.int .i64 (C%524288),.int .i64 8,.slice A2 ((m+1)+1) c2]→ErP w base E (some ⟨g,0,none⟩) ⟨a,C%524288,8,l++[C/524288]⟩ (.returned (.tuple #[])) w6 from fun w6 hk6 hb6=>by
      refine⟨A2,(m+1)+1,c2,rfl,⟨hb6,?_⟩,?_,?_⟩
      · have:=own_keep HO2.out hk6 (fun k e hk=>HNE2.out (by rw [e,hk]))
        rw [show IntKind.u8.wrap (C/524288)=C/524288 from IntWalk.u8_in _ (by omega)]at this
        simpa using this
      · exact Grew.of HA2.out (by have:=HKW.out.size;show _≤(w).heap.size+1;omega)
      · exact HKW.out.trans ((HK2.out.mono (fun k _ h=>.inr (own_foot h))).trans hk6 (fun k _ h=>.inl h)) (fun k _ h=>h))
     have hlow:=low19 (C)
     go_wp2_with fail
     go_end0
     refine HF2.out _ ?_ ?_
     · with_reducible (repeat(first|refine Keep.drew ?_|refine Keep.setR ?_ _ _|exact Keep.refl _ _))
     · exact((B2.out.set_ 3 (.slice A2 ((m+1)+1) c2)).set_ 1 (.int .i64 (C%524288))).set_ 2 (.int .i64 8)
def RCtx (w:World) (K:Nat) (l:List (Nat×Nat)):Prop:=Blk w K 159 (cxCells l)
theorem rctx_info :(Tryz.prog.info? 159).map (·.size)=some 38:=by kernel_rfl
theorem rnewe_any (w:World):
 Calls Tryz.prog 86 #[] w fun e w'=> ∃E A n c,e=.returned (.pointer (some ⟨E,0,none⟩))∧w.heap.size≤E∧Er w' w.heap.size E A n c newM∧Keep (fun _=>False) w w':=by
 go_enter Tryz.func86,Tryz.ntmps86
 go_wp2_with fail
 go_ret
 refine⟨w.heap.size+1,some ⟨w.heap.size,0,none⟩,1,1,rfl,Nat.le_succ _,⟨?_,?_⟩,((Keep.refl _ w).alloc _).alloc _⟩
 · have:=Blk.new (w.alloc (.cells #[.int .u8 0] 5)) 189 #[.int .i64 32768,.int .i64 0,.int .i64 12,.slice (some ⟨w.heap.size,0,none⟩) 1 1]
   rw [World.size_alloc]at this
   exact this
 · exact⟨by simp [newM],.inr ⟨w.heap.size,1,#[.int .u8 0],rfl,Nat.le_refl _,(Blk.new w 5 #[.int .u8 0]).alloc _,Nat.le_refl _,by simp [maxLen],rfl,by simp [newM]⟩⟩
theorem route_any (w:World) (base E:Nat) (A:Option Addr) (n c:Nat) (s:ES) (h:Er w base E A n c s) (hn0:0<n) (hn:n≤1099511627776):
 Calls Tryz.prog 89 #[.pointer (some ⟨E,0,none⟩)] w fun e w'=>e=.returned (.int .i64 (s.b.length-1))∧w=w':=by
 have h0:w.cell? ⟨E,3,none⟩=some (.slice A n c):=h.blk.cell 3
 have hl:=hid h.len
 clear h
 go_enter Tryz.func89,Tryz.ntmps89
 go_wp2_with fail
 go_ret
 exact⟨by rw [hl.out];rfl,rfl⟩
theorem rfresh_any (w:World):
 Calls Tryz.prog 106 #[] w fun e w'=>e=.returned (.agg (cxCells begL))∧Keep (fun _=>False) w w':=by
 go_enter Tryz.func106,Tryz.ntmps106
 go_wp2_with (refine wpList_store_blk (g:=w.heap.size+1) (zs:=cxCells zeros19) (t:=159) (by have:=Blk.new (w.alloc (.cells (cxCells zeros19) 159)) 159 (cxCells zeros19);rw [World.size_alloc]at this;exact this) rfl 159 _ _ rfl rfl (cxCells (begTo 0)) rfl rfl rctx_info rfl (cx_one _) ?_;intro w2 hb2 hk2)
 have hz2:Blk w2 w.heap.size 159 (cxCells zeros19):=Blk.keep (Blk.alloc (Blk.new w 159 (cxCells zeros19)) _) hk2 (by omega)
 have HZ2:=hid hz2
 have HB2:=hid hb2
 have HK2:=hid ((((Keep.refl (fun _=>False) w).alloc _).alloc _).trans hk2 (fun j hj h=>by omega))
 clear hz2 hb2 hk2
 go_loopw [2] (fun v wr=> ∃k:Nat,k≤19∧v=.int .i64 k∧Hid (Blk wr w.heap.size 159 (cxCells zeros19))∧Hid (Blk wr (w.heap.size+1) 159 (cxCells (begTo k)))∧Hid (Keep (fun _=>False) w wr)) (fun v _=>19-(intOf v).toNat)
 case atStart=>exact⟨0,by omega,rfl,HZ2,HB2,HK2⟩
 case round=>
  obtain⟨k,hk,rfl,HZ,HB,HK⟩:=hrel
  clear HZ2 HB2 HK2
  by_cases hk19:k<19
  · go_wp2_with fail
    refine(rbegin_any k wr).mono ?_
    rintro e w2 ⟨rfl,hw⟩
    obtain rfl:wr=w2:=hw
    obtain⟨hs,h0⟩:=begTo_next k hk19
    have b2:=HB.out
    have c2:=(b2.cell (k*2)).trans (cx_I (by rw [begTo_len k (by omega)];omega))
    have f2:=b2.frozen (k*2)
    have b3:=b2.set_ (k*2) (.int .i64 (begM k))
    have e1:begM k=((begM k).toNat:Int):=by omega
    rw [e1,cx_setI (by rw [begTo_len k (by omega)];omega),hs,←e1]at b3
    have HB3:=hid b3
    clear b2 b3 hs h0 e1
    generalize begM k=z at*
    go_wp2_with fail
    refine⟨⟨k+1,by omega,by simp,hid (HZ.out.far (by simp) _),HB3,hid (HK.out.setCell (p:=⟨w.heap.size+1,k*2,none⟩) (.inr (Nat.le_succ _)) _)⟩,by simp [intOf];omega⟩
  · obtain rfl:k=19:=by omega
    go_wp2_with (
     first
     |refine wpList_load_row rfl 159 _ rfl (w.heap.size+1) rfl 159 (cxCells (begTo 19)) (0,0) _ HB.out Tryz.underlying159 rfl (by rw [cx_size _ (begTo_len 19 (by omega))];exact rctx_info) ?_
     |refine wpList_store_row rfl 159 _ _ rfl w.heap.size (cxCells (begTo 19)) rfl rfl 159 (cxCells zeros19) HZ.out (by rw [cx_size _ (begTo_len 19 (by omega))];exact rctx_info) (by rw [cx_size _ (begTo_len 19 (by omega)),cx_size _ rfl]) (cx_one _) ?_)
    have hz:=HZ.out.row (cs':=cxCells (begTo 19))
    refine bodyPost_ret (results_cell_row Tryz.results106 _ _ w.heap.size 159 (cxCells (begTo 19)) (0,0) _ rfl hz Tryz.underlying159 rfl (by rw [cx_size _ (begTo_len 19 (by omega))];exact rctx_info)) rfl ?_
    exact⟨rfl,HK.out.row (.inr (Nat.le_refl _)) _⟩
theorem rflush_any (w:World) (base E:Nat) (A:Option Addr) (n c:Nat) (s:ES) (h:Er w base E A n c s) (hi:EInv s) (ha:32768≤s.a) (ha2:s.a<65536) (hb:base≤w.heap.size) (hn:n≤1073741000):
 Calls Tryz.prog 92 #[.pointer (some ⟨E,0,none⟩)] w fun e w'=> ∃A' n' c',e=.returned (.slice A' n' c')∧
  Rd w' A' n' ((flushM (flushE s)).map (Value.int .u8))∧(∀ ad,A'=some ad→w.heap.size≤ad.block)∧Keep (foot E A) w w':=by
 obtain⟨i0,hi0,hz0,hz1,hz2⟩:=info_parts info_u8
 have HE:=hid h
 have HI:=hid (hi.fl ha)
 have hC0:=hi.c0
 have hC1:s.c<301989888:=by
  have h1:=hi.top
  have:(2:Int)^(24-s.ct).toNat≤2^24:=by
   have h1:=hi.ct1
   have:(2:Nat)^(24-s.ct).toNat≤2^24:=Nat.pow_le_pow_right (by omega) (by omega)
   exact_mod_cast this
  omega
 have hor:=or_ffff s.c hC0 (by omega)
 have HFL:=hid (show flushE s=(flN 2 ⟨s.a,endC s.c s.a,s.ct,s.b⟩).b.tail from rfl)
 have HEC:=hid (show endC s.c s.a=if s.c+s.a≤s.c/65536*65536+65535 then s.c/65536*65536+65535-32768 else s.c/65536*65536+65535 from rfl)
 clear h hi
 obtain⟨a,C,ct,b⟩:=s
 simp only at ha ha2 hC0 hC1 hor HEC
 have hq0:0≤C/65536*65536+65535:=by omega
 have hq1:C/65536*65536+65535<302055424:=by omega
 generalize hQ:C/65536*65536+65535=Q at*
 have HQ:=hid hQ
 clear hQ
 have e1:w.cell? ⟨E,0,none⟩=some (.int .i64 a):=HE.out.blk.cell 0
 have e2:w.cell? ⟨E,1,none⟩=some (.int .i64 C):=HE.out.blk.cell 1
 have f2:=HE.out.blk.frozen 1
 go_enter Tryz.func92,Tryz.ntmps92
 have HX:Hid (∀ w3 cs,Keep (fun j=>j=E) w w3→Blk w3 E 189 cs→cs=#[.int .i64 a,.int .i64 (endC C a),.int .i64 ct,.slice A n c]→Er w3 base E A n c ⟨a,endC C a,ct,b⟩∧Keep (fun j=>j=E) w w3):=hid (fun w3 cs hk hb e=>by
  subst e
  exact⟨⟨hb,own_keep HE.out.own hk (fun k e hk=>own_ne HE.out.own HE.out.blk (by decide) (by rw [e,hk]))⟩,hk⟩)
 have HB:=hid HE.out.blk
 go_wp2_with fail
 go_region
 go_upto_if 28 with fail
 go_cut [] (fun wx=>Hid (Er wx base E A n c ⟨a,endC C a,ct,b⟩∧Keep (fun j=>j=E) w wx))
 case first=>
  go_wp2_with fail
  all_goals go_meet
  all_goals refine hid ?_
  all_goals apply HX.out
  · with_reducible (repeat(first|refine Keep.drew ?_|refine Keep.setR ?_ _ _|exact Keep.refl _ _))
  · with_reducible (repeat(first|apply Blk.drew|apply Blk.set_|exact HB.out))
  · rw [HEC.out,if_pos (by omega)];first|rfl|simp
  · with_reducible (repeat(first|refine Keep.drew ?_|refine Keep.setR ?_ _ _|exact Keep.refl _ _))
  · with_reducible (repeat(first|apply Blk.drew|apply Blk.set_|exact HB.out))
  · rw [HEC.out,if_neg (by omega)];first|rfl|simp
 case rest=>
  have hb3:base≤wc.heap.size:=Nat.le_trans hb hcut.out.2.size
  clear HX HB e1 e2 f2 hor HEC hq0 hq1 HQ
  go_wp2_with fail
  go_loopw [4] (fun v wr=> ∃(j:Nat) (t:ES) (A1:Option Addr) (c1:Nat),j≤2∧v=.int .i64 j∧Hid (Er wr base E A1 (n+j) c1 t)∧Hid (FInv t)∧Hid (flN (2-j) t=flN 2 ⟨a,endC C a,ct,b⟩)∧Hid (Grew w A A1)∧Hid (Keep (foot E A) w wr)) (fun v _=>2-(intOf v).toNat)
  case atStart=>exact⟨0,⟨a,endC C a,ct,b⟩,A,c,by omega,rfl,hid hcut.out.1,HI,hid rfl,hid (Grew.refl w A),hid (hcut.out.2.mono (fun _ _ h=>.inl h))⟩
  case round=>
   obtain⟨j,t,A1,c1,hj,rfl,HE1,HI1,HF1,HG1,HK1⟩:=hrel
   by_cases hj2:j<2
   · have hl1:=HE1.out.len
     have hsome:=HI1.out.some_
     have HBY:=hid HI1.out.bytes
     have HFI:=hid HI1.out.fl
     have HFE:=hid (show flM t=outM ⟨t.a,t.c*2^t.ct.toNat,t.ct,t.b⟩from rfl)
     obtain⟨a1,C1,t1,b1⟩:=t
     have hc0:0≤C1:=HI1.out.c0
     have ht0:0≤t1:=HI1.out.ct0
     have ht12:t1≤12:=HI1.out.ct12
     have htop:C1*2^t1.toNat<268435456:=HI1.out.top
     simp only at hl1 hsome
     have hp:(0:Int)<2^t1.toNat:=Int.pow_pos (by decide)
     have hc1:0≤C1*2^t1.toNat:=Int.mul_nonneg hc0 (by omega)
     have g2:wr.cell? ⟨E,1,none⟩=some (.int .i64 C1):=HE1.out.blk.cell 1
     have g3:wr.cell? ⟨E,2,none⟩=some (.int .i64 t1):=HE1.out.blk.cell 2
     have k2:=HE1.out.blk.frozen 1
     have hw:IntKind.i64.wrap (C1*2^t1.toNat)=C1*2^t1.toNat:=IntWalk.i64_in _ (by omega)
     go_wp2_with fail
     go_region
     go_wp2_with fail
     have HT:=hid (show Er (wr.setCell ⟨E,1,none⟩ (.int .i64 (C1*2^t1.toNat))).drew base E A1 (n+j) c1 ⟨a1,C1*2^t1.toNat,t1,b1⟩from
      ⟨(HE1.out.blk.set_ 1 (.int .i64 (C1*2^t1.toNat))).drew,own_keep HE1.out.own ((Keep.refl (fun k=>k=E) wr).setR 1 _).drew (fun k e hk=>own_ne HE1.out.own HE1.out.blk (by decide) (by rw [e,hk]))⟩)
     have hk5:Keep (foot E A1) wr (wr.setCell ⟨E,1,none⟩ (.int .i64 (C1*2^t1.toNat))).drew:=((Keep.refl (fun k=>k=E) wr).setR 1 _).drew.mono (fun _ _ h=>.inl h)
     refine(rout_any _ base E A1 (n+j) c1 _ HT.out (Nat.le_trans hb (Nat.le_trans HK1.out.size hk5.size)) (by omega) (by omega) HBY.out hc1 htop).mono ?_
     rintro e w6 ⟨A6,n6,c6,rfl,h6,g6,k6⟩
     have hgn:=grew_next (Grew.refl wr A1) hk5 g6 k6
     have hgn2:=grew_next HG1.out HK1.out hgn.1 hgn.2
     have hn6:n6=n+(j+1):=by
      have h1:=h6.len
      rw [outM_len]at h1
      simp only at h1
      omega
     subst hn6
     have HR:=hid (show∃(j':Nat) (t:ES) (A1:Option Addr) (c1:Nat),j'≤2∧Value.int .i64 ((j:Int)+1)=.int .i64 j'∧Hid (Er w6 base E A1 (n+j') c1 t)∧Hid (FInv t)∧Hid (flN (2-j') t=flN 2 ⟨a,endC C a,ct,b⟩)∧Hid (Grew w A A1)∧Hid (Keep (foot E A) w w6)from
      ⟨j+1,_,A6,c6,by omega,rfl,hid h6,HFI,hid (by
       have:=HF1.out
       rw [show 2-j=(2-(j+1))+1 by omega]at this
       exact this),hid hgn2.1,hid hgn2.2⟩)
     clear HT hk5 hgn hgn2 h6 g6 k6
     go_wp2_with fail
     exact⟨HR.out,by simp [intOf];omega⟩
   · obtain rfl:j=2:=by omega
     have HT:=hid (show flushE ⟨a,C,ct,b⟩=t.b.tail from by rw [HFL.out,←HF1.out];rfl)
     have hlen:=HE1.out.len
     obtain⟨g,rfl,hgc,hgb,hgl,hgf⟩:=own_at HE1.out.own (by omega)
     have g0:wr.cell? ⟨E,3,none⟩=some (.slice (some ⟨g,0,none⟩) (n+2) c1):=HE1.out.blk.cell 3
     have g1:wr.cell? ⟨g,1+n,none⟩=some (.int .u8 (lastM t.b)):=by
      rw [Nat.add_comm 1 n]
      have:=hgl (n+1) _ (map_at _ _ (n+1) (by rw [hlen];omega))
      unfold lastM
      rw [hlen]
      exact this
     have hRd:Rd wr (some ⟨g,1,none⟩) (n+1) (t.b.tail.map (Value.int .u8)):=by
      have:=(Rd.of_own HE1.out.own).drop (k:=1) (cap:=c1) (by omega) (by omega)
      rw [if_neg (by omega),←List.map_drop,List.drop_one]at this
      exact this
     have hlt:lastM t.b.tail=lastM t.b:=by
      unfold lastM
      rw [List.length_tail,List.getD_eq_getElem?_getD,List.getD_eq_getElem?_getD,List.getElem?_tail]
      congr 3
      omega
     have g0a:(wr.alloc (.cells #[] 5)).cell? ⟨E,3,none⟩=some (.slice (some ⟨g,0,none⟩) (n+2) c1):=((Keep.refl (fun _=>False) wr).alloc _).cell g0 (fun h=>h)
     have HRD:=hid hRd
     have HLT:=hid hlt
     have HLN:=hid hlen
     have htl:t.b.tail.getD n 0=lastM t.b:=by
      rw [← HLT.out]
      unfold lastM
      rw [List.length_tail,HLN.out,show n+2-1-1=n by omega]
     have hcm:(n:Int)+2≤c1:=by omega
     by_cases hz:lastM t.b=255
     · have HF:=hid (show flushM t.b.tail=t.b.tail.dropLast from if_pos (by rw [hlt];exact hz))
       have HTL:=hid (htl.trans hz)
       clear hz htl hlt hRd hgl hgf g1 hlen
       go_wp2_with (
        at_builtin
        refine wpList_append_src _ rfl (.tmp 56) (.tmp 61) _ rfl wr.heap.size 5 i0 _ 1 Tryz.underlying25 hi0 hz0 hz1 hz2 rfl
         (World.ownsRow_made wr #[] 0 (Nat.le_refl _) (by simp [maxLen]) rfl) rfl (HRD.out.alloc _) rfl (oneCell_ints _ _) (by simp only [maxLen];omega) (by omega) (by simp) ?_
        intro v4 w4 hown4 hg4 hat4 _hold
        simp only [Nat.zero_add,List.nil_append]at hown4
        obtain⟨A4,c4,rfl⟩:=own_form hown4
        obtain⟨g4,rfl,hgc4,hgb4,hgl4,hgf4⟩:=own_at hown4 (by omega)
        have z4:w4.cell? ⟨g4,n,none⟩=some (.int .u8 (t.b.tail.getD n 0)):=hgl4 n _ (map_at _ _ n (by rw [List.length_tail,HLN.out];omega))
        rw [HTL.out]at z4
        have HO4:=hid hown4
        have HK6:=hid ((HK1.out.trans (((Keep.refl (fun _=>False) wr).alloc _).grown hg4 (fun k hk=>by simp [Value.ownBlock]at hk;omega)) (fun _ _ h=>h.elim)))
        have hb4:w.heap.size≤g4:=Nat.le_trans HK1.out.size hgb4
        clear hown4 hg4 hat4 _hold hgl4 hgf4 hgb4)
       have HR6:Hid (Rd w4 (some ⟨g4,0,none⟩) n ((flushM (flushE ⟨a,C,ct,b⟩)).map (Value.int .u8))):=hid (by
        rw [HT.out,HF.out]
        have:=(Rd.of_own HO4.out).take (k:=n) (by omega)
        rw [← List.map_take]at this
        have e:t.b.tail.take n=t.b.tail.dropLast:=by rw [List.dropLast_eq_take,List.length_tail,HLN.out];rfl
        rwa [e]at this)
       clear HO4
       go_ret
       exact⟨some ⟨g4,0,none⟩,n,c4,rfl,HR6.out,fun ad e=>by injection e with e;subst e;exact hb4,HK6.out⟩
     · have HF:=hid (show flushM t.b.tail=t.b.tail from if_neg (by rw [hlt];exact hz))
       have hz':(lastM t.b==255)=false:=by simpa using hz
       have HTL:=hid htl
       clear hz hlt hRd hgl hgf g1 hlen htl
       go_wp2_with (
        at_builtin
        refine wpList_append_src _ rfl (.tmp 56) (.tmp 61) _ rfl wr.heap.size 5 i0 _ 1 Tryz.underlying25 hi0 hz0 hz1 hz2 rfl
         (World.ownsRow_made wr #[] 0 (Nat.le_refl _) (by simp [maxLen]) rfl) rfl (HRD.out.alloc _) rfl (oneCell_ints _ _) (by simp only [maxLen];omega) (by omega) (by simp) ?_
        intro v4 w4 hown4 hg4 hat4 _hold
        simp only [Nat.zero_add,List.nil_append]at hown4
        obtain⟨A4,c4,rfl⟩:=own_form hown4
        obtain⟨g4,rfl,hgc4,hgb4,hgl4,hgf4⟩:=own_at hown4 (by omega)
        have z4:w4.cell? ⟨g4,n,none⟩=some (.int .u8 (t.b.tail.getD n 0)):=hgl4 n _ (map_at _ _ n (by rw [List.length_tail,HLN.out];omega))
        rw [HTL.out]at z4
        have HO4:=hid hown4
        have HK6:=hid ((HK1.out.trans (((Keep.refl (fun _=>False) wr).alloc _).grown hg4 (fun k hk=>by simp [Value.ownBlock]at hk;omega)) (fun _ _ h=>h.elim)))
        have hb4:w.heap.size≤g4:=Nat.le_trans HK1.out.size hgb4
        clear hown4 hg4 hat4 _hold hgl4 hgf4 hgb4)
       have HR6:Hid (Rd w4 (some ⟨g4,0,none⟩) (n+1) ((flushM (flushE ⟨a,C,ct,b⟩)).map (Value.int .u8))):=hid (by
        rw [HT.out,HF.out]
        exact Rd.of_own HO4.out)
       clear HO4
       go_ret
       exact⟨some ⟨g4,0,none⟩,n+1,c4,rfl,HR6.out,fun ad e=>by injection e with e;subst e;exact hb4,HK6.out⟩
end Go.Proofs.YthfogcgdijmaoaaGreat.Mq
