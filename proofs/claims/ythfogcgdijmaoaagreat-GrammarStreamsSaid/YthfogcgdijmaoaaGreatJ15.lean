/-
  Part 15 of the proof: CodR. Conditions: those of the statements.
-/
import Derived.Test.YthfogcgdijmaoaaGreatJ10
set_option maxRecDepth 100000
set_option maxHeartbeats 16000000
set_option linter.unusedVariables false
set_option linter.unusedSimpArgs false
namespace Go.Proofs.YthfogcgdijmaoaaGreat
open Go.RowKit
def SigP (d:Cd) (p q:Int) (w:World) (e:Ending) (w':World):Prop:= ∃b:Bool,e=.returned (.bool b)∧(b=true→0≤p∧p<d.W∧0≤q∧q<d.H)∧Keep (fun _=>False) w w'
theorem sig_any (w:World) (d:Cd) (band style:Int) (raw:Bool) (h:CdR d band style raw w) (x y dx dy:Int) (hx:-1≤x∧x≤100) (hy:0≤y∧y≤100) (hdx:-1≤dx∧dx≤1) (hdy:-1≤dy∧dy≤1):
 Calls Tryz.prog 127 #[.pointer (some ⟨d.g,0,none⟩),.int .i64 x,.int .i64 y,.int .i64 dx,.int .i64 dy] w (SigP d (x+dx) (y+dy) w):=by
 obtain⟨cs,hc,_,hC⟩:=h.f
 have c0:w.cell? ⟨d.g,0,none⟩=some (.int .i64 d.W):=(hc 0).trans hC.c0
 have c1:w.cell? ⟨d.g,1,none⟩=some (.int .i64 d.H):=(hc 1).trans hC.c1
 have c3:w.cell? ⟨d.g,3,none⟩=some (.int .i64 style):=(hc 3).trans hC.c3
 have c6:w.cell? ⟨d.g,6,none⟩=some (.slice (some ⟨d.gs,0,none⟩) (d.W*d.H) (d.W*d.H)):=(hc 6).trans hC.c6
 have HF:Hid (∀ n,SigP d (x+dx) (y+dy) w (.returned (.bool false)) (w.drewN n)):=hid (fun n=>⟨false,rfl,(fun h=>absurd h (by decide)),(Keep.refl _ w).drewN n⟩)
 have HF0:Hid (SigP d (x+dx) (y+dy) w (.returned (.bool false)) w):=hid ⟨false,rfl,(fun h=>absurd h (by decide)),Keep.refl _ w⟩
 have hWl:=h.w1
 have hHl:=h.h1
 have hN:=h.n144
 obtain⟨W,hW⟩: ∃W,d.W=W:=⟨_,rfl⟩
 obtain⟨H,hH⟩: ∃H,d.H=H:=⟨_,rfl⟩
 have HT:Hid (∀ (b:Bool) n,0≤x+dx→x+dx<W→0≤y+dy→y+dy<H→SigP d (x+dx) (y+dy) w (.returned (.bool b)) (w.drewN n)):=hid (fun b n h1 h2 h3 h4=>⟨b,rfl,fun _=>⟨h1,by rw [hW];exact h2,h3,by rw [hH];exact h4⟩,(Keep.refl _ w).drewN n⟩)
 have HR:=hid h
 have HC:Hid (∀ a b:Nat,a<W→b<H→ ∃s,w.cell? ⟨d.gs,b*W+a,none⟩=some (.bool s)):=hid (fun a b h1 h2=>h.sig.cell (by rw [hW,hH];exact ix_lt h1 h2))
 rw [hW]at c0 hWl hN
 rw [hH]at c1 hHl hN
 rw [hW,hH]at c6
 clear hc hC h hW hH
 by_cases hin:0≤x+dx∧x+dx<W∧0≤y+dy∧y+dy<H
 · obtain⟨i1,i2,i3,i4⟩:=hin
   obtain⟨p,hp⟩: ∃p:Nat,x+dx=p:=⟨(x+dx).toNat,by omega⟩
   obtain⟨q,hq⟩: ∃q:Nat,y+dy=q:=⟨(y+dy).toNat,by omega⟩
   have HTT:=hid (fun (b:Bool) n=>HT.out b n i1 i2 i3 i4)
   rw [hp]at HF0 HF i1 i2
   rw [hq]at HF0 HF i3 i4
   have hix:=ix_lt (W:=W) (H:=H) (x:=p) (y:=q) (by omega) (by omega)
   obtain⟨s,hs⟩:=HC.out p q (by omega) (by omega)
   have hm:q*W≤144:=by omega
   have e1:(q:Int)*(W:Int)=((q*W:Nat):Int):=by push_cast;rfl
   have e2:IntKind.i64.wrap ((q*W:Nat):Int)=((q*W:Nat):Int):=IntWalk.i64_in _ (by omega)
   rw [hp,hq]at HTT
   generalize q*W=u at*
   generalize W*H=N at*
   have HPQ:=hid (And.intro hp hq)
   have HTU:=hid HTT.out
   rw [hp,hq]
   have hw1:IntKind.i64.wrap (x+dx)=p:=by rw [hp];exact IntWalk.i64_in _ (by omega)
   have hw2:IntKind.i64.wrap (y+dy)=q:=by rw [hq];exact IntWalk.i64_in _ (by omega)
   clear HT HC hm
   go_enter Tryz.func127,Tryz.ntmps127
   go_wp2_with fail
   all_goals(first|(go_ret;exact HF0.out)|(go_quiet (fail);go_wp2_with fail;go_ret;exact HTU.out _ _))
 · have h1:x+dx<0∨W≤x+dx∨y+dy<0∨H≤y+dy:=by omega
   clear hin HT HC
   rcases h1 with h1|h1|h1|h1
   all_goals(
    go_enter Tryz.func127,Tryz.ntmps127
    go_wp2_with fail
    all_goals(go_ret;exact HF0.out))
def AroundP (w:World) (e:Ending) (w':World):Prop:= ∃h v d:Int,(0≤h∧h≤2)∧(0≤v∧v≤2)∧(0≤d∧d≤4)∧e=.returned (.tuple #[.int .i64 h,.int .i64 v,.int .i64 d])∧Keep (fun _=>False) w w'
theorem one_lim (b:Bool):0≤(if b then(1:Int)else 0)∧(if b then(1:Int)else 0)≤1:=by cases b<;>simp
theorem around_any (w:World) (d:Cd) (band style:Int) (raw:Bool) (h:CdR d band style raw w) (x y:Int) (hx:0≤x∧x≤99) (hy:0≤y∧y≤99):
 Calls Tryz.prog 120 #[.pointer (some ⟨d.g,0,none⟩),.int .i64 x,.int .i64 y] w (AroundP w):=by
 have HR:=hid h
 have HK:=hid (Keep.refl (fun _=>False) w)
 clear h
 go_enter Tryz.func120,Tryz.ntmps120
 go_wp2_with (first|(go_at_call 127;refine(sig_any _ d band style raw HR.out _ _ _ _ (by omega) (by omega) (by omega) (by omega)).mono ?_;rintro e w2 ⟨b,rfl,_hb,hk⟩;replace HR:=hid (HR.out.keepF hk);replace HK:=hid (HK.out.trans hk (fun _ _ h=>h));clear hk _hb)|(go_at_call 83;refine(one_any _ _).mono ?_;rintro e w2 ⟨rfl,hw⟩;cases hw;first|(have l1:=one_lim b);generalize (if b=true then(1:Int)else 0)=o at *))
 exact bodyPost_ret (v:=.tuple #[_,_,_]) (by simp [results,Tryz.results120,go_sem]<;>exact⟨rfl,rfl,rfl⟩) rfl ⟨_,_,_,⟨by omega,by omega⟩,⟨by omega,by omega⟩,⟨by omega,by omega⟩,rfl,HK.out⟩
end Go.Proofs.YthfogcgdijmaoaaGreat
