/-
  Part 3 of the proof: LawM. Conditions: those of the statements.
-/
import Derived.Test.YthfogcgdijmaoaaGreatM2
import Derived.Test.YthfogcgdijmaoaaGreatJ46
set_option maxRecDepth 100000
set_option maxHeartbeats 16000000
set_option linter.unusedVariables false
set_option linter.unusedSimpArgs false
namespace Go.Proofs.YthfogcgdijmaoaaGreat
open Go.RowKit
theorem make_law (w:World) (f:Fm) (side:Nat) (hs1:1≤side) (hs12:side≤12) (hf:FmOk w f):
 Calls Tryz.prog 8 #[.agg f.cells,.int .i64 side] w (MakeL w):=by
 refine(make_any w f side hs1 hs12 hf).mono ?_
 rintro e w' ⟨m,p,cs,nx,ny,rfl,hP,h6,hk⟩
 exact makeL_of hP h6 hk
end Go.Proofs.YthfogcgdijmaoaaGreat
