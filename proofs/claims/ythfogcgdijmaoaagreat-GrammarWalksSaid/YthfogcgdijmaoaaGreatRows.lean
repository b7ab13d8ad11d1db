/-
  No cell of these rows narrows 'for every input' (looked for: loops, veiled, ifaces, maps, wideKeys, modest, calm, conditions, laid).
  DERIVED. THE GIVEN ROWS OF THIS SEAT. 4 by the template 'for every input the law returns true; each argument reads behind the call as it read before'; 0 by the template 'total and deterministic' (their statements: YthfogcgdijmaoaaGreatTotals.lean).
  GIVEN WITH THE SEED: the statements are not yours to turn. If you find one false, say at which input.
  Laid BY PROGRAM, IN A SANDBOX (cutbox-rows.mjs): the forced cells as the released guide's own fill.sh prints them over the translation 7a54df4e89f84b76… (all of the seat's roots in one cut). By AI agents, Wed Nov 11 2026. No macro, syntax, notation, axiom, sorry.
-/
import Derived.Test.YthfogcgdijmaoaaGreatChecked
import GoSem.Claim
import GoSem.ClaimJoined
import GoSem.ClaimMapViews
import Derived.JoinedTies
import Derived.KernelRfl
namespace Go.Proofs.YthfogcgdijmaoaaGreat
/- THE CELL 'sum', in the pinned program and in every row, IS THE sha256 OF THE DUMP (.gsa) THAT YthfogcgdijmaoaaGreatProg.lean LOADS. Nothing in Lean hashes anything: it is a label: what it is worth is what the hold of that sum in a sandbox is worth. -/
noncomputable def Tryz.pinned : Pinned := { name := "ythfogcgdijmaoaagreat", sum := "7a54df4e89f84b76e2074759644b28970cb59a274a761835baec8e7c62291d29", checked := Tryz.checked }
namespace Rows
def none {H : Type} : Left H := { results := [], args := [] }

/-- 'waveletlaw19.GrammarWalks': WHATEVER THE INPUT: true; the input reads as it did. -/
def grammarWalksSpec : ChangeSpec := { name := "grammarWalks", fn := fun _ => fun
  | [d1, d2, d3, d4, d5, d6] => { results := [.lit (.bool true)], args := [d1, d2, d3, d4, d5, d6] }
  | _ => none }
def grammarWalksRow : OpenClaim := { program := "ythfogcgdijmaoaagreat", sum := "7a54df4e89f84b76e2074759644b28970cb59a274a761835baec8e7c62291d29", func := "wavelet/waveletlaw19.GrammarWalks", spec := "grammarWalks", unfollowed := true, recurses := true, apart := false }
def GrammarWalksSaid : Prop := grammarWalksRow.holds Tryz.pinned (OpenSpec.ofChange grammarWalksSpec)

/-- ITS FALSE NEIGHBOUR: 'it returns false'. Refute it at one input. -/
def grammarWalksWrong : ChangeSpec := { name := "grammarWalks", fn := fun _ => fun
  | [d1, d2, d3, d4, d5, d6] => { results := [.lit (.bool false)], args := [d1, d2, d3, d4, d5, d6] }
  | _ => none }
def GrammarWalksWrongFalsely : Prop := grammarWalksRow.holds Tryz.pinned (OpenSpec.ofChange grammarWalksWrong)

/-- 'waveletlaw19.GrammarStreams': WHATEVER THE INPUT: true; the input reads as it did. -/
def grammarStreamsSpec : ChangeSpec := { name := "grammarStreams", fn := fun _ => fun
  | [d1, d2] => { results := [.lit (.bool true)], args := [d1, d2] }
  | _ => none }
def grammarStreamsRow : OpenClaim := { program := "ythfogcgdijmaoaagreat", sum := "7a54df4e89f84b76e2074759644b28970cb59a274a761835baec8e7c62291d29", func := "wavelet/waveletlaw19.GrammarStreams", spec := "grammarStreams", unfollowed := true, recurses := true, apart := false }
def GrammarStreamsSaid : Prop := grammarStreamsRow.holds Tryz.pinned (OpenSpec.ofChange grammarStreamsSpec)

/-- ITS FALSE NEIGHBOUR: 'it returns false'. Refute it at one input. -/
def grammarStreamsWrong : ChangeSpec := { name := "grammarStreams", fn := fun _ => fun
  | [d1, d2] => { results := [.lit (.bool false)], args := [d1, d2] }
  | _ => none }
def GrammarStreamsWrongFalsely : Prop := grammarStreamsRow.holds Tryz.pinned (OpenSpec.ofChange grammarStreamsWrong)

/-- 'waveletlaw19.GrammarCuts': WHATEVER THE INPUT: true; the input reads as it did. -/
def grammarCutsSpec : ChangeSpec := { name := "grammarCuts", fn := fun _ => fun
  | [d1, d2, d3] => { results := [.lit (.bool true)], args := [d1, d2, d3] }
  | _ => none }
def grammarCutsRow : OpenClaim := { program := "ythfogcgdijmaoaagreat", sum := "7a54df4e89f84b76e2074759644b28970cb59a274a761835baec8e7c62291d29", func := "wavelet/waveletlaw19.GrammarCuts", spec := "grammarCuts", unfollowed := true, recurses := true, apart := false }
def GrammarCutsSaid : Prop := grammarCutsRow.holds Tryz.pinned (OpenSpec.ofChange grammarCutsSpec)

/-- ITS FALSE NEIGHBOUR: 'it returns false'. Refute it at one input. -/
def grammarCutsWrong : ChangeSpec := { name := "grammarCuts", fn := fun _ => fun
  | [d1, d2, d3] => { results := [.lit (.bool false)], args := [d1, d2, d3] }
  | _ => none }
def GrammarCutsWrongFalsely : Prop := grammarCutsRow.holds Tryz.pinned (OpenSpec.ofChange grammarCutsWrong)

/-- 'waveletlaw19.GrammarSegments': WHATEVER THE INPUT: true; the input reads as it did. -/
def grammarSegmentsSpec : ChangeSpec := { name := "grammarSegments", fn := fun _ => fun
  | [d1, d2, d3] => { results := [.lit (.bool true)], args := [d1, d2, d3] }
  | _ => none }
def grammarSegmentsRow : OpenClaim := { program := "ythfogcgdijmaoaagreat", sum := "7a54df4e89f84b76e2074759644b28970cb59a274a761835baec8e7c62291d29", func := "wavelet/waveletlaw19.GrammarSegments", spec := "grammarSegments", unfollowed := true, recurses := true, apart := false }
def GrammarSegmentsSaid : Prop := grammarSegmentsRow.holds Tryz.pinned (OpenSpec.ofChange grammarSegmentsSpec)

/-- ITS FALSE NEIGHBOUR: 'it returns false'. Refute it at one input. -/
def grammarSegmentsWrong : ChangeSpec := { name := "grammarSegments", fn := fun _ => fun
  | [d1, d2, d3] => { results := [.lit (.bool false)], args := [d1, d2, d3] }
  | _ => none }
def GrammarSegmentsWrongFalsely : Prop := grammarSegmentsRow.holds Tryz.pinned (OpenSpec.ofChange grammarSegmentsWrong)

/- THE SECOND FORM. 'bulk': how many values and letters a reading holds, each counted each time it is reached (what is shared counts as often as it is met; a slice's spare places count too). A statement '..UptoSaid' is the law's where the arguments, and the package variables that the reading takes, are together of bulk at most 1048576: NARROWER than '..Said'. Prove '..Said' where nothing that the law and all that it calls make is longer than what came in: it says more and counts as full. Else prove '..UptoSaid'. A law counts once. -/
mutual
def uptoBulk {H : Type} : DataW H → Nat
  | .lit (.string bytes) => bytes.length + 1
  | .lit _ => 1
  | .nil => 1
  | .ptr d => uptoBulk d + 1
  | .slice elems spare => uptoBulkAll elems + uptoBulkAll spare + 1
  | .agg parts => uptoBulkAll parts + 1
  | .iface _ d => uptoBulk d + 1
  | .map entries => uptoBulkEntries entries + 1
  | .held _ => 1
def uptoBulkAll {H : Type} : List (DataW H) → Nat
  | [] => 0
  | d :: r => uptoBulk d + uptoBulkAll r
def uptoBulkEntries {H : Type} : List (Lit × DataW H) → Nat
  | [] => 0
  | x :: r => uptoBulkEntry x + uptoBulkEntries r
def uptoBulkEntry {H : Type} : Lit × DataW H → Nat
  | (.string bytes, d) => bytes.length + uptoBulk d + 1
  | (_, d) => uptoBulk d + 1
 end
def uptoSmall : (H : Type) → List (DataW H) → Bool := fun _ ds => decide (uptoBulkAll ds ≤ 1048576)
def OpenSpec.upto (s : _root_.Go.ChangeSpec) : _root_.Go.OpenSpec := { _root_.Go.OpenSpec.ofChange s with cond := some uptoSmall }

/-- 'waveletlaw19.GrammarWalks', WHERE WHAT IT READS IS OF BULK AT MOST 1048576: true; the input reads as it did. -/
def grammarWalksUptoRow : OpenClaim := { program := "ythfogcgdijmaoaagreat", sum := "7a54df4e89f84b76e2074759644b28970cb59a274a761835baec8e7c62291d29", func := "wavelet/waveletlaw19.GrammarWalks", spec := "grammarWalks", unfollowed := true, recurses := true, apart := false, narrowed := true }
def GrammarWalksUptoSaid : Prop := grammarWalksUptoRow.holds Tryz.pinned (OpenSpec.upto grammarWalksSpec)

/-- 'waveletlaw19.GrammarStreams', WHERE WHAT IT READS IS OF BULK AT MOST 1048576: true; the input reads as it did. -/
def grammarStreamsUptoRow : OpenClaim := { program := "ythfogcgdijmaoaagreat", sum := "7a54df4e89f84b76e2074759644b28970cb59a274a761835baec8e7c62291d29", func := "wavelet/waveletlaw19.GrammarStreams", spec := "grammarStreams", unfollowed := true, recurses := true, apart := false, narrowed := true }
def GrammarStreamsUptoSaid : Prop := grammarStreamsUptoRow.holds Tryz.pinned (OpenSpec.upto grammarStreamsSpec)

/-- 'waveletlaw19.GrammarCuts', WHERE WHAT IT READS IS OF BULK AT MOST 1048576: true; the input reads as it did. -/
def grammarCutsUptoRow : OpenClaim := { program := "ythfogcgdijmaoaagreat", sum := "7a54df4e89f84b76e2074759644b28970cb59a274a761835baec8e7c62291d29", func := "wavelet/waveletlaw19.GrammarCuts", spec := "grammarCuts", unfollowed := true, recurses := true, apart := false, narrowed := true }
def GrammarCutsUptoSaid : Prop := grammarCutsUptoRow.holds Tryz.pinned (OpenSpec.upto grammarCutsSpec)

/-- 'waveletlaw19.GrammarSegments', WHERE WHAT IT READS IS OF BULK AT MOST 1048576: true; the input reads as it did. -/
def grammarSegmentsUptoRow : OpenClaim := { program := "ythfogcgdijmaoaagreat", sum := "7a54df4e89f84b76e2074759644b28970cb59a274a761835baec8e7c62291d29", func := "wavelet/waveletlaw19.GrammarSegments", spec := "grammarSegments", unfollowed := true, recurses := true, apart := false, narrowed := true }
def GrammarSegmentsUptoSaid : Prop := grammarSegmentsUptoRow.holds Tryz.pinned (OpenSpec.upto grammarSegmentsSpec)

end Rows
end Go.Proofs.YthfogcgdijmaoaaGreat
