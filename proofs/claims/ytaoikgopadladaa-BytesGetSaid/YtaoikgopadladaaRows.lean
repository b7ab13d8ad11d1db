/-
  No cell of these rows narrows 'for every input' (looked for: loops, veiled, ifaces, maps, wideKeys, modest, calm, conditions, laid).
  DERIVED. THE GIVEN ROWS OF THIS SEAT. 7 by the template 'for every input the law returns true; each argument reads behind the call as it read before'; 0 by the template 'total and deterministic' (their statements: YtaoikgopadladaaTotals.lean).
  GIVEN WITH THE SEED: the statements are not yours to turn. If you find one false, say at which input.
  Laid BY PROGRAM, IN A SANDBOX (cutbox-rows.mjs): the forced cells as the released guide's own fill.sh prints them over the translation 4de2e9a6df8066d0… (all of the seat's roots in one cut). By AI agents, Wed Nov 11 2026. No macro, syntax, notation, axiom, sorry.
-/
import Derived.Test.YtaoikgopadladaaChecked
import GoSem.Claim
import GoSem.ClaimJoined
import GoSem.ClaimMapViews
import Derived.JoinedTies
import Derived.KernelRfl
namespace Go.Proofs.Ytaoikgopadladaa
/- THE CELL 'sum', in the pinned program and in every row, IS THE sha256 OF THE DUMP (.gsa) THAT YtaoikgopadladaaProg.lean LOADS. Nothing in Lean hashes anything: it is a label: what it is worth is what the hold of that sum in a sandbox is worth. -/
noncomputable def Try.pinned : Pinned := { name := "ytaoikgopadladaa", sum := "4de2e9a6df8066d077fc51294944625ffc3e0078424dbbc8c5898e432498d3ec", checked := Try.checked }
namespace Rows
def none {H : Type} : Left H := { results := [], args := [] }

/-- 'waveletlaw1.BytesPut': WHATEVER THE INPUT: true; the input reads as it did. -/
def bytesPutSpec : ChangeSpec := { name := "bytesPut", fn := fun _ => fun
  | [d1, d2, d3] => { results := [.lit (.bool true)], args := [d1, d2, d3] }
  | _ => none }
def bytesPutRow : OpenClaim := { program := "ytaoikgopadladaa", sum := "4de2e9a6df8066d077fc51294944625ffc3e0078424dbbc8c5898e432498d3ec", func := "wavelet/waveletlaw1.BytesPut", spec := "bytesPut", apart := false }
def BytesPutSaid : Prop := bytesPutRow.holds Try.pinned (OpenSpec.ofChange bytesPutSpec)

/-- ITS FALSE NEIGHBOUR: 'it returns false'. Refute it at one input. -/
def bytesPutWrong : ChangeSpec := { name := "bytesPut", fn := fun _ => fun
  | [d1, d2, d3] => { results := [.lit (.bool false)], args := [d1, d2, d3] }
  | _ => none }
def BytesPutWrongFalsely : Prop := bytesPutRow.holds Try.pinned (OpenSpec.ofChange bytesPutWrong)

/-- 'waveletlaw1.BytesHigh': WHATEVER THE INPUT: true; the input reads as it did. -/
def bytesHighSpec : ChangeSpec := { name := "bytesHigh", fn := fun _ => fun
  | [d1, d2] => { results := [.lit (.bool true)], args := [d1, d2] }
  | _ => none }
def bytesHighRow : OpenClaim := { program := "ytaoikgopadladaa", sum := "4de2e9a6df8066d077fc51294944625ffc3e0078424dbbc8c5898e432498d3ec", func := "wavelet/waveletlaw1.BytesHigh", spec := "bytesHigh", apart := false }
def BytesHighSaid : Prop := bytesHighRow.holds Try.pinned (OpenSpec.ofChange bytesHighSpec)

/-- ITS FALSE NEIGHBOUR: 'it returns false'. Refute it at one input. -/
def bytesHighWrong : ChangeSpec := { name := "bytesHigh", fn := fun _ => fun
  | [d1, d2] => { results := [.lit (.bool false)], args := [d1, d2] }
  | _ => none }
def BytesHighWrongFalsely : Prop := bytesHighRow.holds Try.pinned (OpenSpec.ofChange bytesHighWrong)

/-- 'waveletlaw1.BytesTakes': WHATEVER THE INPUT: true; the input reads as it did. -/
def bytesTakesSpec : ChangeSpec := { name := "bytesTakes", fn := fun _ => fun
  | [d1, d2] => { results := [.lit (.bool true)], args := [d1, d2] }
  | _ => none }
def bytesTakesRow : OpenClaim := { program := "ytaoikgopadladaa", sum := "4de2e9a6df8066d077fc51294944625ffc3e0078424dbbc8c5898e432498d3ec", func := "wavelet/waveletlaw1.BytesTakes", spec := "bytesTakes", unfollowed := true, recurses := true, apart := false }
def BytesTakesSaid : Prop := bytesTakesRow.holds Try.pinned (OpenSpec.ofChange bytesTakesSpec)

/-- ITS FALSE NEIGHBOUR: 'it returns false'. Refute it at one input. -/
def bytesTakesWrong : ChangeSpec := { name := "bytesTakes", fn := fun _ => fun
  | [d1, d2] => { results := [.lit (.bool false)], args := [d1, d2] }
  | _ => none }
def BytesTakesWrongFalsely : Prop := bytesTakesRow.holds Try.pinned (OpenSpec.ofChange bytesTakesWrong)

/-- 'waveletlaw1.BytesGet': WHATEVER THE INPUT: true; the input reads as it did. -/
def bytesGetSpec : ChangeSpec := { name := "bytesGet", fn := fun _ => fun
  | [d1, d2, d3] => { results := [.lit (.bool true)], args := [d1, d2, d3] }
  | _ => none }
def bytesGetRow : OpenClaim := { program := "ytaoikgopadladaa", sum := "4de2e9a6df8066d077fc51294944625ffc3e0078424dbbc8c5898e432498d3ec", func := "wavelet/waveletlaw1.BytesGet", spec := "bytesGet", unfollowed := true, recurses := true, apart := false }
def BytesGetSaid : Prop := bytesGetRow.holds Try.pinned (OpenSpec.ofChange bytesGetSpec)

/-- ITS FALSE NEIGHBOUR: 'it returns false'. Refute it at one input. -/
def bytesGetWrong : ChangeSpec := { name := "bytesGet", fn := fun _ => fun
  | [d1, d2, d3] => { results := [.lit (.bool false)], args := [d1, d2, d3] }
  | _ => none }
def BytesGetWrongFalsely : Prop := bytesGetRow.holds Try.pinned (OpenSpec.ofChange bytesGetWrong)

/-- 'waveletlaw1.BytesBack': WHATEVER THE INPUT: true; the input reads as it did. -/
def bytesBackSpec : ChangeSpec := { name := "bytesBack", fn := fun _ => fun
  | [d1, d2] => { results := [.lit (.bool true)], args := [d1, d2] }
  | _ => none }
def bytesBackRow : OpenClaim := { program := "ytaoikgopadladaa", sum := "4de2e9a6df8066d077fc51294944625ffc3e0078424dbbc8c5898e432498d3ec", func := "wavelet/waveletlaw1.BytesBack", spec := "bytesBack", unfollowed := true, recurses := true, apart := false }
def BytesBackSaid : Prop := bytesBackRow.holds Try.pinned (OpenSpec.ofChange bytesBackSpec)

/-- ITS FALSE NEIGHBOUR: 'it returns false'. Refute it at one input. -/
def bytesBackWrong : ChangeSpec := { name := "bytesBack", fn := fun _ => fun
  | [d1, d2] => { results := [.lit (.bool false)], args := [d1, d2] }
  | _ => none }
def BytesBackWrongFalsely : Prop := bytesBackRow.holds Try.pinned (OpenSpec.ofChange bytesBackWrong)

/-- 'waveletlaw1.BytesEnds': WHATEVER THE INPUT: true; the input reads as it did. -/
def bytesEndsSpec : ChangeSpec := { name := "bytesEnds", fn := fun _ => fun
  | [d1, d2] => { results := [.lit (.bool true)], args := [d1, d2] }
  | _ => none }
def bytesEndsRow : OpenClaim := { program := "ytaoikgopadladaa", sum := "4de2e9a6df8066d077fc51294944625ffc3e0078424dbbc8c5898e432498d3ec", func := "wavelet/waveletlaw1.BytesEnds", spec := "bytesEnds", unfollowed := true, recurses := true, apart := false }
def BytesEndsSaid : Prop := bytesEndsRow.holds Try.pinned (OpenSpec.ofChange bytesEndsSpec)

/-- ITS FALSE NEIGHBOUR: 'it returns false'. Refute it at one input. -/
def bytesEndsWrong : ChangeSpec := { name := "bytesEnds", fn := fun _ => fun
  | [d1, d2] => { results := [.lit (.bool false)], args := [d1, d2] }
  | _ => none }
def BytesEndsWrongFalsely : Prop := bytesEndsRow.holds Try.pinned (OpenSpec.ofChange bytesEndsWrong)

/-- 'waveletlaw1.BytesFails': WHATEVER THE INPUT: true; the input reads as it did. -/
def bytesFailsSpec : ChangeSpec := { name := "bytesFails", fn := fun _ => fun
  | [d1, d2, d3] => { results := [.lit (.bool true)], args := [d1, d2, d3] }
  | _ => none }
def bytesFailsRow : OpenClaim := { program := "ytaoikgopadladaa", sum := "4de2e9a6df8066d077fc51294944625ffc3e0078424dbbc8c5898e432498d3ec", func := "wavelet/waveletlaw1.BytesFails", spec := "bytesFails", unfollowed := true, recurses := true, apart := false }
def BytesFailsSaid : Prop := bytesFailsRow.holds Try.pinned (OpenSpec.ofChange bytesFailsSpec)

/-- ITS FALSE NEIGHBOUR: 'it returns false'. Refute it at one input. -/
def bytesFailsWrong : ChangeSpec := { name := "bytesFails", fn := fun _ => fun
  | [d1, d2, d3] => { results := [.lit (.bool false)], args := [d1, d2, d3] }
  | _ => none }
def BytesFailsWrongFalsely : Prop := bytesFailsRow.holds Try.pinned (OpenSpec.ofChange bytesFailsWrong)

/- THE SECOND FORM. 'bulk': how many values and letters a reading holds, each counted each time it is reached (what is shared counts as often as it is met; a slice's spare places count too). A statement '..UptoSaid' is the law's where the arguments, and the package variables that the reading takes, are together of bulk at most 1048576: NARROWER than '..Said'. Prove '..Said' where nothing that the law and all that it calls make is longer than what came in: it says more and counts as full. Else prove '..UptoSaid'. A law counts once. -/
mutual
def uptoBulk {H : Type} : DataW H → Nat
  | .lit (.string bytes) => bytes.length + 1
  | .lit _ => 1
  | .nil => 1
  | .ptr d => uptoBulk d + 1
  | .slice elems spare => uptoBulkAll elems + uptoBulkAll spare + 1
  | .agg parts => uptoBulkAll parts + 1
  | .iface _ d => uptoBulk d + 1
  | .map entries => uptoBulkEntries entries + 1
  | .held _ => 1
def uptoBulkAll {H : Type} : List (DataW H) → Nat
  | [] => 0
  | d :: r => uptoBulk d + uptoBulkAll r
def uptoBulkEntries {H : Type} : List (Lit × DataW H) → Nat
  | [] => 0
  | x :: r => uptoBulkEntry x + uptoBulkEntries r
def uptoBulkEntry {H : Type} : Lit × DataW H → Nat
  | (.string bytes, d) => bytes.length + uptoBulk d + 1
  | (_, d) => uptoBulk d + 1
 end
def uptoSmall : (H : Type) → List (DataW H) → Bool := fun _ ds => decide (uptoBulkAll ds ≤ 1048576)
def OpenSpec.upto (s : _root_.Go.ChangeSpec) : _root_.Go.OpenSpec := { _root_.Go.OpenSpec.ofChange s with cond := some uptoSmall }

/-- 'waveletlaw1.BytesPut', WHERE WHAT IT READS IS OF BULK AT MOST 1048576: true; the input reads as it did. -/
def bytesPutUptoRow : OpenClaim := { program := "ytaoikgopadladaa", sum := "4de2e9a6df8066d077fc51294944625ffc3e0078424dbbc8c5898e432498d3ec", func := "wavelet/waveletlaw1.BytesPut", spec := "bytesPut", apart := false, narrowed := true }
def BytesPutUptoSaid : Prop := bytesPutUptoRow.holds Try.pinned (OpenSpec.upto bytesPutSpec)

/-- 'waveletlaw1.BytesHigh', WHERE WHAT IT READS IS OF BULK AT MOST 1048576: true; the input reads as it did. -/
def bytesHighUptoRow : OpenClaim := { program := "ytaoikgopadladaa", sum := "4de2e9a6df8066d077fc51294944625ffc3e0078424dbbc8c5898e432498d3ec", func := "wavelet/waveletlaw1.BytesHigh", spec := "bytesHigh", apart := false, narrowed := true }
def BytesHighUptoSaid : Prop := bytesHighUptoRow.holds Try.pinned (OpenSpec.upto bytesHighSpec)

/-- 'waveletlaw1.BytesTakes', WHERE WHAT IT READS IS OF BULK AT MOST 1048576: true; the input reads as it did. -/
def bytesTakesUptoRow : OpenClaim := { program := "ytaoikgopadladaa", sum := "4de2e9a6df8066d077fc51294944625ffc3e0078424dbbc8c5898e432498d3ec", func := "wavelet/waveletlaw1.BytesTakes", spec := "bytesTakes", unfollowed := true, recurses := true, apart := false, narrowed := true }
def BytesTakesUptoSaid : Prop := bytesTakesUptoRow.holds Try.pinned (OpenSpec.upto bytesTakesSpec)

/-- 'waveletlaw1.BytesGet', WHERE WHAT IT READS IS OF BULK AT MOST 1048576: true; the input reads as it did. -/
def bytesGetUptoRow : OpenClaim := { program := "ytaoikgopadladaa", sum := "4de2e9a6df8066d077fc51294944625ffc3e0078424dbbc8c5898e432498d3ec", func := "wavelet/waveletlaw1.BytesGet", spec := "bytesGet", unfollowed := true, recurses := true, apart := false, narrowed := true }
def BytesGetUptoSaid : Prop := bytesGetUptoRow.holds Try.pinned (OpenSpec.upto bytesGetSpec)

/-- 'waveletlaw1.BytesBack', WHERE WHAT IT READS IS OF BULK AT MOST 1048576: true; the input reads as it did. -/
def bytesBackUptoRow : OpenClaim := { program := "ytaoikgopadladaa", sum := "4de2e9a6df8066d077fc51294944625ffc3e0078424dbbc8c5898e432498d3ec", func := "wavelet/waveletlaw1.BytesBack", spec := "bytesBack", unfollowed := true, recurses := true, apart := false, narrowed := true }
def BytesBackUptoSaid : Prop := bytesBackUptoRow.holds Try.pinned (OpenSpec.upto bytesBackSpec)

/-- 'waveletlaw1.BytesEnds', WHERE WHAT IT READS IS OF BULK AT MOST 1048576: true; the input reads as it did. -/
def bytesEndsUptoRow : OpenClaim := { program := "ytaoikgopadladaa", sum := "4de2e9a6df8066d077fc51294944625ffc3e0078424dbbc8c5898e432498d3ec", func := "wavelet/waveletlaw1.BytesEnds", spec := "bytesEnds", unfollowed := true, recurses := true, apart := false, narrowed := true }
def BytesEndsUptoSaid : Prop := bytesEndsUptoRow.holds Try.pinned (OpenSpec.upto bytesEndsSpec)

/-- 'waveletlaw1.BytesFails', WHERE WHAT IT READS IS OF BULK AT MOST 1048576: true; the input reads as it did. -/
def bytesFailsUptoRow : OpenClaim := { program := "ytaoikgopadladaa", sum := "4de2e9a6df8066d077fc51294944625ffc3e0078424dbbc8c5898e432498d3ec", func := "wavelet/waveletlaw1.BytesFails", spec := "bytesFails", unfollowed := true, recurses := true, apart := false, narrowed := true }
def BytesFailsUptoSaid : Prop := bytesFailsUptoRow.holds Try.pinned (OpenSpec.upto bytesFailsSpec)

end Rows
end Go.Proofs.Ytaoikgopadladaa
