/-
  No cell of these rows narrows 'for every input' (looked for: loops, veiled, ifaces, maps, wideKeys, modest, calm, conditions, laid).
  DERIVED. THE GIVEN ROWS OF THIS SEAT. 7 by the template 'for every input the law returns true; each argument reads behind the call as it read before'; 0 by the template 'total and deterministic' (their statements: YtnhciiljdmgcjaaTotals.lean).
  GIVEN WITH THE SEED: the statements are not yours to turn. If you find one false, say at which input.
  Laid BY PROGRAM, IN A SANDBOX (cutbox-rows.mjs): the forced cells as the released guide's own fill.sh prints them over the translation 9b31abb2ceb8cd36… (all of the seat's roots in one cut). By AI agents, Wed Nov 11 2026. No macro, syntax, notation, axiom, sorry.
-/
import Derived.Test.YtnhciiljdmgcjaaChecked
import GoSem.Claim
import GoSem.ClaimJoined
import GoSem.ClaimMapViews
import Derived.JoinedTies
import Derived.KernelRfl
namespace Go.Proofs.Ytnhciiljdmgcjaa
/- THE CELL 'sum', in the pinned program and in every row, IS THE sha256 OF THE DUMP (.gsa) THAT YtnhciiljdmgcjaaProg.lean LOADS. Nothing in Lean hashes anything: it is a label: what it is worth is what the hold of that sum in a sandbox is worth. -/
noncomputable def Try.pinned : Pinned := { name := "ytnhciiljdmgcjaa", sum := "9b31abb2ceb8cd3662ec8637319b987184448b858fa161cf42a0a3a7430b5b4a", checked := Try.checked }
namespace Rows
def none {H : Type} : Left H := { results := [], args := [] }

/-- 'waveletlaw2.BitsWrite': WHATEVER THE INPUT: true; the input reads as it did. -/
def bitsWriteSpec : ChangeSpec := { name := "bitsWrite", fn := fun _ => fun
  | [d1, d2] => { results := [.lit (.bool true)], args := [d1, d2] }
  | _ => none }
def bitsWriteRow : OpenClaim := { program := "ytnhciiljdmgcjaa", sum := "9b31abb2ceb8cd3662ec8637319b987184448b858fa161cf42a0a3a7430b5b4a", func := "wavelet/waveletlaw2.BitsWrite", spec := "bitsWrite", apart := false }
def BitsWriteSaid : Prop := bitsWriteRow.holds Try.pinned (OpenSpec.ofChange bitsWriteSpec)

/-- ITS FALSE NEIGHBOUR: 'it returns false'. Refute it at one input. -/
def bitsWriteWrong : ChangeSpec := { name := "bitsWrite", fn := fun _ => fun
  | [d1, d2] => { results := [.lit (.bool false)], args := [d1, d2] }
  | _ => none }
def BitsWriteWrongFalsely : Prop := bitsWriteRow.holds Try.pinned (OpenSpec.ofChange bitsWriteWrong)

/-- 'waveletlaw2.BitsStuffed': WHATEVER THE INPUT: true; the input reads as it did. -/
def bitsStuffedSpec : ChangeSpec := { name := "bitsStuffed", fn := fun _ => fun
  | [d] => { results := [.lit (.bool true)], args := [d] }
  | _ => none }
def bitsStuffedRow : OpenClaim := { program := "ytnhciiljdmgcjaa", sum := "9b31abb2ceb8cd3662ec8637319b987184448b858fa161cf42a0a3a7430b5b4a", func := "wavelet/waveletlaw2.BitsStuffed", spec := "bitsStuffed", apart := false }
def BitsStuffedSaid : Prop := bitsStuffedRow.holds Try.pinned (OpenSpec.ofChange bitsStuffedSpec)

/-- ITS FALSE NEIGHBOUR: 'it returns false'. Refute it at one input. -/
def bitsStuffedWrong : ChangeSpec := { name := "bitsStuffed", fn := fun _ => fun
  | [d] => { results := [.lit (.bool false)], args := [d] }
  | _ => none }
def BitsStuffedWrongFalsely : Prop := bitsStuffedRow.holds Try.pinned (OpenSpec.ofChange bitsStuffedWrong)

/-- 'waveletlaw2.BitsOnes': WHATEVER THE INPUT: true; the input reads as it did. -/
def bitsOnesSpec : ChangeSpec := { name := "bitsOnes", fn := fun _ => fun
  | [d] => { results := [.lit (.bool true)], args := [d] }
  | _ => none }
def bitsOnesRow : OpenClaim := { program := "ytnhciiljdmgcjaa", sum := "9b31abb2ceb8cd3662ec8637319b987184448b858fa161cf42a0a3a7430b5b4a", func := "wavelet/waveletlaw2.BitsOnes", spec := "bitsOnes", apart := false }
def BitsOnesSaid : Prop := bitsOnesRow.holds Try.pinned (OpenSpec.ofChange bitsOnesSpec)

/-- ITS FALSE NEIGHBOUR: 'it returns false'. Refute it at one input. -/
def bitsOnesWrong : ChangeSpec := { name := "bitsOnes", fn := fun _ => fun
  | [d] => { results := [.lit (.bool false)], args := [d] }
  | _ => none }
def BitsOnesWrongFalsely : Prop := bitsOnesRow.holds Try.pinned (OpenSpec.ofChange bitsOnesWrong)

/-- 'waveletlaw2.BitsRead': WHATEVER THE INPUT: true; the input reads as it did. -/
def bitsReadSpec : ChangeSpec := { name := "bitsRead", fn := fun _ => fun
  | [d1, d2] => { results := [.lit (.bool true)], args := [d1, d2] }
  | _ => none }
def bitsReadRow : OpenClaim := { program := "ytnhciiljdmgcjaa", sum := "9b31abb2ceb8cd3662ec8637319b987184448b858fa161cf42a0a3a7430b5b4a", func := "wavelet/waveletlaw2.BitsRead", spec := "bitsRead", apart := false }
def BitsReadSaid : Prop := bitsReadRow.holds Try.pinned (OpenSpec.ofChange bitsReadSpec)

/-- ITS FALSE NEIGHBOUR: 'it returns false'. Refute it at one input. -/
def bitsReadWrong : ChangeSpec := { name := "bitsRead", fn := fun _ => fun
  | [d1, d2] => { results := [.lit (.bool false)], args := [d1, d2] }
  | _ => none }
def BitsReadWrongFalsely : Prop := bitsReadRow.holds Try.pinned (OpenSpec.ofChange bitsReadWrong)

/-- 'waveletlaw2.BitsBack': WHATEVER THE INPUT: true; the input reads as it did. -/
def bitsBackSpec : ChangeSpec := { name := "bitsBack", fn := fun _ => fun
  | [d1, d2, d3] => { results := [.lit (.bool true)], args := [d1, d2, d3] }
  | _ => none }
def bitsBackRow : OpenClaim := { program := "ytnhciiljdmgcjaa", sum := "9b31abb2ceb8cd3662ec8637319b987184448b858fa161cf42a0a3a7430b5b4a", func := "wavelet/waveletlaw2.BitsBack", spec := "bitsBack", apart := false }
def BitsBackSaid : Prop := bitsBackRow.holds Try.pinned (OpenSpec.ofChange bitsBackSpec)

/-- ITS FALSE NEIGHBOUR: 'it returns false'. Refute it at one input. -/
def bitsBackWrong : ChangeSpec := { name := "bitsBack", fn := fun _ => fun
  | [d1, d2, d3] => { results := [.lit (.bool false)], args := [d1, d2, d3] }
  | _ => none }
def BitsBackWrongFalsely : Prop := bitsBackRow.holds Try.pinned (OpenSpec.ofChange bitsBackWrong)

/-- 'waveletlaw2.BitsCut': WHATEVER THE INPUT: true; the input reads as it did. -/
def bitsCutSpec : ChangeSpec := { name := "bitsCut", fn := fun _ => fun
  | [d1, d2] => { results := [.lit (.bool true)], args := [d1, d2] }
  | _ => none }
def bitsCutRow : OpenClaim := { program := "ytnhciiljdmgcjaa", sum := "9b31abb2ceb8cd3662ec8637319b987184448b858fa161cf42a0a3a7430b5b4a", func := "wavelet/waveletlaw2.BitsCut", spec := "bitsCut", apart := false }
def BitsCutSaid : Prop := bitsCutRow.holds Try.pinned (OpenSpec.ofChange bitsCutSpec)

/-- ITS FALSE NEIGHBOUR: 'it returns false'. Refute it at one input. -/
def bitsCutWrong : ChangeSpec := { name := "bitsCut", fn := fun _ => fun
  | [d1, d2] => { results := [.lit (.bool false)], args := [d1, d2] }
  | _ => none }
def BitsCutWrongFalsely : Prop := bitsCutRow.holds Try.pinned (OpenSpec.ofChange bitsCutWrong)

/-- 'waveletlaw2.BitsNone': WHATEVER THE INPUT: true; the input reads as it did. -/
def bitsNoneSpec : ChangeSpec := { name := "bitsNone", fn := fun _ => fun
  | [d1, d2] => { results := [.lit (.bool true)], args := [d1, d2] }
  | _ => none }
def bitsNoneRow : OpenClaim := { program := "ytnhciiljdmgcjaa", sum := "9b31abb2ceb8cd3662ec8637319b987184448b858fa161cf42a0a3a7430b5b4a", func := "wavelet/waveletlaw2.BitsNone", spec := "bitsNone", apart := false }
def BitsNoneSaid : Prop := bitsNoneRow.holds Try.pinned (OpenSpec.ofChange bitsNoneSpec)

/-- ITS FALSE NEIGHBOUR: 'it returns false'. Refute it at one input. -/
def bitsNoneWrong : ChangeSpec := { name := "bitsNone", fn := fun _ => fun
  | [d1, d2] => { results := [.lit (.bool false)], args := [d1, d2] }
  | _ => none }
def BitsNoneWrongFalsely : Prop := bitsNoneRow.holds Try.pinned (OpenSpec.ofChange bitsNoneWrong)

/- THE SECOND FORM. 'bulk': how many values and letters a reading holds, each counted each time it is reached (what is shared counts as often as it is met; a slice's spare places count too). A statement '..UptoSaid' is the law's where the arguments, and the package variables that the reading takes, are together of bulk at most 1048576: NARROWER than '..Said'. Prove '..Said' where nothing that the law and all that it calls make is longer than what came in: it says more and counts as full. Else prove '..UptoSaid'. A law counts once. -/
mutual
def uptoBulk {H : Type} : DataW H → Nat
  | .lit (.string bytes) => bytes.length + 1
  | .lit _ => 1
  | .nil => 1
  | .ptr d => uptoBulk d + 1
  | .slice elems spare => uptoBulkAll elems + uptoBulkAll spare + 1
  | .agg parts => uptoBulkAll parts + 1
  | .iface _ d => uptoBulk d + 1
  | .map entries => uptoBulkEntries entries + 1
  | .held _ => 1
def uptoBulkAll {H : Type} : List (DataW H) → Nat
  | [] => 0
  | d :: r => uptoBulk d + uptoBulkAll r
def uptoBulkEntries {H : Type} : List (Lit × DataW H) → Nat
  | [] => 0
  | x :: r => uptoBulkEntry x + uptoBulkEntries r
def uptoBulkEntry {H : Type} : Lit × DataW H → Nat
  | (.string bytes, d) => bytes.length + uptoBulk d + 1
  | (_, d) => uptoBulk d + 1
 end
def uptoSmall : (H : Type) → List (DataW H) → Bool := fun _ ds => decide (uptoBulkAll ds ≤ 1048576)
def OpenSpec.upto (s : _root_.Go.ChangeSpec) : _root_.Go.OpenSpec := { _root_.Go.OpenSpec.ofChange s with cond := some uptoSmall }

/-- 'waveletlaw2.BitsWrite', WHERE WHAT IT READS IS OF BULK AT MOST 1048576: true; the input reads as it did. -/
def bitsWriteUptoRow : OpenClaim := { program := "ytnhciiljdmgcjaa", sum := "9b31abb2ceb8cd3662ec8637319b987184448b858fa161cf42a0a3a7430b5b4a", func := "wavelet/waveletlaw2.BitsWrite", spec := "bitsWrite", apart := false, narrowed := true }
def BitsWriteUptoSaid : Prop := bitsWriteUptoRow.holds Try.pinned (OpenSpec.upto bitsWriteSpec)

/-- 'waveletlaw2.BitsStuffed', WHERE WHAT IT READS IS OF BULK AT MOST 1048576: true; the input reads as it did. -/
def bitsStuffedUptoRow : OpenClaim := { program := "ytnhciiljdmgcjaa", sum := "9b31abb2ceb8cd3662ec8637319b987184448b858fa161cf42a0a3a7430b5b4a", func := "wavelet/waveletlaw2.BitsStuffed", spec := "bitsStuffed", apart := false, narrowed := true }
def BitsStuffedUptoSaid : Prop := bitsStuffedUptoRow.holds Try.pinned (OpenSpec.upto bitsStuffedSpec)

/-- 'waveletlaw2.BitsOnes', WHERE WHAT IT READS IS OF BULK AT MOST 1048576: true; the input reads as it did. -/
def bitsOnesUptoRow : OpenClaim := { program := "ytnhciiljdmgcjaa", sum := "9b31abb2ceb8cd3662ec8637319b987184448b858fa161cf42a0a3a7430b5b4a", func := "wavelet/waveletlaw2.BitsOnes", spec := "bitsOnes", apart := false, narrowed := true }
def BitsOnesUptoSaid : Prop := bitsOnesUptoRow.holds Try.pinned (OpenSpec.upto bitsOnesSpec)

/-- 'waveletlaw2.BitsRead', WHERE WHAT IT READS IS OF BULK AT MOST 1048576: true; the input reads as it did. -/
def bitsReadUptoRow : OpenClaim := { program := "ytnhciiljdmgcjaa", sum := "9b31abb2ceb8cd3662ec8637319b987184448b858fa161cf42a0a3a7430b5b4a", func := "wavelet/waveletlaw2.BitsRead", spec := "bitsRead", apart := false, narrowed := true }
def BitsReadUptoSaid : Prop := bitsReadUptoRow.holds Try.pinned (OpenSpec.upto bitsReadSpec)

/-- 'waveletlaw2.BitsBack', WHERE WHAT IT READS IS OF BULK AT MOST 1048576: true; the input reads as it did. -/
def bitsBackUptoRow : OpenClaim := { program := "ytnhciiljdmgcjaa", sum := "9b31abb2ceb8cd3662ec8637319b987184448b858fa161cf42a0a3a7430b5b4a", func := "wavelet/waveletlaw2.BitsBack", spec := "bitsBack", apart := false, narrowed := true }
def BitsBackUptoSaid : Prop := bitsBackUptoRow.holds Try.pinned (OpenSpec.upto bitsBackSpec)

/-- 'waveletlaw2.BitsCut', WHERE WHAT IT READS IS OF BULK AT MOST 1048576: true; the input reads as it did. -/
def bitsCutUptoRow : OpenClaim := { program := "ytnhciiljdmgcjaa", sum := "9b31abb2ceb8cd3662ec8637319b987184448b858fa161cf42a0a3a7430b5b4a", func := "wavelet/waveletlaw2.BitsCut", spec := "bitsCut", apart := false, narrowed := true }
def BitsCutUptoSaid : Prop := bitsCutUptoRow.holds Try.pinned (OpenSpec.upto bitsCutSpec)

/-- 'waveletlaw2.BitsNone', WHERE WHAT IT READS IS OF BULK AT MOST 1048576: true; the input reads as it did. -/
def bitsNoneUptoRow : OpenClaim := { program := "ytnhciiljdmgcjaa", sum := "9b31abb2ceb8cd3662ec8637319b987184448b858fa161cf42a0a3a7430b5b4a", func := "wavelet/waveletlaw2.BitsNone", spec := "bitsNone", apart := false, narrowed := true }
def BitsNoneUptoSaid : Prop := bitsNoneUptoRow.holds Try.pinned (OpenSpec.upto bitsNoneSpec)

end Rows
end Go.Proofs.Ytnhciiljdmgcjaa
