/-
  No cell of these rows narrows 'for every input' (looked for: loops, veiled, ifaces, maps, wideKeys, modest, calm, conditions, laid).
  DERIVED. THE GIVEN ROWS OF THIS SEAT. 10 by the template 'for every input the law returns true; each argument reads behind the call as it read before'; 0 by the template 'total and deterministic' (their statements: YtcieeoobobafmaaTotals.lean).
  GIVEN WITH THE SEED: the statements are not yours to turn. If you find one false, say at which input.
  Laid BY PROGRAM, IN A SANDBOX (cutbox-rows.mjs): the forced cells as the released guide's own fill.sh prints them over the translation 2ef5d1c6dd2ae12c… (all of the seat's roots in one cut). By AI agents, Wed Nov 11 2026. No macro, syntax, notation, axiom, sorry.
-/
import Derived.Test.YtcieeoobobafmaaChecked
import GoSem.Claim
import GoSem.ClaimJoined
import GoSem.ClaimMapViews
import Derived.JoinedTies
import Derived.KernelRfl
namespace Go.Proofs.Ytcieeoobobafmaa
/- THE CELL 'sum', in the pinned program and in every row, IS THE sha256 OF THE DUMP (.gsa) THAT YtcieeoobobafmaaProg.lean LOADS. Nothing in Lean hashes anything: it is a label: what it is worth is what the hold of that sum in a sandbox is worth. -/
noncomputable def Try.pinned : Pinned := { name := "ytcieeoobobafmaa", sum := "2ef5d1c6dd2ae12ce5dcb33d4652d7be8fb699dc37078827c2291e81bd880704", checked := Try.checked }
namespace Rows
def none {H : Type} : Left H := { results := [], args := [] }

/-- 'waveletlaw4.MqBehind': WHATEVER THE INPUT: true; the input reads as it did. -/
def mqBehindSpec : ChangeSpec := { name := "mqBehind", fn := fun _ => fun
  | [d1, d2, d3] => { results := [.lit (.bool true)], args := [d1, d2, d3] }
  | _ => none }
def mqBehindRow : OpenClaim := { program := "ytcieeoobobafmaa", sum := "2ef5d1c6dd2ae12ce5dcb33d4652d7be8fb699dc37078827c2291e81bd880704", func := "wavelet/waveletlaw4.MqBehind", spec := "mqBehind", apart := false }
def MqBehindSaid : Prop := mqBehindRow.holds Try.pinned (OpenSpec.ofChange mqBehindSpec)

/-- ITS FALSE NEIGHBOUR: 'it returns false'. Refute it at one input. -/
def mqBehindWrong : ChangeSpec := { name := "mqBehind", fn := fun _ => fun
  | [d1, d2, d3] => { results := [.lit (.bool false)], args := [d1, d2, d3] }
  | _ => none }
def MqBehindWrongFalsely : Prop := mqBehindRow.holds Try.pinned (OpenSpec.ofChange mqBehindWrong)

/-- 'waveletlaw4.MqStates': WHATEVER THE INPUT: true; the input reads as it did. -/
def mqStatesSpec : ChangeSpec := { name := "mqStates", fn := fun _ => fun
  | [d1, d2, d3] => { results := [.lit (.bool true)], args := [d1, d2, d3] }
  | _ => none }
def mqStatesRow : OpenClaim := { program := "ytcieeoobobafmaa", sum := "2ef5d1c6dd2ae12ce5dcb33d4652d7be8fb699dc37078827c2291e81bd880704", func := "wavelet/waveletlaw4.MqStates", spec := "mqStates", apart := false }
def MqStatesSaid : Prop := mqStatesRow.holds Try.pinned (OpenSpec.ofChange mqStatesSpec)

/-- ITS FALSE NEIGHBOUR: 'it returns false'. Refute it at one input. -/
def mqStatesWrong : ChangeSpec := { name := "mqStates", fn := fun _ => fun
  | [d1, d2, d3] => { results := [.lit (.bool false)], args := [d1, d2, d3] }
  | _ => none }
def MqStatesWrongFalsely : Prop := mqStatesRow.holds Try.pinned (OpenSpec.ofChange mqStatesWrong)

/-- 'waveletlaw4.MqClean': WHATEVER THE INPUT: true; the input reads as it did. -/
def mqCleanSpec : ChangeSpec := { name := "mqClean", fn := fun _ => fun
  | [d] => { results := [.lit (.bool true)], args := [d] }
  | _ => none }
def mqCleanRow : OpenClaim := { program := "ytcieeoobobafmaa", sum := "2ef5d1c6dd2ae12ce5dcb33d4652d7be8fb699dc37078827c2291e81bd880704", func := "wavelet/waveletlaw4.MqClean", spec := "mqClean", apart := false }
def MqCleanSaid : Prop := mqCleanRow.holds Try.pinned (OpenSpec.ofChange mqCleanSpec)

/-- ITS FALSE NEIGHBOUR: 'it returns false'. Refute it at one input. -/
def mqCleanWrong : ChangeSpec := { name := "mqClean", fn := fun _ => fun
  | [d] => { results := [.lit (.bool false)], args := [d] }
  | _ => none }
def MqCleanWrongFalsely : Prop := mqCleanRow.holds Try.pinned (OpenSpec.ofChange mqCleanWrong)

/-- 'waveletlaw4.MqShort': WHATEVER THE INPUT: true; the input reads as it did. -/
def mqShortSpec : ChangeSpec := { name := "mqShort", fn := fun _ => fun
  | [d1, d2] => { results := [.lit (.bool true)], args := [d1, d2] }
  | _ => none }
def mqShortRow : OpenClaim := { program := "ytcieeoobobafmaa", sum := "2ef5d1c6dd2ae12ce5dcb33d4652d7be8fb699dc37078827c2291e81bd880704", func := "wavelet/waveletlaw4.MqShort", spec := "mqShort", apart := false }
def MqShortSaid : Prop := mqShortRow.holds Try.pinned (OpenSpec.ofChange mqShortSpec)

/-- ITS FALSE NEIGHBOUR: 'it returns false'. Refute it at one input. -/
def mqShortWrong : ChangeSpec := { name := "mqShort", fn := fun _ => fun
  | [d1, d2] => { results := [.lit (.bool false)], args := [d1, d2] }
  | _ => none }
def MqShortWrongFalsely : Prop := mqShortRow.holds Try.pinned (OpenSpec.ofChange mqShortWrong)

/-- 'waveletlaw4.MqUniform': WHATEVER THE INPUT: true; the input reads as it did. -/
def mqUniformSpec : ChangeSpec := { name := "mqUniform", fn := fun _ => fun
  | [d] => { results := [.lit (.bool true)], args := [d] }
  | _ => none }
def mqUniformRow : OpenClaim := { program := "ytcieeoobobafmaa", sum := "2ef5d1c6dd2ae12ce5dcb33d4652d7be8fb699dc37078827c2291e81bd880704", func := "wavelet/waveletlaw4.MqUniform", spec := "mqUniform", apart := false }
def MqUniformSaid : Prop := mqUniformRow.holds Try.pinned (OpenSpec.ofChange mqUniformSpec)

/-- ITS FALSE NEIGHBOUR: 'it returns false'. Refute it at one input. -/
def mqUniformWrong : ChangeSpec := { name := "mqUniform", fn := fun _ => fun
  | [d] => { results := [.lit (.bool false)], args := [d] }
  | _ => none }
def MqUniformWrongFalsely : Prop := mqUniformRow.holds Try.pinned (OpenSpec.ofChange mqUniformWrong)

/-- 'waveletlaw4.MqTwo': WHATEVER THE INPUT: true; the input reads as it did. -/
def mqTwoSpec : ChangeSpec := { name := "mqTwo", fn := fun _ => fun
  | [d1, d2] => { results := [.lit (.bool true)], args := [d1, d2] }
  | _ => none }
def mqTwoRow : OpenClaim := { program := "ytcieeoobobafmaa", sum := "2ef5d1c6dd2ae12ce5dcb33d4652d7be8fb699dc37078827c2291e81bd880704", func := "wavelet/waveletlaw4.MqTwo", spec := "mqTwo", apart := false }
def MqTwoSaid : Prop := mqTwoRow.holds Try.pinned (OpenSpec.ofChange mqTwoSpec)

/-- ITS FALSE NEIGHBOUR: 'it returns false'. Refute it at one input. -/
def mqTwoWrong : ChangeSpec := { name := "mqTwo", fn := fun _ => fun
  | [d1, d2] => { results := [.lit (.bool false)], args := [d1, d2] }
  | _ => none }
def MqTwoWrongFalsely : Prop := mqTwoRow.holds Try.pinned (OpenSpec.ofChange mqTwoWrong)

/-- 'waveletlaw4.MqEncodes': WHATEVER THE INPUT: true; the input reads as it did. -/
def mqEncodesSpec : ChangeSpec := { name := "mqEncodes", fn := fun _ => fun
  | [d1, d2] => { results := [.lit (.bool true)], args := [d1, d2] }
  | _ => none }
def mqEncodesRow : OpenClaim := { program := "ytcieeoobobafmaa", sum := "2ef5d1c6dd2ae12ce5dcb33d4652d7be8fb699dc37078827c2291e81bd880704", func := "wavelet/waveletlaw4.MqEncodes", spec := "mqEncodes", apart := false }
def MqEncodesSaid : Prop := mqEncodesRow.holds Try.pinned (OpenSpec.ofChange mqEncodesSpec)

/-- ITS FALSE NEIGHBOUR: 'it returns false'. Refute it at one input. -/
def mqEncodesWrong : ChangeSpec := { name := "mqEncodes", fn := fun _ => fun
  | [d1, d2] => { results := [.lit (.bool false)], args := [d1, d2] }
  | _ => none }
def MqEncodesWrongFalsely : Prop := mqEncodesRow.holds Try.pinned (OpenSpec.ofChange mqEncodesWrong)

/-- 'waveletlaw4.MqBack': WHATEVER THE INPUT: true; the input reads as it did. -/
def mqBackSpec : ChangeSpec := { name := "mqBack", fn := fun _ => fun
  | [d] => { results := [.lit (.bool true)], args := [d] }
  | _ => none }
def mqBackRow : OpenClaim := { program := "ytcieeoobobafmaa", sum := "2ef5d1c6dd2ae12ce5dcb33d4652d7be8fb699dc37078827c2291e81bd880704", func := "wavelet/waveletlaw4.MqBack", spec := "mqBack", apart := false }
def MqBackSaid : Prop := mqBackRow.holds Try.pinned (OpenSpec.ofChange mqBackSpec)

/-- ITS FALSE NEIGHBOUR: 'it returns false'. Refute it at one input. -/
def mqBackWrong : ChangeSpec := { name := "mqBack", fn := fun _ => fun
  | [d] => { results := [.lit (.bool false)], args := [d] }
  | _ => none }
def MqBackWrongFalsely : Prop := mqBackRow.holds Try.pinned (OpenSpec.ofChange mqBackWrong)

/-- 'waveletlaw4.MqNone': WHATEVER THE INPUT: true; the input reads as it did. -/
def mqNoneSpec : ChangeSpec := { name := "mqNone", fn := fun _ => fun
  | [d1, d2, d3] => { results := [.lit (.bool true)], args := [d1, d2, d3] }
  | _ => none }
def mqNoneRow : OpenClaim := { program := "ytcieeoobobafmaa", sum := "2ef5d1c6dd2ae12ce5dcb33d4652d7be8fb699dc37078827c2291e81bd880704", func := "wavelet/waveletlaw4.MqNone", spec := "mqNone", apart := false }
def MqNoneSaid : Prop := mqNoneRow.holds Try.pinned (OpenSpec.ofChange mqNoneSpec)

/-- ITS FALSE NEIGHBOUR: 'it returns false'. Refute it at one input. -/
def mqNoneWrong : ChangeSpec := { name := "mqNone", fn := fun _ => fun
  | [d1, d2, d3] => { results := [.lit (.bool false)], args := [d1, d2, d3] }
  | _ => none }
def MqNoneWrongFalsely : Prop := mqNoneRow.holds Try.pinned (OpenSpec.ofChange mqNoneWrong)

/-- 'waveletlaw4.MqFronts': WHATEVER THE INPUT: true; the input reads as it did. -/
def mqFrontsSpec : ChangeSpec := { name := "mqFronts", fn := fun _ => fun
  | [d1, d2] => { results := [.lit (.bool true)], args := [d1, d2] }
  | _ => none }
def mqFrontsRow : OpenClaim := { program := "ytcieeoobobafmaa", sum := "2ef5d1c6dd2ae12ce5dcb33d4652d7be8fb699dc37078827c2291e81bd880704", func := "wavelet/waveletlaw4.MqFronts", spec := "mqFronts", apart := false }
def MqFrontsSaid : Prop := mqFrontsRow.holds Try.pinned (OpenSpec.ofChange mqFrontsSpec)

/-- ITS FALSE NEIGHBOUR: 'it returns false'. Refute it at one input. -/
def mqFrontsWrong : ChangeSpec := { name := "mqFronts", fn := fun _ => fun
  | [d1, d2] => { results := [.lit (.bool false)], args := [d1, d2] }
  | _ => none }
def MqFrontsWrongFalsely : Prop := mqFrontsRow.holds Try.pinned (OpenSpec.ofChange mqFrontsWrong)

/- THE SECOND FORM. 'bulk': how many values and letters a reading holds, each counted each time it is reached (what is shared counts as often as it is met; a slice's spare places count too). A statement '..UptoSaid' is the law's where the arguments, and the package variables that the reading takes, are together of bulk at most 1048576: NARROWER than '..Said'. Prove '..Said' where nothing that the law and all that it calls make is longer than what came in: it says more and counts as full. Else prove '..UptoSaid'. A law counts once. -/
mutual
def uptoBulk {H : Type} : DataW H → Nat
  | .lit (.string bytes) => bytes.length + 1
  | .lit _ => 1
  | .nil => 1
  | .ptr d => uptoBulk d + 1
  | .slice elems spare => uptoBulkAll elems + uptoBulkAll spare + 1
  | .agg parts => uptoBulkAll parts + 1
  | .iface _ d => uptoBulk d + 1
  | .map entries => uptoBulkEntries entries + 1
  | .held _ => 1
def uptoBulkAll {H : Type} : List (DataW H) → Nat
  | [] => 0
  | d :: r => uptoBulk d + uptoBulkAll r
def uptoBulkEntries {H : Type} : List (Lit × DataW H) → Nat
  | [] => 0
  | x :: r => uptoBulkEntry x + uptoBulkEntries r
def uptoBulkEntry {H : Type} : Lit × DataW H → Nat
  | (.string bytes, d) => bytes.length + uptoBulk d + 1
  | (_, d) => uptoBulk d + 1
 end
def uptoSmall : (H : Type) → List (DataW H) → Bool := fun _ ds => decide (uptoBulkAll ds ≤ 1048576)
def OpenSpec.upto (s : _root_.Go.ChangeSpec) : _root_.Go.OpenSpec := { _root_.Go.OpenSpec.ofChange s with cond := some uptoSmall }

/-- 'waveletlaw4.MqBehind', WHERE WHAT IT READS IS OF BULK AT MOST 1048576: true; the input reads as it did. -/
def mqBehindUptoRow : OpenClaim := { program := "ytcieeoobobafmaa", sum := "2ef5d1c6dd2ae12ce5dcb33d4652d7be8fb699dc37078827c2291e81bd880704", func := "wavelet/waveletlaw4.MqBehind", spec := "mqBehind", apart := false, narrowed := true }
def MqBehindUptoSaid : Prop := mqBehindUptoRow.holds Try.pinned (OpenSpec.upto mqBehindSpec)

/-- 'waveletlaw4.MqStates', WHERE WHAT IT READS IS OF BULK AT MOST 1048576: true; the input reads as it did. -/
def mqStatesUptoRow : OpenClaim := { program := "ytcieeoobobafmaa", sum := "2ef5d1c6dd2ae12ce5dcb33d4652d7be8fb699dc37078827c2291e81bd880704", func := "wavelet/waveletlaw4.MqStates", spec := "mqStates", apart := false, narrowed := true }
def MqStatesUptoSaid : Prop := mqStatesUptoRow.holds Try.pinned (OpenSpec.upto mqStatesSpec)

/-- 'waveletlaw4.MqClean', WHERE WHAT IT READS IS OF BULK AT MOST 1048576: true; the input reads as it did. -/
def mqCleanUptoRow : OpenClaim := { program := "ytcieeoobobafmaa", sum := "2ef5d1c6dd2ae12ce5dcb33d4652d7be8fb699dc37078827c2291e81bd880704", func := "wavelet/waveletlaw4.MqClean", spec := "mqClean", apart := false, narrowed := true }
def MqCleanUptoSaid : Prop := mqCleanUptoRow.holds Try.pinned (OpenSpec.upto mqCleanSpec)

/-- 'waveletlaw4.MqShort', WHERE WHAT IT READS IS OF BULK AT MOST 1048576: true; the input reads as it did. -/
def mqShortUptoRow : OpenClaim := { program := "ytcieeoobobafmaa", sum := "2ef5d1c6dd2ae12ce5dcb33d4652d7be8fb699dc37078827c2291e81bd880704", func := "wavelet/waveletlaw4.MqShort", spec := "mqShort", apart := false, narrowed := true }
def MqShortUptoSaid : Prop := mqShortUptoRow.holds Try.pinned (OpenSpec.upto mqShortSpec)

/-- 'waveletlaw4.MqUniform', WHERE WHAT IT READS IS OF BULK AT MOST 1048576: true; the input reads as it did. -/
def mqUniformUptoRow : OpenClaim := { program := "ytcieeoobobafmaa", sum := "2ef5d1c6dd2ae12ce5dcb33d4652d7be8fb699dc37078827c2291e81bd880704", func := "wavelet/waveletlaw4.MqUniform", spec := "mqUniform", apart := false, narrowed := true }
def MqUniformUptoSaid : Prop := mqUniformUptoRow.holds Try.pinned (OpenSpec.upto mqUniformSpec)

/-- 'waveletlaw4.MqTwo', WHERE WHAT IT READS IS OF BULK AT MOST 1048576: true; the input reads as it did. -/
def mqTwoUptoRow : OpenClaim := { program := "ytcieeoobobafmaa", sum := "2ef5d1c6dd2ae12ce5dcb33d4652d7be8fb699dc37078827c2291e81bd880704", func := "wavelet/waveletlaw4.MqTwo", spec := "mqTwo", apart := false, narrowed := true }
def MqTwoUptoSaid : Prop := mqTwoUptoRow.holds Try.pinned (OpenSpec.upto mqTwoSpec)

/-- 'waveletlaw4.MqEncodes', WHERE WHAT IT READS IS OF BULK AT MOST 1048576: true; the input reads as it did. -/
def mqEncodesUptoRow : OpenClaim := { program := "ytcieeoobobafmaa", sum := "2ef5d1c6dd2ae12ce5dcb33d4652d7be8fb699dc37078827c2291e81bd880704", func := "wavelet/waveletlaw4.MqEncodes", spec := "mqEncodes", apart := false, narrowed := true }
def MqEncodesUptoSaid : Prop := mqEncodesUptoRow.holds Try.pinned (OpenSpec.upto mqEncodesSpec)

/-- 'waveletlaw4.MqBack', WHERE WHAT IT READS IS OF BULK AT MOST 1048576: true; the input reads as it did. -/
def mqBackUptoRow : OpenClaim := { program := "ytcieeoobobafmaa", sum := "2ef5d1c6dd2ae12ce5dcb33d4652d7be8fb699dc37078827c2291e81bd880704", func := "wavelet/waveletlaw4.MqBack", spec := "mqBack", apart := false, narrowed := true }
def MqBackUptoSaid : Prop := mqBackUptoRow.holds Try.pinned (OpenSpec.upto mqBackSpec)

/-- 'waveletlaw4.MqNone', WHERE WHAT IT READS IS OF BULK AT MOST 1048576: true; the input reads as it did. -/
def mqNoneUptoRow : OpenClaim := { program := "ytcieeoobobafmaa", sum := "2ef5d1c6dd2ae12ce5dcb33d4652d7be8fb699dc37078827c2291e81bd880704", func := "wavelet/waveletlaw4.MqNone", spec := "mqNone", apart := false, narrowed := true }
def MqNoneUptoSaid : Prop := mqNoneUptoRow.holds Try.pinned (OpenSpec.upto mqNoneSpec)

/-- 'waveletlaw4.MqFronts', WHERE WHAT IT READS IS OF BULK AT MOST 1048576: true; the input reads as it did. -/
def mqFrontsUptoRow : OpenClaim := { program := "ytcieeoobobafmaa", sum := "2ef5d1c6dd2ae12ce5dcb33d4652d7be8fb699dc37078827c2291e81bd880704", func := "wavelet/waveletlaw4.MqFronts", spec := "mqFronts", apart := false, narrowed := true }
def MqFrontsUptoSaid : Prop := mqFrontsUptoRow.holds Try.pinned (OpenSpec.upto mqFrontsSpec)

end Rows
end Go.Proofs.Ytcieeoobobafmaa
