/-
  No cell of these rows narrows 'for every input' (looked for: loops, veiled, ifaces, maps, wideKeys, modest, calm, conditions, laid).
  DERIVED. THE GIVEN ROWS OF THIS SEAT. 5 by the template 'for every input the law returns true; each argument reads behind the call as it read before'; 0 by the template 'total and deterministic' (their statements: YtbkffpedigeflaaTotals.lean).
  GIVEN WITH THE SEED: the statements are not yours to turn. If you find one false, say at which input.
  Laid BY PROGRAM, IN A SANDBOX (cutbox-rows.mjs): the forced cells as the released guide's own fill.sh prints them over the translation 541c5f3e8920c5ef… (all of the seat's roots in one cut). By AI agents, Wed Nov 11 2026. No macro, syntax, notation, axiom, sorry.
-/
import Derived.Test.YtbkffpedigeflaaChecked
import GoSem.Claim
import GoSem.ClaimJoined
import GoSem.ClaimMapViews
import Derived.JoinedTies
import Derived.KernelRfl
namespace Go.Proofs.Ytbkffpedigeflaa
/- THE CELL 'sum', in the pinned program and in every row, IS THE sha256 OF THE DUMP (.gsa) THAT YtbkffpedigeflaaProg.lean LOADS. Nothing in Lean hashes anything: it is a label: what it is worth is what the hold of that sum in a sandbox is worth. -/
noncomputable def Try.pinned : Pinned := { name := "ytbkffpedigeflaa", sum := "541c5f3e8920c5ef5697e9bbced2c815a746aaa3cc1a0b95a57600d5324ada7f", checked := Try.checked }
namespace Rows
def none {H : Type} : Left H := { results := [], args := [] }

/-- 'waveletlaw13.TreeTwo': WHATEVER THE INPUT: true; the input reads as it did. -/
def treeTwoSpec : ChangeSpec := { name := "treeTwo", fn := fun _ => fun
  | [d1, d2] => { results := [.lit (.bool true)], args := [d1, d2] }
  | _ => none }
def treeTwoRow : OpenClaim := { program := "ytbkffpedigeflaa", sum := "541c5f3e8920c5ef5697e9bbced2c815a746aaa3cc1a0b95a57600d5324ada7f", func := "wavelet/waveletlaw13.TreeTwo", spec := "treeTwo", apart := false }
def TreeTwoSaid : Prop := treeTwoRow.holds Try.pinned (OpenSpec.ofChange treeTwoSpec)

/-- ITS FALSE NEIGHBOUR: 'it returns false'. Refute it at one input. -/
def treeTwoWrong : ChangeSpec := { name := "treeTwo", fn := fun _ => fun
  | [d1, d2] => { results := [.lit (.bool false)], args := [d1, d2] }
  | _ => none }
def TreeTwoWrongFalsely : Prop := treeTwoRow.holds Try.pinned (OpenSpec.ofChange treeTwoWrong)

/-- 'waveletlaw13.TreeRow': WHATEVER THE INPUT: true; the input reads as it did. -/
def treeRowSpec : ChangeSpec := { name := "treeRow", fn := fun _ => fun
  | [d1, d2] => { results := [.lit (.bool true)], args := [d1, d2] }
  | _ => none }
def treeRowRow : OpenClaim := { program := "ytbkffpedigeflaa", sum := "541c5f3e8920c5ef5697e9bbced2c815a746aaa3cc1a0b95a57600d5324ada7f", func := "wavelet/waveletlaw13.TreeRow", spec := "treeRow", apart := false }
def TreeRowSaid : Prop := treeRowRow.holds Try.pinned (OpenSpec.ofChange treeRowSpec)

/-- ITS FALSE NEIGHBOUR: 'it returns false'. Refute it at one input. -/
def treeRowWrong : ChangeSpec := { name := "treeRow", fn := fun _ => fun
  | [d1, d2] => { results := [.lit (.bool false)], args := [d1, d2] }
  | _ => none }
def TreeRowWrongFalsely : Prop := treeRowRow.holds Try.pinned (OpenSpec.ofChange treeRowWrong)

/-- 'waveletlaw13.TreeHears': WHATEVER THE INPUT: true; the input reads as it did. -/
def treeHearsSpec : ChangeSpec := { name := "treeHears", fn := fun _ => fun
  | [d1, d2, d3, d4, d5] => { results := [.lit (.bool true)], args := [d1, d2, d3, d4, d5] }
  | _ => none }
def treeHearsRow : OpenClaim := { program := "ytbkffpedigeflaa", sum := "541c5f3e8920c5ef5697e9bbced2c815a746aaa3cc1a0b95a57600d5324ada7f", func := "wavelet/waveletlaw13.TreeHears", spec := "treeHears", apart := false }
def TreeHearsSaid : Prop := treeHearsRow.holds Try.pinned (OpenSpec.ofChange treeHearsSpec)

/-- ITS FALSE NEIGHBOUR: 'it returns false'. Refute it at one input. -/
def treeHearsWrong : ChangeSpec := { name := "treeHears", fn := fun _ => fun
  | [d1, d2, d3, d4, d5] => { results := [.lit (.bool false)], args := [d1, d2, d3, d4, d5] }
  | _ => none }
def TreeHearsWrongFalsely : Prop := treeHearsRow.holds Try.pinned (OpenSpec.ofChange treeHearsWrong)

/-- 'waveletlaw13.TreeShort': WHATEVER THE INPUT: true; the input reads as it did. -/
def treeShortSpec : ChangeSpec := { name := "treeShort", fn := fun _ => fun
  | [d1, d2, d3] => { results := [.lit (.bool true)], args := [d1, d2, d3] }
  | _ => none }
def treeShortRow : OpenClaim := { program := "ytbkffpedigeflaa", sum := "541c5f3e8920c5ef5697e9bbced2c815a746aaa3cc1a0b95a57600d5324ada7f", func := "wavelet/waveletlaw13.TreeShort", spec := "treeShort", apart := false }
def TreeShortSaid : Prop := treeShortRow.holds Try.pinned (OpenSpec.ofChange treeShortSpec)

/-- ITS FALSE NEIGHBOUR: 'it returns false'. Refute it at one input. -/
def treeShortWrong : ChangeSpec := { name := "treeShort", fn := fun _ => fun
  | [d1, d2, d3] => { results := [.lit (.bool false)], args := [d1, d2, d3] }
  | _ => none }
def TreeShortWrongFalsely : Prop := treeShortRow.holds Try.pinned (OpenSpec.ofChange treeShortWrong)

/-- 'waveletlaw13.TreeBack': WHATEVER THE INPUT: true; the input reads as it did. -/
def treeBackSpec : ChangeSpec := { name := "treeBack", fn := fun _ => fun
  | [d1, d2, d3, d4, d5] => { results := [.lit (.bool true)], args := [d1, d2, d3, d4, d5] }
  | _ => none }
def treeBackRow : OpenClaim := { program := "ytbkffpedigeflaa", sum := "541c5f3e8920c5ef5697e9bbced2c815a746aaa3cc1a0b95a57600d5324ada7f", func := "wavelet/waveletlaw13.TreeBack", spec := "treeBack", apart := false }
def TreeBackSaid : Prop := treeBackRow.holds Try.pinned (OpenSpec.ofChange treeBackSpec)

/-- ITS FALSE NEIGHBOUR: 'it returns false'. Refute it at one input. -/
def treeBackWrong : ChangeSpec := { name := "treeBack", fn := fun _ => fun
  | [d1, d2, d3, d4, d5] => { results := [.lit (.bool false)], args := [d1, d2, d3, d4, d5] }
  | _ => none }
def TreeBackWrongFalsely : Prop := treeBackRow.holds Try.pinned (OpenSpec.ofChange treeBackWrong)

/- THE SECOND FORM. 'bulk': how many values and letters a reading holds, each counted each time it is reached (what is shared counts as often as it is met; a slice's spare places count too). A statement '..UptoSaid' is the law's where the arguments, and the package variables that the reading takes, are together of bulk at most 1048576: NARROWER than '..Said'. Prove '..Said' where nothing that the law and all that it calls make is longer than what came in: it says more and counts as full. Else prove '..UptoSaid'. A law counts once. -/
mutual
def uptoBulk {H : Type} : DataW H → Nat
  | .lit (.string bytes) => bytes.length + 1
  | .lit _ => 1
  | .nil => 1
  | .ptr d => uptoBulk d + 1
  | .slice elems spare => uptoBulkAll elems + uptoBulkAll spare + 1
  | .agg parts => uptoBulkAll parts + 1
  | .iface _ d => uptoBulk d + 1
  | .map entries => uptoBulkEntries entries + 1
  | .held _ => 1
def uptoBulkAll {H : Type} : List (DataW H) → Nat
  | [] => 0
  | d :: r => uptoBulk d + uptoBulkAll r
def uptoBulkEntries {H : Type} : List (Lit × DataW H) → Nat
  | [] => 0
  | x :: r => uptoBulkEntry x + uptoBulkEntries r
def uptoBulkEntry {H : Type} : Lit × DataW H → Nat
  | (.string bytes, d) => bytes.length + uptoBulk d + 1
  | (_, d) => uptoBulk d + 1
 end
def uptoSmall : (H : Type) → List (DataW H) → Bool := fun _ ds => decide (uptoBulkAll ds ≤ 1048576)
def OpenSpec.upto (s : _root_.Go.ChangeSpec) : _root_.Go.OpenSpec := { _root_.Go.OpenSpec.ofChange s with cond := some uptoSmall }

/-- 'waveletlaw13.TreeTwo', WHERE WHAT IT READS IS OF BULK AT MOST 1048576: true; the input reads as it did. -/
def treeTwoUptoRow : OpenClaim := { program := "ytbkffpedigeflaa", sum := "541c5f3e8920c5ef5697e9bbced2c815a746aaa3cc1a0b95a57600d5324ada7f", func := "wavelet/waveletlaw13.TreeTwo", spec := "treeTwo", apart := false, narrowed := true }
def TreeTwoUptoSaid : Prop := treeTwoUptoRow.holds Try.pinned (OpenSpec.upto treeTwoSpec)

/-- 'waveletlaw13.TreeRow', WHERE WHAT IT READS IS OF BULK AT MOST 1048576: true; the input reads as it did. -/
def treeRowUptoRow : OpenClaim := { program := "ytbkffpedigeflaa", sum := "541c5f3e8920c5ef5697e9bbced2c815a746aaa3cc1a0b95a57600d5324ada7f", func := "wavelet/waveletlaw13.TreeRow", spec := "treeRow", apart := false, narrowed := true }
def TreeRowUptoSaid : Prop := treeRowUptoRow.holds Try.pinned (OpenSpec.upto treeRowSpec)

/-- 'waveletlaw13.TreeHears', WHERE WHAT IT READS IS OF BULK AT MOST 1048576: true; the input reads as it did. -/
def treeHearsUptoRow : OpenClaim := { program := "ytbkffpedigeflaa", sum := "541c5f3e8920c5ef5697e9bbced2c815a746aaa3cc1a0b95a57600d5324ada7f", func := "wavelet/waveletlaw13.TreeHears", spec := "treeHears", apart := false, narrowed := true }
def TreeHearsUptoSaid : Prop := treeHearsUptoRow.holds Try.pinned (OpenSpec.upto treeHearsSpec)

/-- 'waveletlaw13.TreeShort', WHERE WHAT IT READS IS OF BULK AT MOST 1048576: true; the input reads as it did. -/
def treeShortUptoRow : OpenClaim := { program := "ytbkffpedigeflaa", sum := "541c5f3e8920c5ef5697e9bbced2c815a746aaa3cc1a0b95a57600d5324ada7f", func := "wavelet/waveletlaw13.TreeShort", spec := "treeShort", apart := false, narrowed := true }
def TreeShortUptoSaid : Prop := treeShortUptoRow.holds Try.pinned (OpenSpec.upto treeShortSpec)

/-- 'waveletlaw13.TreeBack', WHERE WHAT IT READS IS OF BULK AT MOST 1048576: true; the input reads as it did. -/
def treeBackUptoRow : OpenClaim := { program := "ytbkffpedigeflaa", sum := "541c5f3e8920c5ef5697e9bbced2c815a746aaa3cc1a0b95a57600d5324ada7f", func := "wavelet/waveletlaw13.TreeBack", spec := "treeBack", apart := false, narrowed := true }
def TreeBackUptoSaid : Prop := treeBackUptoRow.holds Try.pinned (OpenSpec.upto treeBackSpec)

end Rows
end Go.Proofs.Ytbkffpedigeflaa
