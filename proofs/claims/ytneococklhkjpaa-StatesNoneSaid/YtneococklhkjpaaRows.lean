/-
  No cell of these rows narrows 'for every input' (looked for: loops, veiled, ifaces, maps, wideKeys, modest, calm, conditions, laid).
  DERIVED. THE GIVEN ROWS OF THIS SEAT. 4 by the template 'for every input the law returns true; each argument reads behind the call as it read before'; 0 by the template 'total and deterministic' (their statements: YtneococklhkjpaaTotals.lean).
  GIVEN WITH THE SEED: the statements are not yours to turn. If you find one false, say at which input.
  Laid BY PROGRAM, IN A SANDBOX (cutbox-rows.mjs): the forced cells as the released guide's own fill.sh prints them over the translation 6f3317efea7c847c… (all of the seat's roots in one cut). By AI agents, Wed Nov 11 2026. No macro, syntax, notation, axiom, sorry.
-/
import Derived.Test.YtneococklhkjpaaChecked
import GoSem.Claim
import GoSem.ClaimJoined
import GoSem.ClaimMapViews
import Derived.JoinedTies
import Derived.KernelRfl
namespace Go.Proofs.Ytneococklhkjpaa
/- THE CELL 'sum', in the pinned program and in every row, IS THE sha256 OF THE DUMP (.gsa) THAT YtneococklhkjpaaProg.lean LOADS. Nothing in Lean hashes anything: it is a label: what it is worth is what the hold of that sum in a sandbox is worth. -/
noncomputable def Try.pinned : Pinned := { name := "ytneococklhkjpaa", sum := "6f3317efea7c847c809bcfe1ca3a85e76c0ed1ee0589193d3ddfefd763ce896e", checked := Try.checked }
namespace Rows
def none {H : Type} : Left H := { results := [], args := [] }

/-- 'waveletlaw3.StatesWays': WHATEVER THE INPUT: true; the input reads as it did. -/
def statesWaysSpec : ChangeSpec := { name := "statesWays", fn := fun _ => fun
  | [d1, d2] => { results := [.lit (.bool true)], args := [d1, d2] }
  | _ => none }
def statesWaysRow : OpenClaim := { program := "ytneococklhkjpaa", sum := "6f3317efea7c847c809bcfe1ca3a85e76c0ed1ee0589193d3ddfefd763ce896e", func := "wavelet/waveletlaw3.StatesWays", spec := "statesWays", apart := false }
def StatesWaysSaid : Prop := statesWaysRow.holds Try.pinned (OpenSpec.ofChange statesWaysSpec)

/-- ITS FALSE NEIGHBOUR: 'it returns false'. Refute it at one input. -/
def statesWaysWrong : ChangeSpec := { name := "statesWays", fn := fun _ => fun
  | [d1, d2] => { results := [.lit (.bool false)], args := [d1, d2] }
  | _ => none }
def StatesWaysWrongFalsely : Prop := statesWaysRow.holds Try.pinned (OpenSpec.ofChange statesWaysWrong)

/-- 'waveletlaw3.StatesFall': WHATEVER THE INPUT: true; the input reads as it did. -/
def statesFallSpec : ChangeSpec := { name := "statesFall", fn := fun _ => fun
  | [d] => { results := [.lit (.bool true)], args := [d] }
  | _ => none }
def statesFallRow : OpenClaim := { program := "ytneococklhkjpaa", sum := "6f3317efea7c847c809bcfe1ca3a85e76c0ed1ee0589193d3ddfefd763ce896e", func := "wavelet/waveletlaw3.StatesFall", spec := "statesFall", apart := false }
def StatesFallSaid : Prop := statesFallRow.holds Try.pinned (OpenSpec.ofChange statesFallSpec)

/-- ITS FALSE NEIGHBOUR: 'it returns false'. Refute it at one input. -/
def statesFallWrong : ChangeSpec := { name := "statesFall", fn := fun _ => fun
  | [d] => { results := [.lit (.bool false)], args := [d] }
  | _ => none }
def StatesFallWrongFalsely : Prop := statesFallRow.holds Try.pinned (OpenSpec.ofChange statesFallWrong)

/-- 'waveletlaw3.StatesAll': WHATEVER THE INPUT: true; the input reads as it did. -/
def statesAllSpec : ChangeSpec := { name := "statesAll", fn := fun _ => fun
  | [d1, d2] => { results := [.lit (.bool true)], args := [d1, d2] }
  | _ => none }
def statesAllRow : OpenClaim := { program := "ytneococklhkjpaa", sum := "6f3317efea7c847c809bcfe1ca3a85e76c0ed1ee0589193d3ddfefd763ce896e", func := "wavelet/waveletlaw3.StatesAll", spec := "statesAll", apart := false }
def StatesAllSaid : Prop := statesAllRow.holds Try.pinned (OpenSpec.ofChange statesAllSpec)

/-- ITS FALSE NEIGHBOUR: 'it returns false'. Refute it at one input. -/
def statesAllWrong : ChangeSpec := { name := "statesAll", fn := fun _ => fun
  | [d1, d2] => { results := [.lit (.bool false)], args := [d1, d2] }
  | _ => none }
def StatesAllWrongFalsely : Prop := statesAllRow.holds Try.pinned (OpenSpec.ofChange statesAllWrong)

/-- 'waveletlaw3.StatesNone': WHATEVER THE INPUT: true; the input reads as it did. -/
def statesNoneSpec : ChangeSpec := { name := "statesNone", fn := fun _ => fun
  | [d1, d2] => { results := [.lit (.bool true)], args := [d1, d2] }
  | _ => none }
def statesNoneRow : OpenClaim := { program := "ytneococklhkjpaa", sum := "6f3317efea7c847c809bcfe1ca3a85e76c0ed1ee0589193d3ddfefd763ce896e", func := "wavelet/waveletlaw3.StatesNone", spec := "statesNone", apart := false }
def StatesNoneSaid : Prop := statesNoneRow.holds Try.pinned (OpenSpec.ofChange statesNoneSpec)

/-- ITS FALSE NEIGHBOUR: 'it returns false'. Refute it at one input. -/
def statesNoneWrong : ChangeSpec := { name := "statesNone", fn := fun _ => fun
  | [d1, d2] => { results := [.lit (.bool false)], args := [d1, d2] }
  | _ => none }
def StatesNoneWrongFalsely : Prop := statesNoneRow.holds Try.pinned (OpenSpec.ofChange statesNoneWrong)

/- THE SECOND FORM. 'bulk': how many values and letters a reading holds, each counted each time it is reached (what is shared counts as often as it is met; a slice's spare places count too). A statement '..UptoSaid' is the law's where the arguments, and the package variables that the reading takes, are together of bulk at most 1048576: NARROWER than '..Said'. Prove '..Said' where nothing that the law and all that it calls make is longer than what came in: it says more and counts as full. Else prove '..UptoSaid'. A law counts once. -/
mutual
def uptoBulk {H : Type} : DataW H → Nat
  | .lit (.string bytes) => bytes.length + 1
  | .lit _ => 1
  | .nil => 1
  | .ptr d => uptoBulk d + 1
  | .slice elems spare => uptoBulkAll elems + uptoBulkAll spare + 1
  | .agg parts => uptoBulkAll parts + 1
  | .iface _ d => uptoBulk d + 1
  | .map entries => uptoBulkEntries entries + 1
  | .held _ => 1
def uptoBulkAll {H : Type} : List (DataW H) → Nat
  | [] => 0
  | d :: r => uptoBulk d + uptoBulkAll r
def uptoBulkEntries {H : Type} : List (Lit × DataW H) → Nat
  | [] => 0
  | x :: r => uptoBulkEntry x + uptoBulkEntries r
def uptoBulkEntry {H : Type} : Lit × DataW H → Nat
  | (.string bytes, d) => bytes.length + uptoBulk d + 1
  | (_, d) => uptoBulk d + 1
 end
def uptoSmall : (H : Type) → List (DataW H) → Bool := fun _ ds => decide (uptoBulkAll ds ≤ 1048576)
def OpenSpec.upto (s : _root_.Go.ChangeSpec) : _root_.Go.OpenSpec := { _root_.Go.OpenSpec.ofChange s with cond := some uptoSmall }

/-- 'waveletlaw3.StatesWays', WHERE WHAT IT READS IS OF BULK AT MOST 1048576: true; the input reads as it did. -/
def statesWaysUptoRow : OpenClaim := { program := "ytneococklhkjpaa", sum := "6f3317efea7c847c809bcfe1ca3a85e76c0ed1ee0589193d3ddfefd763ce896e", func := "wavelet/waveletlaw3.StatesWays", spec := "statesWays", apart := false, narrowed := true }
def StatesWaysUptoSaid : Prop := statesWaysUptoRow.holds Try.pinned (OpenSpec.upto statesWaysSpec)

/-- 'waveletlaw3.StatesFall', WHERE WHAT IT READS IS OF BULK AT MOST 1048576: true; the input reads as it did. -/
def statesFallUptoRow : OpenClaim := { program := "ytneococklhkjpaa", sum := "6f3317efea7c847c809bcfe1ca3a85e76c0ed1ee0589193d3ddfefd763ce896e", func := "wavelet/waveletlaw3.StatesFall", spec := "statesFall", apart := false, narrowed := true }
def StatesFallUptoSaid : Prop := statesFallUptoRow.holds Try.pinned (OpenSpec.upto statesFallSpec)

/-- 'waveletlaw3.StatesAll', WHERE WHAT IT READS IS OF BULK AT MOST 1048576: true; the input reads as it did. -/
def statesAllUptoRow : OpenClaim := { program := "ytneococklhkjpaa", sum := "6f3317efea7c847c809bcfe1ca3a85e76c0ed1ee0589193d3ddfefd763ce896e", func := "wavelet/waveletlaw3.StatesAll", spec := "statesAll", apart := false, narrowed := true }
def StatesAllUptoSaid : Prop := statesAllUptoRow.holds Try.pinned (OpenSpec.upto statesAllSpec)

/-- 'waveletlaw3.StatesNone', WHERE WHAT IT READS IS OF BULK AT MOST 1048576: true; the input reads as it did. -/
def statesNoneUptoRow : OpenClaim := { program := "ytneococklhkjpaa", sum := "6f3317efea7c847c809bcfe1ca3a85e76c0ed1ee0589193d3ddfefd763ce896e", func := "wavelet/waveletlaw3.StatesNone", spec := "statesNone", apart := false, narrowed := true }
def StatesNoneUptoSaid : Prop := statesNoneUptoRow.holds Try.pinned (OpenSpec.upto statesNoneSpec)

end Rows
end Go.Proofs.Ytneococklhkjpaa
