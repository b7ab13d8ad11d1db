/-
  No cell of these rows narrows 'for every input' (looked for: loops, veiled, ifaces, maps, wideKeys, modest, calm, conditions, laid).
  DERIVED. THE GIVEN ROWS OF THIS SEAT. 7 by the template 'for every input the law returns true; each argument reads behind the call as it read before'; 0 by the template 'total and deterministic' (their statements: YtpjfmockkjnigaaTotals.lean).
  GIVEN WITH THE SEED: the statements are not yours to turn. If you find one false, say at which input.
  Laid BY PROGRAM, IN A SANDBOX (cutbox-rows.mjs): the forced cells as the released guide's own fill.sh prints them over the translation 449fa54c8aea392d… (all of the seat's roots in one cut). By AI agents, Wed Nov 11 2026. No macro, syntax, notation, axiom, sorry.
-/
import Derived.Test.YtpjfmockkjnigaaChecked
import GoSem.Claim
import GoSem.ClaimJoined
import GoSem.ClaimMapViews
import Derived.JoinedTies
import Derived.KernelRfl
namespace Go.Proofs.Ytpjfmockkjnigaa
/- THE CELL 'sum', in the pinned program and in every row, IS THE sha256 OF THE DUMP (.gsa) THAT YtpjfmockkjnigaaProg.lean LOADS. Nothing in Lean hashes anything: it is a label: what it is worth is what the hold of that sum in a sandbox is worth. -/
noncomputable def Try.pinned : Pinned := { name := "ytpjfmockkjnigaa", sum := "449fa54c8aea392d7f198802ac8aecb3583c0c64efa0edf7be24977b95585bbd", checked := Try.checked }
namespace Rows
def none {H : Type} : Left H := { results := [], args := [] }

/-- 'waveletlaw5.RawWrites': WHATEVER THE INPUT: true; the input reads as it did. -/
def rawWritesSpec : ChangeSpec := { name := "rawWrites", fn := fun _ => fun
  | [d] => { results := [.lit (.bool true)], args := [d] }
  | _ => none }
def rawWritesRow : OpenClaim := { program := "ytpjfmockkjnigaa", sum := "449fa54c8aea392d7f198802ac8aecb3583c0c64efa0edf7be24977b95585bbd", func := "wavelet/waveletlaw5.RawWrites", spec := "rawWrites", apart := false }
def RawWritesSaid : Prop := rawWritesRow.holds Try.pinned (OpenSpec.ofChange rawWritesSpec)

/-- ITS FALSE NEIGHBOUR: 'it returns false'. Refute it at one input. -/
def rawWritesWrong : ChangeSpec := { name := "rawWrites", fn := fun _ => fun
  | [d] => { results := [.lit (.bool false)], args := [d] }
  | _ => none }
def RawWritesWrongFalsely : Prop := rawWritesRow.holds Try.pinned (OpenSpec.ofChange rawWritesWrong)

/-- 'waveletlaw5.RawReads': WHATEVER THE INPUT: true; the input reads as it did. -/
def rawReadsSpec : ChangeSpec := { name := "rawReads", fn := fun _ => fun
  | [d] => { results := [.lit (.bool true)], args := [d] }
  | _ => none }
def rawReadsRow : OpenClaim := { program := "ytpjfmockkjnigaa", sum := "449fa54c8aea392d7f198802ac8aecb3583c0c64efa0edf7be24977b95585bbd", func := "wavelet/waveletlaw5.RawReads", spec := "rawReads", apart := false }
def RawReadsSaid : Prop := rawReadsRow.holds Try.pinned (OpenSpec.ofChange rawReadsSpec)

/-- ITS FALSE NEIGHBOUR: 'it returns false'. Refute it at one input. -/
def rawReadsWrong : ChangeSpec := { name := "rawReads", fn := fun _ => fun
  | [d] => { results := [.lit (.bool false)], args := [d] }
  | _ => none }
def RawReadsWrongFalsely : Prop := rawReadsRow.holds Try.pinned (OpenSpec.ofChange rawReadsWrong)

/-- 'waveletlaw5.RawBack': WHATEVER THE INPUT: true; the input reads as it did. -/
def rawBackSpec : ChangeSpec := { name := "rawBack", fn := fun _ => fun
  | [d] => { results := [.lit (.bool true)], args := [d] }
  | _ => none }
def rawBackRow : OpenClaim := { program := "ytpjfmockkjnigaa", sum := "449fa54c8aea392d7f198802ac8aecb3583c0c64efa0edf7be24977b95585bbd", func := "wavelet/waveletlaw5.RawBack", spec := "rawBack", apart := false }
def RawBackSaid : Prop := rawBackRow.holds Try.pinned (OpenSpec.ofChange rawBackSpec)

/-- ITS FALSE NEIGHBOUR: 'it returns false'. Refute it at one input. -/
def rawBackWrong : ChangeSpec := { name := "rawBack", fn := fun _ => fun
  | [d] => { results := [.lit (.bool false)], args := [d] }
  | _ => none }
def RawBackWrongFalsely : Prop := rawBackRow.holds Try.pinned (OpenSpec.ofChange rawBackWrong)

/-- 'waveletlaw5.RawFronts': WHATEVER THE INPUT: true; the input reads as it did. -/
def rawFrontsSpec : ChangeSpec := { name := "rawFronts", fn := fun _ => fun
  | [d1, d2] => { results := [.lit (.bool true)], args := [d1, d2] }
  | _ => none }
def rawFrontsRow : OpenClaim := { program := "ytpjfmockkjnigaa", sum := "449fa54c8aea392d7f198802ac8aecb3583c0c64efa0edf7be24977b95585bbd", func := "wavelet/waveletlaw5.RawFronts", spec := "rawFronts", apart := false }
def RawFrontsSaid : Prop := rawFrontsRow.holds Try.pinned (OpenSpec.ofChange rawFrontsSpec)

/-- ITS FALSE NEIGHBOUR: 'it returns false'. Refute it at one input. -/
def rawFrontsWrong : ChangeSpec := { name := "rawFronts", fn := fun _ => fun
  | [d1, d2] => { results := [.lit (.bool false)], args := [d1, d2] }
  | _ => none }
def RawFrontsWrongFalsely : Prop := rawFrontsRow.holds Try.pinned (OpenSpec.ofChange rawFrontsWrong)

/-- 'waveletlaw5.RawOnes': WHATEVER THE INPUT: true; the input reads as it did. -/
def rawOnesSpec : ChangeSpec := { name := "rawOnes", fn := fun _ => fun
  | [d] => { results := [.lit (.bool true)], args := [d] }
  | _ => none }
def rawOnesRow : OpenClaim := { program := "ytpjfmockkjnigaa", sum := "449fa54c8aea392d7f198802ac8aecb3583c0c64efa0edf7be24977b95585bbd", func := "wavelet/waveletlaw5.RawOnes", spec := "rawOnes", apart := false }
def RawOnesSaid : Prop := rawOnesRow.holds Try.pinned (OpenSpec.ofChange rawOnesSpec)

/-- ITS FALSE NEIGHBOUR: 'it returns false'. Refute it at one input. -/
def rawOnesWrong : ChangeSpec := { name := "rawOnes", fn := fun _ => fun
  | [d] => { results := [.lit (.bool false)], args := [d] }
  | _ => none }
def RawOnesWrongFalsely : Prop := rawOnesRow.holds Try.pinned (OpenSpec.ofChange rawOnesWrong)

/-- 'waveletlaw5.RawBits': WHATEVER THE INPUT: true; the input reads as it did. -/
def rawBitsSpec : ChangeSpec := { name := "rawBits", fn := fun _ => fun
  | [d] => { results := [.lit (.bool true)], args := [d] }
  | _ => none }
def rawBitsRow : OpenClaim := { program := "ytpjfmockkjnigaa", sum := "449fa54c8aea392d7f198802ac8aecb3583c0c64efa0edf7be24977b95585bbd", func := "wavelet/waveletlaw5.RawBits", spec := "rawBits", apart := false }
def RawBitsSaid : Prop := rawBitsRow.holds Try.pinned (OpenSpec.ofChange rawBitsSpec)

/-- ITS FALSE NEIGHBOUR: 'it returns false'. Refute it at one input. -/
def rawBitsWrong : ChangeSpec := { name := "rawBits", fn := fun _ => fun
  | [d] => { results := [.lit (.bool false)], args := [d] }
  | _ => none }
def RawBitsWrongFalsely : Prop := rawBitsRow.holds Try.pinned (OpenSpec.ofChange rawBitsWrong)

/-- 'waveletlaw5.RawBehind': WHATEVER THE INPUT: true; the input reads as it did. -/
def rawBehindSpec : ChangeSpec := { name := "rawBehind", fn := fun _ => fun
  | [d1, d2] => { results := [.lit (.bool true)], args := [d1, d2] }
  | _ => none }
def rawBehindRow : OpenClaim := { program := "ytpjfmockkjnigaa", sum := "449fa54c8aea392d7f198802ac8aecb3583c0c64efa0edf7be24977b95585bbd", func := "wavelet/waveletlaw5.RawBehind", spec := "rawBehind", apart := false }
def RawBehindSaid : Prop := rawBehindRow.holds Try.pinned (OpenSpec.ofChange rawBehindSpec)

/-- ITS FALSE NEIGHBOUR: 'it returns false'. Refute it at one input. -/
def rawBehindWrong : ChangeSpec := { name := "rawBehind", fn := fun _ => fun
  | [d1, d2] => { results := [.lit (.bool false)], args := [d1, d2] }
  | _ => none }
def RawBehindWrongFalsely : Prop := rawBehindRow.holds Try.pinned (OpenSpec.ofChange rawBehindWrong)

/- THE SECOND FORM. 'bulk': how many values and letters a reading holds, each counted each time it is reached (what is shared counts as often as it is met; a slice's spare places count too). A statement '..UptoSaid' is the law's where the arguments, and the package variables that the reading takes, are together of bulk at most 1048576: NARROWER than '..Said'. Prove '..Said' where nothing that the law and all that it calls make is longer than what came in: it says more and counts as full. Else prove '..UptoSaid'. A law counts once. -/
mutual
def uptoBulk {H : Type} : DataW H → Nat
  | .lit (.string bytes) => bytes.length + 1
  | .lit _ => 1
  | .nil => 1
  | .ptr d => uptoBulk d + 1
  | .slice elems spare => uptoBulkAll elems + uptoBulkAll spare + 1
  | .agg parts => uptoBulkAll parts + 1
  | .iface _ d => uptoBulk d + 1
  | .map entries => uptoBulkEntries entries + 1
  | .held _ => 1
def uptoBulkAll {H : Type} : List (DataW H) → Nat
  | [] => 0
  | d :: r => uptoBulk d + uptoBulkAll r
def uptoBulkEntries {H : Type} : List (Lit × DataW H) → Nat
  | [] => 0
  | x :: r => uptoBulkEntry x + uptoBulkEntries r
def uptoBulkEntry {H : Type} : Lit × DataW H → Nat
  | (.string bytes, d) => bytes.length + uptoBulk d + 1
  | (_, d) => uptoBulk d + 1
 end
def uptoSmall : (H : Type) → List (DataW H) → Bool := fun _ ds => decide (uptoBulkAll ds ≤ 1048576)
def OpenSpec.upto (s : _root_.Go.ChangeSpec) : _root_.Go.OpenSpec := { _root_.Go.OpenSpec.ofChange s with cond := some uptoSmall }

/-- 'waveletlaw5.RawWrites', WHERE WHAT IT READS IS OF BULK AT MOST 1048576: true; the input reads as it did. -/
def rawWritesUptoRow : OpenClaim := { program := "ytpjfmockkjnigaa", sum := "449fa54c8aea392d7f198802ac8aecb3583c0c64efa0edf7be24977b95585bbd", func := "wavelet/waveletlaw5.RawWrites", spec := "rawWrites", apart := false, narrowed := true }
def RawWritesUptoSaid : Prop := rawWritesUptoRow.holds Try.pinned (OpenSpec.upto rawWritesSpec)

/-- 'waveletlaw5.RawReads', WHERE WHAT IT READS IS OF BULK AT MOST 1048576: true; the input reads as it did. -/
def rawReadsUptoRow : OpenClaim := { program := "ytpjfmockkjnigaa", sum := "449fa54c8aea392d7f198802ac8aecb3583c0c64efa0edf7be24977b95585bbd", func := "wavelet/waveletlaw5.RawReads", spec := "rawReads", apart := false, narrowed := true }
def RawReadsUptoSaid : Prop := rawReadsUptoRow.holds Try.pinned (OpenSpec.upto rawReadsSpec)

/-- 'waveletlaw5.RawBack', WHERE WHAT IT READS IS OF BULK AT MOST 1048576: true; the input reads as it did. -/
def rawBackUptoRow : OpenClaim := { program := "ytpjfmockkjnigaa", sum := "449fa54c8aea392d7f198802ac8aecb3583c0c64efa0edf7be24977b95585bbd", func := "wavelet/waveletlaw5.RawBack", spec := "rawBack", apart := false, narrowed := true }
def RawBackUptoSaid : Prop := rawBackUptoRow.holds Try.pinned (OpenSpec.upto rawBackSpec)

/-- 'waveletlaw5.RawFronts', WHERE WHAT IT READS IS OF BULK AT MOST 1048576: true; the input reads as it did. -/
def rawFrontsUptoRow : OpenClaim := { program := "ytpjfmockkjnigaa", sum := "449fa54c8aea392d7f198802ac8aecb3583c0c64efa0edf7be24977b95585bbd", func := "wavelet/waveletlaw5.RawFronts", spec := "rawFronts", apart := false, narrowed := true }
def RawFrontsUptoSaid : Prop := rawFrontsUptoRow.holds Try.pinned (OpenSpec.upto rawFrontsSpec)

/-- 'waveletlaw5.RawOnes', WHERE WHAT IT READS IS OF BULK AT MOST 1048576: true; the input reads as it did. -/
def rawOnesUptoRow : OpenClaim := { program := "ytpjfmockkjnigaa", sum := "449fa54c8aea392d7f198802ac8aecb3583c0c64efa0edf7be24977b95585bbd", func := "wavelet/waveletlaw5.RawOnes", spec := "rawOnes", apart := false, narrowed := true }
def RawOnesUptoSaid : Prop := rawOnesUptoRow.holds Try.pinned (OpenSpec.upto rawOnesSpec)

/-- 'waveletlaw5.RawBits', WHERE WHAT IT READS IS OF BULK AT MOST 1048576: true; the input reads as it did. -/
def rawBitsUptoRow : OpenClaim := { program := "ytpjfmockkjnigaa", sum := "449fa54c8aea392d7f198802ac8aecb3583c0c64efa0edf7be24977b95585bbd", func := "wavelet/waveletlaw5.RawBits", spec := "rawBits", apart := false, narrowed := true }
def RawBitsUptoSaid : Prop := rawBitsUptoRow.holds Try.pinned (OpenSpec.upto rawBitsSpec)

/-- 'waveletlaw5.RawBehind', WHERE WHAT IT READS IS OF BULK AT MOST 1048576: true; the input reads as it did. -/
def rawBehindUptoRow : OpenClaim := { program := "ytpjfmockkjnigaa", sum := "449fa54c8aea392d7f198802ac8aecb3583c0c64efa0edf7be24977b95585bbd", func := "wavelet/waveletlaw5.RawBehind", spec := "rawBehind", apart := false, narrowed := true }
def RawBehindUptoSaid : Prop := rawBehindUptoRow.holds Try.pinned (OpenSpec.upto rawBehindSpec)

end Rows
end Go.Proofs.Ytpjfmockkjnigaa
