/-
  No cell of these rows narrows 'for every input' (looked for: loops, veiled, ifaces, maps, wideKeys, modest, calm, conditions, laid).
  DERIVED. THE GIVEN ROWS OF THIS SEAT. 4 by the template 'for every input the law returns true; each argument reads behind the call as it read before'; 0 by the template 'total and deterministic' (their statements: YtadpeopbfoppjaaTotals.lean).
  GIVEN WITH THE SEED: the statements are not yours to turn. If you find one false, say at which input.
  Laid BY PROGRAM, IN A SANDBOX (cutbox-rows.mjs): the forced cells as the released guide's own fill.sh prints them over the translation e6408847868f25e3… (all of the seat's roots in one cut). By AI agents, Wed Nov 11 2026. No macro, syntax, notation, axiom, sorry.
-/
import Derived.Test.YtadpeopbfoppjaaChecked
import GoSem.Claim
import GoSem.ClaimJoined
import GoSem.ClaimMapViews
import Derived.JoinedTies
import Derived.KernelRfl
namespace Go.Proofs.Ytadpeopbfoppjaa
/- THE CELL 'sum', in the pinned program and in every row, IS THE sha256 OF THE DUMP (.gsa) THAT YtadpeopbfoppjaaProg.lean LOADS. Nothing in Lean hashes anything: it is a label: what it is worth is what the hold of that sum in a sandbox is worth. -/
noncomputable def Try.pinned : Pinned := { name := "ytadpeopbfoppjaa", sum := "e6408847868f25e3a7cc6c67e12ae426e9543061f8984fd16255e48ed82798df", checked := Try.checked }
namespace Rows
def none {H : Type} : Left H := { results := [], args := [] }

/-- 'corbellaw08.RigCuts': WHATEVER THE INPUT: true; the input reads as it did. -/
def rigCutsSpec : ChangeSpec := { name := "rigCuts", fn := fun _ => fun
  | [d1, d2] => { results := [.lit (.bool true)], args := [d1, d2] }
  | _ => none }
def rigCutsRow : OpenClaim := { program := "ytadpeopbfoppjaa", sum := "e6408847868f25e3a7cc6c67e12ae426e9543061f8984fd16255e48ed82798df", func := "corbel/corbellaw08.RigCuts", spec := "rigCuts", unfollowed := true, recurses := true, apart := false }
def RigCutsSaid : Prop := rigCutsRow.holds Try.pinned (OpenSpec.ofChange rigCutsSpec)

/-- ITS FALSE NEIGHBOUR: 'it returns false'. Refute it at one input. -/
def rigCutsWrong : ChangeSpec := { name := "rigCuts", fn := fun _ => fun
  | [d1, d2] => { results := [.lit (.bool false)], args := [d1, d2] }
  | _ => none }
def RigCutsWrongFalsely : Prop := rigCutsRow.holds Try.pinned (OpenSpec.ofChange rigCutsWrong)

/-- 'corbellaw08.RigReads': WHATEVER THE INPUT: true; the input reads as it did. -/
def rigReadsSpec : ChangeSpec := { name := "rigReads", fn := fun _ => fun
  | [d1, d2] => { results := [.lit (.bool true)], args := [d1, d2] }
  | _ => none }
def rigReadsRow : OpenClaim := { program := "ytadpeopbfoppjaa", sum := "e6408847868f25e3a7cc6c67e12ae426e9543061f8984fd16255e48ed82798df", func := "corbel/corbellaw08.RigReads", spec := "rigReads", unfollowed := true, recurses := true, apart := false }
def RigReadsSaid : Prop := rigReadsRow.holds Try.pinned (OpenSpec.ofChange rigReadsSpec)

/-- ITS FALSE NEIGHBOUR: 'it returns false'. Refute it at one input. -/
def rigReadsWrong : ChangeSpec := { name := "rigReads", fn := fun _ => fun
  | [d1, d2] => { results := [.lit (.bool false)], args := [d1, d2] }
  | _ => none }
def RigReadsWrongFalsely : Prop := rigReadsRow.holds Try.pinned (OpenSpec.ofChange rigReadsWrong)

/-- 'corbellaw08.RigKilled': WHATEVER THE INPUT: true; the input reads as it did. -/
def rigKilledSpec : ChangeSpec := { name := "rigKilled", fn := fun _ => fun
  | [d1, d2, d3] => { results := [.lit (.bool true)], args := [d1, d2, d3] }
  | _ => none }
def rigKilledRow : OpenClaim := { program := "ytadpeopbfoppjaa", sum := "e6408847868f25e3a7cc6c67e12ae426e9543061f8984fd16255e48ed82798df", func := "corbel/corbellaw08.RigKilled", spec := "rigKilled", unfollowed := true, recurses := true, apart := false }
def RigKilledSaid : Prop := rigKilledRow.holds Try.pinned (OpenSpec.ofChange rigKilledSpec)

/-- ITS FALSE NEIGHBOUR: 'it returns false'. Refute it at one input. -/
def rigKilledWrong : ChangeSpec := { name := "rigKilled", fn := fun _ => fun
  | [d1, d2, d3] => { results := [.lit (.bool false)], args := [d1, d2, d3] }
  | _ => none }
def RigKilledWrongFalsely : Prop := rigKilledRow.holds Try.pinned (OpenSpec.ofChange rigKilledWrong)

/-- 'corbellaw08.RigNil': WHATEVER THE INPUT: true; the input reads as it did. -/
def rigNilSpec : ChangeSpec := { name := "rigNil", fn := fun _ => fun
  | [d1, d2] => { results := [.lit (.bool true)], args := [d1, d2] }
  | _ => none }
def rigNilRow : OpenClaim := { program := "ytadpeopbfoppjaa", sum := "e6408847868f25e3a7cc6c67e12ae426e9543061f8984fd16255e48ed82798df", func := "corbel/corbellaw08.RigNil", spec := "rigNil", unfollowed := true, recurses := true, apart := false }
def RigNilSaid : Prop := rigNilRow.holds Try.pinned (OpenSpec.ofChange rigNilSpec)

/-- ITS FALSE NEIGHBOUR: 'it returns false'. Refute it at one input. -/
def rigNilWrong : ChangeSpec := { name := "rigNil", fn := fun _ => fun
  | [d1, d2] => { results := [.lit (.bool false)], args := [d1, d2] }
  | _ => none }
def RigNilWrongFalsely : Prop := rigNilRow.holds Try.pinned (OpenSpec.ofChange rigNilWrong)

/- THE SECOND FORM. 'bulk': how many values and letters a reading holds, each counted each time it is reached (what is shared counts as often as it is met; a slice's spare places count too). A statement '..UptoSaid' is the law's where the arguments, and the package variables that the reading takes, are together of bulk at most 1048576: NARROWER than '..Said'. Prove '..Said' where nothing that the law and all that it calls make is longer than what came in: it says more and counts as full. Else prove '..UptoSaid'. A law counts once. -/
mutual
def uptoBulk {H : Type} : DataW H → Nat
  | .lit (.string bytes) => bytes.length + 1
  | .lit _ => 1
  | .nil => 1
  | .ptr d => uptoBulk d + 1
  | .slice elems spare => uptoBulkAll elems + uptoBulkAll spare + 1
  | .agg parts => uptoBulkAll parts + 1
  | .iface _ d => uptoBulk d + 1
  | .map entries => uptoBulkEntries entries + 1
  | .held _ => 1
def uptoBulkAll {H : Type} : List (DataW H) → Nat
  | [] => 0
  | d :: r => uptoBulk d + uptoBulkAll r
def uptoBulkEntries {H : Type} : List (Lit × DataW H) → Nat
  | [] => 0
  | x :: r => uptoBulkEntry x + uptoBulkEntries r
def uptoBulkEntry {H : Type} : Lit × DataW H → Nat
  | (.string bytes, d) => bytes.length + uptoBulk d + 1
  | (_, d) => uptoBulk d + 1
 end
def uptoSmall : (H : Type) → List (DataW H) → Bool := fun _ ds => decide (uptoBulkAll ds ≤ 1048576)
def OpenSpec.upto (s : _root_.Go.ChangeSpec) : _root_.Go.OpenSpec := { _root_.Go.OpenSpec.ofChange s with cond := some uptoSmall }

/-- 'corbellaw08.RigCuts', WHERE WHAT IT READS IS OF BULK AT MOST 1048576: true; the input reads as it did. -/
def rigCutsUptoRow : OpenClaim := { program := "ytadpeopbfoppjaa", sum := "e6408847868f25e3a7cc6c67e12ae426e9543061f8984fd16255e48ed82798df", func := "corbel/corbellaw08.RigCuts", spec := "rigCuts", unfollowed := true, recurses := true, apart := false, narrowed := true }
def RigCutsUptoSaid : Prop := rigCutsUptoRow.holds Try.pinned (OpenSpec.upto rigCutsSpec)

/-- 'corbellaw08.RigReads', WHERE WHAT IT READS IS OF BULK AT MOST 1048576: true; the input reads as it did. -/
def rigReadsUptoRow : OpenClaim := { program := "ytadpeopbfoppjaa", sum := "e6408847868f25e3a7cc6c67e12ae426e9543061f8984fd16255e48ed82798df", func := "corbel/corbellaw08.RigReads", spec := "rigReads", unfollowed := true, recurses := true, apart := false, narrowed := true }
def RigReadsUptoSaid : Prop := rigReadsUptoRow.holds Try.pinned (OpenSpec.upto rigReadsSpec)

/-- 'corbellaw08.RigKilled', WHERE WHAT IT READS IS OF BULK AT MOST 1048576: true; the input reads as it did. -/
def rigKilledUptoRow : OpenClaim := { program := "ytadpeopbfoppjaa", sum := "e6408847868f25e3a7cc6c67e12ae426e9543061f8984fd16255e48ed82798df", func := "corbel/corbellaw08.RigKilled", spec := "rigKilled", unfollowed := true, recurses := true, apart := false, narrowed := true }
def RigKilledUptoSaid : Prop := rigKilledUptoRow.holds Try.pinned (OpenSpec.upto rigKilledSpec)

/-- 'corbellaw08.RigNil', WHERE WHAT IT READS IS OF BULK AT MOST 1048576: true; the input reads as it did. -/
def rigNilUptoRow : OpenClaim := { program := "ytadpeopbfoppjaa", sum := "e6408847868f25e3a7cc6c67e12ae426e9543061f8984fd16255e48ed82798df", func := "corbel/corbellaw08.RigNil", spec := "rigNil", unfollowed := true, recurses := true, apart := false, narrowed := true }
def RigNilUptoSaid : Prop := rigNilUptoRow.holds Try.pinned (OpenSpec.upto rigNilSpec)

end Rows
end Go.Proofs.Ytadpeopbfoppjaa
