/-
  No cell of these rows narrows 'for every input' (looked for: loops, veiled, ifaces, maps, wideKeys, modest, calm, conditions, laid).
  DERIVED. THE GIVEN ROWS OF THIS SEAT. 11 by the template 'for every input the law returns true; each argument reads behind the call as it read before'; 0 by the template 'total and deterministic' (their statements: YtojceddgmmapdaaTotals.lean).
  GIVEN WITH THE SEED: the statements are not yours to turn. If you find one false, say at which input.
  Laid BY PROGRAM, IN A SANDBOX (cutbox-rows.mjs): the forced cells as the released guide's own fill.sh prints them over the translation e4bfe9b91f50d63f… (all of the seat's roots in one cut). By AI agents, Wed Nov 11 2026. No macro, syntax, notation, axiom, sorry.
-/
import Derived.Test.YtojceddgmmapdaaChecked
import GoSem.Claim
import GoSem.ClaimJoined
import GoSem.ClaimMapViews
import Derived.JoinedTies
import Derived.KernelRfl
namespace Go.Proofs.Ytojceddgmmapdaa
/- THE CELL 'sum', in the pinned program and in every row, IS THE sha256 OF THE DUMP (.gsa) THAT YtojceddgmmapdaaProg.lean LOADS. Nothing in Lean hashes anything: it is a label: what it is worth is what the hold of that sum in a sandbox is worth. -/
noncomputable def Try.pinned : Pinned := { name := "ytojceddgmmapdaa", sum := "e4bfe9b91f50d63fe478b51bdeab4501dd811e92454bd51d0c27a7f5ad14fe1c", checked := Try.checked }
namespace Rows
def none {H : Type} : Left H := { results := [], args := [] }

/-- 'corbellaw05.ZoneLimits': WHATEVER THE INPUT: true; the input reads as it did. -/
def zoneLimitsSpec : ChangeSpec := { name := "zoneLimits", fn := fun _ => fun
  | [d1, d2] => { results := [.lit (.bool true)], args := [d1, d2] }
  | _ => none }
def zoneLimitsRow : OpenClaim := { program := "ytojceddgmmapdaa", sum := "e4bfe9b91f50d63fe478b51bdeab4501dd811e92454bd51d0c27a7f5ad14fe1c", func := "corbel/corbellaw05.ZoneLimits", spec := "zoneLimits", unfollowed := true, recurses := true, apart := false }
def ZoneLimitsSaid : Prop := zoneLimitsRow.holds Try.pinned (OpenSpec.ofChange zoneLimitsSpec)

/-- ITS FALSE NEIGHBOUR: 'it returns false'. Refute it at one input. -/
def zoneLimitsWrong : ChangeSpec := { name := "zoneLimits", fn := fun _ => fun
  | [d1, d2] => { results := [.lit (.bool false)], args := [d1, d2] }
  | _ => none }
def ZoneLimitsWrongFalsely : Prop := zoneLimitsRow.holds Try.pinned (OpenSpec.ofChange zoneLimitsWrong)

/-- 'corbellaw05.ZoneGoes': WHATEVER THE INPUT: true; the input reads as it did. -/
def zoneGoesSpec : ChangeSpec := { name := "zoneGoes", fn := fun _ => fun
  | [d1, d2] => { results := [.lit (.bool true)], args := [d1, d2] }
  | _ => none }
def zoneGoesRow : OpenClaim := { program := "ytojceddgmmapdaa", sum := "e4bfe9b91f50d63fe478b51bdeab4501dd811e92454bd51d0c27a7f5ad14fe1c", func := "corbel/corbellaw05.ZoneGoes", spec := "zoneGoes", unfollowed := true, recurses := true, apart := false }
def ZoneGoesSaid : Prop := zoneGoesRow.holds Try.pinned (OpenSpec.ofChange zoneGoesSpec)

/-- ITS FALSE NEIGHBOUR: 'it returns false'. Refute it at one input. -/
def zoneGoesWrong : ChangeSpec := { name := "zoneGoes", fn := fun _ => fun
  | [d1, d2] => { results := [.lit (.bool false)], args := [d1, d2] }
  | _ => none }
def ZoneGoesWrongFalsely : Prop := zoneGoesRow.holds Try.pinned (OpenSpec.ofChange zoneGoesWrong)

/-- 'corbellaw05.ZoneFrees': WHATEVER THE INPUT: true; the input reads as it did. -/
def zoneFreesSpec : ChangeSpec := { name := "zoneFrees", fn := fun _ => fun
  | [d1, d2, d3] => { results := [.lit (.bool true)], args := [d1, d2, d3] }
  | _ => none }
def zoneFreesRow : OpenClaim := { program := "ytojceddgmmapdaa", sum := "e4bfe9b91f50d63fe478b51bdeab4501dd811e92454bd51d0c27a7f5ad14fe1c", func := "corbel/corbellaw05.ZoneFrees", spec := "zoneFrees", unfollowed := true, recurses := true, apart := false }
def ZoneFreesSaid : Prop := zoneFreesRow.holds Try.pinned (OpenSpec.ofChange zoneFreesSpec)

/-- ITS FALSE NEIGHBOUR: 'it returns false'. Refute it at one input. -/
def zoneFreesWrong : ChangeSpec := { name := "zoneFrees", fn := fun _ => fun
  | [d1, d2, d3] => { results := [.lit (.bool false)], args := [d1, d2, d3] }
  | _ => none }
def ZoneFreesWrongFalsely : Prop := zoneFreesRow.holds Try.pinned (OpenSpec.ofChange zoneFreesWrong)

/-- 'corbellaw05.ZoneApart': WHATEVER THE INPUT: true; the input reads as it did. -/
def zoneApartSpec : ChangeSpec := { name := "zoneApart", fn := fun _ => fun
  | [d1, d2, d3] => { results := [.lit (.bool true)], args := [d1, d2, d3] }
  | _ => none }
def zoneApartRow : OpenClaim := { program := "ytojceddgmmapdaa", sum := "e4bfe9b91f50d63fe478b51bdeab4501dd811e92454bd51d0c27a7f5ad14fe1c", func := "corbel/corbellaw05.ZoneApart", spec := "zoneApart", unfollowed := true, recurses := true, apart := false }
def ZoneApartSaid : Prop := zoneApartRow.holds Try.pinned (OpenSpec.ofChange zoneApartSpec)

/-- ITS FALSE NEIGHBOUR: 'it returns false'. Refute it at one input. -/
def zoneApartWrong : ChangeSpec := { name := "zoneApart", fn := fun _ => fun
  | [d1, d2, d3] => { results := [.lit (.bool false)], args := [d1, d2, d3] }
  | _ => none }
def ZoneApartWrongFalsely : Prop := zoneApartRow.holds Try.pinned (OpenSpec.ofChange zoneApartWrong)

/-- 'corbellaw05.ZoneScripts': WHATEVER THE INPUT: true; the input reads as it did. -/
def zoneScriptsSpec : ChangeSpec := { name := "zoneScripts", fn := fun _ => fun
  | [d1, d2, d3] => { results := [.lit (.bool true)], args := [d1, d2, d3] }
  | _ => none }
def zoneScriptsRow : OpenClaim := { program := "ytojceddgmmapdaa", sum := "e4bfe9b91f50d63fe478b51bdeab4501dd811e92454bd51d0c27a7f5ad14fe1c", func := "corbel/corbellaw05.ZoneScripts", spec := "zoneScripts", unfollowed := true, recurses := true, apart := false }
def ZoneScriptsSaid : Prop := zoneScriptsRow.holds Try.pinned (OpenSpec.ofChange zoneScriptsSpec)

/-- ITS FALSE NEIGHBOUR: 'it returns false'. Refute it at one input. -/
def zoneScriptsWrong : ChangeSpec := { name := "zoneScripts", fn := fun _ => fun
  | [d1, d2, d3] => { results := [.lit (.bool false)], args := [d1, d2, d3] }
  | _ => none }
def ZoneScriptsWrongFalsely : Prop := zoneScriptsRow.holds Try.pinned (OpenSpec.ofChange zoneScriptsWrong)

/-- 'corbellaw05.ZoneNil': WHATEVER THE INPUT: true; the input reads as it did. -/
def zoneNilSpec : ChangeSpec := { name := "zoneNil", fn := fun _ => fun
  | [d1, d2] => { results := [.lit (.bool true)], args := [d1, d2] }
  | _ => none }
def zoneNilRow : OpenClaim := { program := "ytojceddgmmapdaa", sum := "e4bfe9b91f50d63fe478b51bdeab4501dd811e92454bd51d0c27a7f5ad14fe1c", func := "corbel/corbellaw05.ZoneNil", spec := "zoneNil", unfollowed := true, recurses := true, apart := false }
def ZoneNilSaid : Prop := zoneNilRow.holds Try.pinned (OpenSpec.ofChange zoneNilSpec)

/-- ITS FALSE NEIGHBOUR: 'it returns false'. Refute it at one input. -/
def zoneNilWrong : ChangeSpec := { name := "zoneNil", fn := fun _ => fun
  | [d1, d2] => { results := [.lit (.bool false)], args := [d1, d2] }
  | _ => none }
def ZoneNilWrongFalsely : Prop := zoneNilRow.holds Try.pinned (OpenSpec.ofChange zoneNilWrong)

/-- 'corbellaw07.DriveReads': WHATEVER THE INPUT: true; the input reads as it did. -/
def driveReadsSpec : ChangeSpec := { name := "driveReads", fn := fun _ => fun
  | [d1, d2, d3] => { results := [.lit (.bool true)], args := [d1, d2, d3] }
  | _ => none }
def driveReadsRow : OpenClaim := { program := "ytojceddgmmapdaa", sum := "e4bfe9b91f50d63fe478b51bdeab4501dd811e92454bd51d0c27a7f5ad14fe1c", func := "corbel/corbellaw07.DriveReads", spec := "driveReads", unfollowed := true, recurses := true, apart := false }
def DriveReadsSaid : Prop := driveReadsRow.holds Try.pinned (OpenSpec.ofChange driveReadsSpec)

/-- ITS FALSE NEIGHBOUR: 'it returns false'. Refute it at one input. -/
def driveReadsWrong : ChangeSpec := { name := "driveReads", fn := fun _ => fun
  | [d1, d2, d3] => { results := [.lit (.bool false)], args := [d1, d2, d3] }
  | _ => none }
def DriveReadsWrongFalsely : Prop := driveReadsRow.holds Try.pinned (OpenSpec.ofChange driveReadsWrong)

/-- 'corbellaw07.DriveKeeps': WHATEVER THE INPUT: true; the input reads as it did. -/
def driveKeepsSpec : ChangeSpec := { name := "driveKeeps", fn := fun _ => fun
  | [d1, d2] => { results := [.lit (.bool true)], args := [d1, d2] }
  | _ => none }
def driveKeepsRow : OpenClaim := { program := "ytojceddgmmapdaa", sum := "e4bfe9b91f50d63fe478b51bdeab4501dd811e92454bd51d0c27a7f5ad14fe1c", func := "corbel/corbellaw07.DriveKeeps", spec := "driveKeeps", unfollowed := true, recurses := true, apart := false }
def DriveKeepsSaid : Prop := driveKeepsRow.holds Try.pinned (OpenSpec.ofChange driveKeepsSpec)

/-- ITS FALSE NEIGHBOUR: 'it returns false'. Refute it at one input. -/
def driveKeepsWrong : ChangeSpec := { name := "driveKeeps", fn := fun _ => fun
  | [d1, d2] => { results := [.lit (.bool false)], args := [d1, d2] }
  | _ => none }
def DriveKeepsWrongFalsely : Prop := driveKeepsRow.holds Try.pinned (OpenSpec.ofChange driveKeepsWrong)

/-- 'corbellaw07.DriveAll': WHATEVER THE INPUT: true; the input reads as it did. -/
def driveAllSpec : ChangeSpec := { name := "driveAll", fn := fun _ => fun
  | [d1, d2] => { results := [.lit (.bool true)], args := [d1, d2] }
  | _ => none }
def driveAllRow : OpenClaim := { program := "ytojceddgmmapdaa", sum := "e4bfe9b91f50d63fe478b51bdeab4501dd811e92454bd51d0c27a7f5ad14fe1c", func := "corbel/corbellaw07.DriveAll", spec := "driveAll", unfollowed := true, recurses := true, apart := false }
def DriveAllSaid : Prop := driveAllRow.holds Try.pinned (OpenSpec.ofChange driveAllSpec)

/-- ITS FALSE NEIGHBOUR: 'it returns false'. Refute it at one input. -/
def driveAllWrong : ChangeSpec := { name := "driveAll", fn := fun _ => fun
  | [d1, d2] => { results := [.lit (.bool false)], args := [d1, d2] }
  | _ => none }
def DriveAllWrongFalsely : Prop := driveAllRow.holds Try.pinned (OpenSpec.ofChange driveAllWrong)

/-- 'corbellaw07.DriveScripts': WHATEVER THE INPUT: true; the input reads as it did. -/
def driveScriptsSpec : ChangeSpec := { name := "driveScripts", fn := fun _ => fun
  | [d1, d2] => { results := [.lit (.bool true)], args := [d1, d2] }
  | _ => none }
def driveScriptsRow : OpenClaim := { program := "ytojceddgmmapdaa", sum := "e4bfe9b91f50d63fe478b51bdeab4501dd811e92454bd51d0c27a7f5ad14fe1c", func := "corbel/corbellaw07.DriveScripts", spec := "driveScripts", unfollowed := true, recurses := true, apart := false }
def DriveScriptsSaid : Prop := driveScriptsRow.holds Try.pinned (OpenSpec.ofChange driveScriptsSpec)

/-- ITS FALSE NEIGHBOUR: 'it returns false'. Refute it at one input. -/
def driveScriptsWrong : ChangeSpec := { name := "driveScripts", fn := fun _ => fun
  | [d1, d2] => { results := [.lit (.bool false)], args := [d1, d2] }
  | _ => none }
def DriveScriptsWrongFalsely : Prop := driveScriptsRow.holds Try.pinned (OpenSpec.ofChange driveScriptsWrong)

/-- 'corbellaw07.DriveNil': WHATEVER THE INPUT: true; the input reads as it did. -/
def driveNilSpec : ChangeSpec := { name := "driveNil", fn := fun _ => fun
  | [d1, d2] => { results := [.lit (.bool true)], args := [d1, d2] }
  | _ => none }
def driveNilRow : OpenClaim := { program := "ytojceddgmmapdaa", sum := "e4bfe9b91f50d63fe478b51bdeab4501dd811e92454bd51d0c27a7f5ad14fe1c", func := "corbel/corbellaw07.DriveNil", spec := "driveNil", unfollowed := true, recurses := true, apart := false }
def DriveNilSaid : Prop := driveNilRow.holds Try.pinned (OpenSpec.ofChange driveNilSpec)

/-- ITS FALSE NEIGHBOUR: 'it returns false'. Refute it at one input. -/
def driveNilWrong : ChangeSpec := { name := "driveNil", fn := fun _ => fun
  | [d1, d2] => { results := [.lit (.bool false)], args := [d1, d2] }
  | _ => none }
def DriveNilWrongFalsely : Prop := driveNilRow.holds Try.pinned (OpenSpec.ofChange driveNilWrong)

/- THE SECOND FORM. 'bulk': how many values and letters a reading holds, each counted each time it is reached (what is shared counts as often as it is met; a slice's spare places count too). A statement '..UptoSaid' is the law's where the arguments, and the package variables that the reading takes, are together of bulk at most 1048576: NARROWER than '..Said'. Prove '..Said' where nothing that the law and all that it calls make is longer than what came in: it says more and counts as full. Else prove '..UptoSaid'. A law counts once. -/
mutual
def uptoBulk {H : Type} : DataW H → Nat
  | .lit (.string bytes) => bytes.length + 1
  | .lit _ => 1
  | .nil => 1
  | .ptr d => uptoBulk d + 1
  | .slice elems spare => uptoBulkAll elems + uptoBulkAll spare + 1
  | .agg parts => uptoBulkAll parts + 1
  | .iface _ d => uptoBulk d + 1
  | .map entries => uptoBulkEntries entries + 1
  | .held _ => 1
def uptoBulkAll {H : Type} : List (DataW H) → Nat
  | [] => 0
  | d :: r => uptoBulk d + uptoBulkAll r
def uptoBulkEntries {H : Type} : List (Lit × DataW H) → Nat
  | [] => 0
  | x :: r => uptoBulkEntry x + uptoBulkEntries r
def uptoBulkEntry {H : Type} : Lit × DataW H → Nat
  | (.string bytes, d) => bytes.length + uptoBulk d + 1
  | (_, d) => uptoBulk d + 1
 end
def uptoSmall : (H : Type) → List (DataW H) → Bool := fun _ ds => decide (uptoBulkAll ds ≤ 1048576)
def OpenSpec.upto (s : _root_.Go.ChangeSpec) : _root_.Go.OpenSpec := { _root_.Go.OpenSpec.ofChange s with cond := some uptoSmall }

/-- 'corbellaw05.ZoneLimits', WHERE WHAT IT READS IS OF BULK AT MOST 1048576: true; the input reads as it did. -/
def zoneLimitsUptoRow : OpenClaim := { program := "ytojceddgmmapdaa", sum := "e4bfe9b91f50d63fe478b51bdeab4501dd811e92454bd51d0c27a7f5ad14fe1c", func := "corbel/corbellaw05.ZoneLimits", spec := "zoneLimits", unfollowed := true, recurses := true, apart := false, narrowed := true }
def ZoneLimitsUptoSaid : Prop := zoneLimitsUptoRow.holds Try.pinned (OpenSpec.upto zoneLimitsSpec)

/-- 'corbellaw05.ZoneGoes', WHERE WHAT IT READS IS OF BULK AT MOST 1048576: true; the input reads as it did. -/
def zoneGoesUptoRow : OpenClaim := { program := "ytojceddgmmapdaa", sum := "e4bfe9b91f50d63fe478b51bdeab4501dd811e92454bd51d0c27a7f5ad14fe1c", func := "corbel/corbellaw05.ZoneGoes", spec := "zoneGoes", unfollowed := true, recurses := true, apart := false, narrowed := true }
def ZoneGoesUptoSaid : Prop := zoneGoesUptoRow.holds Try.pinned (OpenSpec.upto zoneGoesSpec)

/-- 'corbellaw05.ZoneFrees', WHERE WHAT IT READS IS OF BULK AT MOST 1048576: true; the input reads as it did. -/
def zoneFreesUptoRow : OpenClaim := { program := "ytojceddgmmapdaa", sum := "e4bfe9b91f50d63fe478b51bdeab4501dd811e92454bd51d0c27a7f5ad14fe1c", func := "corbel/corbellaw05.ZoneFrees", spec := "zoneFrees", unfollowed := true, recurses := true, apart := false, narrowed := true }
def ZoneFreesUptoSaid : Prop := zoneFreesUptoRow.holds Try.pinned (OpenSpec.upto zoneFreesSpec)

/-- 'corbellaw05.ZoneApart', WHERE WHAT IT READS IS OF BULK AT MOST 1048576: true; the input reads as it did. -/
def zoneApartUptoRow : OpenClaim := { program := "ytojceddgmmapdaa", sum := "e4bfe9b91f50d63fe478b51bdeab4501dd811e92454bd51d0c27a7f5ad14fe1c", func := "corbel/corbellaw05.ZoneApart", spec := "zoneApart", unfollowed := true, recurses := true, apart := false, narrowed := true }
def ZoneApartUptoSaid : Prop := zoneApartUptoRow.holds Try.pinned (OpenSpec.upto zoneApartSpec)

/-- 'corbellaw05.ZoneScripts', WHERE WHAT IT READS IS OF BULK AT MOST 1048576: true; the input reads as it did. -/
def zoneScriptsUptoRow : OpenClaim := { program := "ytojceddgmmapdaa", sum := "e4bfe9b91f50d63fe478b51bdeab4501dd811e92454bd51d0c27a7f5ad14fe1c", func := "corbel/corbellaw05.ZoneScripts", spec := "zoneScripts", unfollowed := true, recurses := true, apart := false, narrowed := true }
def ZoneScriptsUptoSaid : Prop := zoneScriptsUptoRow.holds Try.pinned (OpenSpec.upto zoneScriptsSpec)

/-- 'corbellaw05.ZoneNil', WHERE WHAT IT READS IS OF BULK AT MOST 1048576: true; the input reads as it did. -/
def zoneNilUptoRow : OpenClaim := { program := "ytojceddgmmapdaa", sum := "e4bfe9b91f50d63fe478b51bdeab4501dd811e92454bd51d0c27a7f5ad14fe1c", func := "corbel/corbellaw05.ZoneNil", spec := "zoneNil", unfollowed := true, recurses := true, apart := false, narrowed := true }
def ZoneNilUptoSaid : Prop := zoneNilUptoRow.holds Try.pinned (OpenSpec.upto zoneNilSpec)

/-- 'corbellaw07.DriveReads', WHERE WHAT IT READS IS OF BULK AT MOST 1048576: true; the input reads as it did. -/
def driveReadsUptoRow : OpenClaim := { program := "ytojceddgmmapdaa", sum := "e4bfe9b91f50d63fe478b51bdeab4501dd811e92454bd51d0c27a7f5ad14fe1c", func := "corbel/corbellaw07.DriveReads", spec := "driveReads", unfollowed := true, recurses := true, apart := false, narrowed := true }
def DriveReadsUptoSaid : Prop := driveReadsUptoRow.holds Try.pinned (OpenSpec.upto driveReadsSpec)

/-- 'corbellaw07.DriveKeeps', WHERE WHAT IT READS IS OF BULK AT MOST 1048576: true; the input reads as it did. -/
def driveKeepsUptoRow : OpenClaim := { program := "ytojceddgmmapdaa", sum := "e4bfe9b91f50d63fe478b51bdeab4501dd811e92454bd51d0c27a7f5ad14fe1c", func := "corbel/corbellaw07.DriveKeeps", spec := "driveKeeps", unfollowed := true, recurses := true, apart := false, narrowed := true }
def DriveKeepsUptoSaid : Prop := driveKeepsUptoRow.holds Try.pinned (OpenSpec.upto driveKeepsSpec)

/-- 'corbellaw07.DriveAll', WHERE WHAT IT READS IS OF BULK AT MOST 1048576: true; the input reads as it did. -/
def driveAllUptoRow : OpenClaim := { program := "ytojceddgmmapdaa", sum := "e4bfe9b91f50d63fe478b51bdeab4501dd811e92454bd51d0c27a7f5ad14fe1c", func := "corbel/corbellaw07.DriveAll", spec := "driveAll", unfollowed := true, recurses := true, apart := false, narrowed := true }
def DriveAllUptoSaid : Prop := driveAllUptoRow.holds Try.pinned (OpenSpec.upto driveAllSpec)

/-- 'corbellaw07.DriveScripts', WHERE WHAT IT READS IS OF BULK AT MOST 1048576: true; the input reads as it did. -/
def driveScriptsUptoRow : OpenClaim := { program := "ytojceddgmmapdaa", sum := "e4bfe9b91f50d63fe478b51bdeab4501dd811e92454bd51d0c27a7f5ad14fe1c", func := "corbel/corbellaw07.DriveScripts", spec := "driveScripts", unfollowed := true, recurses := true, apart := false, narrowed := true }
def DriveScriptsUptoSaid : Prop := driveScriptsUptoRow.holds Try.pinned (OpenSpec.upto driveScriptsSpec)

/-- 'corbellaw07.DriveNil', WHERE WHAT IT READS IS OF BULK AT MOST 1048576: true; the input reads as it did. -/
def driveNilUptoRow : OpenClaim := { program := "ytojceddgmmapdaa", sum := "e4bfe9b91f50d63fe478b51bdeab4501dd811e92454bd51d0c27a7f5ad14fe1c", func := "corbel/corbellaw07.DriveNil", spec := "driveNil", unfollowed := true, recurses := true, apart := false, narrowed := true }
def DriveNilUptoSaid : Prop := driveNilUptoRow.holds Try.pinned (OpenSpec.upto driveNilSpec)

end Rows
end Go.Proofs.Ytojceddgmmapdaa
