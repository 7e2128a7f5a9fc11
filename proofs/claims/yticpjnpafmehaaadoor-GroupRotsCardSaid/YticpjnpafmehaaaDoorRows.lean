/-
  NARROWER THAN 'FOR EVERY INPUT', by the rows' own cells (each row's printed sentence says how): XorOrder: laid · XorTwice: laid · XorPieces: laid · XorFolds: laid · XorBack: laid · XorZeros: laid · GroupEncodes: laid · GroupRots: laid · GroupCut: laid · GroupMany: laid.
  DERIVED. THE GIVEN ROWS OF THIS SEAT. 10 by the template 'for every input the law returns true; each argument reads behind the call as it read before'; 0 by the template 'total and deterministic' (their statements: YticpjnpafmehaaaDoorTotals.lean).
  GIVEN WITH THE SEED: the statements are not yours to turn. If you find one false, say at which input.
  Laid BY PROGRAM, IN A SANDBOX (cutbox-rows.mjs): the forced cells as the released guide's own fill.sh prints them over the translation 019eea48edce70be… (all of the seat's roots in one cut). By AI agents, Wed Nov 11 2026. No macro, syntax, notation, axiom, sorry.
-/
import Derived.Test.YticpjnpafmehaaaDoorChecked
import GoSem.PinnedTables
import GoSem.Claim
import GoSem.ClaimJoined
import GoSem.ClaimMapViews
import Derived.JoinedTies
import Derived.KernelRfl
namespace Go.Proofs.YticpjnpafmehaaaDoor
/- THE CELL 'sum', in the pinned program and in every row, IS THE sha256 OF THE DUMP (.gsa) THAT YticpjnpafmehaaaDoorProg.lean LOADS. Nothing in Lean hashes anything: it is a label: what it is worth is what the hold of that sum in a sandbox is worth. -/
noncomputable def Tryd.pinned : Pinned := { name := "yticpjnpafmehaaadoor", sum := "019eea48edce70bee3bc24b7ef7a8ae2c6202871ec0d6f8da4e256fb13bed136", checked := Tryd.checked }
namespace Rows
def none {H : Type} : Left H := { results := [], args := [] }

/- WHAT THE LISTED PACKAGE-LEVEL VARIABLES READ AS WHEN THE CALL BEGINS. Each datum BY PROGRAM (the guide's laid-datum.mjs) off the statement by which the dump's own 'gosem.cut.vars' lays the variable. In a bare row this is a premise. The card (YticpjnpafmehaaaDoorCards.lean) ties it to the program's text. -/
def laid_unicode_utf8_acceptRanges {H : Type} : DataW H := .agg [.agg [.lit (.int .u8 128), .lit (.int .u8 191)], .agg [.lit (.int .u8 160), .lit (.int .u8 191)], .agg [.lit (.int .u8 128), .lit (.int .u8 159)], .agg [.lit (.int .u8 144), .lit (.int .u8 191)], .agg [.lit (.int .u8 128), .lit (.int .u8 143)], .agg [.lit (.int .u8 0), .lit (.int .u8 0)], .agg [.lit (.int .u8 0), .lit (.int .u8 0)], .agg [.lit (.int .u8 0), .lit (.int .u8 0)], .agg [.lit (.int .u8 0), .lit (.int .u8 0)], .agg [.lit (.int .u8 0), .lit (.int .u8 0)], .agg [.lit (.int .u8 0), .lit (.int .u8 0)], .agg [.lit (.int .u8 0), .lit (.int .u8 0)], .agg [.lit (.int .u8 0), .lit (.int .u8 0)], .agg [.lit (.int .u8 0), .lit (.int .u8 0)], .agg [.lit (.int .u8 0), .lit (.int .u8 0)], .agg [.lit (.int .u8 0), .lit (.int .u8 0)]]
/-- One of Go's own tables, pinned by name: the form's constant. -/
def laid_unicode_utf8_first : DataW Unit := Go.Pinned.utf8First
def laid_corbel_crc_nibbles {H : Type} : DataW H := .agg [.lit (.int .u32 0), .lit (.int .u32 274646895), .lit (.int .u32 549293790), .lit (.int .u32 820201905), .lit (.int .u32 1098587580), .lit (.int .u32 1361435347), .lit (.int .u32 1640403810), .lit (.int .u32 1905808397), .lit (.int .u32 2197175160), .lit (.int .u32 2460548119), .lit (.int .u32 2722870694), .lit (.int .u32 2987750089), .lit (.int .u32 3280807620), .lit (.int .u32 3553878443), .lit (.int .u32 3811616794), .lit (.int .u32 4084100981)]

/-- 'corbellaw03.XorOrder': WHATEVER THE INPUT: true; the input reads as it did. -/
def xorOrderSpec : ChangeSpec := { name := "xorOrder", fn := fun _ => fun
  | [d1, d2] => { results := [.lit (.bool true)], args := [d1, d2] }
  | _ => none }
def xorOrderRow : OpenClaim := { program := "yticpjnpafmehaaadoor", sum := "019eea48edce70bee3bc24b7ef7a8ae2c6202871ec0d6f8da4e256fb13bed136", func := "corbel/corbellaw03.XorOrder", spec := "xorOrder", inPlace := ["internal/bytealg.IndexByteString", "internal/bytealg.IndexString"], named := ["unicode/utf8.first", "unicode/utf8.acceptRanges", "internal/bytealg.MaxLen"], apart := false, laid := [("unicode/utf8.acceptRanges", laid_unicode_utf8_acceptRanges), ("unicode/utf8.first", laid_unicode_utf8_first)] }
def XorOrderSaid : Prop := xorOrderRow.holds Tryd.pinned (OpenSpec.ofChange xorOrderSpec)

/-- ITS FALSE NEIGHBOUR: 'it returns false'. Refute it at one input. -/
def xorOrderWrong : ChangeSpec := { name := "xorOrder", fn := fun _ => fun
  | [d1, d2] => { results := [.lit (.bool false)], args := [d1, d2] }
  | _ => none }
def XorOrderWrongFalsely : Prop := xorOrderRow.holds Tryd.pinned (OpenSpec.ofChange xorOrderWrong)

/-- 'corbellaw03.XorTwice': WHATEVER THE INPUT: true; the input reads as it did. -/
def xorTwiceSpec : ChangeSpec := { name := "xorTwice", fn := fun _ => fun
  | [d1, d2] => { results := [.lit (.bool true)], args := [d1, d2] }
  | _ => none }
def xorTwiceRow : OpenClaim := { program := "yticpjnpafmehaaadoor", sum := "019eea48edce70bee3bc24b7ef7a8ae2c6202871ec0d6f8da4e256fb13bed136", func := "corbel/corbellaw03.XorTwice", spec := "xorTwice", inPlace := ["internal/bytealg.IndexByteString", "internal/bytealg.IndexString"], named := ["unicode/utf8.first", "unicode/utf8.acceptRanges", "internal/bytealg.MaxLen"], apart := false, laid := [("unicode/utf8.acceptRanges", laid_unicode_utf8_acceptRanges), ("unicode/utf8.first", laid_unicode_utf8_first)] }
def XorTwiceSaid : Prop := xorTwiceRow.holds Tryd.pinned (OpenSpec.ofChange xorTwiceSpec)

/-- ITS FALSE NEIGHBOUR: 'it returns false'. Refute it at one input. -/
def xorTwiceWrong : ChangeSpec := { name := "xorTwice", fn := fun _ => fun
  | [d1, d2] => { results := [.lit (.bool false)], args := [d1, d2] }
  | _ => none }
def XorTwiceWrongFalsely : Prop := xorTwiceRow.holds Tryd.pinned (OpenSpec.ofChange xorTwiceWrong)

/-- 'corbellaw03.XorPieces': WHATEVER THE INPUT: true; the input reads as it did. -/
def xorPiecesSpec : ChangeSpec := { name := "xorPieces", fn := fun _ => fun
  | [d1, d2] => { results := [.lit (.bool true)], args := [d1, d2] }
  | _ => none }
def xorPiecesRow : OpenClaim := { program := "yticpjnpafmehaaadoor", sum := "019eea48edce70bee3bc24b7ef7a8ae2c6202871ec0d6f8da4e256fb13bed136", func := "corbel/corbellaw03.XorPieces", spec := "xorPieces", inPlace := ["internal/bytealg.IndexByteString", "internal/bytealg.IndexString"], named := ["unicode/utf8.first", "unicode/utf8.acceptRanges", "internal/bytealg.MaxLen"], apart := false, laid := [("unicode/utf8.acceptRanges", laid_unicode_utf8_acceptRanges), ("unicode/utf8.first", laid_unicode_utf8_first)] }
def XorPiecesSaid : Prop := xorPiecesRow.holds Tryd.pinned (OpenSpec.ofChange xorPiecesSpec)

/-- ITS FALSE NEIGHBOUR: 'it returns false'. Refute it at one input. -/
def xorPiecesWrong : ChangeSpec := { name := "xorPieces", fn := fun _ => fun
  | [d1, d2] => { results := [.lit (.bool false)], args := [d1, d2] }
  | _ => none }
def XorPiecesWrongFalsely : Prop := xorPiecesRow.holds Tryd.pinned (OpenSpec.ofChange xorPiecesWrong)

/-- 'corbellaw03.XorFolds': WHATEVER THE INPUT: true; the input reads as it did. -/
def xorFoldsSpec : ChangeSpec := { name := "xorFolds", fn := fun _ => fun
  | [d1, d2] => { results := [.lit (.bool true)], args := [d1, d2] }
  | _ => none }
def xorFoldsRow : OpenClaim := { program := "yticpjnpafmehaaadoor", sum := "019eea48edce70bee3bc24b7ef7a8ae2c6202871ec0d6f8da4e256fb13bed136", func := "corbel/corbellaw03.XorFolds", spec := "xorFolds", inPlace := ["internal/bytealg.IndexByteString", "internal/bytealg.IndexString"], named := ["unicode/utf8.first", "unicode/utf8.acceptRanges", "internal/bytealg.MaxLen"], apart := false, laid := [("unicode/utf8.acceptRanges", laid_unicode_utf8_acceptRanges), ("unicode/utf8.first", laid_unicode_utf8_first)] }
def XorFoldsSaid : Prop := xorFoldsRow.holds Tryd.pinned (OpenSpec.ofChange xorFoldsSpec)

/-- ITS FALSE NEIGHBOUR: 'it returns false'. Refute it at one input. -/
def xorFoldsWrong : ChangeSpec := { name := "xorFolds", fn := fun _ => fun
  | [d1, d2] => { results := [.lit (.bool false)], args := [d1, d2] }
  | _ => none }
def XorFoldsWrongFalsely : Prop := xorFoldsRow.holds Tryd.pinned (OpenSpec.ofChange xorFoldsWrong)

/-- 'corbellaw03.XorBack': WHATEVER THE INPUT: true; the input reads as it did. -/
def xorBackSpec : ChangeSpec := { name := "xorBack", fn := fun _ => fun
  | [d1, d2] => { results := [.lit (.bool true)], args := [d1, d2] }
  | _ => none }
def xorBackRow : OpenClaim := { program := "yticpjnpafmehaaadoor", sum := "019eea48edce70bee3bc24b7ef7a8ae2c6202871ec0d6f8da4e256fb13bed136", func := "corbel/corbellaw03.XorBack", spec := "xorBack", inPlace := ["internal/bytealg.IndexByteString", "internal/bytealg.IndexString"], named := ["unicode/utf8.first", "unicode/utf8.acceptRanges", "internal/bytealg.MaxLen"], apart := false, laid := [("unicode/utf8.acceptRanges", laid_unicode_utf8_acceptRanges), ("unicode/utf8.first", laid_unicode_utf8_first)] }
def XorBackSaid : Prop := xorBackRow.holds Tryd.pinned (OpenSpec.ofChange xorBackSpec)

/-- ITS FALSE NEIGHBOUR: 'it returns false'. Refute it at one input. -/
def xorBackWrong : ChangeSpec := { name := "xorBack", fn := fun _ => fun
  | [d1, d2] => { results := [.lit (.bool false)], args := [d1, d2] }
  | _ => none }
def XorBackWrongFalsely : Prop := xorBackRow.holds Tryd.pinned (OpenSpec.ofChange xorBackWrong)

/-- 'corbellaw03.XorZeros': WHATEVER THE INPUT: true; the input reads as it did. -/
def xorZerosSpec : ChangeSpec := { name := "xorZeros", fn := fun _ => fun
  | [d1, d2] => { results := [.lit (.bool true)], args := [d1, d2] }
  | _ => none }
def xorZerosRow : OpenClaim := { program := "yticpjnpafmehaaadoor", sum := "019eea48edce70bee3bc24b7ef7a8ae2c6202871ec0d6f8da4e256fb13bed136", func := "corbel/corbellaw03.XorZeros", spec := "xorZeros", inPlace := ["internal/bytealg.IndexByteString", "internal/bytealg.IndexString", "internal/abi.NoEscape", "internal/bytealg.MakeNoZero"], named := ["unicode/utf8.first", "unicode/utf8.acceptRanges", "internal/bytealg.MaxLen"], apart := false, laid := [("unicode/utf8.acceptRanges", laid_unicode_utf8_acceptRanges), ("unicode/utf8.first", laid_unicode_utf8_first)] }
def XorZerosSaid : Prop := xorZerosRow.holds Tryd.pinned (OpenSpec.ofChange xorZerosSpec)

/-- ITS FALSE NEIGHBOUR: 'it returns false'. Refute it at one input. -/
def xorZerosWrong : ChangeSpec := { name := "xorZeros", fn := fun _ => fun
  | [d1, d2] => { results := [.lit (.bool false)], args := [d1, d2] }
  | _ => none }
def XorZerosWrongFalsely : Prop := xorZerosRow.holds Tryd.pinned (OpenSpec.ofChange xorZerosWrong)

/-- 'corbellaw18.GroupEncodes': WHATEVER THE INPUT: true; the input reads as it did. -/
def groupEncodesSpec : ChangeSpec := { name := "groupEncodes", fn := fun _ => fun
  | [d] => { results := [.lit (.bool true)], args := [d] }
  | _ => none }
def groupEncodesRow : OpenClaim := { program := "yticpjnpafmehaaadoor", sum := "019eea48edce70bee3bc24b7ef7a8ae2c6202871ec0d6f8da4e256fb13bed136", func := "corbel/corbellaw18.GroupEncodes", spec := "groupEncodes", inPlace := ["internal/abi.NoEscape", "internal/bytealg.MakeNoZero", "internal/bytealg.IndexByteString", "internal/bytealg.IndexString"], named := ["corbel/crc.nibbles", "unicode/utf8.first", "unicode/utf8.acceptRanges", "internal/bytealg.MaxLen"], apart := false, laid := [("corbel/crc.nibbles", laid_corbel_crc_nibbles), ("unicode/utf8.acceptRanges", laid_unicode_utf8_acceptRanges), ("unicode/utf8.first", laid_unicode_utf8_first)] }
def GroupEncodesSaid : Prop := groupEncodesRow.holds Tryd.pinned (OpenSpec.ofChange groupEncodesSpec)

/-- ITS FALSE NEIGHBOUR: 'it returns false'. Refute it at one input. -/
def groupEncodesWrong : ChangeSpec := { name := "groupEncodes", fn := fun _ => fun
  | [d] => { results := [.lit (.bool false)], args := [d] }
  | _ => none }
def GroupEncodesWrongFalsely : Prop := groupEncodesRow.holds Tryd.pinned (OpenSpec.ofChange groupEncodesWrong)

/-- 'corbellaw18.GroupRots': WHATEVER THE INPUT: true; the input reads as it did. -/
def groupRotsSpec : ChangeSpec := { name := "groupRots", fn := fun _ => fun
  | [d1, d2, d3] => { results := [.lit (.bool true)], args := [d1, d2, d3] }
  | _ => none }
def groupRotsRow : OpenClaim := { program := "yticpjnpafmehaaadoor", sum := "019eea48edce70bee3bc24b7ef7a8ae2c6202871ec0d6f8da4e256fb13bed136", func := "corbel/corbellaw18.GroupRots", spec := "groupRots", inPlace := ["internal/abi.NoEscape", "internal/bytealg.MakeNoZero", "internal/bytealg.IndexByteString", "internal/bytealg.IndexString"], named := ["corbel/crc.nibbles", "unicode/utf8.first", "unicode/utf8.acceptRanges", "internal/bytealg.MaxLen"], apart := false, laid := [("corbel/crc.nibbles", laid_corbel_crc_nibbles), ("unicode/utf8.acceptRanges", laid_unicode_utf8_acceptRanges), ("unicode/utf8.first", laid_unicode_utf8_first)] }
def GroupRotsSaid : Prop := groupRotsRow.holds Tryd.pinned (OpenSpec.ofChange groupRotsSpec)

/-- ITS FALSE NEIGHBOUR: 'it returns false'. Refute it at one input. -/
def groupRotsWrong : ChangeSpec := { name := "groupRots", fn := fun _ => fun
  | [d1, d2, d3] => { results := [.lit (.bool false)], args := [d1, d2, d3] }
  | _ => none }
def GroupRotsWrongFalsely : Prop := groupRotsRow.holds Tryd.pinned (OpenSpec.ofChange groupRotsWrong)

/-- 'corbellaw18.GroupCut': WHATEVER THE INPUT: true; the input reads as it did. -/
def groupCutSpec : ChangeSpec := { name := "groupCut", fn := fun _ => fun
  | [d1, d2, d3] => { results := [.lit (.bool true)], args := [d1, d2, d3] }
  | _ => none }
def groupCutRow : OpenClaim := { program := "yticpjnpafmehaaadoor", sum := "019eea48edce70bee3bc24b7ef7a8ae2c6202871ec0d6f8da4e256fb13bed136", func := "corbel/corbellaw18.GroupCut", spec := "groupCut", inPlace := ["internal/abi.NoEscape", "internal/bytealg.MakeNoZero", "internal/bytealg.IndexByteString", "internal/bytealg.IndexString"], named := ["corbel/crc.nibbles", "unicode/utf8.first", "unicode/utf8.acceptRanges", "internal/bytealg.MaxLen"], apart := false, laid := [("corbel/crc.nibbles", laid_corbel_crc_nibbles), ("unicode/utf8.acceptRanges", laid_unicode_utf8_acceptRanges), ("unicode/utf8.first", laid_unicode_utf8_first)] }
def GroupCutSaid : Prop := groupCutRow.holds Tryd.pinned (OpenSpec.ofChange groupCutSpec)

/-- ITS FALSE NEIGHBOUR: 'it returns false'. Refute it at one input. -/
def groupCutWrong : ChangeSpec := { name := "groupCut", fn := fun _ => fun
  | [d1, d2, d3] => { results := [.lit (.bool false)], args := [d1, d2, d3] }
  | _ => none }
def GroupCutWrongFalsely : Prop := groupCutRow.holds Tryd.pinned (OpenSpec.ofChange groupCutWrong)

/-- 'corbellaw18.GroupMany': WHATEVER THE INPUT: true; the input reads as it did. -/
def groupManySpec : ChangeSpec := { name := "groupMany", fn := fun _ => fun
  | [d] => { results := [.lit (.bool true)], args := [d] }
  | _ => none }
def groupManyRow : OpenClaim := { program := "yticpjnpafmehaaadoor", sum := "019eea48edce70bee3bc24b7ef7a8ae2c6202871ec0d6f8da4e256fb13bed136", func := "corbel/corbellaw18.GroupMany", spec := "groupMany", inPlace := ["internal/abi.NoEscape", "internal/bytealg.MakeNoZero", "internal/bytealg.IndexByteString", "internal/bytealg.IndexString"], named := ["corbel/crc.nibbles", "unicode/utf8.first", "unicode/utf8.acceptRanges", "internal/bytealg.MaxLen"], apart := false, laid := [("corbel/crc.nibbles", laid_corbel_crc_nibbles), ("unicode/utf8.acceptRanges", laid_unicode_utf8_acceptRanges), ("unicode/utf8.first", laid_unicode_utf8_first)] }
def GroupManySaid : Prop := groupManyRow.holds Tryd.pinned (OpenSpec.ofChange groupManySpec)

/-- ITS FALSE NEIGHBOUR: 'it returns false'. Refute it at one input. -/
def groupManyWrong : ChangeSpec := { name := "groupMany", fn := fun _ => fun
  | [d] => { results := [.lit (.bool false)], args := [d] }
  | _ => none }
def GroupManyWrongFalsely : Prop := groupManyRow.holds Tryd.pinned (OpenSpec.ofChange groupManyWrong)

/- THE SECOND FORM. 'bulk': how many values and letters a reading holds, each counted each time it is reached (what is shared counts as often as it is met; a slice's spare places count too). A statement '..UptoSaid' is the law's where the arguments, and the package variables that the reading takes, are together of bulk at most 1048576: NARROWER than '..Said'. Prove '..Said' where nothing that the law and all that it calls make is longer than what came in: it says more and counts as full. Else prove '..UptoSaid'. A law counts once. -/
mutual
def uptoBulk {H : Type} : DataW H → Nat
  | .lit (.string bytes) => bytes.length + 1
  | .lit _ => 1
  | .nil => 1
  | .ptr d => uptoBulk d + 1
  | .slice elems spare => uptoBulkAll elems + uptoBulkAll spare + 1
  | .agg parts => uptoBulkAll parts + 1
  | .iface _ d => uptoBulk d + 1
  | .map entries => uptoBulkEntries entries + 1
  | .held _ => 1
def uptoBulkAll {H : Type} : List (DataW H) → Nat
  | [] => 0
  | d :: r => uptoBulk d + uptoBulkAll r
def uptoBulkEntries {H : Type} : List (Lit × DataW H) → Nat
  | [] => 0
  | x :: r => uptoBulkEntry x + uptoBulkEntries r
def uptoBulkEntry {H : Type} : Lit × DataW H → Nat
  | (.string bytes, d) => bytes.length + uptoBulk d + 1
  | (_, d) => uptoBulk d + 1
 end
def uptoSmall : (H : Type) → List (DataW H) → Bool := fun _ ds => decide (uptoBulkAll ds ≤ 1048576)
def OpenSpec.upto (s : _root_.Go.ChangeSpec) : _root_.Go.OpenSpec := { _root_.Go.OpenSpec.ofChange s with cond := some uptoSmall }

/-- 'corbellaw03.XorOrder', WHERE WHAT IT READS IS OF BULK AT MOST 1048576: true; the input reads as it did. -/
def xorOrderUptoRow : OpenClaim := { program := "yticpjnpafmehaaadoor", sum := "019eea48edce70bee3bc24b7ef7a8ae2c6202871ec0d6f8da4e256fb13bed136", func := "corbel/corbellaw03.XorOrder", spec := "xorOrder", inPlace := ["internal/bytealg.IndexByteString", "internal/bytealg.IndexString"], named := ["unicode/utf8.first", "unicode/utf8.acceptRanges", "internal/bytealg.MaxLen"], apart := false, laid := [("unicode/utf8.acceptRanges", laid_unicode_utf8_acceptRanges), ("unicode/utf8.first", laid_unicode_utf8_first)], narrowed := true }
def XorOrderUptoSaid : Prop := xorOrderUptoRow.holds Tryd.pinned (OpenSpec.upto xorOrderSpec)

/-- 'corbellaw03.XorTwice', WHERE WHAT IT READS IS OF BULK AT MOST 1048576: true; the input reads as it did. -/
def xorTwiceUptoRow : OpenClaim := { program := "yticpjnpafmehaaadoor", sum := "019eea48edce70bee3bc24b7ef7a8ae2c6202871ec0d6f8da4e256fb13bed136", func := "corbel/corbellaw03.XorTwice", spec := "xorTwice", inPlace := ["internal/bytealg.IndexByteString", "internal/bytealg.IndexString"], named := ["unicode/utf8.first", "unicode/utf8.acceptRanges", "internal/bytealg.MaxLen"], apart := false, laid := [("unicode/utf8.acceptRanges", laid_unicode_utf8_acceptRanges), ("unicode/utf8.first", laid_unicode_utf8_first)], narrowed := true }
def XorTwiceUptoSaid : Prop := xorTwiceUptoRow.holds Tryd.pinned (OpenSpec.upto xorTwiceSpec)

/-- 'corbellaw03.XorPieces', WHERE WHAT IT READS IS OF BULK AT MOST 1048576: true; the input reads as it did. -/
def xorPiecesUptoRow : OpenClaim := { program := "yticpjnpafmehaaadoor", sum := "019eea48edce70bee3bc24b7ef7a8ae2c6202871ec0d6f8da4e256fb13bed136", func := "corbel/corbellaw03.XorPieces", spec := "xorPieces", inPlace := ["internal/bytealg.IndexByteString", "internal/bytealg.IndexString"], named := ["unicode/utf8.first", "unicode/utf8.acceptRanges", "internal/bytealg.MaxLen"], apart := false, laid := [("unicode/utf8.acceptRanges", laid_unicode_utf8_acceptRanges), ("unicode/utf8.first", laid_unicode_utf8_first)], narrowed := true }
def XorPiecesUptoSaid : Prop := xorPiecesUptoRow.holds Tryd.pinned (OpenSpec.upto xorPiecesSpec)

/-- 'corbellaw03.XorFolds', WHERE WHAT IT READS IS OF BULK AT MOST 1048576: true; the input reads as it did. -/
def xorFoldsUptoRow : OpenClaim := { program := "yticpjnpafmehaaadoor", sum := "019eea48edce70bee3bc24b7ef7a8ae2c6202871ec0d6f8da4e256fb13bed136", func := "corbel/corbellaw03.XorFolds", spec := "xorFolds", inPlace := ["internal/bytealg.IndexByteString", "internal/bytealg.IndexString"], named := ["unicode/utf8.first", "unicode/utf8.acceptRanges", "internal/bytealg.MaxLen"], apart := false, laid := [("unicode/utf8.acceptRanges", laid_unicode_utf8_acceptRanges), ("unicode/utf8.first", laid_unicode_utf8_first)], narrowed := true }
def XorFoldsUptoSaid : Prop := xorFoldsUptoRow.holds Tryd.pinned (OpenSpec.upto xorFoldsSpec)

/-- 'corbellaw03.XorBack', WHERE WHAT IT READS IS OF BULK AT MOST 1048576: true; the input reads as it did. -/
def xorBackUptoRow : OpenClaim := { program := "yticpjnpafmehaaadoor", sum := "019eea48edce70bee3bc24b7ef7a8ae2c6202871ec0d6f8da4e256fb13bed136", func := "corbel/corbellaw03.XorBack", spec := "xorBack", inPlace := ["internal/bytealg.IndexByteString", "internal/bytealg.IndexString"], named := ["unicode/utf8.first", "unicode/utf8.acceptRanges", "internal/bytealg.MaxLen"], apart := false, laid := [("unicode/utf8.acceptRanges", laid_unicode_utf8_acceptRanges), ("unicode/utf8.first", laid_unicode_utf8_first)], narrowed := true }
def XorBackUptoSaid : Prop := xorBackUptoRow.holds Tryd.pinned (OpenSpec.upto xorBackSpec)

/-- 'corbellaw03.XorZeros', WHERE WHAT IT READS IS OF BULK AT MOST 1048576: true; the input reads as it did. -/
def xorZerosUptoRow : OpenClaim := { program := "yticpjnpafmehaaadoor", sum := "019eea48edce70bee3bc24b7ef7a8ae2c6202871ec0d6f8da4e256fb13bed136", func := "corbel/corbellaw03.XorZeros", spec := "xorZeros", inPlace := ["internal/bytealg.IndexByteString", "internal/bytealg.IndexString", "internal/abi.NoEscape", "internal/bytealg.MakeNoZero"], named := ["unicode/utf8.first", "unicode/utf8.acceptRanges", "internal/bytealg.MaxLen"], apart := false, laid := [("unicode/utf8.acceptRanges", laid_unicode_utf8_acceptRanges), ("unicode/utf8.first", laid_unicode_utf8_first)], narrowed := true }
def XorZerosUptoSaid : Prop := xorZerosUptoRow.holds Tryd.pinned (OpenSpec.upto xorZerosSpec)

/-- 'corbellaw18.GroupEncodes', WHERE WHAT IT READS IS OF BULK AT MOST 1048576: true; the input reads as it did. -/
def groupEncodesUptoRow : OpenClaim := { program := "yticpjnpafmehaaadoor", sum := "019eea48edce70bee3bc24b7ef7a8ae2c6202871ec0d6f8da4e256fb13bed136", func := "corbel/corbellaw18.GroupEncodes", spec := "groupEncodes", inPlace := ["internal/abi.NoEscape", "internal/bytealg.MakeNoZero", "internal/bytealg.IndexByteString", "internal/bytealg.IndexString"], named := ["corbel/crc.nibbles", "unicode/utf8.first", "unicode/utf8.acceptRanges", "internal/bytealg.MaxLen"], apart := false, laid := [("corbel/crc.nibbles", laid_corbel_crc_nibbles), ("unicode/utf8.acceptRanges", laid_unicode_utf8_acceptRanges), ("unicode/utf8.first", laid_unicode_utf8_first)], narrowed := true }
def GroupEncodesUptoSaid : Prop := groupEncodesUptoRow.holds Tryd.pinned (OpenSpec.upto groupEncodesSpec)

/-- 'corbellaw18.GroupRots', WHERE WHAT IT READS IS OF BULK AT MOST 1048576: true; the input reads as it did. -/
def groupRotsUptoRow : OpenClaim := { program := "yticpjnpafmehaaadoor", sum := "019eea48edce70bee3bc24b7ef7a8ae2c6202871ec0d6f8da4e256fb13bed136", func := "corbel/corbellaw18.GroupRots", spec := "groupRots", inPlace := ["internal/abi.NoEscape", "internal/bytealg.MakeNoZero", "internal/bytealg.IndexByteString", "internal/bytealg.IndexString"], named := ["corbel/crc.nibbles", "unicode/utf8.first", "unicode/utf8.acceptRanges", "internal/bytealg.MaxLen"], apart := false, laid := [("corbel/crc.nibbles", laid_corbel_crc_nibbles), ("unicode/utf8.acceptRanges", laid_unicode_utf8_acceptRanges), ("unicode/utf8.first", laid_unicode_utf8_first)], narrowed := true }
def GroupRotsUptoSaid : Prop := groupRotsUptoRow.holds Tryd.pinned (OpenSpec.upto groupRotsSpec)

/-- 'corbellaw18.GroupCut', WHERE WHAT IT READS IS OF BULK AT MOST 1048576: true; the input reads as it did. -/
def groupCutUptoRow : OpenClaim := { program := "yticpjnpafmehaaadoor", sum := "019eea48edce70bee3bc24b7ef7a8ae2c6202871ec0d6f8da4e256fb13bed136", func := "corbel/corbellaw18.GroupCut", spec := "groupCut", inPlace := ["internal/abi.NoEscape", "internal/bytealg.MakeNoZero", "internal/bytealg.IndexByteString", "internal/bytealg.IndexString"], named := ["corbel/crc.nibbles", "unicode/utf8.first", "unicode/utf8.acceptRanges", "internal/bytealg.MaxLen"], apart := false, laid := [("corbel/crc.nibbles", laid_corbel_crc_nibbles), ("unicode/utf8.acceptRanges", laid_unicode_utf8_acceptRanges), ("unicode/utf8.first", laid_unicode_utf8_first)], narrowed := true }
def GroupCutUptoSaid : Prop := groupCutUptoRow.holds Tryd.pinned (OpenSpec.upto groupCutSpec)

/-- 'corbellaw18.GroupMany', WHERE WHAT IT READS IS OF BULK AT MOST 1048576: true; the input reads as it did. -/
def groupManyUptoRow : OpenClaim := { program := "yticpjnpafmehaaadoor", sum := "019eea48edce70bee3bc24b7ef7a8ae2c6202871ec0d6f8da4e256fb13bed136", func := "corbel/corbellaw18.GroupMany", spec := "groupMany", inPlace := ["internal/abi.NoEscape", "internal/bytealg.MakeNoZero", "internal/bytealg.IndexByteString", "internal/bytealg.IndexString"], named := ["corbel/crc.nibbles", "unicode/utf8.first", "unicode/utf8.acceptRanges", "internal/bytealg.MaxLen"], apart := false, laid := [("corbel/crc.nibbles", laid_corbel_crc_nibbles), ("unicode/utf8.acceptRanges", laid_unicode_utf8_acceptRanges), ("unicode/utf8.first", laid_unicode_utf8_first)], narrowed := true }
def GroupManyUptoSaid : Prop := groupManyUptoRow.holds Tryd.pinned (OpenSpec.upto groupManySpec)

end Rows
end Go.Proofs.YticpjnpafmehaaaDoor
