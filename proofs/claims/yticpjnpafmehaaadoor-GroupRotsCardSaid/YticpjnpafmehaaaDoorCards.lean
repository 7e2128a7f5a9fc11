/-
  DERIVED. GIVEN WITH THE SEED: THE CARDS: each row of YticpjnpafmehaaaDoorRows.lean that lists a variable, with what it lists TIED to the program's text (the seventh form; the later family's looks); each row that meets fmt, with fmt's text TOLD by the authors' own Lean function (tested against real Go, not proved from fmt's source: count such statements apart). THE CARD IS WHAT COUNTS. Prove the row's statement (the work); the ties are given (YticpjnpafmehaaaDoorTie.lean); close each card by the builder's one call (the guide's Derived/Test/ToyasCard.lean, 'card_holds'). Laid BY PROGRAM, IN A SANDBOX (cutbox-door.mjs). By AI agents, Wed Nov 11 2026. No macro, syntax, notation, axiom, sorry.
-/
import Derived.Test.YticpjnpafmehaaaDoorRows
import GoSem.ClaimSeven
namespace Go.Proofs.YticpjnpafmehaaaDoor
namespace Rows

/-- THE TIED CARD OF 'corbellaw03.XorOrder'. -/
def xorOrderCard : Claim7 := { stood := { row := xorOrderRow, standIns := [], harness := (true, "6f45bfb9ad015e9246a699edcae0e177a55a43ed0edc8e8e267ae7f8f797e091"), looks := false }, kinds := [], alts := [], laidByText := true, laidKinds := [.data, .pinned], laidTests := true, laidLooks := .later }
def XorOrderCardSaid : Prop := Claim7.holds Tryd.pinned (.plain (OpenSpec.ofChange xorOrderSpec)) xorOrderCard

/-- THE TIED CARD OF 'corbellaw03.XorTwice'. -/
def xorTwiceCard : Claim7 := { stood := { row := xorTwiceRow, standIns := [], harness := (true, "6f45bfb9ad015e9246a699edcae0e177a55a43ed0edc8e8e267ae7f8f797e091"), looks := false }, kinds := [], alts := [], laidByText := true, laidKinds := [.data, .pinned], laidTests := true, laidLooks := .later }
def XorTwiceCardSaid : Prop := Claim7.holds Tryd.pinned (.plain (OpenSpec.ofChange xorTwiceSpec)) xorTwiceCard

/-- THE TIED CARD OF 'corbellaw03.XorPieces'. -/
def xorPiecesCard : Claim7 := { stood := { row := xorPiecesRow, standIns := [], harness := (true, "6f45bfb9ad015e9246a699edcae0e177a55a43ed0edc8e8e267ae7f8f797e091"), looks := false }, kinds := [], alts := [], laidByText := true, laidKinds := [.data, .pinned], laidTests := true, laidLooks := .later }
def XorPiecesCardSaid : Prop := Claim7.holds Tryd.pinned (.plain (OpenSpec.ofChange xorPiecesSpec)) xorPiecesCard

/-- THE TIED CARD OF 'corbellaw03.XorFolds'. -/
def xorFoldsCard : Claim7 := { stood := { row := xorFoldsRow, standIns := [], harness := (true, "6f45bfb9ad015e9246a699edcae0e177a55a43ed0edc8e8e267ae7f8f797e091"), looks := false }, kinds := [], alts := [], laidByText := true, laidKinds := [.data, .pinned], laidTests := true, laidLooks := .later }
def XorFoldsCardSaid : Prop := Claim7.holds Tryd.pinned (.plain (OpenSpec.ofChange xorFoldsSpec)) xorFoldsCard

/-- THE TIED CARD OF 'corbellaw03.XorBack'. -/
def xorBackCard : Claim7 := { stood := { row := xorBackRow, standIns := [], harness := (true, "6f45bfb9ad015e9246a699edcae0e177a55a43ed0edc8e8e267ae7f8f797e091"), looks := false }, kinds := [], alts := [], laidByText := true, laidKinds := [.data, .pinned], laidTests := true, laidLooks := .later }
def XorBackCardSaid : Prop := Claim7.holds Tryd.pinned (.plain (OpenSpec.ofChange xorBackSpec)) xorBackCard

/-- THE TIED CARD OF 'corbellaw03.XorZeros'. -/
def xorZerosCard : Claim7 := { stood := { row := xorZerosRow, standIns := [], harness := (true, "6f45bfb9ad015e9246a699edcae0e177a55a43ed0edc8e8e267ae7f8f797e091"), looks := false }, kinds := [], alts := [], laidByText := true, laidKinds := [.data, .pinned], laidTests := true, laidLooks := .later }
def XorZerosCardSaid : Prop := Claim7.holds Tryd.pinned (.plain (OpenSpec.ofChange xorZerosSpec)) xorZerosCard

/-- THE TIED CARD OF 'corbellaw18.GroupEncodes'. -/
def groupEncodesCard : Claim7 := { stood := { row := groupEncodesRow, standIns := [], harness := (true, "6f45bfb9ad015e9246a699edcae0e177a55a43ed0edc8e8e267ae7f8f797e091"), looks := false }, kinds := [], alts := [], laidByText := true, laidKinds := [.data, .data, .pinned], laidTests := true, laidLooks := .later }
def GroupEncodesCardSaid : Prop := Claim7.holds Tryd.pinned (.plain (OpenSpec.ofChange groupEncodesSpec)) groupEncodesCard

/-- THE TIED CARD OF 'corbellaw18.GroupRots'. -/
def groupRotsCard : Claim7 := { stood := { row := groupRotsRow, standIns := [], harness := (true, "6f45bfb9ad015e9246a699edcae0e177a55a43ed0edc8e8e267ae7f8f797e091"), looks := false }, kinds := [], alts := [], laidByText := true, laidKinds := [.data, .data, .pinned], laidTests := true, laidLooks := .later }
def GroupRotsCardSaid : Prop := Claim7.holds Tryd.pinned (.plain (OpenSpec.ofChange groupRotsSpec)) groupRotsCard

/-- THE TIED CARD OF 'corbellaw18.GroupCut'. -/
def groupCutCard : Claim7 := { stood := { row := groupCutRow, standIns := [], harness := (true, "6f45bfb9ad015e9246a699edcae0e177a55a43ed0edc8e8e267ae7f8f797e091"), looks := false }, kinds := [], alts := [], laidByText := true, laidKinds := [.data, .data, .pinned], laidTests := true, laidLooks := .later }
def GroupCutCardSaid : Prop := Claim7.holds Tryd.pinned (.plain (OpenSpec.ofChange groupCutSpec)) groupCutCard

/-- THE TIED CARD OF 'corbellaw18.GroupMany'. -/
def groupManyCard : Claim7 := { stood := { row := groupManyRow, standIns := [], harness := (true, "6f45bfb9ad015e9246a699edcae0e177a55a43ed0edc8e8e267ae7f8f797e091"), looks := false }, kinds := [], alts := [], laidByText := true, laidKinds := [.data, .data, .pinned], laidTests := true, laidLooks := .later }
def GroupManyCardSaid : Prop := Claim7.holds Tryd.pinned (.plain (OpenSpec.ofChange groupManySpec)) groupManyCard

/-- THE SECOND FORM's CARD OF 'corbellaw03.XorOrder'. -/
def xorOrderUptoCard : Claim7 := { stood := { row := xorOrderUptoRow, standIns := [], harness := (true, "6f45bfb9ad015e9246a699edcae0e177a55a43ed0edc8e8e267ae7f8f797e091"), looks := false }, kinds := [], alts := [], laidByText := true, laidKinds := [.data, .pinned], laidTests := true, laidLooks := .later }
def XorOrderUptoCardSaid : Prop := Claim7.holds Tryd.pinned (.plain (OpenSpec.upto xorOrderSpec)) xorOrderUptoCard

/-- THE SECOND FORM's CARD OF 'corbellaw03.XorTwice'. -/
def xorTwiceUptoCard : Claim7 := { stood := { row := xorTwiceUptoRow, standIns := [], harness := (true, "6f45bfb9ad015e9246a699edcae0e177a55a43ed0edc8e8e267ae7f8f797e091"), looks := false }, kinds := [], alts := [], laidByText := true, laidKinds := [.data, .pinned], laidTests := true, laidLooks := .later }
def XorTwiceUptoCardSaid : Prop := Claim7.holds Tryd.pinned (.plain (OpenSpec.upto xorTwiceSpec)) xorTwiceUptoCard

/-- THE SECOND FORM's CARD OF 'corbellaw03.XorPieces'. -/
def xorPiecesUptoCard : Claim7 := { stood := { row := xorPiecesUptoRow, standIns := [], harness := (true, "6f45bfb9ad015e9246a699edcae0e177a55a43ed0edc8e8e267ae7f8f797e091"), looks := false }, kinds := [], alts := [], laidByText := true, laidKinds := [.data, .pinned], laidTests := true, laidLooks := .later }
def XorPiecesUptoCardSaid : Prop := Claim7.holds Tryd.pinned (.plain (OpenSpec.upto xorPiecesSpec)) xorPiecesUptoCard

/-- THE SECOND FORM's CARD OF 'corbellaw03.XorFolds'. -/
def xorFoldsUptoCard : Claim7 := { stood := { row := xorFoldsUptoRow, standIns := [], harness := (true, "6f45bfb9ad015e9246a699edcae0e177a55a43ed0edc8e8e267ae7f8f797e091"), looks := false }, kinds := [], alts := [], laidByText := true, laidKinds := [.data, .pinned], laidTests := true, laidLooks := .later }
def XorFoldsUptoCardSaid : Prop := Claim7.holds Tryd.pinned (.plain (OpenSpec.upto xorFoldsSpec)) xorFoldsUptoCard

/-- THE SECOND FORM's CARD OF 'corbellaw03.XorBack'. -/
def xorBackUptoCard : Claim7 := { stood := { row := xorBackUptoRow, standIns := [], harness := (true, "6f45bfb9ad015e9246a699edcae0e177a55a43ed0edc8e8e267ae7f8f797e091"), looks := false }, kinds := [], alts := [], laidByText := true, laidKinds := [.data, .pinned], laidTests := true, laidLooks := .later }
def XorBackUptoCardSaid : Prop := Claim7.holds Tryd.pinned (.plain (OpenSpec.upto xorBackSpec)) xorBackUptoCard

/-- THE SECOND FORM's CARD OF 'corbellaw03.XorZeros'. -/
def xorZerosUptoCard : Claim7 := { stood := { row := xorZerosUptoRow, standIns := [], harness := (true, "6f45bfb9ad015e9246a699edcae0e177a55a43ed0edc8e8e267ae7f8f797e091"), looks := false }, kinds := [], alts := [], laidByText := true, laidKinds := [.data, .pinned], laidTests := true, laidLooks := .later }
def XorZerosUptoCardSaid : Prop := Claim7.holds Tryd.pinned (.plain (OpenSpec.upto xorZerosSpec)) xorZerosUptoCard

/-- THE SECOND FORM's CARD OF 'corbellaw18.GroupEncodes'. -/
def groupEncodesUptoCard : Claim7 := { stood := { row := groupEncodesUptoRow, standIns := [], harness := (true, "6f45bfb9ad015e9246a699edcae0e177a55a43ed0edc8e8e267ae7f8f797e091"), looks := false }, kinds := [], alts := [], laidByText := true, laidKinds := [.data, .data, .pinned], laidTests := true, laidLooks := .later }
def GroupEncodesUptoCardSaid : Prop := Claim7.holds Tryd.pinned (.plain (OpenSpec.upto groupEncodesSpec)) groupEncodesUptoCard

/-- THE SECOND FORM's CARD OF 'corbellaw18.GroupRots'. -/
def groupRotsUptoCard : Claim7 := { stood := { row := groupRotsUptoRow, standIns := [], harness := (true, "6f45bfb9ad015e9246a699edcae0e177a55a43ed0edc8e8e267ae7f8f797e091"), looks := false }, kinds := [], alts := [], laidByText := true, laidKinds := [.data, .data, .pinned], laidTests := true, laidLooks := .later }
def GroupRotsUptoCardSaid : Prop := Claim7.holds Tryd.pinned (.plain (OpenSpec.upto groupRotsSpec)) groupRotsUptoCard

/-- THE SECOND FORM's CARD OF 'corbellaw18.GroupCut'. -/
def groupCutUptoCard : Claim7 := { stood := { row := groupCutUptoRow, standIns := [], harness := (true, "6f45bfb9ad015e9246a699edcae0e177a55a43ed0edc8e8e267ae7f8f797e091"), looks := false }, kinds := [], alts := [], laidByText := true, laidKinds := [.data, .data, .pinned], laidTests := true, laidLooks := .later }
def GroupCutUptoCardSaid : Prop := Claim7.holds Tryd.pinned (.plain (OpenSpec.upto groupCutSpec)) groupCutUptoCard

/-- THE SECOND FORM's CARD OF 'corbellaw18.GroupMany'. -/
def groupManyUptoCard : Claim7 := { stood := { row := groupManyUptoRow, standIns := [], harness := (true, "6f45bfb9ad015e9246a699edcae0e177a55a43ed0edc8e8e267ae7f8f797e091"), looks := false }, kinds := [], alts := [], laidByText := true, laidKinds := [.data, .data, .pinned], laidTests := true, laidLooks := .later }
def GroupManyUptoCardSaid : Prop := Claim7.holds Tryd.pinned (.plain (OpenSpec.upto groupManySpec)) groupManyUptoCard
end Rows
end Go.Proofs.YticpjnpafmehaaaDoor
