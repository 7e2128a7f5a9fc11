/-
  DERIVED. GIVEN WITH THE SEED: THE CARDS: each row of YtadpeopbfoppjaaDoorRows.lean that lists a variable, with what it lists TIED to the program's text (the seventh form; the later family's looks); each row that meets fmt, with fmt's text TOLD by the authors' own Lean function (tested against real Go, not proved from fmt's source: count such statements apart). THE CARD IS WHAT COUNTS. Prove the row's statement (the work); the ties are given (YtadpeopbfoppjaaDoorTie.lean); close each card by the builder's one call (the guide's Derived/Test/ToyasCard.lean, 'card_holds'). Laid BY PROGRAM, IN A SANDBOX (cutbox-door.mjs). By AI agents, Wed Nov 11 2026. No macro, syntax, notation, axiom, sorry.
-/
import Derived.Test.YtadpeopbfoppjaaDoorRows
import GoSem.ClaimSeven
namespace Go.Proofs.YtadpeopbfoppjaaDoor
namespace Rows

/-- THE TIED CARD OF 'corbellaw06.RecordEncodes'. -/
def recordEncodesCard : Claim7 := { stood := { row := recordEncodesRow, standIns := [], harness := (true, "ef97516b39736fc78474e536d95e6425e24ecef700b3edf607db6e2039bcb872"), looks := false }, kinds := [], alts := [], laidByText := true, laidKinds := [.data, .data, .pinned], laidTests := true, laidLooks := .later }
def RecordEncodesCardSaid : Prop := Claim7.holds Tryd.pinned (.plain (OpenSpec.ofChange recordEncodesSpec)) recordEncodesCard

/-- THE TIED CARD OF 'corbellaw06.RecordRots'. -/
def recordRotsCard : Claim7 := { stood := { row := recordRotsRow, standIns := [], harness := (true, "ef97516b39736fc78474e536d95e6425e24ecef700b3edf607db6e2039bcb872"), looks := false }, kinds := [], alts := [], laidByText := true, laidKinds := [.data, .data, .pinned], laidTests := true, laidLooks := .later }
def RecordRotsCardSaid : Prop := Claim7.holds Tryd.pinned (.plain (OpenSpec.ofChange recordRotsSpec)) recordRotsCard

/-- THE TIED CARD OF 'corbellaw06.RecordApart'. -/
def recordApartCard : Claim7 := { stood := { row := recordApartRow, standIns := [], harness := (true, "ef97516b39736fc78474e536d95e6425e24ecef700b3edf607db6e2039bcb872"), looks := false }, kinds := [], alts := [], laidByText := true, laidKinds := [.data, .data, .pinned], laidTests := true, laidLooks := .later }
def RecordApartCardSaid : Prop := Claim7.holds Tryd.pinned (.plain (OpenSpec.ofChange recordApartSpec)) recordApartCard

/-- THE TIED CARD OF 'corbellaw06.RecordDecodes'. -/
def recordDecodesCard : Claim7 := { stood := { row := recordDecodesRow, standIns := [], harness := (true, "ef97516b39736fc78474e536d95e6425e24ecef700b3edf607db6e2039bcb872"), looks := false }, kinds := [], alts := [], laidByText := true, laidKinds := [.data, .data, .pinned], laidTests := true, laidLooks := .later }
def RecordDecodesCardSaid : Prop := Claim7.holds Tryd.pinned (.plain (OpenSpec.ofChange recordDecodesSpec)) recordDecodesCard

/-- THE TIED CARD OF 'corbellaw06.RecordBack'. -/
def recordBackCard : Claim7 := { stood := { row := recordBackRow, standIns := [], harness := (true, "ef97516b39736fc78474e536d95e6425e24ecef700b3edf607db6e2039bcb872"), looks := false }, kinds := [], alts := [], laidByText := true, laidKinds := [.data, .data, .pinned], laidTests := true, laidLooks := .later }
def RecordBackCardSaid : Prop := Claim7.holds Tryd.pinned (.plain (OpenSpec.ofChange recordBackSpec)) recordBackCard

/-- THE SECOND FORM's CARD OF 'corbellaw06.RecordEncodes'. -/
def recordEncodesUptoCard : Claim7 := { stood := { row := recordEncodesUptoRow, standIns := [], harness := (true, "ef97516b39736fc78474e536d95e6425e24ecef700b3edf607db6e2039bcb872"), looks := false }, kinds := [], alts := [], laidByText := true, laidKinds := [.data, .data, .pinned], laidTests := true, laidLooks := .later }
def RecordEncodesUptoCardSaid : Prop := Claim7.holds Tryd.pinned (.plain (OpenSpec.upto recordEncodesSpec)) recordEncodesUptoCard

/-- THE SECOND FORM's CARD OF 'corbellaw06.RecordRots'. -/
def recordRotsUptoCard : Claim7 := { stood := { row := recordRotsUptoRow, standIns := [], harness := (true, "ef97516b39736fc78474e536d95e6425e24ecef700b3edf607db6e2039bcb872"), looks := false }, kinds := [], alts := [], laidByText := true, laidKinds := [.data, .data, .pinned], laidTests := true, laidLooks := .later }
def RecordRotsUptoCardSaid : Prop := Claim7.holds Tryd.pinned (.plain (OpenSpec.upto recordRotsSpec)) recordRotsUptoCard

/-- THE SECOND FORM's CARD OF 'corbellaw06.RecordApart'. -/
def recordApartUptoCard : Claim7 := { stood := { row := recordApartUptoRow, standIns := [], harness := (true, "ef97516b39736fc78474e536d95e6425e24ecef700b3edf607db6e2039bcb872"), looks := false }, kinds := [], alts := [], laidByText := true, laidKinds := [.data, .data, .pinned], laidTests := true, laidLooks := .later }
def RecordApartUptoCardSaid : Prop := Claim7.holds Tryd.pinned (.plain (OpenSpec.upto recordApartSpec)) recordApartUptoCard

/-- THE SECOND FORM's CARD OF 'corbellaw06.RecordDecodes'. -/
def recordDecodesUptoCard : Claim7 := { stood := { row := recordDecodesUptoRow, standIns := [], harness := (true, "ef97516b39736fc78474e536d95e6425e24ecef700b3edf607db6e2039bcb872"), looks := false }, kinds := [], alts := [], laidByText := true, laidKinds := [.data, .data, .pinned], laidTests := true, laidLooks := .later }
def RecordDecodesUptoCardSaid : Prop := Claim7.holds Tryd.pinned (.plain (OpenSpec.upto recordDecodesSpec)) recordDecodesUptoCard

/-- THE SECOND FORM's CARD OF 'corbellaw06.RecordBack'. -/
def recordBackUptoCard : Claim7 := { stood := { row := recordBackUptoRow, standIns := [], harness := (true, "ef97516b39736fc78474e536d95e6425e24ecef700b3edf607db6e2039bcb872"), looks := false }, kinds := [], alts := [], laidByText := true, laidKinds := [.data, .data, .pinned], laidTests := true, laidLooks := .later }
def RecordBackUptoCardSaid : Prop := Claim7.holds Tryd.pinned (.plain (OpenSpec.upto recordBackSpec)) recordBackUptoCard
end Rows
end Go.Proofs.YtadpeopbfoppjaaDoor
