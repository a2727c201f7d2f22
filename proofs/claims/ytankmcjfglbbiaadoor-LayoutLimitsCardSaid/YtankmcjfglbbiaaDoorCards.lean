/-
  DERIVED. GIVEN WITH THE SEED: THE CARDS: each row of YtankmcjfglbbiaaDoorRows.lean that lists a variable, with what it lists TIED to the program's text (the seventh form; the later family's looks); each row that meets fmt, with fmt's text TOLD by the authors' own Lean function (tested against real Go, not proved from fmt's source: count such statements apart). THE CARD IS WHAT COUNTS. Prove the row's statement (the work); the ties are given (YtankmcjfglbbiaaDoorTie.lean); close each card by the builder's one call (the guide's Derived/Test/ToyasCard.lean, 'card_holds'). Laid BY PROGRAM, IN A SANDBOX (cutbox-door.mjs). By AI agents, Wed Nov 11 2026. No macro, syntax, notation, axiom, sorry.
-/
import Derived.Test.YtankmcjfglbbiaaDoorRows
import GoSem.ClaimSeven
namespace Go.Proofs.YtankmcjfglbbiaaDoor
namespace Rows

/-- THE TIED CARD OF 'stillagelaw06.LayoutLimits'. -/
def layoutLimitsCard : Claim7 := { stood := { row := layoutLimitsRow, standIns := [], harness := (true, "6d3e4582a982dcd6100e30d675dedb9efa76bb9e56b7d6b06e2a6b3eb45319ca"), looks := false }, kinds := [], alts := [], laidByText := true, laidKinds := [.data, .pinned], laidTests := true, laidLooks := .later }
def LayoutLimitsCardSaid : Prop := Claim7.holds Tryd.pinned (.plain (OpenSpec.ofChange layoutLimitsSpec)) layoutLimitsCard

/-- THE TIED CARD OF 'stillagelaw06.LayoutFinds'. -/
def layoutFindsCard : Claim7 := { stood := { row := layoutFindsRow, standIns := [], harness := (true, "6d3e4582a982dcd6100e30d675dedb9efa76bb9e56b7d6b06e2a6b3eb45319ca"), looks := false }, kinds := [], alts := [], laidByText := true, laidKinds := [.data, .pinned], laidTests := true, laidLooks := .later }
def LayoutFindsCardSaid : Prop := Claim7.holds Tryd.pinned (.plain (OpenSpec.ofChange layoutFindsSpec)) layoutFindsCard

/-- THE TIED CARD OF 'stillagelaw06.LayoutChecks'. -/
def layoutChecksCard : Claim7 := { stood := { row := layoutChecksRow, standIns := [], harness := (true, "6d3e4582a982dcd6100e30d675dedb9efa76bb9e56b7d6b06e2a6b3eb45319ca"), looks := false }, kinds := [], alts := [], laidByText := true, laidKinds := [.data, .pinned], laidTests := true, laidLooks := .later }
def LayoutChecksCardSaid : Prop := Claim7.holds Tryd.pinned (.plain (OpenSpec.ofChange layoutChecksSpec)) layoutChecksCard

/-- THE TIED CARD OF 'stillagelaw06.LayoutBack'. -/
def layoutBackCard : Claim7 := { stood := { row := layoutBackRow, standIns := [], harness := (true, "6d3e4582a982dcd6100e30d675dedb9efa76bb9e56b7d6b06e2a6b3eb45319ca"), looks := false }, kinds := [], alts := [], laidByText := true, laidKinds := [.data, .pinned], laidTests := true, laidLooks := .later }
def LayoutBackCardSaid : Prop := Claim7.holds Tryd.pinned (.plain (OpenSpec.ofChange layoutBackSpec)) layoutBackCard

/-- THE TIED CARD OF 'stillagelaw06.LayoutLines'. -/
def layoutLinesCard : Claim7 := { stood := { row := layoutLinesRow, standIns := [], harness := (true, "6d3e4582a982dcd6100e30d675dedb9efa76bb9e56b7d6b06e2a6b3eb45319ca"), looks := false }, kinds := [], alts := [], laidByText := true, laidKinds := [.data, .pinned], laidTests := true, laidLooks := .later }
def LayoutLinesCardSaid : Prop := Claim7.holds Tryd.pinned (.plain (OpenSpec.ofChange layoutLinesSpec)) layoutLinesCard

/-- THE SECOND FORM's CARD OF 'stillagelaw06.LayoutLimits'. -/
def layoutLimitsUptoCard : Claim7 := { stood := { row := layoutLimitsUptoRow, standIns := [], harness := (true, "6d3e4582a982dcd6100e30d675dedb9efa76bb9e56b7d6b06e2a6b3eb45319ca"), looks := false }, kinds := [], alts := [], laidByText := true, laidKinds := [.data, .pinned], laidTests := true, laidLooks := .later }
def LayoutLimitsUptoCardSaid : Prop := Claim7.holds Tryd.pinned (.plain (OpenSpec.upto layoutLimitsSpec)) layoutLimitsUptoCard

/-- THE SECOND FORM's CARD OF 'stillagelaw06.LayoutFinds'. -/
def layoutFindsUptoCard : Claim7 := { stood := { row := layoutFindsUptoRow, standIns := [], harness := (true, "6d3e4582a982dcd6100e30d675dedb9efa76bb9e56b7d6b06e2a6b3eb45319ca"), looks := false }, kinds := [], alts := [], laidByText := true, laidKinds := [.data, .pinned], laidTests := true, laidLooks := .later }
def LayoutFindsUptoCardSaid : Prop := Claim7.holds Tryd.pinned (.plain (OpenSpec.upto layoutFindsSpec)) layoutFindsUptoCard

/-- THE SECOND FORM's CARD OF 'stillagelaw06.LayoutChecks'. -/
def layoutChecksUptoCard : Claim7 := { stood := { row := layoutChecksUptoRow, standIns := [], harness := (true, "6d3e4582a982dcd6100e30d675dedb9efa76bb9e56b7d6b06e2a6b3eb45319ca"), looks := false }, kinds := [], alts := [], laidByText := true, laidKinds := [.data, .pinned], laidTests := true, laidLooks := .later }
def LayoutChecksUptoCardSaid : Prop := Claim7.holds Tryd.pinned (.plain (OpenSpec.upto layoutChecksSpec)) layoutChecksUptoCard

/-- THE SECOND FORM's CARD OF 'stillagelaw06.LayoutBack'. -/
def layoutBackUptoCard : Claim7 := { stood := { row := layoutBackUptoRow, standIns := [], harness := (true, "6d3e4582a982dcd6100e30d675dedb9efa76bb9e56b7d6b06e2a6b3eb45319ca"), looks := false }, kinds := [], alts := [], laidByText := true, laidKinds := [.data, .pinned], laidTests := true, laidLooks := .later }
def LayoutBackUptoCardSaid : Prop := Claim7.holds Tryd.pinned (.plain (OpenSpec.upto layoutBackSpec)) layoutBackUptoCard

/-- THE SECOND FORM's CARD OF 'stillagelaw06.LayoutLines'. -/
def layoutLinesUptoCard : Claim7 := { stood := { row := layoutLinesUptoRow, standIns := [], harness := (true, "6d3e4582a982dcd6100e30d675dedb9efa76bb9e56b7d6b06e2a6b3eb45319ca"), looks := false }, kinds := [], alts := [], laidByText := true, laidKinds := [.data, .pinned], laidTests := true, laidLooks := .later }
def LayoutLinesUptoCardSaid : Prop := Claim7.holds Tryd.pinned (.plain (OpenSpec.upto layoutLinesSpec)) layoutLinesUptoCard
end Rows
end Go.Proofs.YtankmcjfglbbiaaDoor
