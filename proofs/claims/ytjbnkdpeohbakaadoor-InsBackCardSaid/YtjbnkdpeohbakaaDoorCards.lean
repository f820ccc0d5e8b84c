/-
  DERIVED. GIVEN WITH THE SEED: THE CARDS: each row of YtjbnkdpeohbakaaDoorRows.lean that lists a variable, with what it lists TIED to the program's text (the seventh form; the later family's looks); each row that meets fmt, with fmt's text TOLD by the authors' own Lean function (tested against real Go, not proved from fmt's source: count such statements apart). THE CARD IS WHAT COUNTS. Prove the row's statement (the work); the ties are given (YtjbnkdpeohbakaaDoorTie.lean); close each card by the builder's one call (the guide's Derived/Test/ToyasCard.lean, 'card_holds'). Laid BY PROGRAM, IN A SANDBOX (cutbox-door.mjs). By AI agents, Wed Nov 11 2026. No macro, syntax, notation, axiom, sorry.
-/
import Derived.Test.YtjbnkdpeohbakaaDoorRows
import GoSem.ClaimSeven
namespace Go.Proofs.YtjbnkdpeohbakaaDoor
namespace Rows

/-- THE TIED CARD OF 'tholelaw07.InsParses'. -/
def insParsesCard : Claim7 := { stood := { row := insParsesRow, standIns := [], harness := (true, "a2d0e5a24e7d9412f2992e178d7d4cdf5d7a0aa3fb47da10b2c18bf34ecb2146"), looks := true }, kinds := [], alts := [], laidByText := true, laidKinds := [.data, .data, .data, .data, .sentinel, .sentinel, .pinned], laidTests := true, laidLooks := .later }
def InsParsesCardSaid : Prop := Claim7.holds Tryd.pinned (.plain (OpenSpec.ofChange insParsesSpec)) insParsesCard

/-- THE TIED CARD OF 'tholelaw07.InsBlanks'. -/
def insBlanksCard : Claim7 := { stood := { row := insBlanksRow, standIns := [], harness := (true, "a2d0e5a24e7d9412f2992e178d7d4cdf5d7a0aa3fb47da10b2c18bf34ecb2146"), looks := true }, kinds := [], alts := [], laidByText := true, laidKinds := [.data, .data, .data, .data, .sentinel, .sentinel, .pinned], laidTests := true, laidLooks := .later }
def InsBlanksCardSaid : Prop := Claim7.holds Tryd.pinned (.plain (OpenSpec.ofChange insBlanksSpec)) insBlanksCard

/-- THE TIED CARD OF 'tholelaw07.InsPrints'. -/
def insPrintsCard : Claim7 := { stood := { row := insPrintsRow, standIns := [], harness := (true, "a2d0e5a24e7d9412f2992e178d7d4cdf5d7a0aa3fb47da10b2c18bf34ecb2146"), looks := true }, kinds := [], alts := [], laidByText := true, laidKinds := [.data, .data, .data, .data, .sentinel, .sentinel, .pinned], laidTests := true, laidLooks := .later }
def InsPrintsCardSaid : Prop := Claim7.holds Tryd.pinned (.plain (OpenSpec.ofChange insPrintsSpec)) insPrintsCard

/-- THE TIED CARD OF 'tholelaw07.InsBack'. -/
def insBackCard : Claim7 := { stood := { row := insBackRow, standIns := [], harness := (true, "a2d0e5a24e7d9412f2992e178d7d4cdf5d7a0aa3fb47da10b2c18bf34ecb2146"), looks := true }, kinds := [], alts := [], laidByText := true, laidKinds := [.data, .data, .data, .data, .sentinel, .sentinel, .pinned], laidTests := true, laidLooks := .later }
def InsBackCardSaid : Prop := Claim7.holds Tryd.pinned (.plain (OpenSpec.ofChange insBackSpec)) insBackCard

/-- THE TIED CARD OF 'tholelaw07.InsApart'. -/
def insApartCard : Claim7 := { stood := { row := insApartRow, standIns := [], harness := (true, "a2d0e5a24e7d9412f2992e178d7d4cdf5d7a0aa3fb47da10b2c18bf34ecb2146"), looks := true }, kinds := [], alts := [], laidByText := true, laidKinds := [.data, .data, .data, .data, .sentinel, .sentinel, .pinned], laidTests := true, laidLooks := .later }
def InsApartCardSaid : Prop := Claim7.holds Tryd.pinned (.plain (OpenSpec.ofChange insApartSpec)) insApartCard

/-- THE SECOND FORM's CARD OF 'tholelaw07.InsParses'. -/
def insParsesUptoCard : Claim7 := { stood := { row := insParsesUptoRow, standIns := [], harness := (true, "a2d0e5a24e7d9412f2992e178d7d4cdf5d7a0aa3fb47da10b2c18bf34ecb2146"), looks := true }, kinds := [], alts := [], laidByText := true, laidKinds := [.data, .data, .data, .data, .sentinel, .sentinel, .pinned], laidTests := true, laidLooks := .later }
def InsParsesUptoCardSaid : Prop := Claim7.holds Tryd.pinned (.plain (OpenSpec.upto insParsesSpec)) insParsesUptoCard

/-- THE SECOND FORM's CARD OF 'tholelaw07.InsBlanks'. -/
def insBlanksUptoCard : Claim7 := { stood := { row := insBlanksUptoRow, standIns := [], harness := (true, "a2d0e5a24e7d9412f2992e178d7d4cdf5d7a0aa3fb47da10b2c18bf34ecb2146"), looks := true }, kinds := [], alts := [], laidByText := true, laidKinds := [.data, .data, .data, .data, .sentinel, .sentinel, .pinned], laidTests := true, laidLooks := .later }
def InsBlanksUptoCardSaid : Prop := Claim7.holds Tryd.pinned (.plain (OpenSpec.upto insBlanksSpec)) insBlanksUptoCard

/-- THE SECOND FORM's CARD OF 'tholelaw07.InsPrints'. -/
def insPrintsUptoCard : Claim7 := { stood := { row := insPrintsUptoRow, standIns := [], harness := (true, "a2d0e5a24e7d9412f2992e178d7d4cdf5d7a0aa3fb47da10b2c18bf34ecb2146"), looks := true }, kinds := [], alts := [], laidByText := true, laidKinds := [.data, .data, .data, .data, .sentinel, .sentinel, .pinned], laidTests := true, laidLooks := .later }
def InsPrintsUptoCardSaid : Prop := Claim7.holds Tryd.pinned (.plain (OpenSpec.upto insPrintsSpec)) insPrintsUptoCard

/-- THE SECOND FORM's CARD OF 'tholelaw07.InsBack'. -/
def insBackUptoCard : Claim7 := { stood := { row := insBackUptoRow, standIns := [], harness := (true, "a2d0e5a24e7d9412f2992e178d7d4cdf5d7a0aa3fb47da10b2c18bf34ecb2146"), looks := true }, kinds := [], alts := [], laidByText := true, laidKinds := [.data, .data, .data, .data, .sentinel, .sentinel, .pinned], laidTests := true, laidLooks := .later }
def InsBackUptoCardSaid : Prop := Claim7.holds Tryd.pinned (.plain (OpenSpec.upto insBackSpec)) insBackUptoCard

/-- THE SECOND FORM's CARD OF 'tholelaw07.InsApart'. -/
def insApartUptoCard : Claim7 := { stood := { row := insApartUptoRow, standIns := [], harness := (true, "a2d0e5a24e7d9412f2992e178d7d4cdf5d7a0aa3fb47da10b2c18bf34ecb2146"), looks := true }, kinds := [], alts := [], laidByText := true, laidKinds := [.data, .data, .data, .data, .sentinel, .sentinel, .pinned], laidTests := true, laidLooks := .later }
def InsApartUptoCardSaid : Prop := Claim7.holds Tryd.pinned (.plain (OpenSpec.upto insApartSpec)) insApartUptoCard
end Rows
end Go.Proofs.YtjbnkdpeohbakaaDoor
