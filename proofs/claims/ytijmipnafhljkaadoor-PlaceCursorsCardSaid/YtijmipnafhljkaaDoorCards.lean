/-
  DERIVED. GIVEN WITH THE SEED: THE CARDS: each row of YtijmipnafhljkaaDoorRows.lean that lists a variable, with what it lists TIED to the program's text (the seventh form; the later family's looks); each row that meets fmt, with fmt's text TOLD by the authors' own Lean function (tested against real Go, not proved from fmt's source: count such statements apart). THE CARD IS WHAT COUNTS. Prove the row's statement (the work); the ties are given (YtijmipnafhljkaaDoorTie.lean); close each card by the builder's one call (the guide's Derived/Test/ToyasCard.lean, 'card_holds'). Laid BY PROGRAM, IN A SANDBOX (cutbox-door.mjs). By AI agents, Wed Nov 11 2026. No macro, syntax, notation, axiom, sorry.
-/
import Derived.Test.YtijmipnafhljkaaDoorRows
import GoSem.ClaimSeven
namespace Go.Proofs.YtijmipnafhljkaaDoor
namespace Rows

/-- THE TIED CARD OF 'whittlelaw3.PlaceNames'. -/
def placeNamesCard : Claim7 := { stood := { row := placeNamesRow, standIns := [], harness := (true, "1034c4a15fede1cf1919d69f41660aad537cb6189d03caa2556c8d3836145c78"), looks := true }, kinds := [], alts := [], laidByText := true, laidKinds := [.data, .data, .data, .sentinel, .sentinel], laidTests := true, laidLooks := .later }
def PlaceNamesCardSaid : Prop := Claim7.holds Tryd.pinned (.plain (OpenSpec.ofChange placeNamesSpec)) placeNamesCard

/-- THE TIED CARD OF 'whittlelaw3.PlaceMeets'. -/
def placeMeetsCard : Claim7 := { stood := { row := placeMeetsRow, standIns := [], harness := (true, "1034c4a15fede1cf1919d69f41660aad537cb6189d03caa2556c8d3836145c78"), looks := true }, kinds := [], alts := [], laidByText := true, laidKinds := [.data, .data, .data, .sentinel, .sentinel], laidTests := true, laidLooks := .later }
def PlaceMeetsCardSaid : Prop := Claim7.holds Tryd.pinned (.plain (OpenSpec.ofChange placeMeetsSpec)) placeMeetsCard

/-- THE TIED CARD OF 'whittlelaw3.PlaceOrder'. -/
def placeOrderCard : Claim7 := { stood := { row := placeOrderRow, standIns := [], harness := (true, "1034c4a15fede1cf1919d69f41660aad537cb6189d03caa2556c8d3836145c78"), looks := true }, kinds := [], alts := [], laidByText := true, laidKinds := [.data, .data, .data, .sentinel, .sentinel], laidTests := true, laidLooks := .later }
def PlaceOrderCardSaid : Prop := Claim7.holds Tryd.pinned (.plain (OpenSpec.ofChange placeOrderSpec)) placeOrderCard

/-- THE TIED CARD OF 'whittlelaw3.PlaceThere'. -/
def placeThereCard : Claim7 := { stood := { row := placeThereRow, standIns := [], harness := (true, "1034c4a15fede1cf1919d69f41660aad537cb6189d03caa2556c8d3836145c78"), looks := true }, kinds := [], alts := [], laidByText := true, laidKinds := [.data, .data, .data, .sentinel, .sentinel], laidTests := true, laidLooks := .later }
def PlaceThereCardSaid : Prop := Claim7.holds Tryd.pinned (.plain (OpenSpec.ofChange placeThereSpec)) placeThereCard

/-- THE TIED CARD OF 'whittlelaw3.PlaceHulls'. -/
def placeHullsCard : Claim7 := { stood := { row := placeHullsRow, standIns := [], harness := (true, "1034c4a15fede1cf1919d69f41660aad537cb6189d03caa2556c8d3836145c78"), looks := true }, kinds := [], alts := [], laidByText := true, laidKinds := [.data, .data, .data, .sentinel, .sentinel], laidTests := true, laidLooks := .later }
def PlaceHullsCardSaid : Prop := Claim7.holds Tryd.pinned (.plain (OpenSpec.ofChange placeHullsSpec)) placeHullsCard

/-- THE TIED CARD OF 'whittlelaw3.PlaceShifts'. -/
def placeShiftsCard : Claim7 := { stood := { row := placeShiftsRow, standIns := [], harness := (true, "1034c4a15fede1cf1919d69f41660aad537cb6189d03caa2556c8d3836145c78"), looks := true }, kinds := [], alts := [], laidByText := true, laidKinds := [.data, .data, .data, .sentinel, .sentinel], laidTests := true, laidLooks := .later }
def PlaceShiftsCardSaid : Prop := Claim7.holds Tryd.pinned (.plain (OpenSpec.ofChange placeShiftsSpec)) placeShiftsCard

/-- THE TIED CARD OF 'whittlelaw3.PlaceCount'. -/
def placeCountCard : Claim7 := { stood := { row := placeCountRow, standIns := [], harness := (true, "1034c4a15fede1cf1919d69f41660aad537cb6189d03caa2556c8d3836145c78"), looks := true }, kinds := [], alts := [], laidByText := true, laidKinds := [.data, .data, .data, .sentinel, .sentinel], laidTests := true, laidLooks := .later }
def PlaceCountCardSaid : Prop := Claim7.holds Tryd.pinned (.plain (OpenSpec.ofChange placeCountSpec)) placeCountCard

/-- THE TIED CARD OF 'whittlelaw3.PlaceHold'. -/
def placeHoldCard : Claim7 := { stood := { row := placeHoldRow, standIns := [], harness := (true, "1034c4a15fede1cf1919d69f41660aad537cb6189d03caa2556c8d3836145c78"), looks := true }, kinds := [], alts := [], laidByText := true, laidKinds := [.data, .data, .data, .sentinel, .sentinel], laidTests := true, laidLooks := .later }
def PlaceHoldCardSaid : Prop := Claim7.holds Tryd.pinned (.plain (OpenSpec.ofChange placeHoldSpec)) placeHoldCard

/-- THE TIED CARD OF 'whittlelaw3.PlaceCursors'. -/
def placeCursorsCard : Claim7 := { stood := { row := placeCursorsRow, standIns := [], harness := (true, "1034c4a15fede1cf1919d69f41660aad537cb6189d03caa2556c8d3836145c78"), looks := true }, kinds := [], alts := [], laidByText := true, laidKinds := [.data, .data, .data, .sentinel, .sentinel], laidTests := true, laidLooks := .later }
def PlaceCursorsCardSaid : Prop := Claim7.holds Tryd.pinned (.plain (OpenSpec.ofChange placeCursorsSpec)) placeCursorsCard

/-- THE TIED CARD OF 'whittlelaw3.PlaceWalk'. -/
def placeWalkCard : Claim7 := { stood := { row := placeWalkRow, standIns := [], harness := (true, "1034c4a15fede1cf1919d69f41660aad537cb6189d03caa2556c8d3836145c78"), looks := true }, kinds := [], alts := [], laidByText := true, laidKinds := [.data, .data, .data, .sentinel, .sentinel], laidTests := true, laidLooks := .later }
def PlaceWalkCardSaid : Prop := Claim7.holds Tryd.pinned (.plain (OpenSpec.ofChange placeWalkSpec)) placeWalkCard

/-- THE TIED CARD OF 'whittlelaw3.PlaceAreas'. -/
def placeAreasCard : Claim7 := { stood := { row := placeAreasRow, standIns := [], harness := (true, "1034c4a15fede1cf1919d69f41660aad537cb6189d03caa2556c8d3836145c78"), looks := true }, kinds := [], alts := [], laidByText := true, laidKinds := [.data, .data, .data, .sentinel, .sentinel], laidTests := true, laidLooks := .later }
def PlaceAreasCardSaid : Prop := Claim7.holds Tryd.pinned (.plain (OpenSpec.ofChange placeAreasSpec)) placeAreasCard

/-- THE TIED CARD OF 'whittlelaw3.PlaceReads'. -/
def placeReadsCard : Claim7 := { stood := { row := placeReadsRow, standIns := [], harness := (true, "1034c4a15fede1cf1919d69f41660aad537cb6189d03caa2556c8d3836145c78"), looks := true }, kinds := [], alts := [], laidByText := true, laidKinds := [.data, .data, .data, .sentinel, .sentinel], laidTests := true, laidLooks := .later }
def PlaceReadsCardSaid : Prop := Claim7.holds Tryd.pinned (.plain (OpenSpec.ofChange placeReadsSpec)) placeReadsCard

/-- THE TIED CARD OF 'whittlelaw3.PlaceBack'. -/
def placeBackCard : Claim7 := { stood := { row := placeBackRow, standIns := [], harness := (true, "1034c4a15fede1cf1919d69f41660aad537cb6189d03caa2556c8d3836145c78"), looks := true }, kinds := [], alts := [], laidByText := true, laidKinds := [.data, .data, .data, .sentinel, .sentinel], laidTests := true, laidLooks := .later }
def PlaceBackCardSaid : Prop := Claim7.holds Tryd.pinned (.plain (OpenSpec.ofChange placeBackSpec)) placeBackCard

/-- THE SECOND FORM's CARD OF 'whittlelaw3.PlaceNames'. -/
def placeNamesUptoCard : Claim7 := { stood := { row := placeNamesUptoRow, standIns := [], harness := (true, "1034c4a15fede1cf1919d69f41660aad537cb6189d03caa2556c8d3836145c78"), looks := true }, kinds := [], alts := [], laidByText := true, laidKinds := [.data, .data, .data, .sentinel, .sentinel], laidTests := true, laidLooks := .later }
def PlaceNamesUptoCardSaid : Prop := Claim7.holds Tryd.pinned (.plain (OpenSpec.upto placeNamesSpec)) placeNamesUptoCard

/-- THE SECOND FORM's CARD OF 'whittlelaw3.PlaceMeets'. -/
def placeMeetsUptoCard : Claim7 := { stood := { row := placeMeetsUptoRow, standIns := [], harness := (true, "1034c4a15fede1cf1919d69f41660aad537cb6189d03caa2556c8d3836145c78"), looks := true }, kinds := [], alts := [], laidByText := true, laidKinds := [.data, .data, .data, .sentinel, .sentinel], laidTests := true, laidLooks := .later }
def PlaceMeetsUptoCardSaid : Prop := Claim7.holds Tryd.pinned (.plain (OpenSpec.upto placeMeetsSpec)) placeMeetsUptoCard

/-- THE SECOND FORM's CARD OF 'whittlelaw3.PlaceOrder'. -/
def placeOrderUptoCard : Claim7 := { stood := { row := placeOrderUptoRow, standIns := [], harness := (true, "1034c4a15fede1cf1919d69f41660aad537cb6189d03caa2556c8d3836145c78"), looks := true }, kinds := [], alts := [], laidByText := true, laidKinds := [.data, .data, .data, .sentinel, .sentinel], laidTests := true, laidLooks := .later }
def PlaceOrderUptoCardSaid : Prop := Claim7.holds Tryd.pinned (.plain (OpenSpec.upto placeOrderSpec)) placeOrderUptoCard

/-- THE SECOND FORM's CARD OF 'whittlelaw3.PlaceThere'. -/
def placeThereUptoCard : Claim7 := { stood := { row := placeThereUptoRow, standIns := [], harness := (true, "1034c4a15fede1cf1919d69f41660aad537cb6189d03caa2556c8d3836145c78"), looks := true }, kinds := [], alts := [], laidByText := true, laidKinds := [.data, .data, .data, .sentinel, .sentinel], laidTests := true, laidLooks := .later }
def PlaceThereUptoCardSaid : Prop := Claim7.holds Tryd.pinned (.plain (OpenSpec.upto placeThereSpec)) placeThereUptoCard

/-- THE SECOND FORM's CARD OF 'whittlelaw3.PlaceHulls'. -/
def placeHullsUptoCard : Claim7 := { stood := { row := placeHullsUptoRow, standIns := [], harness := (true, "1034c4a15fede1cf1919d69f41660aad537cb6189d03caa2556c8d3836145c78"), looks := true }, kinds := [], alts := [], laidByText := true, laidKinds := [.data, .data, .data, .sentinel, .sentinel], laidTests := true, laidLooks := .later }
def PlaceHullsUptoCardSaid : Prop := Claim7.holds Tryd.pinned (.plain (OpenSpec.upto placeHullsSpec)) placeHullsUptoCard

/-- THE SECOND FORM's CARD OF 'whittlelaw3.PlaceShifts'. -/
def placeShiftsUptoCard : Claim7 := { stood := { row := placeShiftsUptoRow, standIns := [], harness := (true, "1034c4a15fede1cf1919d69f41660aad537cb6189d03caa2556c8d3836145c78"), looks := true }, kinds := [], alts := [], laidByText := true, laidKinds := [.data, .data, .data, .sentinel, .sentinel], laidTests := true, laidLooks := .later }
def PlaceShiftsUptoCardSaid : Prop := Claim7.holds Tryd.pinned (.plain (OpenSpec.upto placeShiftsSpec)) placeShiftsUptoCard

/-- THE SECOND FORM's CARD OF 'whittlelaw3.PlaceCount'. -/
def placeCountUptoCard : Claim7 := { stood := { row := placeCountUptoRow, standIns := [], harness := (true, "1034c4a15fede1cf1919d69f41660aad537cb6189d03caa2556c8d3836145c78"), looks := true }, kinds := [], alts := [], laidByText := true, laidKinds := [.data, .data, .data, .sentinel, .sentinel], laidTests := true, laidLooks := .later }
def PlaceCountUptoCardSaid : Prop := Claim7.holds Tryd.pinned (.plain (OpenSpec.upto placeCountSpec)) placeCountUptoCard

/-- THE SECOND FORM's CARD OF 'whittlelaw3.PlaceHold'. -/
def placeHoldUptoCard : Claim7 := { stood := { row := placeHoldUptoRow, standIns := [], harness := (true, "1034c4a15fede1cf1919d69f41660aad537cb6189d03caa2556c8d3836145c78"), looks := true }, kinds := [], alts := [], laidByText := true, laidKinds := [.data, .data, .data, .sentinel, .sentinel], laidTests := true, laidLooks := .later }
def PlaceHoldUptoCardSaid : Prop := Claim7.holds Tryd.pinned (.plain (OpenSpec.upto placeHoldSpec)) placeHoldUptoCard

/-- THE SECOND FORM's CARD OF 'whittlelaw3.PlaceCursors'. -/
def placeCursorsUptoCard : Claim7 := { stood := { row := placeCursorsUptoRow, standIns := [], harness := (true, "1034c4a15fede1cf1919d69f41660aad537cb6189d03caa2556c8d3836145c78"), looks := true }, kinds := [], alts := [], laidByText := true, laidKinds := [.data, .data, .data, .sentinel, .sentinel], laidTests := true, laidLooks := .later }
def PlaceCursorsUptoCardSaid : Prop := Claim7.holds Tryd.pinned (.plain (OpenSpec.upto placeCursorsSpec)) placeCursorsUptoCard

/-- THE SECOND FORM's CARD OF 'whittlelaw3.PlaceWalk'. -/
def placeWalkUptoCard : Claim7 := { stood := { row := placeWalkUptoRow, standIns := [], harness := (true, "1034c4a15fede1cf1919d69f41660aad537cb6189d03caa2556c8d3836145c78"), looks := true }, kinds := [], alts := [], laidByText := true, laidKinds := [.data, .data, .data, .sentinel, .sentinel], laidTests := true, laidLooks := .later }
def PlaceWalkUptoCardSaid : Prop := Claim7.holds Tryd.pinned (.plain (OpenSpec.upto placeWalkSpec)) placeWalkUptoCard

/-- THE SECOND FORM's CARD OF 'whittlelaw3.PlaceAreas'. -/
def placeAreasUptoCard : Claim7 := { stood := { row := placeAreasUptoRow, standIns := [], harness := (true, "1034c4a15fede1cf1919d69f41660aad537cb6189d03caa2556c8d3836145c78"), looks := true }, kinds := [], alts := [], laidByText := true, laidKinds := [.data, .data, .data, .sentinel, .sentinel], laidTests := true, laidLooks := .later }
def PlaceAreasUptoCardSaid : Prop := Claim7.holds Tryd.pinned (.plain (OpenSpec.upto placeAreasSpec)) placeAreasUptoCard

/-- THE SECOND FORM's CARD OF 'whittlelaw3.PlaceReads'. -/
def placeReadsUptoCard : Claim7 := { stood := { row := placeReadsUptoRow, standIns := [], harness := (true, "1034c4a15fede1cf1919d69f41660aad537cb6189d03caa2556c8d3836145c78"), looks := true }, kinds := [], alts := [], laidByText := true, laidKinds := [.data, .data, .data, .sentinel, .sentinel], laidTests := true, laidLooks := .later }
def PlaceReadsUptoCardSaid : Prop := Claim7.holds Tryd.pinned (.plain (OpenSpec.upto placeReadsSpec)) placeReadsUptoCard

/-- THE SECOND FORM's CARD OF 'whittlelaw3.PlaceBack'. -/
def placeBackUptoCard : Claim7 := { stood := { row := placeBackUptoRow, standIns := [], harness := (true, "1034c4a15fede1cf1919d69f41660aad537cb6189d03caa2556c8d3836145c78"), looks := true }, kinds := [], alts := [], laidByText := true, laidKinds := [.data, .data, .data, .sentinel, .sentinel], laidTests := true, laidLooks := .later }
def PlaceBackUptoCardSaid : Prop := Claim7.holds Tryd.pinned (.plain (OpenSpec.upto placeBackSpec)) placeBackUptoCard
end Rows
end Go.Proofs.YtijmipnafhljkaaDoor
