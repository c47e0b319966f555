/-
  DERIVED. GIVEN WITH THE SEED: THE CARDS: each row of YtejbbceidnaloaaGreatDoorRows.lean that lists a variable, with what it lists TIED to the program's text (the seventh form; the later family's looks); each row that meets fmt, with fmt's text TOLD by the authors' own Lean function (tested against real Go, not proved from fmt's source: count such statements apart). THE CARD IS WHAT COUNTS. Prove the row's statement (the work); the ties are given (YtejbbceidnaloaaGreatDoorTie.lean); close each card by the builder's one call (the guide's Derived/Test/ToyasCard.lean, 'card_holds'). Laid BY PROGRAM, IN A SANDBOX (cutbox-door.mjs). By AI agents, Wed Nov 11 2026. No macro, syntax, notation, axiom, sorry.
-/
import Derived.Test.YtejbbceidnaloaaGreatDoorRows
import GoSem.ClaimSeven
namespace Go.Proofs.YtejbbceidnaloaaGreatDoor
namespace Rows

/-- THE TIED CARD OF 'whittlelaw5.TreeParses'. -/
def treeParsesCard : Claim7 := { stood := { row := treeParsesRow, standIns := [], harness := (true, "2b433cacc178e63a30820f62559d431eaf8aa30146beb75a4d4aff8048168789"), looks := true }, kinds := [], alts := [], laidByText := true, laidKinds := [.data, .data, .data, .data, .sentinel, .sentinel, .widerDeep, .widerDeep, .data, .pinned, .pinned], laidTests := true, laidLooks := .later }
def TreeParsesCardSaid : Prop := Claim7.holds Tryz.pinned (.plain (OpenSpec.ofChange treeParsesSpec)) treeParsesCard

/-- THE TIED CARD OF 'whittlelaw5.TreePrints'. -/
def treePrintsCard : Claim7 := { stood := { row := treePrintsRow, standIns := [], harness := (true, "2b433cacc178e63a30820f62559d431eaf8aa30146beb75a4d4aff8048168789"), looks := true }, kinds := [], alts := [], laidByText := true, laidKinds := [.data, .data, .data, .data, .sentinel, .sentinel, .widerDeep, .widerDeep, .data, .pinned, .pinned], laidTests := true, laidLooks := .later }
def TreePrintsCardSaid : Prop := Claim7.holds Tryz.pinned (.plain (OpenSpec.ofChange treePrintsSpec)) treePrintsCard

/-- THE TIED CARD OF 'whittlelaw5.TreeBack'. -/
def treeBackCard : Claim7 := { stood := { row := treeBackRow, standIns := [], harness := (true, "2b433cacc178e63a30820f62559d431eaf8aa30146beb75a4d4aff8048168789"), looks := true }, kinds := [], alts := [], laidByText := true, laidKinds := [.data, .data, .data, .data, .sentinel, .sentinel, .widerDeep, .widerDeep, .data, .pinned, .pinned], laidTests := true, laidLooks := .later }
def TreeBackCardSaid : Prop := Claim7.holds Tryz.pinned (.plain (OpenSpec.ofChange treeBackSpec)) treeBackCard

/-- THE TIED CARD OF 'whittlelaw5.TreeOneForm'. -/
def treeOneFormCard : Claim7 := { stood := { row := treeOneFormRow, standIns := [], harness := (true, "2b433cacc178e63a30820f62559d431eaf8aa30146beb75a4d4aff8048168789"), looks := true }, kinds := [], alts := [], laidByText := true, laidKinds := [.data, .data, .data, .data, .sentinel, .sentinel, .widerDeep, .widerDeep, .data, .pinned, .pinned], laidTests := true, laidLooks := .later }
def TreeOneFormCardSaid : Prop := Claim7.holds Tryz.pinned (.plain (OpenSpec.ofChange treeOneFormSpec)) treeOneFormCard

/-- THE TIED CARD OF 'whittlelaw5.TreeNeeded'. -/
def treeNeededCard : Claim7 := { stood := { row := treeNeededRow, standIns := [], harness := (true, "2b433cacc178e63a30820f62559d431eaf8aa30146beb75a4d4aff8048168789"), looks := true }, kinds := [], alts := [], laidByText := true, laidKinds := [.data, .data, .data, .data, .sentinel, .sentinel, .widerDeep, .widerDeep, .data, .pinned, .pinned], laidTests := true, laidLooks := .later }
def TreeNeededCardSaid : Prop := Claim7.holds Tryz.pinned (.plain (OpenSpec.ofChange treeNeededSpec)) treeNeededCard

/-- THE TIED CARD OF 'whittlelaw5.TreeKids'. -/
def treeKidsCard : Claim7 := { stood := { row := treeKidsRow, standIns := [], harness := (true, "2b433cacc178e63a30820f62559d431eaf8aa30146beb75a4d4aff8048168789"), looks := true }, kinds := [], alts := [], laidByText := true, laidKinds := [.data, .data, .data, .data, .sentinel, .sentinel, .widerDeep, .widerDeep, .data, .pinned, .pinned], laidTests := true, laidLooks := .later }
def TreeKidsCardSaid : Prop := Claim7.holds Tryz.pinned (.plain (OpenSpec.ofChange treeKidsSpec)) treeKidsCard

/-- THE TIED CARD OF 'whittlelaw5.TreeFresh'. -/
def treeFreshCard : Claim7 := { stood := { row := treeFreshRow, standIns := [], harness := (true, "2b433cacc178e63a30820f62559d431eaf8aa30146beb75a4d4aff8048168789"), looks := true }, kinds := [], alts := [], laidByText := true, laidKinds := [.data, .data, .data, .data, .sentinel, .sentinel, .widerDeep, .widerDeep, .data, .pinned, .pinned], laidTests := true, laidLooks := .later }
def TreeFreshCardSaid : Prop := Claim7.holds Tryz.pinned (.plain (OpenSpec.ofChange treeFreshSpec)) treeFreshCard

/-- THE TIED CARD OF 'whittlelaw5.TreeJoined'. -/
def treeJoinedCard : Claim7 := { stood := { row := treeJoinedRow, standIns := [], harness := (true, "2b433cacc178e63a30820f62559d431eaf8aa30146beb75a4d4aff8048168789"), looks := true }, kinds := [], alts := [], laidByText := true, laidKinds := [.data, .data, .data, .data, .sentinel, .sentinel, .widerDeep, .widerDeep, .data, .pinned, .pinned], laidTests := true, laidLooks := .later }
def TreeJoinedCardSaid : Prop := Claim7.holds Tryz.pinned (.plain (OpenSpec.ofChange treeJoinedSpec)) treeJoinedCard

/-- THE TIED CARD OF 'whittlelaw5.TreeParts'. -/
def treePartsCard : Claim7 := { stood := { row := treePartsRow, standIns := [], harness := (true, "2b433cacc178e63a30820f62559d431eaf8aa30146beb75a4d4aff8048168789"), looks := true }, kinds := [], alts := [], laidByText := true, laidKinds := [.data, .data, .data, .data, .sentinel, .sentinel, .widerDeep, .widerDeep, .data, .pinned, .pinned], laidTests := true, laidLooks := .later }
def TreePartsCardSaid : Prop := Claim7.holds Tryz.pinned (.plain (OpenSpec.ofChange treePartsSpec)) treePartsCard

/-- THE TIED CARD OF 'whittlelaw5.TreeBrackets'. -/
def treeBracketsCard : Claim7 := { stood := { row := treeBracketsRow, standIns := [], harness := (true, "2b433cacc178e63a30820f62559d431eaf8aa30146beb75a4d4aff8048168789"), looks := true }, kinds := [], alts := [], laidByText := true, laidKinds := [.data, .data, .data, .data, .sentinel, .sentinel, .widerDeep, .widerDeep, .data, .pinned, .pinned], laidTests := true, laidLooks := .later }
def TreeBracketsCardSaid : Prop := Claim7.holds Tryz.pinned (.plain (OpenSpec.ofChange treeBracketsSpec)) treeBracketsCard

/-- THE TIED CARD OF 'whittlelaw6.MoveShifts'. -/
def moveShiftsCard : Claim7 := { stood := { row := moveShiftsRow, standIns := [], harness := (true, "2b433cacc178e63a30820f62559d431eaf8aa30146beb75a4d4aff8048168789"), looks := true }, kinds := [], alts := [], laidByText := true, laidKinds := [.data, .data, .data, .data, .sentinel, .sentinel, .widerDeep, .widerDeep, .data, .pinned, .pinned], laidTests := true, laidLooks := .later }
def MoveShiftsCardSaid : Prop := Claim7.holds Tryz.pinned (.plain (OpenSpec.ofChange moveShiftsSpec)) moveShiftsCard

/-- THE TIED CARD OF 'whittlelaw6.MoveCopies'. -/
def moveCopiesCard : Claim7 := { stood := { row := moveCopiesRow, standIns := [], harness := (true, "2b433cacc178e63a30820f62559d431eaf8aa30146beb75a4d4aff8048168789"), looks := true }, kinds := [], alts := [], laidByText := true, laidKinds := [.data, .data, .data, .data, .sentinel, .sentinel, .widerDeep, .widerDeep, .data, .pinned, .pinned], laidTests := true, laidLooks := .later }
def MoveCopiesCardSaid : Prop := Claim7.holds Tryz.pinned (.plain (OpenSpec.ofChange moveCopiesSpec)) moveCopiesCard

/-- THE TIED CARD OF 'whittlelaw6.MoveThere'. -/
def moveThereCard : Claim7 := { stood := { row := moveThereRow, standIns := [], harness := (true, "2b433cacc178e63a30820f62559d431eaf8aa30146beb75a4d4aff8048168789"), looks := true }, kinds := [], alts := [], laidByText := true, laidKinds := [.data, .data, .data, .data, .sentinel, .sentinel, .widerDeep, .widerDeep, .data, .pinned, .pinned], laidTests := true, laidLooks := .later }
def MoveThereCardSaid : Prop := Claim7.holds Tryz.pinned (.plain (OpenSpec.ofChange moveThereSpec)) moveThereCard

/-- THE TIED CARD OF 'whittlelaw6.MoveTwice'. -/
def moveTwiceCard : Claim7 := { stood := { row := moveTwiceRow, standIns := [], harness := (true, "2b433cacc178e63a30820f62559d431eaf8aa30146beb75a4d4aff8048168789"), looks := true }, kinds := [], alts := [], laidByText := true, laidKinds := [.data, .data, .data, .data, .sentinel, .sentinel, .widerDeep, .widerDeep, .data, .pinned, .pinned], laidTests := true, laidLooks := .later }
def MoveTwiceCardSaid : Prop := Claim7.holds Tryz.pinned (.plain (OpenSpec.ofChange moveTwiceSpec)) moveTwiceCard

/-- THE TIED CARD OF 'whittlelaw6.MoveRefs'. -/
def moveRefsCard : Claim7 := { stood := { row := moveRefsRow, standIns := [], harness := (true, "2b433cacc178e63a30820f62559d431eaf8aa30146beb75a4d4aff8048168789"), looks := true }, kinds := [], alts := [], laidByText := true, laidKinds := [.data, .data, .data, .data, .sentinel, .sentinel, .widerDeep, .widerDeep, .data, .pinned, .pinned], laidTests := true, laidLooks := .later }
def MoveRefsCardSaid : Prop := Claim7.holds Tryz.pinned (.plain (OpenSpec.ofChange moveRefsSpec)) moveRefsCard

/-- THE TIED CARD OF 'whittlelaw6.MoveTexts'. -/
def moveTextsCard : Claim7 := { stood := { row := moveTextsRow, standIns := [], harness := (true, "2b433cacc178e63a30820f62559d431eaf8aa30146beb75a4d4aff8048168789"), looks := true }, kinds := [], alts := [], laidByText := true, laidKinds := [.data, .data, .data, .data, .sentinel, .sentinel, .widerDeep, .widerDeep, .data, .pinned, .pinned], laidTests := true, laidLooks := .later }
def MoveTextsCardSaid : Prop := Claim7.holds Tryz.pinned (.plain (OpenSpec.ofChange moveTextsSpec)) moveTextsCard

/-- THE TIED CARD OF 'whittlelaw6.MoveFills'. -/
def moveFillsCard : Claim7 := { stood := { row := moveFillsRow, standIns := [], harness := (true, "2b433cacc178e63a30820f62559d431eaf8aa30146beb75a4d4aff8048168789"), looks := true }, kinds := [], alts := [], laidByText := true, laidKinds := [.data, .data, .data, .data, .sentinel, .sentinel, .widerDeep, .widerDeep, .data, .pinned, .pinned], laidTests := true, laidLooks := .later }
def MoveFillsCardSaid : Prop := Claim7.holds Tryz.pinned (.plain (OpenSpec.ofChange moveFillsSpec)) moveFillsCard

/-- THE TIED CARD OF 'whittlelaw6.MoveEach'. -/
def moveEachCard : Claim7 := { stood := { row := moveEachRow, standIns := [], harness := (true, "2b433cacc178e63a30820f62559d431eaf8aa30146beb75a4d4aff8048168789"), looks := true }, kinds := [], alts := [], laidByText := true, laidKinds := [.data, .data, .data, .data, .sentinel, .sentinel, .widerDeep, .widerDeep, .data, .pinned, .pinned], laidTests := true, laidLooks := .later }
def MoveEachCardSaid : Prop := Claim7.holds Tryz.pinned (.plain (OpenSpec.ofChange moveEachSpec)) moveEachCard

/-- THE SECOND FORM's CARD OF 'whittlelaw5.TreeParses'. -/
def treeParsesUptoCard : Claim7 := { stood := { row := treeParsesUptoRow, standIns := [], harness := (true, "2b433cacc178e63a30820f62559d431eaf8aa30146beb75a4d4aff8048168789"), looks := true }, kinds := [], alts := [], laidByText := true, laidKinds := [.data, .data, .data, .data, .sentinel, .sentinel, .widerDeep, .widerDeep, .data, .pinned, .pinned], laidTests := true, laidLooks := .later }
def TreeParsesUptoCardSaid : Prop := Claim7.holds Tryz.pinned (.plain (OpenSpec.upto treeParsesSpec)) treeParsesUptoCard

/-- THE SECOND FORM's CARD OF 'whittlelaw5.TreePrints'. -/
def treePrintsUptoCard : Claim7 := { stood := { row := treePrintsUptoRow, standIns := [], harness := (true, "2b433cacc178e63a30820f62559d431eaf8aa30146beb75a4d4aff8048168789"), looks := true }, kinds := [], alts := [], laidByText := true, laidKinds := [.data, .data, .data, .data, .sentinel, .sentinel, .widerDeep, .widerDeep, .data, .pinned, .pinned], laidTests := true, laidLooks := .later }
def TreePrintsUptoCardSaid : Prop := Claim7.holds Tryz.pinned (.plain (OpenSpec.upto treePrintsSpec)) treePrintsUptoCard

/-- THE SECOND FORM's CARD OF 'whittlelaw5.TreeBack'. -/
def treeBackUptoCard : Claim7 := { stood := { row := treeBackUptoRow, standIns := [], harness := (true, "2b433cacc178e63a30820f62559d431eaf8aa30146beb75a4d4aff8048168789"), looks := true }, kinds := [], alts := [], laidByText := true, laidKinds := [.data, .data, .data, .data, .sentinel, .sentinel, .widerDeep, .widerDeep, .data, .pinned, .pinned], laidTests := true, laidLooks := .later }
def TreeBackUptoCardSaid : Prop := Claim7.holds Tryz.pinned (.plain (OpenSpec.upto treeBackSpec)) treeBackUptoCard

/-- THE SECOND FORM's CARD OF 'whittlelaw5.TreeOneForm'. -/
def treeOneFormUptoCard : Claim7 := { stood := { row := treeOneFormUptoRow, standIns := [], harness := (true, "2b433cacc178e63a30820f62559d431eaf8aa30146beb75a4d4aff8048168789"), looks := true }, kinds := [], alts := [], laidByText := true, laidKinds := [.data, .data, .data, .data, .sentinel, .sentinel, .widerDeep, .widerDeep, .data, .pinned, .pinned], laidTests := true, laidLooks := .later }
def TreeOneFormUptoCardSaid : Prop := Claim7.holds Tryz.pinned (.plain (OpenSpec.upto treeOneFormSpec)) treeOneFormUptoCard

/-- THE SECOND FORM's CARD OF 'whittlelaw5.TreeNeeded'. -/
def treeNeededUptoCard : Claim7 := { stood := { row := treeNeededUptoRow, standIns := [], harness := (true, "2b433cacc178e63a30820f62559d431eaf8aa30146beb75a4d4aff8048168789"), looks := true }, kinds := [], alts := [], laidByText := true, laidKinds := [.data, .data, .data, .data, .sentinel, .sentinel, .widerDeep, .widerDeep, .data, .pinned, .pinned], laidTests := true, laidLooks := .later }
def TreeNeededUptoCardSaid : Prop := Claim7.holds Tryz.pinned (.plain (OpenSpec.upto treeNeededSpec)) treeNeededUptoCard

/-- THE SECOND FORM's CARD OF 'whittlelaw5.TreeKids'. -/
def treeKidsUptoCard : Claim7 := { stood := { row := treeKidsUptoRow, standIns := [], harness := (true, "2b433cacc178e63a30820f62559d431eaf8aa30146beb75a4d4aff8048168789"), looks := true }, kinds := [], alts := [], laidByText := true, laidKinds := [.data, .data, .data, .data, .sentinel, .sentinel, .widerDeep, .widerDeep, .data, .pinned, .pinned], laidTests := true, laidLooks := .later }
def TreeKidsUptoCardSaid : Prop := Claim7.holds Tryz.pinned (.plain (OpenSpec.upto treeKidsSpec)) treeKidsUptoCard

/-- THE SECOND FORM's CARD OF 'whittlelaw5.TreeFresh'. -/
def treeFreshUptoCard : Claim7 := { stood := { row := treeFreshUptoRow, standIns := [], harness := (true, "2b433cacc178e63a30820f62559d431eaf8aa30146beb75a4d4aff8048168789"), looks := true }, kinds := [], alts := [], laidByText := true, laidKinds := [.data, .data, .data, .data, .sentinel, .sentinel, .widerDeep, .widerDeep, .data, .pinned, .pinned], laidTests := true, laidLooks := .later }
def TreeFreshUptoCardSaid : Prop := Claim7.holds Tryz.pinned (.plain (OpenSpec.upto treeFreshSpec)) treeFreshUptoCard

/-- THE SECOND FORM's CARD OF 'whittlelaw5.TreeJoined'. -/
def treeJoinedUptoCard : Claim7 := { stood := { row := treeJoinedUptoRow, standIns := [], harness := (true, "2b433cacc178e63a30820f62559d431eaf8aa30146beb75a4d4aff8048168789"), looks := true }, kinds := [], alts := [], laidByText := true, laidKinds := [.data, .data, .data, .data, .sentinel, .sentinel, .widerDeep, .widerDeep, .data, .pinned, .pinned], laidTests := true, laidLooks := .later }
def TreeJoinedUptoCardSaid : Prop := Claim7.holds Tryz.pinned (.plain (OpenSpec.upto treeJoinedSpec)) treeJoinedUptoCard

/-- THE SECOND FORM's CARD OF 'whittlelaw5.TreeParts'. -/
def treePartsUptoCard : Claim7 := { stood := { row := treePartsUptoRow, standIns := [], harness := (true, "2b433cacc178e63a30820f62559d431eaf8aa30146beb75a4d4aff8048168789"), looks := true }, kinds := [], alts := [], laidByText := true, laidKinds := [.data, .data, .data, .data, .sentinel, .sentinel, .widerDeep, .widerDeep, .data, .pinned, .pinned], laidTests := true, laidLooks := .later }
def TreePartsUptoCardSaid : Prop := Claim7.holds Tryz.pinned (.plain (OpenSpec.upto treePartsSpec)) treePartsUptoCard

/-- THE SECOND FORM's CARD OF 'whittlelaw5.TreeBrackets'. -/
def treeBracketsUptoCard : Claim7 := { stood := { row := treeBracketsUptoRow, standIns := [], harness := (true, "2b433cacc178e63a30820f62559d431eaf8aa30146beb75a4d4aff8048168789"), looks := true }, kinds := [], alts := [], laidByText := true, laidKinds := [.data, .data, .data, .data, .sentinel, .sentinel, .widerDeep, .widerDeep, .data, .pinned, .pinned], laidTests := true, laidLooks := .later }
def TreeBracketsUptoCardSaid : Prop := Claim7.holds Tryz.pinned (.plain (OpenSpec.upto treeBracketsSpec)) treeBracketsUptoCard

/-- THE SECOND FORM's CARD OF 'whittlelaw6.MoveShifts'. -/
def moveShiftsUptoCard : Claim7 := { stood := { row := moveShiftsUptoRow, standIns := [], harness := (true, "2b433cacc178e63a30820f62559d431eaf8aa30146beb75a4d4aff8048168789"), looks := true }, kinds := [], alts := [], laidByText := true, laidKinds := [.data, .data, .data, .data, .sentinel, .sentinel, .widerDeep, .widerDeep, .data, .pinned, .pinned], laidTests := true, laidLooks := .later }
def MoveShiftsUptoCardSaid : Prop := Claim7.holds Tryz.pinned (.plain (OpenSpec.upto moveShiftsSpec)) moveShiftsUptoCard

/-- THE SECOND FORM's CARD OF 'whittlelaw6.MoveCopies'. -/
def moveCopiesUptoCard : Claim7 := { stood := { row := moveCopiesUptoRow, standIns := [], harness := (true, "2b433cacc178e63a30820f62559d431eaf8aa30146beb75a4d4aff8048168789"), looks := true }, kinds := [], alts := [], laidByText := true, laidKinds := [.data, .data, .data, .data, .sentinel, .sentinel, .widerDeep, .widerDeep, .data, .pinned, .pinned], laidTests := true, laidLooks := .later }
def MoveCopiesUptoCardSaid : Prop := Claim7.holds Tryz.pinned (.plain (OpenSpec.upto moveCopiesSpec)) moveCopiesUptoCard

/-- THE SECOND FORM's CARD OF 'whittlelaw6.MoveThere'. -/
def moveThereUptoCard : Claim7 := { stood := { row := moveThereUptoRow, standIns := [], harness := (true, "2b433cacc178e63a30820f62559d431eaf8aa30146beb75a4d4aff8048168789"), looks := true }, kinds := [], alts := [], laidByText := true, laidKinds := [.data, .data, .data, .data, .sentinel, .sentinel, .widerDeep, .widerDeep, .data, .pinned, .pinned], laidTests := true, laidLooks := .later }
def MoveThereUptoCardSaid : Prop := Claim7.holds Tryz.pinned (.plain (OpenSpec.upto moveThereSpec)) moveThereUptoCard

/-- THE SECOND FORM's CARD OF 'whittlelaw6.MoveTwice'. -/
def moveTwiceUptoCard : Claim7 := { stood := { row := moveTwiceUptoRow, standIns := [], harness := (true, "2b433cacc178e63a30820f62559d431eaf8aa30146beb75a4d4aff8048168789"), looks := true }, kinds := [], alts := [], laidByText := true, laidKinds := [.data, .data, .data, .data, .sentinel, .sentinel, .widerDeep, .widerDeep, .data, .pinned, .pinned], laidTests := true, laidLooks := .later }
def MoveTwiceUptoCardSaid : Prop := Claim7.holds Tryz.pinned (.plain (OpenSpec.upto moveTwiceSpec)) moveTwiceUptoCard

/-- THE SECOND FORM's CARD OF 'whittlelaw6.MoveRefs'. -/
def moveRefsUptoCard : Claim7 := { stood := { row := moveRefsUptoRow, standIns := [], harness := (true, "2b433cacc178e63a30820f62559d431eaf8aa30146beb75a4d4aff8048168789"), looks := true }, kinds := [], alts := [], laidByText := true, laidKinds := [.data, .data, .data, .data, .sentinel, .sentinel, .widerDeep, .widerDeep, .data, .pinned, .pinned], laidTests := true, laidLooks := .later }
def MoveRefsUptoCardSaid : Prop := Claim7.holds Tryz.pinned (.plain (OpenSpec.upto moveRefsSpec)) moveRefsUptoCard

/-- THE SECOND FORM's CARD OF 'whittlelaw6.MoveTexts'. -/
def moveTextsUptoCard : Claim7 := { stood := { row := moveTextsUptoRow, standIns := [], harness := (true, "2b433cacc178e63a30820f62559d431eaf8aa30146beb75a4d4aff8048168789"), looks := true }, kinds := [], alts := [], laidByText := true, laidKinds := [.data, .data, .data, .data, .sentinel, .sentinel, .widerDeep, .widerDeep, .data, .pinned, .pinned], laidTests := true, laidLooks := .later }
def MoveTextsUptoCardSaid : Prop := Claim7.holds Tryz.pinned (.plain (OpenSpec.upto moveTextsSpec)) moveTextsUptoCard

/-- THE SECOND FORM's CARD OF 'whittlelaw6.MoveFills'. -/
def moveFillsUptoCard : Claim7 := { stood := { row := moveFillsUptoRow, standIns := [], harness := (true, "2b433cacc178e63a30820f62559d431eaf8aa30146beb75a4d4aff8048168789"), looks := true }, kinds := [], alts := [], laidByText := true, laidKinds := [.data, .data, .data, .data, .sentinel, .sentinel, .widerDeep, .widerDeep, .data, .pinned, .pinned], laidTests := true, laidLooks := .later }
def MoveFillsUptoCardSaid : Prop := Claim7.holds Tryz.pinned (.plain (OpenSpec.upto moveFillsSpec)) moveFillsUptoCard

/-- THE SECOND FORM's CARD OF 'whittlelaw6.MoveEach'. -/
def moveEachUptoCard : Claim7 := { stood := { row := moveEachUptoRow, standIns := [], harness := (true, "2b433cacc178e63a30820f62559d431eaf8aa30146beb75a4d4aff8048168789"), looks := true }, kinds := [], alts := [], laidByText := true, laidKinds := [.data, .data, .data, .data, .sentinel, .sentinel, .widerDeep, .widerDeep, .data, .pinned, .pinned], laidTests := true, laidLooks := .later }
def MoveEachUptoCardSaid : Prop := Claim7.holds Tryz.pinned (.plain (OpenSpec.upto moveEachSpec)) moveEachUptoCard
end Rows
end Go.Proofs.YtejbbceidnaloaaGreatDoor
