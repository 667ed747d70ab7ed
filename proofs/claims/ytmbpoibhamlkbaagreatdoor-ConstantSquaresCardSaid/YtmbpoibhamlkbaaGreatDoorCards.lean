/-
  DERIVED. GIVEN WITH THE SEED: THE CARDS: each row of YtmbpoibhamlkbaaGreatDoorRows.lean that lists a variable, with what it lists TIED to the program's text (the seventh form; the later family's looks); each row that meets fmt, with fmt's text TOLD by the authors' own Lean function (tested against real Go, not proved from fmt's source: count such statements apart). THE CARD IS WHAT COUNTS. Prove the row's statement (the work); the ties are given (YtmbpoibhamlkbaaGreatDoorTie.lean); close each card by the builder's one call (the guide's Derived/Test/ToyasCard.lean, 'card_holds'). Laid BY PROGRAM, IN A SANDBOX (cutbox-door.mjs). By AI agents, Wed Nov 11 2026. No macro, syntax, notation, axiom, sorry.
-/
import Derived.Test.YtmbpoibhamlkbaaGreatDoorRows
import GoSem.ClaimSeven
namespace Go.Proofs.YtmbpoibhamlkbaaGreatDoor
namespace Rows

/-- THE TIED CARD OF 'exactreallaw11.ArithDivides'. -/
def arithDividesCard : Claim7 := { stood := { row := arithDividesRow, standIns := [], harness := (true, "d076000f1e26926c79fd116d04bffeae66e15c637cbabb07c363d6a6aac7bda5"), looks := false }, kinds := [], alts := [], laidByText := true, laidKinds := [.data], laidTests := true, laidLooks := .later }
def ArithDividesCardSaid : Prop := Claim7.holds Tryz.pinned (.plain (OpenSpec.ofChange arithDividesSpec)) arithDividesCard

/-- THE TIED CARD OF 'exactreallaw11.ArithConst'. -/
def arithConstCard : Claim7 := { stood := { row := arithConstRow, standIns := [], harness := (true, "d076000f1e26926c79fd116d04bffeae66e15c637cbabb07c363d6a6aac7bda5"), looks := false }, kinds := [], alts := [], laidByText := true, laidKinds := [.data], laidTests := true, laidLooks := .later }
def ArithConstCardSaid : Prop := Claim7.holds Tryz.pinned (.plain (OpenSpec.ofChange arithConstSpec)) arithConstCard

/-- THE TIED CARD OF 'exactreallaw12.RadicalRoots'. -/
def radicalRootsCard : Claim7 := { stood := { row := radicalRootsRow, standIns := [], harness := (true, "d076000f1e26926c79fd116d04bffeae66e15c637cbabb07c363d6a6aac7bda5"), looks := false }, kinds := [], alts := [], laidByText := true, laidKinds := [.data], laidTests := true, laidLooks := .later }
def RadicalRootsCardSaid : Prop := Claim7.holds Tryz.pinned (.plain (OpenSpec.ofChange radicalRootsSpec)) radicalRootsCard

/-- THE TIED CARD OF 'exactreallaw12.RadicalBounds'. -/
def radicalBoundsCard : Claim7 := { stood := { row := radicalBoundsRow, standIns := [], harness := (true, "d076000f1e26926c79fd116d04bffeae66e15c637cbabb07c363d6a6aac7bda5"), looks := false }, kinds := [], alts := [], laidByText := true, laidKinds := [.data], laidTests := true, laidLooks := .later }
def RadicalBoundsCardSaid : Prop := Claim7.holds Tryz.pinned (.plain (OpenSpec.ofChange radicalBoundsSpec)) radicalBoundsCard

/-- THE TIED CARD OF 'exactreallaw12.RadicalPowers'. -/
def radicalPowersCard : Claim7 := { stood := { row := radicalPowersRow, standIns := [], harness := (true, "d076000f1e26926c79fd116d04bffeae66e15c637cbabb07c363d6a6aac7bda5"), looks := false }, kinds := [], alts := [], laidByText := true, laidKinds := [.data], laidTests := true, laidLooks := .later }
def RadicalPowersCardSaid : Prop := Claim7.holds Tryz.pinned (.plain (OpenSpec.ofChange radicalPowersSpec)) radicalPowersCard

/-- THE TIED CARD OF 'exactreallaw12.RadicalPoints'. -/
def radicalPointsCard : Claim7 := { stood := { row := radicalPointsRow, standIns := [], harness := (true, "d076000f1e26926c79fd116d04bffeae66e15c637cbabb07c363d6a6aac7bda5"), looks := false }, kinds := [], alts := [], laidByText := true, laidKinds := [.data], laidTests := true, laidLooks := .later }
def RadicalPointsCardSaid : Prop := Claim7.holds Tryz.pinned (.plain (OpenSpec.ofChange radicalPointsSpec)) radicalPointsCard

/-- THE TIED CARD OF 'exactreallaw11.ArithContains'. -/
def arithContainsCard : Claim7 := { stood := { row := arithContainsRow, standIns := [], harness := (true, "d076000f1e26926c79fd116d04bffeae66e15c637cbabb07c363d6a6aac7bda5"), looks := false }, kinds := [], alts := [], laidByText := true, laidKinds := [.data], laidTests := true, laidLooks := .later }
def ArithContainsCardSaid : Prop := Claim7.holds Tryz.pinned (.plain (OpenSpec.ofChange arithContainsSpec)) arithContainsCard

/-- THE TIED CARD OF 'exactreallaw11.ArithLarge'. -/
def arithLargeCard : Claim7 := { stood := { row := arithLargeRow, standIns := [], harness := (true, "d076000f1e26926c79fd116d04bffeae66e15c637cbabb07c363d6a6aac7bda5"), looks := false }, kinds := [], alts := [], laidByText := true, laidKinds := [.data], laidTests := true, laidLooks := .later }
def ArithLargeCardSaid : Prop := Claim7.holds Tryz.pinned (.plain (OpenSpec.ofChange arithLargeSpec)) arithLargeCard

/-- THE TIED CARD OF 'exactreallaw11.ArithShrinks'. -/
def arithShrinksCard : Claim7 := { stood := { row := arithShrinksRow, standIns := [], harness := (true, "d076000f1e26926c79fd116d04bffeae66e15c637cbabb07c363d6a6aac7bda5"), looks := false }, kinds := [], alts := [], laidByText := true, laidKinds := [.data], laidTests := true, laidLooks := .later }
def ArithShrinksCardSaid : Prop := Claim7.holds Tryz.pinned (.plain (OpenSpec.ofChange arithShrinksSpec)) arithShrinksCard

/-- THE TIED CARD OF 'exactreallaw11.ArithExact'. -/
def arithExactCard : Claim7 := { stood := { row := arithExactRow, standIns := [], harness := (true, "d076000f1e26926c79fd116d04bffeae66e15c637cbabb07c363d6a6aac7bda5"), looks := false }, kinds := [], alts := [], laidByText := true, laidKinds := [.data], laidTests := true, laidLooks := .later }
def ArithExactCardSaid : Prop := Claim7.holds Tryz.pinned (.plain (OpenSpec.ofChange arithExactSpec)) arithExactCard

/-- THE TIED CARD OF 'exactreallaw12.RadicalProducts'. -/
def radicalProductsCard : Claim7 := { stood := { row := radicalProductsRow, standIns := [], harness := (true, "d076000f1e26926c79fd116d04bffeae66e15c637cbabb07c363d6a6aac7bda5"), looks := false }, kinds := [], alts := [], laidByText := true, laidKinds := [.data], laidTests := true, laidLooks := .later }
def RadicalProductsCardSaid : Prop := Claim7.holds Tryz.pinned (.plain (OpenSpec.ofChange radicalProductsSpec)) radicalProductsCard

/-- THE TIED CARD OF 'exactreallaw13.ConstantSquares'. -/
def constantSquaresCard : Claim7 := { stood := { row := constantSquaresRow, standIns := [], harness := (true, "d076000f1e26926c79fd116d04bffeae66e15c637cbabb07c363d6a6aac7bda5"), looks := false }, kinds := [], alts := [], laidByText := true, laidKinds := [.data], laidTests := true, laidLooks := .later }
def ConstantSquaresCardSaid : Prop := Claim7.holds Tryz.pinned (.plain (OpenSpec.ofChange constantSquaresSpec)) constantSquaresCard

/-- THE SECOND FORM's CARD OF 'exactreallaw11.ArithDivides'. -/
def arithDividesUptoCard : Claim7 := { stood := { row := arithDividesUptoRow, standIns := [], harness := (true, "d076000f1e26926c79fd116d04bffeae66e15c637cbabb07c363d6a6aac7bda5"), looks := false }, kinds := [], alts := [], laidByText := true, laidKinds := [.data], laidTests := true, laidLooks := .later }
def ArithDividesUptoCardSaid : Prop := Claim7.holds Tryz.pinned (.plain (OpenSpec.upto arithDividesSpec)) arithDividesUptoCard

/-- THE SECOND FORM's CARD OF 'exactreallaw11.ArithConst'. -/
def arithConstUptoCard : Claim7 := { stood := { row := arithConstUptoRow, standIns := [], harness := (true, "d076000f1e26926c79fd116d04bffeae66e15c637cbabb07c363d6a6aac7bda5"), looks := false }, kinds := [], alts := [], laidByText := true, laidKinds := [.data], laidTests := true, laidLooks := .later }
def ArithConstUptoCardSaid : Prop := Claim7.holds Tryz.pinned (.plain (OpenSpec.upto arithConstSpec)) arithConstUptoCard

/-- THE SECOND FORM's CARD OF 'exactreallaw12.RadicalRoots'. -/
def radicalRootsUptoCard : Claim7 := { stood := { row := radicalRootsUptoRow, standIns := [], harness := (true, "d076000f1e26926c79fd116d04bffeae66e15c637cbabb07c363d6a6aac7bda5"), looks := false }, kinds := [], alts := [], laidByText := true, laidKinds := [.data], laidTests := true, laidLooks := .later }
def RadicalRootsUptoCardSaid : Prop := Claim7.holds Tryz.pinned (.plain (OpenSpec.upto radicalRootsSpec)) radicalRootsUptoCard

/-- THE SECOND FORM's CARD OF 'exactreallaw12.RadicalBounds'. -/
def radicalBoundsUptoCard : Claim7 := { stood := { row := radicalBoundsUptoRow, standIns := [], harness := (true, "d076000f1e26926c79fd116d04bffeae66e15c637cbabb07c363d6a6aac7bda5"), looks := false }, kinds := [], alts := [], laidByText := true, laidKinds := [.data], laidTests := true, laidLooks := .later }
def RadicalBoundsUptoCardSaid : Prop := Claim7.holds Tryz.pinned (.plain (OpenSpec.upto radicalBoundsSpec)) radicalBoundsUptoCard

/-- THE SECOND FORM's CARD OF 'exactreallaw12.RadicalPowers'. -/
def radicalPowersUptoCard : Claim7 := { stood := { row := radicalPowersUptoRow, standIns := [], harness := (true, "d076000f1e26926c79fd116d04bffeae66e15c637cbabb07c363d6a6aac7bda5"), looks := false }, kinds := [], alts := [], laidByText := true, laidKinds := [.data], laidTests := true, laidLooks := .later }
def RadicalPowersUptoCardSaid : Prop := Claim7.holds Tryz.pinned (.plain (OpenSpec.upto radicalPowersSpec)) radicalPowersUptoCard

/-- THE SECOND FORM's CARD OF 'exactreallaw12.RadicalPoints'. -/
def radicalPointsUptoCard : Claim7 := { stood := { row := radicalPointsUptoRow, standIns := [], harness := (true, "d076000f1e26926c79fd116d04bffeae66e15c637cbabb07c363d6a6aac7bda5"), looks := false }, kinds := [], alts := [], laidByText := true, laidKinds := [.data], laidTests := true, laidLooks := .later }
def RadicalPointsUptoCardSaid : Prop := Claim7.holds Tryz.pinned (.plain (OpenSpec.upto radicalPointsSpec)) radicalPointsUptoCard

/-- THE SECOND FORM's CARD OF 'exactreallaw11.ArithContains'. -/
def arithContainsUptoCard : Claim7 := { stood := { row := arithContainsUptoRow, standIns := [], harness := (true, "d076000f1e26926c79fd116d04bffeae66e15c637cbabb07c363d6a6aac7bda5"), looks := false }, kinds := [], alts := [], laidByText := true, laidKinds := [.data], laidTests := true, laidLooks := .later }
def ArithContainsUptoCardSaid : Prop := Claim7.holds Tryz.pinned (.plain (OpenSpec.upto arithContainsSpec)) arithContainsUptoCard

/-- THE SECOND FORM's CARD OF 'exactreallaw11.ArithLarge'. -/
def arithLargeUptoCard : Claim7 := { stood := { row := arithLargeUptoRow, standIns := [], harness := (true, "d076000f1e26926c79fd116d04bffeae66e15c637cbabb07c363d6a6aac7bda5"), looks := false }, kinds := [], alts := [], laidByText := true, laidKinds := [.data], laidTests := true, laidLooks := .later }
def ArithLargeUptoCardSaid : Prop := Claim7.holds Tryz.pinned (.plain (OpenSpec.upto arithLargeSpec)) arithLargeUptoCard

/-- THE SECOND FORM's CARD OF 'exactreallaw11.ArithShrinks'. -/
def arithShrinksUptoCard : Claim7 := { stood := { row := arithShrinksUptoRow, standIns := [], harness := (true, "d076000f1e26926c79fd116d04bffeae66e15c637cbabb07c363d6a6aac7bda5"), looks := false }, kinds := [], alts := [], laidByText := true, laidKinds := [.data], laidTests := true, laidLooks := .later }
def ArithShrinksUptoCardSaid : Prop := Claim7.holds Tryz.pinned (.plain (OpenSpec.upto arithShrinksSpec)) arithShrinksUptoCard

/-- THE SECOND FORM's CARD OF 'exactreallaw11.ArithExact'. -/
def arithExactUptoCard : Claim7 := { stood := { row := arithExactUptoRow, standIns := [], harness := (true, "d076000f1e26926c79fd116d04bffeae66e15c637cbabb07c363d6a6aac7bda5"), looks := false }, kinds := [], alts := [], laidByText := true, laidKinds := [.data], laidTests := true, laidLooks := .later }
def ArithExactUptoCardSaid : Prop := Claim7.holds Tryz.pinned (.plain (OpenSpec.upto arithExactSpec)) arithExactUptoCard

/-- THE SECOND FORM's CARD OF 'exactreallaw12.RadicalProducts'. -/
def radicalProductsUptoCard : Claim7 := { stood := { row := radicalProductsUptoRow, standIns := [], harness := (true, "d076000f1e26926c79fd116d04bffeae66e15c637cbabb07c363d6a6aac7bda5"), looks := false }, kinds := [], alts := [], laidByText := true, laidKinds := [.data], laidTests := true, laidLooks := .later }
def RadicalProductsUptoCardSaid : Prop := Claim7.holds Tryz.pinned (.plain (OpenSpec.upto radicalProductsSpec)) radicalProductsUptoCard

/-- THE SECOND FORM's CARD OF 'exactreallaw13.ConstantSquares'. -/
def constantSquaresUptoCard : Claim7 := { stood := { row := constantSquaresUptoRow, standIns := [], harness := (true, "d076000f1e26926c79fd116d04bffeae66e15c637cbabb07c363d6a6aac7bda5"), looks := false }, kinds := [], alts := [], laidByText := true, laidKinds := [.data], laidTests := true, laidLooks := .later }
def ConstantSquaresUptoCardSaid : Prop := Claim7.holds Tryz.pinned (.plain (OpenSpec.upto constantSquaresSpec)) constantSquaresUptoCard
end Rows
end Go.Proofs.YtmbpoibhamlkbaaGreatDoor
