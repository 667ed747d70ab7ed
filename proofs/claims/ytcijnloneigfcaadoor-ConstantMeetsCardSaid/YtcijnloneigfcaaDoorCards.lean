/-
  DERIVED. GIVEN WITH THE SEED: THE CARDS: each row of YtcijnloneigfcaaDoorRows.lean that lists a variable, with what it lists TIED to the program's text (the seventh form; the later family's looks); each row that meets fmt, with fmt's text TOLD by the authors' own Lean function (tested against real Go, not proved from fmt's source: count such statements apart). THE CARD IS WHAT COUNTS. Prove the row's statement (the work); the ties are given (YtcijnloneigfcaaDoorTie.lean); close each card by the builder's one call (the guide's Derived/Test/ToyasCard.lean, 'card_holds'). Laid BY PROGRAM, IN A SANDBOX (cutbox-door.mjs). By AI agents, Wed Nov 11 2026. No macro, syntax, notation, axiom, sorry.
-/
import Derived.Test.YtcijnloneigfcaaDoorRows
import GoSem.ClaimSeven
namespace Go.Proofs.YtcijnloneigfcaaDoor
namespace Rows

/-- THE TIED CARD OF 'exactreallaw13.ConstantMeets'. -/
def constantMeetsCard : Claim7 := { stood := { row := constantMeetsRow, standIns := [], harness := (true, "f5648296af84ce08b6a24d8a887f89789e0c300f6bebf88ea6bb6e77bbf2becf"), looks := false }, kinds := [], alts := [], laidByText := true, laidKinds := [.data], laidTests := true, laidLooks := .later }
def ConstantMeetsCardSaid : Prop := Claim7.holds Tryd.pinned (.plain (OpenSpec.ofChange constantMeetsSpec)) constantMeetsCard

/-- THE SECOND FORM's CARD OF 'exactreallaw13.ConstantMeets'. -/
def constantMeetsUptoCard : Claim7 := { stood := { row := constantMeetsUptoRow, standIns := [], harness := (true, "f5648296af84ce08b6a24d8a887f89789e0c300f6bebf88ea6bb6e77bbf2becf"), looks := false }, kinds := [], alts := [], laidByText := true, laidKinds := [.data], laidTests := true, laidLooks := .later }
def ConstantMeetsUptoCardSaid : Prop := Claim7.holds Tryd.pinned (.plain (OpenSpec.upto constantMeetsSpec)) constantMeetsUptoCard
end Rows
end Go.Proofs.YtcijnloneigfcaaDoor
