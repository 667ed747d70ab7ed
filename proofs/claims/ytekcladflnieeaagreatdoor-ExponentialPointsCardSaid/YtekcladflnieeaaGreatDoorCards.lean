/-
  DERIVED. GIVEN WITH THE SEED: THE CARDS: each row of YtekcladflnieeaaGreatDoorRows.lean that lists a variable, with what it lists TIED to the program's text (the seventh form; the later family's looks); each row that meets fmt, with fmt's text TOLD by the authors' own Lean function (tested against real Go, not proved from fmt's source: count such statements apart). THE CARD IS WHAT COUNTS. Prove the row's statement (the work); the ties are given (YtekcladflnieeaaGreatDoorTie.lean); close each card by the builder's one call (the guide's Derived/Test/ToyasCard.lean, 'card_holds'). Laid BY PROGRAM, IN A SANDBOX (cutbox-door.mjs). By AI agents, Wed Nov 11 2026. No macro, syntax, notation, axiom, sorry.
-/
import Derived.Test.YtekcladflnieeaaGreatDoorRows
import GoSem.ClaimSeven
namespace Go.Proofs.YtekcladflnieeaaGreatDoor
namespace Rows

/-- THE TIED CARD OF 'exactreallaw15.LogarithmClose'. -/
def logarithmCloseCard : Claim7 := { stood := { row := logarithmCloseRow, standIns := [], harness := (true, "649e1280176d680285aa81a2195b59e5cb4989ac14740e8c8ca41fe1d2f6f4bb"), looks := false }, kinds := [], alts := [], laidByText := true, laidKinds := [.data], laidTests := true, laidLooks := .later }
def LogarithmCloseCardSaid : Prop := Claim7.holds Tryz.pinned (.plain (OpenSpec.ofChange logarithmCloseSpec)) logarithmCloseCard

/-- THE TIED CARD OF 'exactreallaw15.LogarithmFar'. -/
def logarithmFarCard : Claim7 := { stood := { row := logarithmFarRow, standIns := [], harness := (true, "649e1280176d680285aa81a2195b59e5cb4989ac14740e8c8ca41fe1d2f6f4bb"), looks := false }, kinds := [], alts := [], laidByText := true, laidKinds := [.data], laidTests := true, laidLooks := .later }
def LogarithmFarCardSaid : Prop := Claim7.holds Tryz.pinned (.plain (OpenSpec.ofChange logarithmFarSpec)) logarithmFarCard

/-- THE TIED CARD OF 'exactreallaw15.LogarithmEnds'. -/
def logarithmEndsCard : Claim7 := { stood := { row := logarithmEndsRow, standIns := [], harness := (true, "649e1280176d680285aa81a2195b59e5cb4989ac14740e8c8ca41fe1d2f6f4bb"), looks := false }, kinds := [], alts := [], laidByText := true, laidKinds := [.data], laidTests := true, laidLooks := .later }
def LogarithmEndsCardSaid : Prop := Claim7.holds Tryz.pinned (.plain (OpenSpec.ofChange logarithmEndsSpec)) logarithmEndsCard

/-- THE TIED CARD OF 'exactreallaw15.LogarithmSplits'. -/
def logarithmSplitsCard : Claim7 := { stood := { row := logarithmSplitsRow, standIns := [], harness := (true, "649e1280176d680285aa81a2195b59e5cb4989ac14740e8c8ca41fe1d2f6f4bb"), looks := false }, kinds := [], alts := [], laidByText := true, laidKinds := [.data], laidTests := true, laidLooks := .later }
def LogarithmSplitsCardSaid : Prop := Claim7.holds Tryz.pinned (.plain (OpenSpec.ofChange logarithmSplitsSpec)) logarithmSplitsCard

/-- THE TIED CARD OF 'exactreallaw14.ExponentialClose'. -/
def exponentialCloseCard : Claim7 := { stood := { row := exponentialCloseRow, standIns := [], harness := (true, "649e1280176d680285aa81a2195b59e5cb4989ac14740e8c8ca41fe1d2f6f4bb"), looks := false }, kinds := [], alts := [], laidByText := true, laidKinds := [.data], laidTests := true, laidLooks := .later }
def ExponentialCloseCardSaid : Prop := Claim7.holds Tryz.pinned (.plain (OpenSpec.ofChange exponentialCloseSpec)) exponentialCloseCard

/-- THE TIED CARD OF 'exactreallaw14.ExponentialEnds'. -/
def exponentialEndsCard : Claim7 := { stood := { row := exponentialEndsRow, standIns := [], harness := (true, "649e1280176d680285aa81a2195b59e5cb4989ac14740e8c8ca41fe1d2f6f4bb"), looks := false }, kinds := [], alts := [], laidByText := true, laidKinds := [.data], laidTests := true, laidLooks := .later }
def ExponentialEndsCardSaid : Prop := Claim7.holds Tryz.pinned (.plain (OpenSpec.ofChange exponentialEndsSpec)) exponentialEndsCard

/-- THE TIED CARD OF 'exactreallaw14.ExponentialReduces'. -/
def exponentialReducesCard : Claim7 := { stood := { row := exponentialReducesRow, standIns := [], harness := (true, "649e1280176d680285aa81a2195b59e5cb4989ac14740e8c8ca41fe1d2f6f4bb"), looks := false }, kinds := [], alts := [], laidByText := true, laidKinds := [.data], laidTests := true, laidLooks := .later }
def ExponentialReducesCardSaid : Prop := Claim7.holds Tryz.pinned (.plain (OpenSpec.ofChange exponentialReducesSpec)) exponentialReducesCard

/-- THE TIED CARD OF 'exactreallaw14.ExponentialPoints'. -/
def exponentialPointsCard : Claim7 := { stood := { row := exponentialPointsRow, standIns := [], harness := (true, "649e1280176d680285aa81a2195b59e5cb4989ac14740e8c8ca41fe1d2f6f4bb"), looks := false }, kinds := [], alts := [], laidByText := true, laidKinds := [.data], laidTests := true, laidLooks := .later }
def ExponentialPointsCardSaid : Prop := Claim7.holds Tryz.pinned (.plain (OpenSpec.ofChange exponentialPointsSpec)) exponentialPointsCard

/-- THE TIED CARD OF 'exactreallaw17.CircularEnds'. -/
def circularEndsCard : Claim7 := { stood := { row := circularEndsRow, standIns := [], harness := (true, "649e1280176d680285aa81a2195b59e5cb4989ac14740e8c8ca41fe1d2f6f4bb"), looks := false }, kinds := [], alts := [], laidByText := true, laidKinds := [.data], laidTests := true, laidLooks := .later }
def CircularEndsCardSaid : Prop := Claim7.holds Tryz.pinned (.plain (OpenSpec.ofChange circularEndsSpec)) circularEndsCard

/-- THE TIED CARD OF 'exactreallaw17.CircularQuarters'. -/
def circularQuartersCard : Claim7 := { stood := { row := circularQuartersRow, standIns := [], harness := (true, "649e1280176d680285aa81a2195b59e5cb4989ac14740e8c8ca41fe1d2f6f4bb"), looks := false }, kinds := [], alts := [], laidByText := true, laidKinds := [.data], laidTests := true, laidLooks := .later }
def CircularQuartersCardSaid : Prop := Claim7.holds Tryz.pinned (.plain (OpenSpec.ofChange circularQuartersSpec)) circularQuartersCard

/-- THE TIED CARD OF 'exactreallaw16.ArctangentOdd'. -/
def arctangentOddCard : Claim7 := { stood := { row := arctangentOddRow, standIns := [], harness := (true, "649e1280176d680285aa81a2195b59e5cb4989ac14740e8c8ca41fe1d2f6f4bb"), looks := false }, kinds := [], alts := [], laidByText := true, laidKinds := [.data], laidTests := true, laidLooks := .later }
def ArctangentOddCardSaid : Prop := Claim7.holds Tryz.pinned (.plain (OpenSpec.ofChange arctangentOddSpec)) arctangentOddCard

/-- THE TIED CARD OF 'exactreallaw16.ArctangentPi'. -/
def arctangentPiCard : Claim7 := { stood := { row := arctangentPiRow, standIns := [], harness := (true, "649e1280176d680285aa81a2195b59e5cb4989ac14740e8c8ca41fe1d2f6f4bb"), looks := false }, kinds := [], alts := [], laidByText := true, laidKinds := [.data], laidTests := true, laidLooks := .later }
def ArctangentPiCardSaid : Prop := Claim7.holds Tryz.pinned (.plain (OpenSpec.ofChange arctangentPiSpec)) arctangentPiCard

/-- THE SECOND FORM's CARD OF 'exactreallaw15.LogarithmClose'. -/
def logarithmCloseUptoCard : Claim7 := { stood := { row := logarithmCloseUptoRow, standIns := [], harness := (true, "649e1280176d680285aa81a2195b59e5cb4989ac14740e8c8ca41fe1d2f6f4bb"), looks := false }, kinds := [], alts := [], laidByText := true, laidKinds := [.data], laidTests := true, laidLooks := .later }
def LogarithmCloseUptoCardSaid : Prop := Claim7.holds Tryz.pinned (.plain (OpenSpec.upto logarithmCloseSpec)) logarithmCloseUptoCard

/-- THE SECOND FORM's CARD OF 'exactreallaw15.LogarithmFar'. -/
def logarithmFarUptoCard : Claim7 := { stood := { row := logarithmFarUptoRow, standIns := [], harness := (true, "649e1280176d680285aa81a2195b59e5cb4989ac14740e8c8ca41fe1d2f6f4bb"), looks := false }, kinds := [], alts := [], laidByText := true, laidKinds := [.data], laidTests := true, laidLooks := .later }
def LogarithmFarUptoCardSaid : Prop := Claim7.holds Tryz.pinned (.plain (OpenSpec.upto logarithmFarSpec)) logarithmFarUptoCard

/-- THE SECOND FORM's CARD OF 'exactreallaw15.LogarithmEnds'. -/
def logarithmEndsUptoCard : Claim7 := { stood := { row := logarithmEndsUptoRow, standIns := [], harness := (true, "649e1280176d680285aa81a2195b59e5cb4989ac14740e8c8ca41fe1d2f6f4bb"), looks := false }, kinds := [], alts := [], laidByText := true, laidKinds := [.data], laidTests := true, laidLooks := .later }
def LogarithmEndsUptoCardSaid : Prop := Claim7.holds Tryz.pinned (.plain (OpenSpec.upto logarithmEndsSpec)) logarithmEndsUptoCard

/-- THE SECOND FORM's CARD OF 'exactreallaw15.LogarithmSplits'. -/
def logarithmSplitsUptoCard : Claim7 := { stood := { row := logarithmSplitsUptoRow, standIns := [], harness := (true, "649e1280176d680285aa81a2195b59e5cb4989ac14740e8c8ca41fe1d2f6f4bb"), looks := false }, kinds := [], alts := [], laidByText := true, laidKinds := [.data], laidTests := true, laidLooks := .later }
def LogarithmSplitsUptoCardSaid : Prop := Claim7.holds Tryz.pinned (.plain (OpenSpec.upto logarithmSplitsSpec)) logarithmSplitsUptoCard

/-- THE SECOND FORM's CARD OF 'exactreallaw14.ExponentialClose'. -/
def exponentialCloseUptoCard : Claim7 := { stood := { row := exponentialCloseUptoRow, standIns := [], harness := (true, "649e1280176d680285aa81a2195b59e5cb4989ac14740e8c8ca41fe1d2f6f4bb"), looks := false }, kinds := [], alts := [], laidByText := true, laidKinds := [.data], laidTests := true, laidLooks := .later }
def ExponentialCloseUptoCardSaid : Prop := Claim7.holds Tryz.pinned (.plain (OpenSpec.upto exponentialCloseSpec)) exponentialCloseUptoCard

/-- THE SECOND FORM's CARD OF 'exactreallaw14.ExponentialEnds'. -/
def exponentialEndsUptoCard : Claim7 := { stood := { row := exponentialEndsUptoRow, standIns := [], harness := (true, "649e1280176d680285aa81a2195b59e5cb4989ac14740e8c8ca41fe1d2f6f4bb"), looks := false }, kinds := [], alts := [], laidByText := true, laidKinds := [.data], laidTests := true, laidLooks := .later }
def ExponentialEndsUptoCardSaid : Prop := Claim7.holds Tryz.pinned (.plain (OpenSpec.upto exponentialEndsSpec)) exponentialEndsUptoCard

/-- THE SECOND FORM's CARD OF 'exactreallaw14.ExponentialReduces'. -/
def exponentialReducesUptoCard : Claim7 := { stood := { row := exponentialReducesUptoRow, standIns := [], harness := (true, "649e1280176d680285aa81a2195b59e5cb4989ac14740e8c8ca41fe1d2f6f4bb"), looks := false }, kinds := [], alts := [], laidByText := true, laidKinds := [.data], laidTests := true, laidLooks := .later }
def ExponentialReducesUptoCardSaid : Prop := Claim7.holds Tryz.pinned (.plain (OpenSpec.upto exponentialReducesSpec)) exponentialReducesUptoCard

/-- THE SECOND FORM's CARD OF 'exactreallaw14.ExponentialPoints'. -/
def exponentialPointsUptoCard : Claim7 := { stood := { row := exponentialPointsUptoRow, standIns := [], harness := (true, "649e1280176d680285aa81a2195b59e5cb4989ac14740e8c8ca41fe1d2f6f4bb"), looks := false }, kinds := [], alts := [], laidByText := true, laidKinds := [.data], laidTests := true, laidLooks := .later }
def ExponentialPointsUptoCardSaid : Prop := Claim7.holds Tryz.pinned (.plain (OpenSpec.upto exponentialPointsSpec)) exponentialPointsUptoCard

/-- THE SECOND FORM's CARD OF 'exactreallaw17.CircularEnds'. -/
def circularEndsUptoCard : Claim7 := { stood := { row := circularEndsUptoRow, standIns := [], harness := (true, "649e1280176d680285aa81a2195b59e5cb4989ac14740e8c8ca41fe1d2f6f4bb"), looks := false }, kinds := [], alts := [], laidByText := true, laidKinds := [.data], laidTests := true, laidLooks := .later }
def CircularEndsUptoCardSaid : Prop := Claim7.holds Tryz.pinned (.plain (OpenSpec.upto circularEndsSpec)) circularEndsUptoCard

/-- THE SECOND FORM's CARD OF 'exactreallaw17.CircularQuarters'. -/
def circularQuartersUptoCard : Claim7 := { stood := { row := circularQuartersUptoRow, standIns := [], harness := (true, "649e1280176d680285aa81a2195b59e5cb4989ac14740e8c8ca41fe1d2f6f4bb"), looks := false }, kinds := [], alts := [], laidByText := true, laidKinds := [.data], laidTests := true, laidLooks := .later }
def CircularQuartersUptoCardSaid : Prop := Claim7.holds Tryz.pinned (.plain (OpenSpec.upto circularQuartersSpec)) circularQuartersUptoCard

/-- THE SECOND FORM's CARD OF 'exactreallaw16.ArctangentOdd'. -/
def arctangentOddUptoCard : Claim7 := { stood := { row := arctangentOddUptoRow, standIns := [], harness := (true, "649e1280176d680285aa81a2195b59e5cb4989ac14740e8c8ca41fe1d2f6f4bb"), looks := false }, kinds := [], alts := [], laidByText := true, laidKinds := [.data], laidTests := true, laidLooks := .later }
def ArctangentOddUptoCardSaid : Prop := Claim7.holds Tryz.pinned (.plain (OpenSpec.upto arctangentOddSpec)) arctangentOddUptoCard

/-- THE SECOND FORM's CARD OF 'exactreallaw16.ArctangentPi'. -/
def arctangentPiUptoCard : Claim7 := { stood := { row := arctangentPiUptoRow, standIns := [], harness := (true, "649e1280176d680285aa81a2195b59e5cb4989ac14740e8c8ca41fe1d2f6f4bb"), looks := false }, kinds := [], alts := [], laidByText := true, laidKinds := [.data], laidTests := true, laidLooks := .later }
def ArctangentPiUptoCardSaid : Prop := Claim7.holds Tryz.pinned (.plain (OpenSpec.upto arctangentPiSpec)) arctangentPiUptoCard
end Rows
end Go.Proofs.YtekcladflnieeaaGreatDoor
