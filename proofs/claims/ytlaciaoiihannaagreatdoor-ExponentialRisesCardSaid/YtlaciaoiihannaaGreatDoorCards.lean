/-
  DERIVED. GIVEN WITH THE SEED: THE CARDS: each row of YtlaciaoiihannaaGreatDoorRows.lean that lists a variable, with what it lists TIED to the program's text (the seventh form; the later family's looks); each row that meets fmt, with fmt's text TOLD by the authors' own Lean function (tested against real Go, not proved from fmt's source: count such statements apart). THE CARD IS WHAT COUNTS. Prove the row's statement (the work); the ties are given (YtlaciaoiihannaaGreatDoorTie.lean); close each card by the builder's one call (the guide's Derived/Test/ToyasCard.lean, 'card_holds'). Laid BY PROGRAM, IN A SANDBOX (cutbox-door.mjs). By AI agents, Wed Nov 11 2026. No macro, syntax, notation, axiom, sorry.
-/
import Derived.Test.YtlaciaoiihannaaGreatDoorRows
import GoSem.ClaimSeven
namespace Go.Proofs.YtlaciaoiihannaaGreatDoor
namespace Rows

/-- THE TIED CARD OF 'exactreallaw14.ExponentialClose'. -/
def exponentialCloseCard : Claim7 := { stood := { row := exponentialCloseRow, standIns := [], harness := (true, "e823280490d8a02a070c8d4c32526ebfeb00a9329aacf4bfb4b4cc9cbb251c47"), looks := false }, kinds := [], alts := [], laidByText := true, laidKinds := [.data], laidTests := true, laidLooks := .later }
def ExponentialCloseCardSaid : Prop := Claim7.holds Tryz.pinned (.plain (OpenSpec.ofChange exponentialCloseSpec)) exponentialCloseCard

/-- THE TIED CARD OF 'exactreallaw14.ExponentialFar'. -/
def exponentialFarCard : Claim7 := { stood := { row := exponentialFarRow, standIns := [], harness := (true, "e823280490d8a02a070c8d4c32526ebfeb00a9329aacf4bfb4b4cc9cbb251c47"), looks := false }, kinds := [], alts := [], laidByText := true, laidKinds := [.data], laidTests := true, laidLooks := .later }
def ExponentialFarCardSaid : Prop := Claim7.holds Tryz.pinned (.plain (OpenSpec.ofChange exponentialFarSpec)) exponentialFarCard

/-- THE TIED CARD OF 'exactreallaw14.ExponentialRises'. -/
def exponentialRisesCard : Claim7 := { stood := { row := exponentialRisesRow, standIns := [], harness := (true, "e823280490d8a02a070c8d4c32526ebfeb00a9329aacf4bfb4b4cc9cbb251c47"), looks := false }, kinds := [], alts := [], laidByText := true, laidKinds := [.data], laidTests := true, laidLooks := .later }
def ExponentialRisesCardSaid : Prop := Claim7.holds Tryz.pinned (.plain (OpenSpec.ofChange exponentialRisesSpec)) exponentialRisesCard

/-- THE TIED CARD OF 'exactreallaw16.ArctangentClose'. -/
def arctangentCloseCard : Claim7 := { stood := { row := arctangentCloseRow, standIns := [], harness := (true, "e823280490d8a02a070c8d4c32526ebfeb00a9329aacf4bfb4b4cc9cbb251c47"), looks := false }, kinds := [], alts := [], laidByText := true, laidKinds := [.data], laidTests := true, laidLooks := .later }
def ArctangentCloseCardSaid : Prop := Claim7.holds Tryz.pinned (.plain (OpenSpec.ofChange arctangentCloseSpec)) arctangentCloseCard

/-- THE TIED CARD OF 'exactreallaw16.ArctangentFar'. -/
def arctangentFarCard : Claim7 := { stood := { row := arctangentFarRow, standIns := [], harness := (true, "e823280490d8a02a070c8d4c32526ebfeb00a9329aacf4bfb4b4cc9cbb251c47"), looks := false }, kinds := [], alts := [], laidByText := true, laidKinds := [.data], laidTests := true, laidLooks := .later }
def ArctangentFarCardSaid : Prop := Claim7.holds Tryz.pinned (.plain (OpenSpec.ofChange arctangentFarSpec)) arctangentFarCard

/-- THE TIED CARD OF 'exactreallaw17.CircularClose'. -/
def circularCloseCard : Claim7 := { stood := { row := circularCloseRow, standIns := [], harness := (true, "e823280490d8a02a070c8d4c32526ebfeb00a9329aacf4bfb4b4cc9cbb251c47"), looks := false }, kinds := [], alts := [], laidByText := true, laidKinds := [.data], laidTests := true, laidLooks := .later }
def CircularCloseCardSaid : Prop := Claim7.holds Tryz.pinned (.plain (OpenSpec.ofChange circularCloseSpec)) circularCloseCard

/-- THE TIED CARD OF 'exactreallaw17.CircularEnds'. -/
def circularEndsCard : Claim7 := { stood := { row := circularEndsRow, standIns := [], harness := (true, "e823280490d8a02a070c8d4c32526ebfeb00a9329aacf4bfb4b4cc9cbb251c47"), looks := false }, kinds := [], alts := [], laidByText := true, laidKinds := [.data], laidTests := true, laidLooks := .later }
def CircularEndsCardSaid : Prop := Claim7.holds Tryz.pinned (.plain (OpenSpec.ofChange circularEndsSpec)) circularEndsCard

/-- THE TIED CARD OF 'exactreallaw17.CircularQuarters'. -/
def circularQuartersCard : Claim7 := { stood := { row := circularQuartersRow, standIns := [], harness := (true, "e823280490d8a02a070c8d4c32526ebfeb00a9329aacf4bfb4b4cc9cbb251c47"), looks := false }, kinds := [], alts := [], laidByText := true, laidKinds := [.data], laidTests := true, laidLooks := .later }
def CircularQuartersCardSaid : Prop := Claim7.holds Tryz.pinned (.plain (OpenSpec.ofChange circularQuartersSpec)) circularQuartersCard

/-- THE TIED CARD OF 'exactreallaw15.LogarithmInverts'. -/
def logarithmInvertsCard : Claim7 := { stood := { row := logarithmInvertsRow, standIns := [], harness := (true, "e823280490d8a02a070c8d4c32526ebfeb00a9329aacf4bfb4b4cc9cbb251c47"), looks := false }, kinds := [], alts := [], laidByText := true, laidKinds := [.data], laidTests := true, laidLooks := .later }
def LogarithmInvertsCardSaid : Prop := Claim7.holds Tryz.pinned (.plain (OpenSpec.ofChange logarithmInvertsSpec)) logarithmInvertsCard

/-- THE TIED CARD OF 'exactreallaw16.ArctangentOdd'. -/
def arctangentOddCard : Claim7 := { stood := { row := arctangentOddRow, standIns := [], harness := (true, "e823280490d8a02a070c8d4c32526ebfeb00a9329aacf4bfb4b4cc9cbb251c47"), looks := false }, kinds := [], alts := [], laidByText := true, laidKinds := [.data], laidTests := true, laidLooks := .later }
def ArctangentOddCardSaid : Prop := Claim7.holds Tryz.pinned (.plain (OpenSpec.ofChange arctangentOddSpec)) arctangentOddCard

/-- THE TIED CARD OF 'exactreallaw14.ExponentialProducts'. -/
def exponentialProductsCard : Claim7 := { stood := { row := exponentialProductsRow, standIns := [], harness := (true, "e823280490d8a02a070c8d4c32526ebfeb00a9329aacf4bfb4b4cc9cbb251c47"), looks := false }, kinds := [], alts := [], laidByText := true, laidKinds := [.data], laidTests := true, laidLooks := .later }
def ExponentialProductsCardSaid : Prop := Claim7.holds Tryz.pinned (.plain (OpenSpec.ofChange exponentialProductsSpec)) exponentialProductsCard

/-- THE TIED CARD OF 'exactreallaw16.ArctangentPi'. -/
def arctangentPiCard : Claim7 := { stood := { row := arctangentPiRow, standIns := [], harness := (true, "e823280490d8a02a070c8d4c32526ebfeb00a9329aacf4bfb4b4cc9cbb251c47"), looks := false }, kinds := [], alts := [], laidByText := true, laidKinds := [.data], laidTests := true, laidLooks := .later }
def ArctangentPiCardSaid : Prop := Claim7.holds Tryz.pinned (.plain (OpenSpec.ofChange arctangentPiSpec)) arctangentPiCard

/-- THE SECOND FORM's CARD OF 'exactreallaw14.ExponentialClose'. -/
def exponentialCloseUptoCard : Claim7 := { stood := { row := exponentialCloseUptoRow, standIns := [], harness := (true, "e823280490d8a02a070c8d4c32526ebfeb00a9329aacf4bfb4b4cc9cbb251c47"), looks := false }, kinds := [], alts := [], laidByText := true, laidKinds := [.data], laidTests := true, laidLooks := .later }
def ExponentialCloseUptoCardSaid : Prop := Claim7.holds Tryz.pinned (.plain (OpenSpec.upto exponentialCloseSpec)) exponentialCloseUptoCard

/-- THE SECOND FORM's CARD OF 'exactreallaw14.ExponentialFar'. -/
def exponentialFarUptoCard : Claim7 := { stood := { row := exponentialFarUptoRow, standIns := [], harness := (true, "e823280490d8a02a070c8d4c32526ebfeb00a9329aacf4bfb4b4cc9cbb251c47"), looks := false }, kinds := [], alts := [], laidByText := true, laidKinds := [.data], laidTests := true, laidLooks := .later }
def ExponentialFarUptoCardSaid : Prop := Claim7.holds Tryz.pinned (.plain (OpenSpec.upto exponentialFarSpec)) exponentialFarUptoCard

/-- THE SECOND FORM's CARD OF 'exactreallaw14.ExponentialRises'. -/
def exponentialRisesUptoCard : Claim7 := { stood := { row := exponentialRisesUptoRow, standIns := [], harness := (true, "e823280490d8a02a070c8d4c32526ebfeb00a9329aacf4bfb4b4cc9cbb251c47"), looks := false }, kinds := [], alts := [], laidByText := true, laidKinds := [.data], laidTests := true, laidLooks := .later }
def ExponentialRisesUptoCardSaid : Prop := Claim7.holds Tryz.pinned (.plain (OpenSpec.upto exponentialRisesSpec)) exponentialRisesUptoCard

/-- THE SECOND FORM's CARD OF 'exactreallaw16.ArctangentClose'. -/
def arctangentCloseUptoCard : Claim7 := { stood := { row := arctangentCloseUptoRow, standIns := [], harness := (true, "e823280490d8a02a070c8d4c32526ebfeb00a9329aacf4bfb4b4cc9cbb251c47"), looks := false }, kinds := [], alts := [], laidByText := true, laidKinds := [.data], laidTests := true, laidLooks := .later }
def ArctangentCloseUptoCardSaid : Prop := Claim7.holds Tryz.pinned (.plain (OpenSpec.upto arctangentCloseSpec)) arctangentCloseUptoCard

/-- THE SECOND FORM's CARD OF 'exactreallaw16.ArctangentFar'. -/
def arctangentFarUptoCard : Claim7 := { stood := { row := arctangentFarUptoRow, standIns := [], harness := (true, "e823280490d8a02a070c8d4c32526ebfeb00a9329aacf4bfb4b4cc9cbb251c47"), looks := false }, kinds := [], alts := [], laidByText := true, laidKinds := [.data], laidTests := true, laidLooks := .later }
def ArctangentFarUptoCardSaid : Prop := Claim7.holds Tryz.pinned (.plain (OpenSpec.upto arctangentFarSpec)) arctangentFarUptoCard

/-- THE SECOND FORM's CARD OF 'exactreallaw17.CircularClose'. -/
def circularCloseUptoCard : Claim7 := { stood := { row := circularCloseUptoRow, standIns := [], harness := (true, "e823280490d8a02a070c8d4c32526ebfeb00a9329aacf4bfb4b4cc9cbb251c47"), looks := false }, kinds := [], alts := [], laidByText := true, laidKinds := [.data], laidTests := true, laidLooks := .later }
def CircularCloseUptoCardSaid : Prop := Claim7.holds Tryz.pinned (.plain (OpenSpec.upto circularCloseSpec)) circularCloseUptoCard

/-- THE SECOND FORM's CARD OF 'exactreallaw17.CircularEnds'. -/
def circularEndsUptoCard : Claim7 := { stood := { row := circularEndsUptoRow, standIns := [], harness := (true, "e823280490d8a02a070c8d4c32526ebfeb00a9329aacf4bfb4b4cc9cbb251c47"), looks := false }, kinds := [], alts := [], laidByText := true, laidKinds := [.data], laidTests := true, laidLooks := .later }
def CircularEndsUptoCardSaid : Prop := Claim7.holds Tryz.pinned (.plain (OpenSpec.upto circularEndsSpec)) circularEndsUptoCard

/-- THE SECOND FORM's CARD OF 'exactreallaw17.CircularQuarters'. -/
def circularQuartersUptoCard : Claim7 := { stood := { row := circularQuartersUptoRow, standIns := [], harness := (true, "e823280490d8a02a070c8d4c32526ebfeb00a9329aacf4bfb4b4cc9cbb251c47"), looks := false }, kinds := [], alts := [], laidByText := true, laidKinds := [.data], laidTests := true, laidLooks := .later }
def CircularQuartersUptoCardSaid : Prop := Claim7.holds Tryz.pinned (.plain (OpenSpec.upto circularQuartersSpec)) circularQuartersUptoCard

/-- THE SECOND FORM's CARD OF 'exactreallaw15.LogarithmInverts'. -/
def logarithmInvertsUptoCard : Claim7 := { stood := { row := logarithmInvertsUptoRow, standIns := [], harness := (true, "e823280490d8a02a070c8d4c32526ebfeb00a9329aacf4bfb4b4cc9cbb251c47"), looks := false }, kinds := [], alts := [], laidByText := true, laidKinds := [.data], laidTests := true, laidLooks := .later }
def LogarithmInvertsUptoCardSaid : Prop := Claim7.holds Tryz.pinned (.plain (OpenSpec.upto logarithmInvertsSpec)) logarithmInvertsUptoCard

/-- THE SECOND FORM's CARD OF 'exactreallaw16.ArctangentOdd'. -/
def arctangentOddUptoCard : Claim7 := { stood := { row := arctangentOddUptoRow, standIns := [], harness := (true, "e823280490d8a02a070c8d4c32526ebfeb00a9329aacf4bfb4b4cc9cbb251c47"), looks := false }, kinds := [], alts := [], laidByText := true, laidKinds := [.data], laidTests := true, laidLooks := .later }
def ArctangentOddUptoCardSaid : Prop := Claim7.holds Tryz.pinned (.plain (OpenSpec.upto arctangentOddSpec)) arctangentOddUptoCard

/-- THE SECOND FORM's CARD OF 'exactreallaw14.ExponentialProducts'. -/
def exponentialProductsUptoCard : Claim7 := { stood := { row := exponentialProductsUptoRow, standIns := [], harness := (true, "e823280490d8a02a070c8d4c32526ebfeb00a9329aacf4bfb4b4cc9cbb251c47"), looks := false }, kinds := [], alts := [], laidByText := true, laidKinds := [.data], laidTests := true, laidLooks := .later }
def ExponentialProductsUptoCardSaid : Prop := Claim7.holds Tryz.pinned (.plain (OpenSpec.upto exponentialProductsSpec)) exponentialProductsUptoCard

/-- THE SECOND FORM's CARD OF 'exactreallaw16.ArctangentPi'. -/
def arctangentPiUptoCard : Claim7 := { stood := { row := arctangentPiUptoRow, standIns := [], harness := (true, "e823280490d8a02a070c8d4c32526ebfeb00a9329aacf4bfb4b4cc9cbb251c47"), looks := false }, kinds := [], alts := [], laidByText := true, laidKinds := [.data], laidTests := true, laidLooks := .later }
def ArctangentPiUptoCardSaid : Prop := Claim7.holds Tryz.pinned (.plain (OpenSpec.upto arctangentPiSpec)) arctangentPiUptoCard
end Rows
end Go.Proofs.YtlaciaoiihannaaGreatDoor
