/-
  DERIVED. GIVEN WITH THE SEED: THE CARDS: each row of YtkkbddkpggjgpaaGreatDoorRows.lean that lists a variable, with what it lists TIED to the program's text (the seventh form; the later family's looks); each row that meets fmt, with fmt's text TOLD by the authors' own Lean function (tested against real Go, not proved from fmt's source: count such statements apart). THE CARD IS WHAT COUNTS. Prove the row's statement (the work); the ties are given (YtkkbddkpggjgpaaGreatDoorTie.lean); close each card by the builder's one call (the guide's Derived/Test/ToyasCard.lean, 'card_holds'). Laid BY PROGRAM, IN A SANDBOX (cutbox-door.mjs). By AI agents, Wed Nov 11 2026. No macro, syntax, notation, axiom, sorry.
-/
import Derived.Test.YtkkbddkpggjgpaaGreatDoorRows
import GoSem.ClaimSeven
namespace Go.Proofs.YtkkbddkpggjgpaaGreatDoor
namespace Rows

/-- THE TIED CARD OF 'exactreallaw16.ArctangentClose'. -/
def arctangentCloseCard : Claim7 := { stood := { row := arctangentCloseRow, standIns := [], harness := (true, "bf3c1a5701d0c1afc2963d9014f130f32f4ab302915ce1bba403bc62f0a42e35"), looks := false }, kinds := [], alts := [], laidByText := true, laidKinds := [.data], laidTests := true, laidLooks := .later }
def ArctangentCloseCardSaid : Prop := Claim7.holds Tryz.pinned (.plain (OpenSpec.ofChange arctangentCloseSpec)) arctangentCloseCard

/-- THE TIED CARD OF 'exactreallaw16.ArctangentFar'. -/
def arctangentFarCard : Claim7 := { stood := { row := arctangentFarRow, standIns := [], harness := (true, "bf3c1a5701d0c1afc2963d9014f130f32f4ab302915ce1bba403bc62f0a42e35"), looks := false }, kinds := [], alts := [], laidByText := true, laidKinds := [.data], laidTests := true, laidLooks := .later }
def ArctangentFarCardSaid : Prop := Claim7.holds Tryz.pinned (.plain (OpenSpec.ofChange arctangentFarSpec)) arctangentFarCard

/-- THE TIED CARD OF 'exactreallaw16.ArctangentRises'. -/
def arctangentRisesCard : Claim7 := { stood := { row := arctangentRisesRow, standIns := [], harness := (true, "bf3c1a5701d0c1afc2963d9014f130f32f4ab302915ce1bba403bc62f0a42e35"), looks := false }, kinds := [], alts := [], laidByText := true, laidKinds := [.data], laidTests := true, laidLooks := .later }
def ArctangentRisesCardSaid : Prop := Claim7.holds Tryz.pinned (.plain (OpenSpec.ofChange arctangentRisesSpec)) arctangentRisesCard

/-- THE TIED CARD OF 'exactreallaw15.LogarithmInverts'. -/
def logarithmInvertsCard : Claim7 := { stood := { row := logarithmInvertsRow, standIns := [], harness := (true, "bf3c1a5701d0c1afc2963d9014f130f32f4ab302915ce1bba403bc62f0a42e35"), looks := false }, kinds := [], alts := [], laidByText := true, laidKinds := [.data], laidTests := true, laidLooks := .later }
def LogarithmInvertsCardSaid : Prop := Claim7.holds Tryz.pinned (.plain (OpenSpec.ofChange logarithmInvertsSpec)) logarithmInvertsCard

/-- THE TIED CARD OF 'exactreallaw16.ArctangentRecips'. -/
def arctangentRecipsCard : Claim7 := { stood := { row := arctangentRecipsRow, standIns := [], harness := (true, "bf3c1a5701d0c1afc2963d9014f130f32f4ab302915ce1bba403bc62f0a42e35"), looks := false }, kinds := [], alts := [], laidByText := true, laidKinds := [.data], laidTests := true, laidLooks := .later }
def ArctangentRecipsCardSaid : Prop := Claim7.holds Tryz.pinned (.plain (OpenSpec.ofChange arctangentRecipsSpec)) arctangentRecipsCard

/-- THE TIED CARD OF 'exactreallaw16.ArctangentOdd'. -/
def arctangentOddCard : Claim7 := { stood := { row := arctangentOddRow, standIns := [], harness := (true, "bf3c1a5701d0c1afc2963d9014f130f32f4ab302915ce1bba403bc62f0a42e35"), looks := false }, kinds := [], alts := [], laidByText := true, laidKinds := [.data], laidTests := true, laidLooks := .later }
def ArctangentOddCardSaid : Prop := Claim7.holds Tryz.pinned (.plain (OpenSpec.ofChange arctangentOddSpec)) arctangentOddCard

/-- THE TIED CARD OF 'exactreallaw15.LogarithmSums'. -/
def logarithmSumsCard : Claim7 := { stood := { row := logarithmSumsRow, standIns := [], harness := (true, "bf3c1a5701d0c1afc2963d9014f130f32f4ab302915ce1bba403bc62f0a42e35"), looks := false }, kinds := [], alts := [], laidByText := true, laidKinds := [.data], laidTests := true, laidLooks := .later }
def LogarithmSumsCardSaid : Prop := Claim7.holds Tryz.pinned (.plain (OpenSpec.ofChange logarithmSumsSpec)) logarithmSumsCard

/-- THE TIED CARD OF 'exactreallaw16.ArctangentPi'. -/
def arctangentPiCard : Claim7 := { stood := { row := arctangentPiRow, standIns := [], harness := (true, "bf3c1a5701d0c1afc2963d9014f130f32f4ab302915ce1bba403bc62f0a42e35"), looks := false }, kinds := [], alts := [], laidByText := true, laidKinds := [.data], laidTests := true, laidLooks := .later }
def ArctangentPiCardSaid : Prop := Claim7.holds Tryz.pinned (.plain (OpenSpec.ofChange arctangentPiSpec)) arctangentPiCard

/-- THE SECOND FORM's CARD OF 'exactreallaw16.ArctangentClose'. -/
def arctangentCloseUptoCard : Claim7 := { stood := { row := arctangentCloseUptoRow, standIns := [], harness := (true, "bf3c1a5701d0c1afc2963d9014f130f32f4ab302915ce1bba403bc62f0a42e35"), looks := false }, kinds := [], alts := [], laidByText := true, laidKinds := [.data], laidTests := true, laidLooks := .later }
def ArctangentCloseUptoCardSaid : Prop := Claim7.holds Tryz.pinned (.plain (OpenSpec.upto arctangentCloseSpec)) arctangentCloseUptoCard

/-- THE SECOND FORM's CARD OF 'exactreallaw16.ArctangentFar'. -/
def arctangentFarUptoCard : Claim7 := { stood := { row := arctangentFarUptoRow, standIns := [], harness := (true, "bf3c1a5701d0c1afc2963d9014f130f32f4ab302915ce1bba403bc62f0a42e35"), looks := false }, kinds := [], alts := [], laidByText := true, laidKinds := [.data], laidTests := true, laidLooks := .later }
def ArctangentFarUptoCardSaid : Prop := Claim7.holds Tryz.pinned (.plain (OpenSpec.upto arctangentFarSpec)) arctangentFarUptoCard

/-- THE SECOND FORM's CARD OF 'exactreallaw16.ArctangentRises'. -/
def arctangentRisesUptoCard : Claim7 := { stood := { row := arctangentRisesUptoRow, standIns := [], harness := (true, "bf3c1a5701d0c1afc2963d9014f130f32f4ab302915ce1bba403bc62f0a42e35"), looks := false }, kinds := [], alts := [], laidByText := true, laidKinds := [.data], laidTests := true, laidLooks := .later }
def ArctangentRisesUptoCardSaid : Prop := Claim7.holds Tryz.pinned (.plain (OpenSpec.upto arctangentRisesSpec)) arctangentRisesUptoCard

/-- THE SECOND FORM's CARD OF 'exactreallaw15.LogarithmInverts'. -/
def logarithmInvertsUptoCard : Claim7 := { stood := { row := logarithmInvertsUptoRow, standIns := [], harness := (true, "bf3c1a5701d0c1afc2963d9014f130f32f4ab302915ce1bba403bc62f0a42e35"), looks := false }, kinds := [], alts := [], laidByText := true, laidKinds := [.data], laidTests := true, laidLooks := .later }
def LogarithmInvertsUptoCardSaid : Prop := Claim7.holds Tryz.pinned (.plain (OpenSpec.upto logarithmInvertsSpec)) logarithmInvertsUptoCard

/-- THE SECOND FORM's CARD OF 'exactreallaw16.ArctangentRecips'. -/
def arctangentRecipsUptoCard : Claim7 := { stood := { row := arctangentRecipsUptoRow, standIns := [], harness := (true, "bf3c1a5701d0c1afc2963d9014f130f32f4ab302915ce1bba403bc62f0a42e35"), looks := false }, kinds := [], alts := [], laidByText := true, laidKinds := [.data], laidTests := true, laidLooks := .later }
def ArctangentRecipsUptoCardSaid : Prop := Claim7.holds Tryz.pinned (.plain (OpenSpec.upto arctangentRecipsSpec)) arctangentRecipsUptoCard

/-- THE SECOND FORM's CARD OF 'exactreallaw16.ArctangentOdd'. -/
def arctangentOddUptoCard : Claim7 := { stood := { row := arctangentOddUptoRow, standIns := [], harness := (true, "bf3c1a5701d0c1afc2963d9014f130f32f4ab302915ce1bba403bc62f0a42e35"), looks := false }, kinds := [], alts := [], laidByText := true, laidKinds := [.data], laidTests := true, laidLooks := .later }
def ArctangentOddUptoCardSaid : Prop := Claim7.holds Tryz.pinned (.plain (OpenSpec.upto arctangentOddSpec)) arctangentOddUptoCard

/-- THE SECOND FORM's CARD OF 'exactreallaw15.LogarithmSums'. -/
def logarithmSumsUptoCard : Claim7 := { stood := { row := logarithmSumsUptoRow, standIns := [], harness := (true, "bf3c1a5701d0c1afc2963d9014f130f32f4ab302915ce1bba403bc62f0a42e35"), looks := false }, kinds := [], alts := [], laidByText := true, laidKinds := [.data], laidTests := true, laidLooks := .later }
def LogarithmSumsUptoCardSaid : Prop := Claim7.holds Tryz.pinned (.plain (OpenSpec.upto logarithmSumsSpec)) logarithmSumsUptoCard

/-- THE SECOND FORM's CARD OF 'exactreallaw16.ArctangentPi'. -/
def arctangentPiUptoCard : Claim7 := { stood := { row := arctangentPiUptoRow, standIns := [], harness := (true, "bf3c1a5701d0c1afc2963d9014f130f32f4ab302915ce1bba403bc62f0a42e35"), looks := false }, kinds := [], alts := [], laidByText := true, laidKinds := [.data], laidTests := true, laidLooks := .later }
def ArctangentPiUptoCardSaid : Prop := Claim7.holds Tryz.pinned (.plain (OpenSpec.upto arctangentPiSpec)) arctangentPiUptoCard
end Rows
end Go.Proofs.YtkkbddkpggjgpaaGreatDoor
