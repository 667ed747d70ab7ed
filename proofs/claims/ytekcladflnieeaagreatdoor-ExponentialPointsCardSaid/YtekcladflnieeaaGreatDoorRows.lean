/-
  NARROWER THAN 'FOR EVERY INPUT', by the rows' own cells (each row's printed sentence says how): LogarithmClose: laid · LogarithmFar: laid · LogarithmEnds: laid · LogarithmSplits: laid · ExponentialClose: laid · ExponentialEnds: laid · ExponentialReduces: laid · ExponentialPoints: laid · CircularEnds: laid · CircularQuarters: laid · ArctangentOdd: laid · ArctangentPi: laid.
  DERIVED. THE GIVEN ROWS OF THIS SEAT. 12 by the template 'for every input the law returns true; each argument reads behind the call as it read before'; 0 by the template 'total and deterministic' (their statements: YtekcladflnieeaaGreatDoorTotals.lean).
  GIVEN WITH THE SEED: the statements are not yours to turn. If you find one false, say at which input.
  Laid BY PROGRAM, IN A SANDBOX (cutbox-rows.mjs): the forced cells as the released guide's own fill.sh prints them over the translation 0fcd9e2de48917eb… (all of the seat's roots in one cut). By AI agents, Wed Nov 11 2026. No macro, syntax, notation, axiom, sorry.
-/
import Derived.Test.YtekcladflnieeaaGreatDoorChecked
import GoSem.Claim
import GoSem.ClaimJoined
import GoSem.ClaimMapViews
import Derived.JoinedTies
import Derived.KernelRfl
namespace Go.Proofs.YtekcladflnieeaaGreatDoor
/- THE CELL 'sum', in the pinned program and in every row, IS THE sha256 OF THE DUMP (.gsa) THAT YtekcladflnieeaaGreatDoorProg.lean LOADS. Nothing in Lean hashes anything: it is a label: what it is worth is what the hold of that sum in a sandbox is worth. -/
noncomputable def Tryz.pinned : Pinned := { name := "ytekcladflnieeaagreatdoor", sum := "0fcd9e2de48917ebd874d70ec5f1ec0165d71d0498c0947f4346f598596cf7b8", checked := Tryz.checked }
namespace Rows
def none {H : Type} : Left H := { results := [], args := [] }

/- WHAT THE LISTED PACKAGE-LEVEL VARIABLES READ AS WHEN THE CALL BEGINS. Each datum BY PROGRAM (the guide's laid-datum.mjs) off the statement by which the dump's own 'gosem.cut.vars' lays the variable. In a bare row this is a premise. The card (YtekcladflnieeaaGreatDoorCards.lean) ties it to the program's text. -/
def laid_math_bits_deBruijn32tab {H : Type} : DataW H := .agg [.lit (.int .u8 0), .lit (.int .u8 1), .lit (.int .u8 28), .lit (.int .u8 2), .lit (.int .u8 29), .lit (.int .u8 14), .lit (.int .u8 24), .lit (.int .u8 3), .lit (.int .u8 30), .lit (.int .u8 22), .lit (.int .u8 20), .lit (.int .u8 15), .lit (.int .u8 25), .lit (.int .u8 17), .lit (.int .u8 4), .lit (.int .u8 8), .lit (.int .u8 31), .lit (.int .u8 27), .lit (.int .u8 13), .lit (.int .u8 23), .lit (.int .u8 21), .lit (.int .u8 19), .lit (.int .u8 16), .lit (.int .u8 7), .lit (.int .u8 26), .lit (.int .u8 12), .lit (.int .u8 18), .lit (.int .u8 6), .lit (.int .u8 11), .lit (.int .u8 5), .lit (.int .u8 10), .lit (.int .u8 9)]

/-- 'exactreallaw15.LogarithmClose': WHATEVER THE INPUT: true; the input reads as it did. -/
def logarithmCloseSpec : ChangeSpec := { name := "logarithmClose", fn := fun _ => fun
  | [d1, d2, d3] => { results := [.lit (.bool true)], args := [d1, d2, d3] }
  | _ => none }
def logarithmCloseRow : OpenClaim := { program := "ytekcladflnieeaagreatdoor", sum := "0fcd9e2de48917ebd874d70ec5f1ec0165d71d0498c0947f4346f598596cf7b8", func := "exactreal/exactreallaw15.LogarithmClose", spec := "logarithmClose", unfollowed := true, recurses := true, named := ["math/bits.deBruijn32tab"], apart := false, laid := [("math/bits.deBruijn32tab", laid_math_bits_deBruijn32tab)] }
def LogarithmCloseSaid : Prop := logarithmCloseRow.holds Tryz.pinned (OpenSpec.ofChange logarithmCloseSpec)

/-- ITS FALSE NEIGHBOUR: 'it returns false'. Refute it at one input. -/
def logarithmCloseWrong : ChangeSpec := { name := "logarithmClose", fn := fun _ => fun
  | [d1, d2, d3] => { results := [.lit (.bool false)], args := [d1, d2, d3] }
  | _ => none }
def LogarithmCloseWrongFalsely : Prop := logarithmCloseRow.holds Tryz.pinned (OpenSpec.ofChange logarithmCloseWrong)

/-- 'exactreallaw15.LogarithmFar': WHATEVER THE INPUT: true; the input reads as it did. -/
def logarithmFarSpec : ChangeSpec := { name := "logarithmFar", fn := fun _ => fun
  | [d1, d2, d3] => { results := [.lit (.bool true)], args := [d1, d2, d3] }
  | _ => none }
def logarithmFarRow : OpenClaim := { program := "ytekcladflnieeaagreatdoor", sum := "0fcd9e2de48917ebd874d70ec5f1ec0165d71d0498c0947f4346f598596cf7b8", func := "exactreal/exactreallaw15.LogarithmFar", spec := "logarithmFar", unfollowed := true, recurses := true, named := ["math/bits.deBruijn32tab"], apart := false, laid := [("math/bits.deBruijn32tab", laid_math_bits_deBruijn32tab)] }
def LogarithmFarSaid : Prop := logarithmFarRow.holds Tryz.pinned (OpenSpec.ofChange logarithmFarSpec)

/-- ITS FALSE NEIGHBOUR: 'it returns false'. Refute it at one input. -/
def logarithmFarWrong : ChangeSpec := { name := "logarithmFar", fn := fun _ => fun
  | [d1, d2, d3] => { results := [.lit (.bool false)], args := [d1, d2, d3] }
  | _ => none }
def LogarithmFarWrongFalsely : Prop := logarithmFarRow.holds Tryz.pinned (OpenSpec.ofChange logarithmFarWrong)

/-- 'exactreallaw15.LogarithmEnds': WHATEVER THE INPUT: true; the input reads as it did. -/
def logarithmEndsSpec : ChangeSpec := { name := "logarithmEnds", fn := fun _ => fun
  | [d1, d2] => { results := [.lit (.bool true)], args := [d1, d2] }
  | _ => none }
def logarithmEndsRow : OpenClaim := { program := "ytekcladflnieeaagreatdoor", sum := "0fcd9e2de48917ebd874d70ec5f1ec0165d71d0498c0947f4346f598596cf7b8", func := "exactreal/exactreallaw15.LogarithmEnds", spec := "logarithmEnds", unfollowed := true, recurses := true, named := ["math/bits.deBruijn32tab"], apart := false, laid := [("math/bits.deBruijn32tab", laid_math_bits_deBruijn32tab)] }
def LogarithmEndsSaid : Prop := logarithmEndsRow.holds Tryz.pinned (OpenSpec.ofChange logarithmEndsSpec)

/-- ITS FALSE NEIGHBOUR: 'it returns false'. Refute it at one input. -/
def logarithmEndsWrong : ChangeSpec := { name := "logarithmEnds", fn := fun _ => fun
  | [d1, d2] => { results := [.lit (.bool false)], args := [d1, d2] }
  | _ => none }
def LogarithmEndsWrongFalsely : Prop := logarithmEndsRow.holds Tryz.pinned (OpenSpec.ofChange logarithmEndsWrong)

/-- 'exactreallaw15.LogarithmSplits': WHATEVER THE INPUT: true; the input reads as it did. -/
def logarithmSplitsSpec : ChangeSpec := { name := "logarithmSplits", fn := fun _ => fun
  | [d] => { results := [.lit (.bool true)], args := [d] }
  | _ => none }
def logarithmSplitsRow : OpenClaim := { program := "ytekcladflnieeaagreatdoor", sum := "0fcd9e2de48917ebd874d70ec5f1ec0165d71d0498c0947f4346f598596cf7b8", func := "exactreal/exactreallaw15.LogarithmSplits", spec := "logarithmSplits", unfollowed := true, recurses := true, named := ["math/bits.deBruijn32tab"], apart := false, laid := [("math/bits.deBruijn32tab", laid_math_bits_deBruijn32tab)] }
def LogarithmSplitsSaid : Prop := logarithmSplitsRow.holds Tryz.pinned (OpenSpec.ofChange logarithmSplitsSpec)

/-- ITS FALSE NEIGHBOUR: 'it returns false'. Refute it at one input. -/
def logarithmSplitsWrong : ChangeSpec := { name := "logarithmSplits", fn := fun _ => fun
  | [d] => { results := [.lit (.bool false)], args := [d] }
  | _ => none }
def LogarithmSplitsWrongFalsely : Prop := logarithmSplitsRow.holds Tryz.pinned (OpenSpec.ofChange logarithmSplitsWrong)

/-- 'exactreallaw14.ExponentialClose': WHATEVER THE INPUT: true; the input reads as it did. -/
def exponentialCloseSpec : ChangeSpec := { name := "exponentialClose", fn := fun _ => fun
  | [d1, d2, d3] => { results := [.lit (.bool true)], args := [d1, d2, d3] }
  | _ => none }
def exponentialCloseRow : OpenClaim := { program := "ytekcladflnieeaagreatdoor", sum := "0fcd9e2de48917ebd874d70ec5f1ec0165d71d0498c0947f4346f598596cf7b8", func := "exactreal/exactreallaw14.ExponentialClose", spec := "exponentialClose", unfollowed := true, recurses := true, named := ["math/bits.deBruijn32tab"], apart := false, laid := [("math/bits.deBruijn32tab", laid_math_bits_deBruijn32tab)] }
def ExponentialCloseSaid : Prop := exponentialCloseRow.holds Tryz.pinned (OpenSpec.ofChange exponentialCloseSpec)

/-- ITS FALSE NEIGHBOUR: 'it returns false'. Refute it at one input. -/
def exponentialCloseWrong : ChangeSpec := { name := "exponentialClose", fn := fun _ => fun
  | [d1, d2, d3] => { results := [.lit (.bool false)], args := [d1, d2, d3] }
  | _ => none }
def ExponentialCloseWrongFalsely : Prop := exponentialCloseRow.holds Tryz.pinned (OpenSpec.ofChange exponentialCloseWrong)

/-- 'exactreallaw14.ExponentialEnds': WHATEVER THE INPUT: true; the input reads as it did. -/
def exponentialEndsSpec : ChangeSpec := { name := "exponentialEnds", fn := fun _ => fun
  | [d1, d2, d3] => { results := [.lit (.bool true)], args := [d1, d2, d3] }
  | _ => none }
def exponentialEndsRow : OpenClaim := { program := "ytekcladflnieeaagreatdoor", sum := "0fcd9e2de48917ebd874d70ec5f1ec0165d71d0498c0947f4346f598596cf7b8", func := "exactreal/exactreallaw14.ExponentialEnds", spec := "exponentialEnds", unfollowed := true, recurses := true, named := ["math/bits.deBruijn32tab"], apart := false, laid := [("math/bits.deBruijn32tab", laid_math_bits_deBruijn32tab)] }
def ExponentialEndsSaid : Prop := exponentialEndsRow.holds Tryz.pinned (OpenSpec.ofChange exponentialEndsSpec)

/-- ITS FALSE NEIGHBOUR: 'it returns false'. Refute it at one input. -/
def exponentialEndsWrong : ChangeSpec := { name := "exponentialEnds", fn := fun _ => fun
  | [d1, d2, d3] => { results := [.lit (.bool false)], args := [d1, d2, d3] }
  | _ => none }
def ExponentialEndsWrongFalsely : Prop := exponentialEndsRow.holds Tryz.pinned (OpenSpec.ofChange exponentialEndsWrong)

/-- 'exactreallaw14.ExponentialReduces': WHATEVER THE INPUT: true; the input reads as it did. -/
def exponentialReducesSpec : ChangeSpec := { name := "exponentialReduces", fn := fun _ => fun
  | [d1, d2] => { results := [.lit (.bool true)], args := [d1, d2] }
  | _ => none }
def exponentialReducesRow : OpenClaim := { program := "ytekcladflnieeaagreatdoor", sum := "0fcd9e2de48917ebd874d70ec5f1ec0165d71d0498c0947f4346f598596cf7b8", func := "exactreal/exactreallaw14.ExponentialReduces", spec := "exponentialReduces", unfollowed := true, recurses := true, named := ["math/bits.deBruijn32tab"], apart := false, laid := [("math/bits.deBruijn32tab", laid_math_bits_deBruijn32tab)] }
def ExponentialReducesSaid : Prop := exponentialReducesRow.holds Tryz.pinned (OpenSpec.ofChange exponentialReducesSpec)

/-- ITS FALSE NEIGHBOUR: 'it returns false'. Refute it at one input. -/
def exponentialReducesWrong : ChangeSpec := { name := "exponentialReduces", fn := fun _ => fun
  | [d1, d2] => { results := [.lit (.bool false)], args := [d1, d2] }
  | _ => none }
def ExponentialReducesWrongFalsely : Prop := exponentialReducesRow.holds Tryz.pinned (OpenSpec.ofChange exponentialReducesWrong)

/-- 'exactreallaw14.ExponentialPoints': WHATEVER THE INPUT: true; the input reads as it did. -/
def exponentialPointsSpec : ChangeSpec := { name := "exponentialPoints", fn := fun _ => fun
  | [d] => { results := [.lit (.bool true)], args := [d] }
  | _ => none }
def exponentialPointsRow : OpenClaim := { program := "ytekcladflnieeaagreatdoor", sum := "0fcd9e2de48917ebd874d70ec5f1ec0165d71d0498c0947f4346f598596cf7b8", func := "exactreal/exactreallaw14.ExponentialPoints", spec := "exponentialPoints", unfollowed := true, recurses := true, named := ["math/bits.deBruijn32tab"], apart := false, laid := [("math/bits.deBruijn32tab", laid_math_bits_deBruijn32tab)] }
def ExponentialPointsSaid : Prop := exponentialPointsRow.holds Tryz.pinned (OpenSpec.ofChange exponentialPointsSpec)

/-- ITS FALSE NEIGHBOUR: 'it returns false'. Refute it at one input. -/
def exponentialPointsWrong : ChangeSpec := { name := "exponentialPoints", fn := fun _ => fun
  | [d] => { results := [.lit (.bool false)], args := [d] }
  | _ => none }
def ExponentialPointsWrongFalsely : Prop := exponentialPointsRow.holds Tryz.pinned (OpenSpec.ofChange exponentialPointsWrong)

/-- 'exactreallaw17.CircularEnds': WHATEVER THE INPUT: true; the input reads as it did. -/
def circularEndsSpec : ChangeSpec := { name := "circularEnds", fn := fun _ => fun
  | [d1, d2, d3] => { results := [.lit (.bool true)], args := [d1, d2, d3] }
  | _ => none }
def circularEndsRow : OpenClaim := { program := "ytekcladflnieeaagreatdoor", sum := "0fcd9e2de48917ebd874d70ec5f1ec0165d71d0498c0947f4346f598596cf7b8", func := "exactreal/exactreallaw17.CircularEnds", spec := "circularEnds", unfollowed := true, recurses := true, named := ["math/bits.deBruijn32tab"], apart := false, laid := [("math/bits.deBruijn32tab", laid_math_bits_deBruijn32tab)] }
def CircularEndsSaid : Prop := circularEndsRow.holds Tryz.pinned (OpenSpec.ofChange circularEndsSpec)

/-- ITS FALSE NEIGHBOUR: 'it returns false'. Refute it at one input. -/
def circularEndsWrong : ChangeSpec := { name := "circularEnds", fn := fun _ => fun
  | [d1, d2, d3] => { results := [.lit (.bool false)], args := [d1, d2, d3] }
  | _ => none }
def CircularEndsWrongFalsely : Prop := circularEndsRow.holds Tryz.pinned (OpenSpec.ofChange circularEndsWrong)

/-- 'exactreallaw17.CircularQuarters': WHATEVER THE INPUT: true; the input reads as it did. -/
def circularQuartersSpec : ChangeSpec := { name := "circularQuarters", fn := fun _ => fun
  | [d1, d2] => { results := [.lit (.bool true)], args := [d1, d2] }
  | _ => none }
def circularQuartersRow : OpenClaim := { program := "ytekcladflnieeaagreatdoor", sum := "0fcd9e2de48917ebd874d70ec5f1ec0165d71d0498c0947f4346f598596cf7b8", func := "exactreal/exactreallaw17.CircularQuarters", spec := "circularQuarters", unfollowed := true, recurses := true, named := ["math/bits.deBruijn32tab"], apart := false, laid := [("math/bits.deBruijn32tab", laid_math_bits_deBruijn32tab)] }
def CircularQuartersSaid : Prop := circularQuartersRow.holds Tryz.pinned (OpenSpec.ofChange circularQuartersSpec)

/-- ITS FALSE NEIGHBOUR: 'it returns false'. Refute it at one input. -/
def circularQuartersWrong : ChangeSpec := { name := "circularQuarters", fn := fun _ => fun
  | [d1, d2] => { results := [.lit (.bool false)], args := [d1, d2] }
  | _ => none }
def CircularQuartersWrongFalsely : Prop := circularQuartersRow.holds Tryz.pinned (OpenSpec.ofChange circularQuartersWrong)

/-- 'exactreallaw16.ArctangentOdd': WHATEVER THE INPUT: true; the input reads as it did. -/
def arctangentOddSpec : ChangeSpec := { name := "arctangentOdd", fn := fun _ => fun
  | [d1, d2] => { results := [.lit (.bool true)], args := [d1, d2] }
  | _ => none }
def arctangentOddRow : OpenClaim := { program := "ytekcladflnieeaagreatdoor", sum := "0fcd9e2de48917ebd874d70ec5f1ec0165d71d0498c0947f4346f598596cf7b8", func := "exactreal/exactreallaw16.ArctangentOdd", spec := "arctangentOdd", unfollowed := true, recurses := true, named := ["math/bits.deBruijn32tab"], apart := false, laid := [("math/bits.deBruijn32tab", laid_math_bits_deBruijn32tab)] }
def ArctangentOddSaid : Prop := arctangentOddRow.holds Tryz.pinned (OpenSpec.ofChange arctangentOddSpec)

/-- ITS FALSE NEIGHBOUR: 'it returns false'. Refute it at one input. -/
def arctangentOddWrong : ChangeSpec := { name := "arctangentOdd", fn := fun _ => fun
  | [d1, d2] => { results := [.lit (.bool false)], args := [d1, d2] }
  | _ => none }
def ArctangentOddWrongFalsely : Prop := arctangentOddRow.holds Tryz.pinned (OpenSpec.ofChange arctangentOddWrong)

/-- 'exactreallaw16.ArctangentPi': WHATEVER THE INPUT: true; the input reads as it did. -/
def arctangentPiSpec : ChangeSpec := { name := "arctangentPi", fn := fun _ => fun
  | [d] => { results := [.lit (.bool true)], args := [d] }
  | _ => none }
def arctangentPiRow : OpenClaim := { program := "ytekcladflnieeaagreatdoor", sum := "0fcd9e2de48917ebd874d70ec5f1ec0165d71d0498c0947f4346f598596cf7b8", func := "exactreal/exactreallaw16.ArctangentPi", spec := "arctangentPi", unfollowed := true, recurses := true, named := ["math/bits.deBruijn32tab"], apart := false, laid := [("math/bits.deBruijn32tab", laid_math_bits_deBruijn32tab)] }
def ArctangentPiSaid : Prop := arctangentPiRow.holds Tryz.pinned (OpenSpec.ofChange arctangentPiSpec)

/-- ITS FALSE NEIGHBOUR: 'it returns false'. Refute it at one input. -/
def arctangentPiWrong : ChangeSpec := { name := "arctangentPi", fn := fun _ => fun
  | [d] => { results := [.lit (.bool false)], args := [d] }
  | _ => none }
def ArctangentPiWrongFalsely : Prop := arctangentPiRow.holds Tryz.pinned (OpenSpec.ofChange arctangentPiWrong)

/- THE SECOND FORM. 'bulk': how many values and letters a reading holds, each counted each time it is reached (what is shared counts as often as it is met; a slice's spare places count too). A statement '..UptoSaid' is the law's where the arguments, and the package variables that the reading takes, are together of bulk at most 1048576: NARROWER than '..Said'. Prove '..Said' where nothing that the law and all that it calls make is longer than what came in: it says more and counts as full. Else prove '..UptoSaid'. A law counts once. -/
mutual
def uptoBulk {H : Type} : DataW H → Nat
  | .lit (.string bytes) => bytes.length + 1
  | .lit _ => 1
  | .nil => 1
  | .ptr d => uptoBulk d + 1
  | .slice elems spare => uptoBulkAll elems + uptoBulkAll spare + 1
  | .agg parts => uptoBulkAll parts + 1
  | .iface _ d => uptoBulk d + 1
  | .map entries => uptoBulkEntries entries + 1
  | .held _ => 1
def uptoBulkAll {H : Type} : List (DataW H) → Nat
  | [] => 0
  | d :: r => uptoBulk d + uptoBulkAll r
def uptoBulkEntries {H : Type} : List (Lit × DataW H) → Nat
  | [] => 0
  | x :: r => uptoBulkEntry x + uptoBulkEntries r
def uptoBulkEntry {H : Type} : Lit × DataW H → Nat
  | (.string bytes, d) => bytes.length + uptoBulk d + 1
  | (_, d) => uptoBulk d + 1
 end
def uptoSmall : (H : Type) → List (DataW H) → Bool := fun _ ds => decide (uptoBulkAll ds ≤ 1048576)
def OpenSpec.upto (s : _root_.Go.ChangeSpec) : _root_.Go.OpenSpec := { _root_.Go.OpenSpec.ofChange s with cond := some uptoSmall }

/-- 'exactreallaw15.LogarithmClose', WHERE WHAT IT READS IS OF BULK AT MOST 1048576: true; the input reads as it did. -/
def logarithmCloseUptoRow : OpenClaim := { program := "ytekcladflnieeaagreatdoor", sum := "0fcd9e2de48917ebd874d70ec5f1ec0165d71d0498c0947f4346f598596cf7b8", func := "exactreal/exactreallaw15.LogarithmClose", spec := "logarithmClose", unfollowed := true, recurses := true, named := ["math/bits.deBruijn32tab"], apart := false, laid := [("math/bits.deBruijn32tab", laid_math_bits_deBruijn32tab)], narrowed := true }
def LogarithmCloseUptoSaid : Prop := logarithmCloseUptoRow.holds Tryz.pinned (OpenSpec.upto logarithmCloseSpec)

/-- 'exactreallaw15.LogarithmFar', WHERE WHAT IT READS IS OF BULK AT MOST 1048576: true; the input reads as it did. -/
def logarithmFarUptoRow : OpenClaim := { program := "ytekcladflnieeaagreatdoor", sum := "0fcd9e2de48917ebd874d70ec5f1ec0165d71d0498c0947f4346f598596cf7b8", func := "exactreal/exactreallaw15.LogarithmFar", spec := "logarithmFar", unfollowed := true, recurses := true, named := ["math/bits.deBruijn32tab"], apart := false, laid := [("math/bits.deBruijn32tab", laid_math_bits_deBruijn32tab)], narrowed := true }
def LogarithmFarUptoSaid : Prop := logarithmFarUptoRow.holds Tryz.pinned (OpenSpec.upto logarithmFarSpec)

/-- 'exactreallaw15.LogarithmEnds', WHERE WHAT IT READS IS OF BULK AT MOST 1048576: true; the input reads as it did. -/
def logarithmEndsUptoRow : OpenClaim := { program := "ytekcladflnieeaagreatdoor", sum := "0fcd9e2de48917ebd874d70ec5f1ec0165d71d0498c0947f4346f598596cf7b8", func := "exactreal/exactreallaw15.LogarithmEnds", spec := "logarithmEnds", unfollowed := true, recurses := true, named := ["math/bits.deBruijn32tab"], apart := false, laid := [("math/bits.deBruijn32tab", laid_math_bits_deBruijn32tab)], narrowed := true }
def LogarithmEndsUptoSaid : Prop := logarithmEndsUptoRow.holds Tryz.pinned (OpenSpec.upto logarithmEndsSpec)

/-- 'exactreallaw15.LogarithmSplits', WHERE WHAT IT READS IS OF BULK AT MOST 1048576: true; the input reads as it did. -/
def logarithmSplitsUptoRow : OpenClaim := { program := "ytekcladflnieeaagreatdoor", sum := "0fcd9e2de48917ebd874d70ec5f1ec0165d71d0498c0947f4346f598596cf7b8", func := "exactreal/exactreallaw15.LogarithmSplits", spec := "logarithmSplits", unfollowed := true, recurses := true, named := ["math/bits.deBruijn32tab"], apart := false, laid := [("math/bits.deBruijn32tab", laid_math_bits_deBruijn32tab)], narrowed := true }
def LogarithmSplitsUptoSaid : Prop := logarithmSplitsUptoRow.holds Tryz.pinned (OpenSpec.upto logarithmSplitsSpec)

/-- 'exactreallaw14.ExponentialClose', WHERE WHAT IT READS IS OF BULK AT MOST 1048576: true; the input reads as it did. -/
def exponentialCloseUptoRow : OpenClaim := { program := "ytekcladflnieeaagreatdoor", sum := "0fcd9e2de48917ebd874d70ec5f1ec0165d71d0498c0947f4346f598596cf7b8", func := "exactreal/exactreallaw14.ExponentialClose", spec := "exponentialClose", unfollowed := true, recurses := true, named := ["math/bits.deBruijn32tab"], apart := false, laid := [("math/bits.deBruijn32tab", laid_math_bits_deBruijn32tab)], narrowed := true }
def ExponentialCloseUptoSaid : Prop := exponentialCloseUptoRow.holds Tryz.pinned (OpenSpec.upto exponentialCloseSpec)

/-- 'exactreallaw14.ExponentialEnds', WHERE WHAT IT READS IS OF BULK AT MOST 1048576: true; the input reads as it did. -/
def exponentialEndsUptoRow : OpenClaim := { program := "ytekcladflnieeaagreatdoor", sum := "0fcd9e2de48917ebd874d70ec5f1ec0165d71d0498c0947f4346f598596cf7b8", func := "exactreal/exactreallaw14.ExponentialEnds", spec := "exponentialEnds", unfollowed := true, recurses := true, named := ["math/bits.deBruijn32tab"], apart := false, laid := [("math/bits.deBruijn32tab", laid_math_bits_deBruijn32tab)], narrowed := true }
def ExponentialEndsUptoSaid : Prop := exponentialEndsUptoRow.holds Tryz.pinned (OpenSpec.upto exponentialEndsSpec)

/-- 'exactreallaw14.ExponentialReduces', WHERE WHAT IT READS IS OF BULK AT MOST 1048576: true; the input reads as it did. -/
def exponentialReducesUptoRow : OpenClaim := { program := "ytekcladflnieeaagreatdoor", sum := "0fcd9e2de48917ebd874d70ec5f1ec0165d71d0498c0947f4346f598596cf7b8", func := "exactreal/exactreallaw14.ExponentialReduces", spec := "exponentialReduces", unfollowed := true, recurses := true, named := ["math/bits.deBruijn32tab"], apart := false, laid := [("math/bits.deBruijn32tab", laid_math_bits_deBruijn32tab)], narrowed := true }
def ExponentialReducesUptoSaid : Prop := exponentialReducesUptoRow.holds Tryz.pinned (OpenSpec.upto exponentialReducesSpec)

/-- 'exactreallaw14.ExponentialPoints', WHERE WHAT IT READS IS OF BULK AT MOST 1048576: true; the input reads as it did. -/
def exponentialPointsUptoRow : OpenClaim := { program := "ytekcladflnieeaagreatdoor", sum := "0fcd9e2de48917ebd874d70ec5f1ec0165d71d0498c0947f4346f598596cf7b8", func := "exactreal/exactreallaw14.ExponentialPoints", spec := "exponentialPoints", unfollowed := true, recurses := true, named := ["math/bits.deBruijn32tab"], apart := false, laid := [("math/bits.deBruijn32tab", laid_math_bits_deBruijn32tab)], narrowed := true }
def ExponentialPointsUptoSaid : Prop := exponentialPointsUptoRow.holds Tryz.pinned (OpenSpec.upto exponentialPointsSpec)

/-- 'exactreallaw17.CircularEnds', WHERE WHAT IT READS IS OF BULK AT MOST 1048576: true; the input reads as it did. -/
def circularEndsUptoRow : OpenClaim := { program := "ytekcladflnieeaagreatdoor", sum := "0fcd9e2de48917ebd874d70ec5f1ec0165d71d0498c0947f4346f598596cf7b8", func := "exactreal/exactreallaw17.CircularEnds", spec := "circularEnds", unfollowed := true, recurses := true, named := ["math/bits.deBruijn32tab"], apart := false, laid := [("math/bits.deBruijn32tab", laid_math_bits_deBruijn32tab)], narrowed := true }
def CircularEndsUptoSaid : Prop := circularEndsUptoRow.holds Tryz.pinned (OpenSpec.upto circularEndsSpec)

/-- 'exactreallaw17.CircularQuarters', WHERE WHAT IT READS IS OF BULK AT MOST 1048576: true; the input reads as it did. -/
def circularQuartersUptoRow : OpenClaim := { program := "ytekcladflnieeaagreatdoor", sum := "0fcd9e2de48917ebd874d70ec5f1ec0165d71d0498c0947f4346f598596cf7b8", func := "exactreal/exactreallaw17.CircularQuarters", spec := "circularQuarters", unfollowed := true, recurses := true, named := ["math/bits.deBruijn32tab"], apart := false, laid := [("math/bits.deBruijn32tab", laid_math_bits_deBruijn32tab)], narrowed := true }
def CircularQuartersUptoSaid : Prop := circularQuartersUptoRow.holds Tryz.pinned (OpenSpec.upto circularQuartersSpec)

/-- 'exactreallaw16.ArctangentOdd', WHERE WHAT IT READS IS OF BULK AT MOST 1048576: true; the input reads as it did. -/
def arctangentOddUptoRow : OpenClaim := { program := "ytekcladflnieeaagreatdoor", sum := "0fcd9e2de48917ebd874d70ec5f1ec0165d71d0498c0947f4346f598596cf7b8", func := "exactreal/exactreallaw16.ArctangentOdd", spec := "arctangentOdd", unfollowed := true, recurses := true, named := ["math/bits.deBruijn32tab"], apart := false, laid := [("math/bits.deBruijn32tab", laid_math_bits_deBruijn32tab)], narrowed := true }
def ArctangentOddUptoSaid : Prop := arctangentOddUptoRow.holds Tryz.pinned (OpenSpec.upto arctangentOddSpec)

/-- 'exactreallaw16.ArctangentPi', WHERE WHAT IT READS IS OF BULK AT MOST 1048576: true; the input reads as it did. -/
def arctangentPiUptoRow : OpenClaim := { program := "ytekcladflnieeaagreatdoor", sum := "0fcd9e2de48917ebd874d70ec5f1ec0165d71d0498c0947f4346f598596cf7b8", func := "exactreal/exactreallaw16.ArctangentPi", spec := "arctangentPi", unfollowed := true, recurses := true, named := ["math/bits.deBruijn32tab"], apart := false, laid := [("math/bits.deBruijn32tab", laid_math_bits_deBruijn32tab)], narrowed := true }
def ArctangentPiUptoSaid : Prop := arctangentPiUptoRow.holds Tryz.pinned (OpenSpec.upto arctangentPiSpec)

end Rows
end Go.Proofs.YtekcladflnieeaaGreatDoor
