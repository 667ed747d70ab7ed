/-
  The reference of the constants, printed by w11.py. Conditions: as the theorems say.
-/
import Derived.Test.YtcijnloneigfcaaDoorPvW10
set_option linter.unusedVariables false
set_option linter.unusedSimpArgs false
namespace Go.Proofs.YtcijnloneigfcaaDoor
open Go.RowKit
set_option maxRecDepth 100000


end Go.Proofs.YtcijnloneigfcaaDoor
