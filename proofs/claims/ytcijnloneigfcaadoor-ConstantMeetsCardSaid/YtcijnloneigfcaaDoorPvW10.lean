/-
  The reference of spans, printed by w10.py. Conditions: as the theorems say.
-/
import Derived.Test.YtcijnloneigfcaaDoorPvW9
import Derived.Test.YtcijnloneigfcaaDoorPvSpan
set_option linter.unusedVariables false
set_option linter.unusedSimpArgs false
namespace Go.Proofs.YtcijnloneigfcaaDoor
open Go.RowKit
set_option maxRecDepth 100000


end Go.Proofs.YtcijnloneigfcaaDoor
