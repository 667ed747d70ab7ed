/-
  Lower layers: what functions of the program compute, and plain facts. Conditions: as the theorems say.
-/
import Derived.Test.YtmbpoibhamlkbaaGreatDoorChecked
import Derived.Test.YtmbpoibhamlkbaaGreatDoorRows
import Derived.WalkKit
import Derived.ProofKit
import Derived.OpenShut
import Derived.Deep.DeepHandedRow
import Derived.Lib.LaidTab
import Derived.Lib.SmallJoins
import Derived.ChangeSlices
import Derived.Carry
import Derived.Test.YtmbpoibhamlkbaaGreatDoorPqV
set_option linter.unusedVariables false
set_option linter.unusedSimpArgs false
namespace Go.Proofs.YtmbpoibhamlkbaaGreatDoor
open Go.RowKit
set_option maxRecDepth 100000
set_option maxHeartbeats 8000000
theorem l12_awake : Impl Tryz.prog Amb 27 [] (.bool true) := by
  exact impl_ob hP hAmb Tryz.func27 (by kernel_rfl) (.lit <| .call (wV (mkM 2 0) (mkX 2 0) (mkM 2 0) (mkX 2 0)) <| .lit <| .call (stT (mkM 2 0) (mkX 2 0) (mkM 2 0) (mkX 2 0) 1) <| .lits 2 <| .call (wV (mkM (-1) 0) (mkX (-1) 0) (mkM 1 0) (mkX 1 0)) <| .lit <| .call (stT (mkM (-1) 0) (mkX (-1) 0) (mkM 1 0) (mkX 1 0) 1) <| .lits 2 <| .call (wV (mkM (-2) 0) (mkX (-2) 0) (mkM (-1) 0) (mkX (-1) 0)) <| .lit <| .call (stT (mkM (-2) 0) (mkX (-2) 0) (mkM (-1) 0) (mkX (-1) 0) 1) <| .lits 2 <| .call (wV (mkM (-1) 0) (mkX (-1) 0) (mkM 2 0) (mkX 2 0)) <| .lit <| .call (pqT (mkM (-1) 0) (mkX (-1) 0) (mkM 2 0) (mkX 2 0) 2 0) <| .lits 2 <| .call (zV (3 : Int)) <| .lit <| .call (mkT (3 : Int) (-1)) <| .lits 2 <| .yes <| .lits 3 <| .call (yV (mkM 1 0) (mkX 1 0)) <| .lits 6 <| .call (.bool (decide (((stV (srX (mkM 2 0) (mkX 2 0) 1 false) (mkM 2 0) (mkX 2 0) (mkM 2 0) (mkX 2 0) 1) = (mkX 1 0) ∧ (stV (srM (mkM 2 0) (mkX 2 0) 1 false) (mkM 2 0) (mkX 2 0) (mkM 2 0) (mkX 2 0) 1) = (mkM 1 0)) ∧ ((stV (srX (mkM 2 0) (mkX 2 0) 1 true) (mkM 2 0) (mkX 2 0) (mkM 2 0) (mkX 2 0) 1) = (mkX (3 : Int) (-1)) ∧ (stV (srM (mkM 2 0) (mkX 2 0) 1 true) (mkM 2 0) (mkX 2 0) (mkM 2 0) (mkX 2 0) 1) = (mkM (3 : Int) (-1)))))) <| .lit <| .yes <| .lits 3 <| .yes <| .lits 3 <| .yes <| .lits 3 <| .yes <| .lits 3 <| .call (wV (mkM 0 0) (mkX 0 0) (mkM 4 0) (mkX 4 0)) <| .lits 2 <| .call (.bool (decide (((pqV (enX (pwL (mkM (-1) 0) (mkX (-1) 0) (mkM 2 0) (mkX 2 0) 2) (pwH (mkM (-1) 0) (mkX (-1) 0) (mkM 2 0) (mkX 2 0) 2) 0) (mkM (-1) 0) (mkX (-1) 0) (mkM 2 0) (mkX 2 0) 2 0) = (mkX 0 0) ∧ (pqV (enM (pwL (mkM (-1) 0) (mkX (-1) 0) (mkM 2 0) (mkX 2 0) 2) (pwH (mkM (-1) 0) (mkX (-1) 0) (mkM 2 0) (mkX 2 0) 2) 0) (mkM (-1) 0) (mkX (-1) 0) (mkM 2 0) (mkX 2 0) 2 0) = (mkM 0 0)) ∧ ((pqV (enF (pwL (mkM (-1) 0) (mkX (-1) 0) (mkM 2 0) (mkX 2 0) 2) (pwH (mkM (-1) 0) (mkX (-1) 0) (mkM 2 0) (mkX 2 0) 2) 0) (mkM (-1) 0) (mkX (-1) 0) (mkM 2 0) (mkX 2 0) 2 0) = (mkX 4 0) ∧ (pqV (enN (pwL (mkM (-1) 0) (mkX (-1) 0) (mkM 2 0) (mkX 2 0) 2) (pwH (mkM (-1) 0) (mkX (-1) 0) (mkM 2 0) (mkX 2 0) 2) 0) (mkM (-1) 0) (mkX (-1) 0) (mkM 2 0) (mkX 2 0) 2 0) = (mkM 4 0))))) <| .lits 2 <| .ret)
    (cast_ob (aI True.intro (aI (l12_of 2 2 (by first | omega | exact (of_fit oO).2.2.2.2.1 | kernel_rfl | (rw [(of_fit oO).2.2.2.2.2, (of_fit oO).2.2.2.2.2]; decide)) (by first | omega | exact (of_fit oO).2.2.2.2.1 | kernel_rfl | (rw [(of_fit oO).2.2.2.2.2, (of_fit oO).2.2.2.2.2]; decide))) (have f83 := (of_fit (n := 2) (by first | omega | exact (of_fit oO).2.2.2.2.1 | kernel_rfl | (rw [(of_fit oO).2.2.2.2.2, (of_fit oO).2.2.2.2.2]; decide))).2.2.2.2.1; have f82 := (of_fit (n := 2) (by first | omega | exact (of_fit oO).2.2.2.2.1 | kernel_rfl | (rw [(of_fit oO).2.2.2.2.2, (of_fit oO).2.2.2.2.2]; decide))).2.2.2.1; have f81 := (of_fit (n := 2) (by first | omega | exact (of_fit oO).2.2.2.2.1 | kernel_rfl | (rw [(of_fit oO).2.2.2.2.2, (of_fit oO).2.2.2.2.2]; decide))).2.2.1; have f80 := (of_fit (n := 2) (by first | omega | exact (of_fit oO).2.2.2.2.1 | kernel_rfl | (rw [(of_fit oO).2.2.2.2.2, (of_fit oO).2.2.2.2.2]; decide))).2.1; have f79 := (of_fit (n := 2) (by first | omega | exact (of_fit oO).2.2.2.2.1 | kernel_rfl | (rw [(of_fit oO).2.2.2.2.2, (of_fit oO).2.2.2.2.2]; decide))).1; have f78 := (L_i64 (by first | omega | exact (of_fit oO).2.2.2.2.1 | kernel_rfl | (rw [(of_fit oO).2.2.2.2.2, (of_fit oO).2.2.2.2.2]; decide)) : L (2 : Int).natAbs ≤ 2); have f77 := mk_facts 2 0; have f76 := (of_fit (n := 2) (by first | omega | exact (of_fit oO).2.2.2.2.1 | kernel_rfl | (rw [(of_fit oO).2.2.2.2.2, (of_fit oO).2.2.2.2.2]; decide))).2.2.2.2.1; have f75 := (of_fit (n := 2) (by first | omega | exact (of_fit oO).2.2.2.2.1 | kernel_rfl | (rw [(of_fit oO).2.2.2.2.2, (of_fit oO).2.2.2.2.2]; decide))).2.2.2.1; have f74 := (of_fit (n := 2) (by first | omega | exact (of_fit oO).2.2.2.2.1 | kernel_rfl | (rw [(of_fit oO).2.2.2.2.2, (of_fit oO).2.2.2.2.2]; decide))).2.2.1; have f73 := (of_fit (n := 2) (by first | omega | exact (of_fit oO).2.2.2.2.1 | kernel_rfl | (rw [(of_fit oO).2.2.2.2.2, (of_fit oO).2.2.2.2.2]; decide))).2.1; have f72 := (of_fit (n := 2) (by first | omega | exact (of_fit oO).2.2.2.2.1 | kernel_rfl | (rw [(of_fit oO).2.2.2.2.2, (of_fit oO).2.2.2.2.2]; decide))).1; have f71 := (L_i64 (by first | omega | exact (of_fit oO).2.2.2.2.1 | kernel_rfl | (rw [(of_fit oO).2.2.2.2.2, (of_fit oO).2.2.2.2.2]; decide)) : L (2 : Int).natAbs ≤ 2); have f70 := mk_facts 2 0; aI (rad_Sqrt (mkM 2 0) (mkX 2 0) (mkM 2 0) (mkX 2 0) 1 (by first | omega | exact (of_fit oO).2.2.2.2.1 | kernel_rfl | (rw [(of_fit oO).2.2.2.2.2, (of_fit oO).2.2.2.2.2]; decide)) (by first | omega | exact (of_fit oO).2.2.2.2.1 | kernel_rfl | (rw [(of_fit oO).2.2.2.2.2, (of_fit oO).2.2.2.2.2]; decide)) (by first | omega | exact (of_fit oO).2.2.2.2.1 | kernel_rfl | (rw [(of_fit oO).2.2.2.2.2, (of_fit oO).2.2.2.2.2]; decide)) (by first | omega | exact (of_fit oO).2.2.2.2.1 | kernel_rfl | (rw [(of_fit oO).2.2.2.2.2, (of_fit oO).2.2.2.2.2]; decide)) (by first | omega | exact (of_fit oO).2.2.2.2.1 | kernel_rfl | (rw [(of_fit oO).2.2.2.2.2, (of_fit oO).2.2.2.2.2]; decide)) (by first | omega | exact (of_fit oO).2.2.2.2.1 | kernel_rfl | (rw [(of_fit oO).2.2.2.2.2, (of_fit oO).2.2.2.2.2]; decide)) (by first | omega | exact (of_fit oO).2.2.2.2.1 | kernel_rfl | (rw [(of_fit oO).2.2.2.2.2, (of_fit oO).2.2.2.2.2]; decide))) (have f69 := st_facts (mkM 2 0) (mkX 2 0) (mkM 2 0) (mkX 2 0) 1; aI (l12_of (-1) 1 (by first | omega | exact (of_fit oO).2.2.2.2.1 | kernel_rfl | (rw [(of_fit oO).2.2.2.2.2, (of_fit oO).2.2.2.2.2]; decide)) (by first | omega | exact (of_fit oO).2.2.2.2.1 | kernel_rfl | (rw [(of_fit oO).2.2.2.2.2, (of_fit oO).2.2.2.2.2]; decide))) (have f68 := (of_fit (n := 1) (by first | omega | exact (of_fit oO).2.2.2.2.1 | kernel_rfl | (rw [(of_fit oO).2.2.2.2.2, (of_fit oO).2.2.2.2.2]; decide))).2.2.2.2.1; have f67 := (of_fit (n := 1) (by first | omega | exact (of_fit oO).2.2.2.2.1 | kernel_rfl | (rw [(of_fit oO).2.2.2.2.2, (of_fit oO).2.2.2.2.2]; decide))).2.2.2.1; have f66 := (of_fit (n := 1) (by first | omega | exact (of_fit oO).2.2.2.2.1 | kernel_rfl | (rw [(of_fit oO).2.2.2.2.2, (of_fit oO).2.2.2.2.2]; decide))).2.2.1; have f65 := (of_fit (n := 1) (by first | omega | exact (of_fit oO).2.2.2.2.1 | kernel_rfl | (rw [(of_fit oO).2.2.2.2.2, (of_fit oO).2.2.2.2.2]; decide))).2.1; have f64 := (of_fit (n := 1) (by first | omega | exact (of_fit oO).2.2.2.2.1 | kernel_rfl | (rw [(of_fit oO).2.2.2.2.2, (of_fit oO).2.2.2.2.2]; decide))).1; have f63 := (L_i64 (by first | omega | exact (of_fit oO).2.2.2.2.1 | kernel_rfl | (rw [(of_fit oO).2.2.2.2.2, (of_fit oO).2.2.2.2.2]; decide)) : L (1 : Int).natAbs ≤ 2); have f62 := mk_facts 1 0; have f61 := (of_fit (n := -1) (by first | omega | exact (of_fit oO).2.2.2.2.1 | kernel_rfl | (rw [(of_fit oO).2.2.2.2.2, (of_fit oO).2.2.2.2.2]; decide))).2.2.2.2.1; have f60 := (of_fit (n := -1) (by first | omega | exact (of_fit oO).2.2.2.2.1 | kernel_rfl | (rw [(of_fit oO).2.2.2.2.2, (of_fit oO).2.2.2.2.2]; decide))).2.2.2.1; have f59 := (of_fit (n := -1) (by first | omega | exact (of_fit oO).2.2.2.2.1 | kernel_rfl | (rw [(of_fit oO).2.2.2.2.2, (of_fit oO).2.2.2.2.2]; decide))).2.2.1; have f58 := (of_fit (n := -1) (by first | omega | exact (of_fit oO).2.2.2.2.1 | kernel_rfl | (rw [(of_fit oO).2.2.2.2.2, (of_fit oO).2.2.2.2.2]; decide))).2.1; have f57 := (of_fit (n := -1) (by first | omega | exact (of_fit oO).2.2.2.2.1 | kernel_rfl | (rw [(of_fit oO).2.2.2.2.2, (of_fit oO).2.2.2.2.2]; decide))).1; have f56 := (L_i64 (by first | omega | exact (of_fit oO).2.2.2.2.1 | kernel_rfl | (rw [(of_fit oO).2.2.2.2.2, (of_fit oO).2.2.2.2.2]; decide)) : L (-1 : Int).natAbs ≤ 2); have f55 := mk_facts (-1) 0; aI (rad_Sqrt (mkM (-1) 0) (mkX (-1) 0) (mkM 1 0) (mkX 1 0) 1 (by first | omega | exact (of_fit oO).2.2.2.2.1 | kernel_rfl | (rw [(of_fit oO).2.2.2.2.2, (of_fit oO).2.2.2.2.2]; decide)) (by first | omega | exact (of_fit oO).2.2.2.2.1 | kernel_rfl | (rw [(of_fit oO).2.2.2.2.2, (of_fit oO).2.2.2.2.2]; decide)) (by first | omega | exact (of_fit oO).2.2.2.2.1 | kernel_rfl | (rw [(of_fit oO).2.2.2.2.2, (of_fit oO).2.2.2.2.2]; decide)) (by first | omega | exact (of_fit oO).2.2.2.2.1 | kernel_rfl | (rw [(of_fit oO).2.2.2.2.2, (of_fit oO).2.2.2.2.2]; decide)) (by first | omega | exact (of_fit oO).2.2.2.2.1 | kernel_rfl | (rw [(of_fit oO).2.2.2.2.2, (of_fit oO).2.2.2.2.2]; decide)) (by first | omega | exact (of_fit oO).2.2.2.2.1 | kernel_rfl | (rw [(of_fit oO).2.2.2.2.2, (of_fit oO).2.2.2.2.2]; decide)) (by first | omega | exact (of_fit oO).2.2.2.2.1 | kernel_rfl | (rw [(of_fit oO).2.2.2.2.2, (of_fit oO).2.2.2.2.2]; decide))) (have f54 := st_facts (mkM (-1) 0) (mkX (-1) 0) (mkM 1 0) (mkX 1 0) 1; aI (l12_of (-2) (-1) (by first | omega | exact (of_fit oO).2.2.2.2.1 | kernel_rfl | (rw [(of_fit oO).2.2.2.2.2, (of_fit oO).2.2.2.2.2]; decide)) (by first | omega | exact (of_fit oO).2.2.2.2.1 | kernel_rfl | (rw [(of_fit oO).2.2.2.2.2, (of_fit oO).2.2.2.2.2]; decide))) (have f53 := (of_fit (n := -1) (by first | omega | exact (of_fit oO).2.2.2.2.1 | kernel_rfl | (rw [(of_fit oO).2.2.2.2.2, (of_fit oO).2.2.2.2.2]; decide))).2.2.2.2.1; have f52 := (of_fit (n := -1) (by first | omega | exact (of_fit oO).2.2.2.2.1 | kernel_rfl | (rw [(of_fit oO).2.2.2.2.2, (of_fit oO).2.2.2.2.2]; decide))).2.2.2.1; have f51 := (of_fit (n := -1) (by first | omega | exact (of_fit oO).2.2.2.2.1 | kernel_rfl | (rw [(of_fit oO).2.2.2.2.2, (of_fit oO).2.2.2.2.2]; decide))).2.2.1; have f50 := (of_fit (n := -1) (by first | omega | exact (of_fit oO).2.2.2.2.1 | kernel_rfl | (rw [(of_fit oO).2.2.2.2.2, (of_fit oO).2.2.2.2.2]; decide))).2.1; have f49 := (of_fit (n := -1) (by first | omega | exact (of_fit oO).2.2.2.2.1 | kernel_rfl | (rw [(of_fit oO).2.2.2.2.2, (of_fit oO).2.2.2.2.2]; decide))).1; have f48 := (L_i64 (by first | omega | exact (of_fit oO).2.2.2.2.1 | kernel_rfl | (rw [(of_fit oO).2.2.2.2.2, (of_fit oO).2.2.2.2.2]; decide)) : L (-1 : Int).natAbs ≤ 2); have f47 := mk_facts (-1) 0; have f46 := (of_fit (n := -2) (by first | omega | exact (of_fit oO).2.2.2.2.1 | kernel_rfl | (rw [(of_fit oO).2.2.2.2.2, (of_fit oO).2.2.2.2.2]; decide))).2.2.2.2.1; have f45 := (of_fit (n := -2) (by first | omega | exact (of_fit oO).2.2.2.2.1 | kernel_rfl | (rw [(of_fit oO).2.2.2.2.2, (of_fit oO).2.2.2.2.2]; decide))).2.2.2.1; have f44 := (of_fit (n := -2) (by first | omega | exact (of_fit oO).2.2.2.2.1 | kernel_rfl | (rw [(of_fit oO).2.2.2.2.2, (of_fit oO).2.2.2.2.2]; decide))).2.2.1; have f43 := (of_fit (n := -2) (by first | omega | exact (of_fit oO).2.2.2.2.1 | kernel_rfl | (rw [(of_fit oO).2.2.2.2.2, (of_fit oO).2.2.2.2.2]; decide))).2.1; have f42 := (of_fit (n := -2) (by first | omega | exact (of_fit oO).2.2.2.2.1 | kernel_rfl | (rw [(of_fit oO).2.2.2.2.2, (of_fit oO).2.2.2.2.2]; decide))).1; have f41 := (L_i64 (by first | omega | exact (of_fit oO).2.2.2.2.1 | kernel_rfl | (rw [(of_fit oO).2.2.2.2.2, (of_fit oO).2.2.2.2.2]; decide)) : L (-2 : Int).natAbs ≤ 2); have f40 := mk_facts (-2) 0; aI (rad_Sqrt (mkM (-2) 0) (mkX (-2) 0) (mkM (-1) 0) (mkX (-1) 0) 1 (by first | omega | exact (of_fit oO).2.2.2.2.1 | kernel_rfl | (rw [(of_fit oO).2.2.2.2.2, (of_fit oO).2.2.2.2.2]; decide)) (by first | omega | exact (of_fit oO).2.2.2.2.1 | kernel_rfl | (rw [(of_fit oO).2.2.2.2.2, (of_fit oO).2.2.2.2.2]; decide)) (by first | omega | exact (of_fit oO).2.2.2.2.1 | kernel_rfl | (rw [(of_fit oO).2.2.2.2.2, (of_fit oO).2.2.2.2.2]; decide)) (by first | omega | exact (of_fit oO).2.2.2.2.1 | kernel_rfl | (rw [(of_fit oO).2.2.2.2.2, (of_fit oO).2.2.2.2.2]; decide)) (by first | omega | exact (of_fit oO).2.2.2.2.1 | kernel_rfl | (rw [(of_fit oO).2.2.2.2.2, (of_fit oO).2.2.2.2.2]; decide)) (by first | omega | exact (of_fit oO).2.2.2.2.1 | kernel_rfl | (rw [(of_fit oO).2.2.2.2.2, (of_fit oO).2.2.2.2.2]; decide)) (by first | omega | exact (of_fit oO).2.2.2.2.1 | kernel_rfl | (rw [(of_fit oO).2.2.2.2.2, (of_fit oO).2.2.2.2.2]; decide))) (have f39 := st_facts (mkM (-2) 0) (mkX (-2) 0) (mkM (-1) 0) (mkX (-1) 0) 1; aI (l12_of (-1) 2 (by first | omega | exact (of_fit oO).2.2.2.2.1 | kernel_rfl | (rw [(of_fit oO).2.2.2.2.2, (of_fit oO).2.2.2.2.2]; decide)) (by first | omega | exact (of_fit oO).2.2.2.2.1 | kernel_rfl | (rw [(of_fit oO).2.2.2.2.2, (of_fit oO).2.2.2.2.2]; decide))) (have f38 := (of_fit (n := 2) (by first | omega | exact (of_fit oO).2.2.2.2.1 | kernel_rfl | (rw [(of_fit oO).2.2.2.2.2, (of_fit oO).2.2.2.2.2]; decide))).2.2.2.2.1; have f37 := (of_fit (n := 2) (by first | omega | exact (of_fit oO).2.2.2.2.1 | kernel_rfl | (rw [(of_fit oO).2.2.2.2.2, (of_fit oO).2.2.2.2.2]; decide))).2.2.2.1; have f36 := (of_fit (n := 2) (by first | omega | exact (of_fit oO).2.2.2.2.1 | kernel_rfl | (rw [(of_fit oO).2.2.2.2.2, (of_fit oO).2.2.2.2.2]; decide))).2.2.1; have f35 := (of_fit (n := 2) (by first | omega | exact (of_fit oO).2.2.2.2.1 | kernel_rfl | (rw [(of_fit oO).2.2.2.2.2, (of_fit oO).2.2.2.2.2]; decide))).2.1; have f34 := (of_fit (n := 2) (by first | omega | exact (of_fit oO).2.2.2.2.1 | kernel_rfl | (rw [(of_fit oO).2.2.2.2.2, (of_fit oO).2.2.2.2.2]; decide))).1; have f33 := (L_i64 (by first | omega | exact (of_fit oO).2.2.2.2.1 | kernel_rfl | (rw [(of_fit oO).2.2.2.2.2, (of_fit oO).2.2.2.2.2]; decide)) : L (2 : Int).natAbs ≤ 2); have f32 := mk_facts 2 0; have f31 := (of_fit (n := -1) (by first | omega | exact (of_fit oO).2.2.2.2.1 | kernel_rfl | (rw [(of_fit oO).2.2.2.2.2, (of_fit oO).2.2.2.2.2]; decide))).2.2.2.2.1; have f30 := (of_fit (n := -1) (by first | omega | exact (of_fit oO).2.2.2.2.1 | kernel_rfl | (rw [(of_fit oO).2.2.2.2.2, (of_fit oO).2.2.2.2.2]; decide))).2.2.2.1; have f29 := (of_fit (n := -1) (by first | omega | exact (of_fit oO).2.2.2.2.1 | kernel_rfl | (rw [(of_fit oO).2.2.2.2.2, (of_fit oO).2.2.2.2.2]; decide))).2.2.1; have f28 := (of_fit (n := -1) (by first | omega | exact (of_fit oO).2.2.2.2.1 | kernel_rfl | (rw [(of_fit oO).2.2.2.2.2, (of_fit oO).2.2.2.2.2]; decide))).2.1; have f27 := (of_fit (n := -1) (by first | omega | exact (of_fit oO).2.2.2.2.1 | kernel_rfl | (rw [(of_fit oO).2.2.2.2.2, (of_fit oO).2.2.2.2.2]; decide))).1; have f26 := (L_i64 (by first | omega | exact (of_fit oO).2.2.2.2.1 | kernel_rfl | (rw [(of_fit oO).2.2.2.2.2, (of_fit oO).2.2.2.2.2]; decide)) : L (-1 : Int).natAbs ≤ 2); have f25 := mk_facts (-1) 0; aI (rad_Power (mkM (-1) 0) (mkX (-1) 0) (mkM 2 0) (mkX 2 0) 2 0 (by first | omega | exact (of_fit oO).2.2.2.2.1 | kernel_rfl | (rw [(of_fit oO).2.2.2.2.2, (of_fit oO).2.2.2.2.2]; decide)) (by first | omega | exact (of_fit oO).2.2.2.2.1 | kernel_rfl | (rw [(of_fit oO).2.2.2.2.2, (of_fit oO).2.2.2.2.2]; decide)) (by first | omega | exact (of_fit oO).2.2.2.2.1 | kernel_rfl | (rw [(of_fit oO).2.2.2.2.2, (of_fit oO).2.2.2.2.2]; decide)) (by first | omega | exact (of_fit oO).2.2.2.2.1 | kernel_rfl | (rw [(of_fit oO).2.2.2.2.2, (of_fit oO).2.2.2.2.2]; decide)) (by first | omega | exact (of_fit oO).2.2.2.2.1 | kernel_rfl | (rw [(of_fit oO).2.2.2.2.2, (of_fit oO).2.2.2.2.2]; decide)) (by first | omega | exact (of_fit oO).2.2.2.2.1 | kernel_rfl | (rw [(of_fit oO).2.2.2.2.2, (of_fit oO).2.2.2.2.2]; decide)) (by first | omega | exact (of_fit oO).2.2.2.2.1 | kernel_rfl | (rw [(of_fit oO).2.2.2.2.2, (of_fit oO).2.2.2.2.2]; decide)) (by first | omega | exact (of_fit oO).2.2.2.2.1 | kernel_rfl | (rw [(of_fit oO).2.2.2.2.2, (of_fit oO).2.2.2.2.2]; decide)) (by first | omega | exact (of_fit oO).2.2.2.2.1 | kernel_rfl | (rw [(of_fit oO).2.2.2.2.2, (of_fit oO).2.2.2.2.2]; decide))) (have f24 := pq_facts (mkM (-1) 0) (mkX (-1) 0) (mkM 2 0) (mkX 2 0) 2 0; aI (r05_Of 3 (by first | omega | exact (of_fit oO).2.2.2.2.1 | kernel_rfl | (rw [(of_fit oO).2.2.2.2.2, (of_fit oO).2.2.2.2.2]; decide))) (have f23 := (L_i64 (by first | omega | exact (of_fit oO).2.2.2.2.1 | kernel_rfl | (rw [(of_fit oO).2.2.2.2.2, (of_fit oO).2.2.2.2.2]; decide)) : L (3 : Int).natAbs ≤ 2); aI (r08_Make (3 : Int) (-1) (by first | omega | exact (of_fit oO).2.2.2.2.1 | kernel_rfl | (rw [(of_fit oO).2.2.2.2.2, (of_fit oO).2.2.2.2.2]; decide)) (by first | omega | exact (of_fit oO).2.2.2.2.1 | kernel_rfl | (rw [(of_fit oO).2.2.2.2.2, (of_fit oO).2.2.2.2.2]; decide))) (have f22 := mk_facts (3 : Int) (-1); aI ((by kernel_rfl) : (iEq (stE (mkM 2 0) (mkX 2 0) (mkM 2 0) (mkX 2 0) 1) 0) = true) (aI (r08_Of 1 (by first | omega | exact (of_fit oO).2.2.2.2.1 | kernel_rfl | (rw [(of_fit oO).2.2.2.2.2, (of_fit oO).2.2.2.2.2]; decide))) (have f21 := (of_fit (n := 1) (by first | omega | exact (of_fit oO).2.2.2.2.1 | kernel_rfl | (rw [(of_fit oO).2.2.2.2.2, (of_fit oO).2.2.2.2.2]; decide))).2.2.2.2.1; have f20 := (of_fit (n := 1) (by first | omega | exact (of_fit oO).2.2.2.2.1 | kernel_rfl | (rw [(of_fit oO).2.2.2.2.2, (of_fit oO).2.2.2.2.2]; decide))).2.2.2.1; have f19 := (of_fit (n := 1) (by first | omega | exact (of_fit oO).2.2.2.2.1 | kernel_rfl | (rw [(of_fit oO).2.2.2.2.2, (of_fit oO).2.2.2.2.2]; decide))).2.2.1; have f18 := (of_fit (n := 1) (by first | omega | exact (of_fit oO).2.2.2.2.1 | kernel_rfl | (rw [(of_fit oO).2.2.2.2.2, (of_fit oO).2.2.2.2.2]; decide))).2.1; have f17 := (of_fit (n := 1) (by first | omega | exact (of_fit oO).2.2.2.2.1 | kernel_rfl | (rw [(of_fit oO).2.2.2.2.2, (of_fit oO).2.2.2.2.2]; decide))).1; have f16 := (L_i64 (by first | omega | exact (of_fit oO).2.2.2.2.1 | kernel_rfl | (rw [(of_fit oO).2.2.2.2.2, (of_fit oO).2.2.2.2.2]; decide)) : L (1 : Int).natAbs ≤ 2); have f15 := mk_facts 1 0; aI (r10_Same (stV (srM (mkM 2 0) (mkX 2 0) 1 false) (mkM 2 0) (mkX 2 0) (mkM 2 0) (mkX 2 0) 1) (stV (srX (mkM 2 0) (mkX 2 0) 1 false) (mkM 2 0) (mkX 2 0) (mkM 2 0) (mkX 2 0) 1) (stV (srM (mkM 2 0) (mkX 2 0) 1 true) (mkM 2 0) (mkX 2 0) (mkM 2 0) (mkX 2 0) 1) (stV (srX (mkM 2 0) (mkX 2 0) 1 true) (mkM 2 0) (mkX 2 0) (mkM 2 0) (mkX 2 0) 1) (mkM 1 0) (mkX 1 0) (mkM (3 : Int) (-1)) (mkX (3 : Int) (-1)) (by first | omega | exact (of_fit oO).2.2.2.2.1 | kernel_rfl | (rw [(of_fit oO).2.2.2.2.2, (of_fit oO).2.2.2.2.2]; decide)) (by first | omega | exact (of_fit oO).2.2.2.2.1 | kernel_rfl | (rw [(of_fit oO).2.2.2.2.2, (of_fit oO).2.2.2.2.2]; decide)) (by first | omega | exact (of_fit oO).2.2.2.2.1 | kernel_rfl | (rw [(of_fit oO).2.2.2.2.2, (of_fit oO).2.2.2.2.2]; decide)) (by first | omega | exact (of_fit oO).2.2.2.2.1 | kernel_rfl | (rw [(of_fit oO).2.2.2.2.2, (of_fit oO).2.2.2.2.2]; decide))) (aI ((by kernel_rfl) : (decide (((stV (srX (mkM 2 0) (mkX 2 0) 1 false) (mkM 2 0) (mkX 2 0) (mkM 2 0) (mkX 2 0) 1) = (mkX 1 0) ∧ (stV (srM (mkM 2 0) (mkX 2 0) 1 false) (mkM 2 0) (mkX 2 0) (mkM 2 0) (mkX 2 0) 1) = (mkM 1 0)) ∧ ((stV (srX (mkM 2 0) (mkX 2 0) 1 true) (mkM 2 0) (mkX 2 0) (mkM 2 0) (mkX 2 0) 1) = (mkX (3 : Int) (-1)) ∧ (stV (srM (mkM 2 0) (mkX 2 0) 1 true) (mkM 2 0) (mkX 2 0) (mkM 2 0) (mkX 2 0) 1) = (mkM (3 : Int) (-1))))) = true) (aI ((by kernel_rfl) : (iEq (stE (mkM (-1) 0) (mkX (-1) 0) (mkM 1 0) (mkX 1 0) 1) 5) = true) (aI ((by kernel_rfl) : (iEq (stE (mkM (-2) 0) (mkX (-2) 0) (mkM (-1) 0) (mkX (-1) 0) 1) 4) = true) (aI ((by kernel_rfl) : (iEq (pqE (mkM (-1) 0) (mkX (-1) 0) (mkM 2 0) (mkX 2 0) 2 0) 0) = true) (aI (l12_of 0 4 (by first | omega | exact (of_fit oO).2.2.2.2.1 | kernel_rfl | (rw [(of_fit oO).2.2.2.2.2, (of_fit oO).2.2.2.2.2]; decide)) (by first | omega | exact (of_fit oO).2.2.2.2.1 | kernel_rfl | (rw [(of_fit oO).2.2.2.2.2, (of_fit oO).2.2.2.2.2]; decide))) (have f14 := (of_fit (n := 4) (by first | omega | exact (of_fit oO).2.2.2.2.1 | kernel_rfl | (rw [(of_fit oO).2.2.2.2.2, (of_fit oO).2.2.2.2.2]; decide))).2.2.2.2.1; have f13 := (of_fit (n := 4) (by first | omega | exact (of_fit oO).2.2.2.2.1 | kernel_rfl | (rw [(of_fit oO).2.2.2.2.2, (of_fit oO).2.2.2.2.2]; decide))).2.2.2.1; have f12 := (of_fit (n := 4) (by first | omega | exact (of_fit oO).2.2.2.2.1 | kernel_rfl | (rw [(of_fit oO).2.2.2.2.2, (of_fit oO).2.2.2.2.2]; decide))).2.2.1; have f11 := (of_fit (n := 4) (by first | omega | exact (of_fit oO).2.2.2.2.1 | kernel_rfl | (rw [(of_fit oO).2.2.2.2.2, (of_fit oO).2.2.2.2.2]; decide))).2.1; have f10 := (of_fit (n := 4) (by first | omega | exact (of_fit oO).2.2.2.2.1 | kernel_rfl | (rw [(of_fit oO).2.2.2.2.2, (of_fit oO).2.2.2.2.2]; decide))).1; have f9 := (L_i64 (by first | omega | exact (of_fit oO).2.2.2.2.1 | kernel_rfl | (rw [(of_fit oO).2.2.2.2.2, (of_fit oO).2.2.2.2.2]; decide)) : L (4 : Int).natAbs ≤ 2); have f8 := mk_facts 4 0; have f7 := (of_fit (n := 0) (by first | omega | exact (of_fit oO).2.2.2.2.1 | kernel_rfl | (rw [(of_fit oO).2.2.2.2.2, (of_fit oO).2.2.2.2.2]; decide))).2.2.2.2.1; have f6 := (of_fit (n := 0) (by first | omega | exact (of_fit oO).2.2.2.2.1 | kernel_rfl | (rw [(of_fit oO).2.2.2.2.2, (of_fit oO).2.2.2.2.2]; decide))).2.2.2.1; have f5 := (of_fit (n := 0) (by first | omega | exact (of_fit oO).2.2.2.2.1 | kernel_rfl | (rw [(of_fit oO).2.2.2.2.2, (of_fit oO).2.2.2.2.2]; decide))).2.2.1; have f4 := (of_fit (n := 0) (by first | omega | exact (of_fit oO).2.2.2.2.1 | kernel_rfl | (rw [(of_fit oO).2.2.2.2.2, (of_fit oO).2.2.2.2.2]; decide))).2.1; have f3 := (of_fit (n := 0) (by first | omega | exact (of_fit oO).2.2.2.2.1 | kernel_rfl | (rw [(of_fit oO).2.2.2.2.2, (of_fit oO).2.2.2.2.2]; decide))).1; have f2 := (L_i64 (by first | omega | exact (of_fit oO).2.2.2.2.1 | kernel_rfl | (rw [(of_fit oO).2.2.2.2.2, (of_fit oO).2.2.2.2.2]; decide)) : L (0 : Int).natAbs ≤ 2); have f1 := mk_facts 0 0; aI (r10_Same (pqV (enM (pwL (mkM (-1) 0) (mkX (-1) 0) (mkM 2 0) (mkX 2 0) 2) (pwH (mkM (-1) 0) (mkX (-1) 0) (mkM 2 0) (mkX 2 0) 2) 0) (mkM (-1) 0) (mkX (-1) 0) (mkM 2 0) (mkX 2 0) 2 0) (pqV (enX (pwL (mkM (-1) 0) (mkX (-1) 0) (mkM 2 0) (mkX 2 0) 2) (pwH (mkM (-1) 0) (mkX (-1) 0) (mkM 2 0) (mkX 2 0) 2) 0) (mkM (-1) 0) (mkX (-1) 0) (mkM 2 0) (mkX 2 0) 2 0) (pqV (enN (pwL (mkM (-1) 0) (mkX (-1) 0) (mkM 2 0) (mkX 2 0) 2) (pwH (mkM (-1) 0) (mkX (-1) 0) (mkM 2 0) (mkX 2 0) 2) 0) (mkM (-1) 0) (mkX (-1) 0) (mkM 2 0) (mkX 2 0) 2 0) (pqV (enF (pwL (mkM (-1) 0) (mkX (-1) 0) (mkM 2 0) (mkX 2 0) 2) (pwH (mkM (-1) 0) (mkX (-1) 0) (mkM 2 0) (mkX 2 0) 2) 0) (mkM (-1) 0) (mkX (-1) 0) (mkM 2 0) (mkX 2 0) 2 0) (mkM 0 0) (mkX 0 0) (mkM 4 0) (mkX 4 0) (by first | omega | exact (of_fit oO).2.2.2.2.1 | kernel_rfl | (rw [(of_fit oO).2.2.2.2.2, (of_fit oO).2.2.2.2.2]; decide)) (by first | omega | exact (of_fit oO).2.2.2.2.1 | kernel_rfl | (rw [(of_fit oO).2.2.2.2.2, (of_fit oO).2.2.2.2.2]; decide)) (by first | omega | exact (of_fit oO).2.2.2.2.1 | kernel_rfl | (rw [(of_fit oO).2.2.2.2.2, (of_fit oO).2.2.2.2.2]; decide)) (by first | omega | exact (of_fit oO).2.2.2.2.1 | kernel_rfl | (rw [(of_fit oO).2.2.2.2.2, (of_fit oO).2.2.2.2.2]; decide))) ((vsub_of (congrArg V.bool (by kernel_rfl)) : vsub (.bool (decide (((pqV (enX (pwL (mkM (-1) 0) (mkX (-1) 0) (mkM 2 0) (mkX 2 0) 2) (pwH (mkM (-1) 0) (mkX (-1) 0) (mkM 2 0) (mkX 2 0) 2) 0) (mkM (-1) 0) (mkX (-1) 0) (mkM 2 0) (mkX 2 0) 2 0) = (mkX 0 0) ∧ (pqV (enM (pwL (mkM (-1) 0) (mkX (-1) 0) (mkM 2 0) (mkX 2 0) 2) (pwH (mkM (-1) 0) (mkX (-1) 0) (mkM 2 0) (mkX 2 0) 2) 0) (mkM (-1) 0) (mkX (-1) 0) (mkM 2 0) (mkX 2 0) 2 0) = (mkM 0 0)) ∧ ((pqV (enF (pwL (mkM (-1) 0) (mkX (-1) 0) (mkM 2 0) (mkX 2 0) 2) (pwH (mkM (-1) 0) (mkX (-1) 0) (mkM 2 0) (mkX 2 0) 2) 0) (mkM (-1) 0) (mkX (-1) 0) (mkM 2 0) (mkX 2 0) 2 0) = (mkX 4 0) ∧ (pqV (enN (pwL (mkM (-1) 0) (mkX (-1) 0) (mkM 2 0) (mkX 2 0) 2) (pwH (mkM (-1) 0) (mkX (-1) 0) (mkM 2 0) (mkX 2 0) 2) 0) (mkM (-1) 0) (mkX (-1) 0) (mkM 2 0) (mkX 2 0) 2 0) = (mkM 4 0))))) (.bool true))))))))))))))))))))))) (by kernel_rfl))

end Go.Proofs.YtmbpoibhamlkbaaGreatDoor


namespace Go.Proofs.YtmbpoibhamlkbaaGreatDoor
theorem natAbs_flr {M X : Int} (w : Int) (hM : 0 ≤ M) : ((flr (dv M X) (2 * w)).natAbs : Int) = flr (dv M X) (2 * w) := by
  have := flr_nonneg (dv_nonneg (e := X) hM) (2 * w); omega
theorem dv_sq (x w : Int) : dv x (-w) * dv x (-w) = dv (x * x) (-(2 * w)) := by
  rw [← dv_mul, show -w + -w = -(2 * w) by omega]
theorem sq_le {M X : Int} (w : Int) (hM : 0 ≤ M) : dv (sqF M X w : Int) (-w) * dv (sqF M X w : Int) (-w) ≤ dv M X := by
  have h := (rt_spec (flr (dv M X) (2 * w)).natAbs).1
  have h2 := natAbs_flr (X := X) w hM
  rw [dv_sq]
  refine le_flr.1 ?_
  have h3 : ((sqF M X w * sqF M X w : Nat) : Int) ≤ ((flr (dv M X) (2 * w)).natAbs : Int) := Int.ofNat_le.2 h
  rw [Int.natCast_mul] at h3
  omega
theorem sq_gt {M X : Int} (w : Int) (hM : 0 ≤ M) : dv M X < dv ((sqF M X w : Int) + 1) (-w) * dv ((sqF M X w : Int) + 1) (-w) := by
  have h := (rt_spec (flr (dv M X) (2 * w)).natAbs).2
  have h2 := natAbs_flr (X := X) w hM
  rw [dv_sq]
  have h3 : ((flr (dv M X) (2 * w)).natAbs : Int) < (((sqF M X w + 1) * (sqF M X w + 1) : Nat) : Int) := Int.ofNat_lt.2 h
  rw [Int.natCast_mul] at h3
  have h4 := flr_lt (dv M X) (2 * w)
  have h5 : dv (flr (dv M X) (2 * w) + 1) (-(2 * w)) ≤ dv (((sqF M X w : Int) + 1) * ((sqF M X w : Int) + 1)) (-(2 * w)) := dv_le.2 (by push_cast at h3; omega)
  grind
theorem sq_ex {M X : Int} {w : Int} (hM : 0 ≤ M) (hv : vdb M X = true) : sqX M X w = true ↔ dv (sqF M X w : Int) (-w) * dv (sqF M X w : Int) (-w) = dv M X := by
  have h2 := natAbs_flr (X := X) w hM
  have hs := (rt_spec (flr (dv M X) (2 * w)).natAbs).1
  have hflr : (M = 0 ∨ -(2 * w) ≤ X) ↔ dv (flr (dv M X) (2 * w)) (-(2 * w)) = dv M X := by
    constructor
    · rintro (h | h)
      · rw [h, flr_dv]
        split
        · rw [Int.zero_mul, dv_zero, dv_zero]
        · rw [Int.zero_ediv, dv_zero, dv_zero]
      · rw [flr_dv, if_pos (by omega), dv_at (m := M) (show -(2 * w) ≤ X by omega)]
        congr 2; congr 1; omega
    · intro h
      by_cases hM0 : M = 0
      · exact .inl hM0
      · refine .inr (Decidable.byContradiction fun q => ?_)
        rw [dv_at (m := flr (dv M X) (2 * w)) (show X ≤ -(2 * w) by omega)] at h
        have h3 := dv_inj h
        rcases vdb_iff.1 hv with q2 | q2
        · exact hM0 q2.1
        · have h4 : M.natAbs = (flr (dv M X) (2 * w)).natAbs * 2 ^ (-(2 * w) - X).toNat := by
            have := congrArg Int.natAbs h3
            rw [abs_shl] at this; exact this.symm
          have h5 : 2 ∣ 2 ^ (-(2 * w) - X).toNat := ⟨2 ^ ((-(2 * w) - X).toNat - 1), by rw [← Nat.pow_succ']; congr 1; omega⟩
          have h6 : 2 ∣ M.natAbs := by rw [h4]; exact Nat.dvd_trans h5 (Nat.dvd_mul_left _ _)
          have := Nat.mod_eq_zero_of_dvd h6
          omega
  unfold sqX
  rw [decide_eq_true_eq, hflr]
  constructor
  · rintro ⟨a, b⟩
    rw [dv_sq, ← b, ← h2, ← a, Int.natCast_mul]
  · intro h
    have a1 := sq_le (X := X) w hM
    have a2 : dv ((sqF M X w : Int) * (sqF M X w : Int)) (-(2 * w)) ≤ dv (flr (dv M X) (2 * w)) (-(2 * w)) := dv_le.2 (by
      rw [← h2]
      have : ((sqF M X w * sqF M X w : Nat) : Int) ≤ ((flr (dv M X) (2 * w)).natAbs : Int) := Int.ofNat_le.2 hs
      rwa [Int.natCast_mul] at this)
    have a3 := flr_le (dv M X) (2 * w)
    rw [dv_sq] at h
    have a4 : dv (flr (dv M X) (2 * w)) (-(2 * w)) = dv M X := by grind
    refine ⟨?_, a4⟩
    rw [← a4] at h
    have a5 := dv_inj h
    rw [← h2] at a5
    exact Int.ofNat.inj (by rw [Int.ofNat_eq_natCast, Int.ofNat_eq_natCast, Int.natCast_mul]; exact a5)
theorem sq_Ls {M X w : Int} {up : Bool} (hL : L M.natAbs ≤ 30) (hX : -1000 ≤ X ∧ X ≤ 3000) (hw : 0 ≤ w ∧ w ≤ 300) : L (sqV M X w up).natAbs ≤ 150 := by
  have h := flr_LD M X (2 * w)
  have h2 := rt_L (flr (dv M X) (2 * w)).natAbs
  have h1 : L (1 : Int).natAbs ≤ 1 := L_le (by decide)
  have h3 := L_abs_add (sqF M X w) 1
  rw [Int.natAbs_natCast] at h3
  have h4 : L (sqF M X w) ≤ 149 := by unfold sqF; omega
  unfold sqV
  split
  · omega
  · rw [Int.add_zero, Int.natAbs_natCast]; omega
theorem sr_all {M X w : Int} {up : Bool} (hM : 0 ≤ M) (hL : L M.natAbs ≤ 30) (hX : -1000 ≤ X ∧ X ≤ 3000) (hw : 0 ≤ w ∧ w ≤ 300) :
    srE M X w up = 0 ∧ srM M X w up = mkM (sqV M X w up) (-w) ∧ srX M X w up = mkX (sqV M X w up) (-w) ∧ dv (srM M X w up) (srX M X w up) = dv (sqV M X w up) (-w) ∧ L (srM M X w up).natAbs ≤ 150 ∧ (-300 ≤ srX M X w up ∧ srX M X w up ≤ 4900) ∧ vdb (srM M X w up) (srX M X w up) = true ∧ (srM M X w up = 0 ∨ -w ≤ srX M X w up) := by
  have k := sq_Ls (up := up) hL hX hw
  have f := mk_fit (m := sqV M X w up) (e := -w) (by omega) (by omega)
  obtain ⟨a, b, c⟩ := sr_3 (e := X) (up := up) (show 0 ≤ w ∧ w ≤ 4096 by omega) hM
  have i1 := iMin_range (-w) 0
  have i2 : iMax (-w) 0 ≤ 0 := by unfold iMax; split <;> omega
  rw [a, b, c]
  refine ⟨f.1, rfl, rfl, f.2.2.2.2.2, by omega, by omega, f.2.2.2.2.1, ?_⟩
  rcases mkX_b f.1 with ⟨q, _⟩ | ⟨_, q, _⟩
  · left; rw [q]; exact (mk_zero _).1
  · right; exact q
theorem sqV_nonneg {M X w : Int} {up : Bool} : 0 ≤ sqV M X w up := by unfold sqV; split <;> omega
theorem sr_nonneg {M X w : Int} {up : Bool} (hM : 0 ≤ M) (hL : L M.natAbs ≤ 30) (hX : -1000 ≤ X ∧ X ≤ 3000) (hw : 0 ≤ w ∧ w ≤ 300) : 0 ≤ srM M X w up := by
  have h := (sr_all (up := up) hM hL hX hw).2.2.2.1
  have h2 := dv_nonneg (e := -w) (sqV_nonneg (M := M) (X := X) (w := w) (up := up))
  rw [← h] at h2
  exact dv_ge0.1 h2
end Go.Proofs.YtmbpoibhamlkbaaGreatDoor


namespace Go.Proofs.YtmbpoibhamlkbaaGreatDoor
theorem zp_pos_mono {a b : Rat} (ha : 0 < a) (h : a ≤ b) {k : Int} : (0 ≤ k → a ^ k ≤ b ^ k) ∧ (k < 0 → b ^ k ≤ a ^ k) := by
  refine ⟨fun hk => ?_, fun hk => ?_⟩
  · rw [zp_n hk, zp_n hk]; exact pw_mono (Rat.le_of_lt ha) h _
  · rw [zp_i hk, zp_i hk]; exact inv_anti (pw_pos ha _) (pw_mono (Rat.le_of_lt ha) h _)
theorem qm_in {a b x : Rat} (h : (a ≤ x ∧ x ≤ b) ∨ (b ≤ x ∧ x ≤ a)) : qmin a b ≤ x ∧ x ≤ qmax a b := by
  have h1 := qmin_both a b
  have h2 := qmax_both a b
  rcases h with ⟨p, q⟩ | ⟨p, q⟩
  · exact ⟨Rat.le_trans h1.1 p, Rat.le_trans q h2.2⟩
  · exact ⟨Rat.le_trans h1.2 p, Rat.le_trans q h2.1⟩
theorem pw_in {m e n f k : Int} {r : Rat} (h1 : dv m e ≤ r) (h2 : r ≤ dv n f) (hk : ¬ (k < 0 ∧ m ≤ 0 ∧ 0 ≤ n)) : pwL m e n f k ≤ r ^ k ∧ r ^ k ≤ pwH m e n f k := by
  by_cases h0 : k = 0
  · subst h0
    obtain ⟨a, b⟩ := pwo_0 (m := m) (e := e) (n := n) (f := f) (k := 0) rfl
    rw [zp_0] at a b
    rw [← a, ← b, zp_0]; exact ⟨Rat.le_refl, Rat.le_refl⟩
  by_cases hz : 0 < k ∧ k % 2 = 0 ∧ m ≤ 0 ∧ 0 ≤ n
  · obtain ⟨hk1, hk2, hm, hn⟩ := hz
    have e1 : pwL m e n f k = 0 := (pwo_z hk1 hk2 hm hn).1
    rw [e1, zp_n (a := r) (by omega)]
    have hK : k.toNat % 2 = 0 := by omega
    refine ⟨even_nonneg r hK, ?_⟩
    have hb := pw_between m e n f k
    rw [zp_n (a := dv m e) (by omega), zp_n (a := dv n f) (by omega)] at hb
    rcases (Rat.le_total : 0 ≤ r ∨ r ≤ 0) with q | q
    · exact Rat.le_trans (pw_mono q h2 _) hb.2.2
    · exact Rat.le_trans (even_anti h1 q hK) hb.1.2
  · obtain ⟨a, b⟩ := pwo_off (e := e) (f := f) hz
    rw [a, b]
    refine qm_in ?_
    by_cases hk1 : 0 < k
    · rw [zp_n (a := r) (by omega), zp_n (a := dv m e) (by omega), zp_n (a := dv n f) (by omega)]
      by_cases ho : k % 2 = 1
      · exact .inl ⟨odd_mono h1 (by omega), odd_mono h2 (by omega)⟩
      · by_cases hm : 0 < m
        · have : 0 ≤ dv m e := dv_ge0.2 (by omega)
          exact .inl ⟨pw_mono this h1 _, pw_mono (Rat.le_trans this h1) h2 _⟩
        · have hn : dv n f ≤ 0 := dv_le0.2 (by omega)
          exact .inr ⟨even_anti h2 hn (by omega), even_anti h1 (Rat.le_trans h2 hn) (by omega)⟩
    · have hk2 : k < 0 := by omega
      by_cases hm : 0 < m
      · have p : 0 < dv m e := dv_pos.2 hm
        exact .inr ⟨(zp_pos_mono (by grind) h2).2 hk2, (zp_pos_mono p h1).2 hk2⟩
      · have hn : dv n f < 0 := dv_lt0.2 (by omega)
        rw [zp_i hk2, zp_i hk2, zp_i hk2]
        by_cases ho : k % 2 = 1
        · have o : (-k).toNat % 2 = 1 := by omega
          have t : ∀ {x : Rat}, x < 0 → x ^ (-k).toNat < 0 := fun {x} hx => by
            have := pw_pos (show 0 < -x by grind) (-k).toNat
            rw [neg_odd _ o] at this; grind
          exact .inr ⟨inv_anti2 (t hn) (odd_mono h2 o), inv_anti2 (t (by grind)) (odd_mono h1 o)⟩
        · have o : (-k).toNat % 2 = 0 := by omega
          have t : ∀ {x : Rat}, x < 0 → 0 < x ^ (-k).toNat := fun {x} hx => by
            have := pw_pos (show 0 < -x by grind) (-k).toNat
            rwa [neg_even _ o] at this
          exact .inl ⟨inv_anti (t (by grind)) (even_anti h1 (by grind) o), inv_anti (t hn) (even_anti h2 (by grind) o)⟩
theorem st_found {m e n f w : Int} (hm : 0 ≤ m) (hn : 0 ≤ n) (h1 : L m.natAbs ≤ 30 ∧ -1000 ≤ e ∧ e ≤ 3000) (h2 : L n.natAbs ≤ 30 ∧ -1000 ≤ f ∧ f ≤ 3000) (hw : 0 ≤ w ∧ w ≤ 300) (ho : dv m e ≤ dv n f)
    (s1 : L (sqV m e w false).natAbs ≤ 60) (s2 : L (sqV n f w true).natAbs ≤ 60) :
    stE m e n f w = 0 ∧ ∀ x, stV x m e n f w = x := by
  have hw2 : 0 ≤ w ∧ w ≤ 4096 := by omega
  obtain ⟨a, b⟩ := sst_ok (e := e) (f := f) hw2 hn hm
  have r1 := sr_all (up := false) hm h1.1 h1.2 hw
  have r2 := sr_all (up := true) hn h2.1 h2.2 hw
  have key : ecE (srM m e w false) (srX m e w false) (srM n f w true) (srX n f w true) (srE m e w false) (srE n f w true) = 0 := by
    unfold ecE
    rw [if_pos]
    refine ⟨r1.1, r2.1, ?_⟩
    unfold smB ivB
    rw [r1.2.1, r1.2.2.1, r2.2.1, r2.2.2.1, end_ok s1 hw, end_ok s2 hw, ← r1.2.1, ← r1.2.2.1, ← r2.2.1, ← r2.2.2.1, r1.2.2.2.2.2.2.1, r2.2.2.2.2.2.2.1]
    simp only [Bool.and_true, Bool.true_and, decide_eq_true_eq]
    rw [cmpD_dv, cmpQ_le, r1.2.2.2.1, r2.2.2.2.1, dv_le]
    have q1 := sq_le (X := e) w hm
    have q2 := sq_gt (X := f) w hn
    have q3 : dv (sqF m e w : Int) (-w) * dv (sqF m e w : Int) (-w) < dv ((sqF n f w : Int) + 1) (-w) * dv ((sqF n f w : Int) + 1) (-w) := by grind
    rw [dv_sq, dv_sq, dv_lt] at q3
    have q4 : sqF m e w < sqF n f w + 1 := by
      refine sq_lt ?_
      have : ((sqF m e w * sqF m e w : Nat) : Int) < (((sqF n f w + 1) * (sqF n f w + 1) : Nat) : Int) := by push_cast; exact q3
      exact Int.ofNat_lt.1 this
    have q5 : sqV m e w false = (sqF m e w : Int) := by unfold sqV; simp
    rw [q5]
    by_cases hx : sqX n f w = true
    · have q6 : sqV n f w true = (sqF n f w : Int) := by unfold sqV; rw [hx]; simp
      rw [q6]; omega
    · have q6 : sqV n f w true = (sqF n f w : Int) + 1 := by
        have : sqX n f w = false := by simpa using hx
        unfold sqV; rw [this]; rfl
      rw [q6]; omega
  refine ⟨by rw [a]; exact key, fun x => by rw [b]; unfold ecV; rw [if_pos key]⟩
theorem sq_up {M X w : Int} (hM : 0 ≤ M) (hv : vdb M X = true) : dv M X ≤ dv (sqV M X w true) (-w) * dv (sqV M X w true) (-w) := by
  by_cases hx : sqX M X w = true
  · have e1 := (sq_ex hM hv).1 hx
    have q6 : sqV M X w true = (sqF M X w : Int) := by unfold sqV; rw [hx]; simp
    rw [q6, e1]; exact Rat.le_refl
  · have q6 : sqV M X w true = (sqF M X w : Int) + 1 := by
      have : sqX M X w = false := by simpa using hx
      unfold sqV; rw [this]; rfl
    rw [q6]
    exact Rat.le_of_lt (sq_gt w hM)
theorem sq_dn {M X w : Int} (hM : 0 ≤ M) : dv (sqV M X w false) (-w) * dv (sqV M X w false) (-w) ≤ dv M X := by
  have q5 : sqV M X w false = (sqF M X w : Int) := by unfold sqV; simp
  rw [q5]; exact sq_le w hM
theorem sq_cmp {a b : Rat} (ha : 0 ≤ a) (hb : 0 ≤ b) (h : a * a ≤ b * b) : a ≤ b := by
  refine Rat.not_lt.1 fun q => ?_
  have h1 : b * b ≤ a * b := Rat.mul_le_mul_of_nonneg_right (Rat.le_of_lt q) hb
  have h2 : a * b < a * a := Rat.mul_lt_mul_of_pos_left q (by grind)
  grind
end Go.Proofs.YtmbpoibhamlkbaaGreatDoor

namespace Go.Proofs.YtmbpoibhamlkbaaGreatDoor
theorem pw2 (a : Rat) : a ^ (2 : Int) = a * a := by
  rw [zp_n (by decide)]
  show a ^ 2 = a * a
  rw [Rat.pow_succ, Rat.pow_succ, Rat.pow_zero, Rat.one_mul]
def Fit2 (m e n f : Int) : Prop := (L m.natAbs ≤ 2 ∧ -6 ≤ e ∧ e ≤ 70) ∧ (L n.natAbs ≤ 2 ∧ -6 ≤ f ∧ f ≤ 70) ∧ dv m e ≤ dv n f
theorem fit2_I {m e n f : Int} (h : Fit2 m e n f) : FitI m e n f := by
  obtain ⟨a, b, c⟩ := h
  exact ⟨⟨by omega, by omega, by omega⟩, ⟨by omega, by omega, by omega⟩, c⟩
theorem pw2_lo {m e n f : Int} (ho : dv m e ≤ dv n f) : 0 ≤ pwL m e n f 2 ∧ pwL m e n f 2 ≤ pwH m e n f 2 ∧ mlLo m e n f m e n f ≤ pwL m e n f 2 ∧ pwH m e n f 2 ≤ mlHi m e n f m e n f := by
  have a := ml_in (a := dv m e) (b := dv m e) Rat.le_refl ho Rat.le_refl ho
  have b := ml_in (a := dv n f) (b := dv n f) ho Rat.le_refl ho Rat.le_refl
  have c := ml_in (a := dv m e) (b := dv n f) Rat.le_refl ho ho Rat.le_refl
  have p1 : 0 ≤ dv m e ^ (2 : Int) := by rw [zp_n (by decide)]; exact even_nonneg _ rfl
  have p2 : 0 ≤ dv n f ^ (2 : Int) := by rw [zp_n (by decide)]; exact even_nonneg _ rfl
  have q1 : mlLo m e n f m e n f ≤ dv m e ^ (2 : Int) ∧ dv m e ^ (2 : Int) ≤ mlHi m e n f m e n f := by rw [pw2]; exact a
  have q2 : mlLo m e n f m e n f ≤ dv n f ^ (2 : Int) ∧ dv n f ^ (2 : Int) ≤ mlHi m e n f m e n f := by rw [pw2]; exact b
  have h := (pw_between m e n f 2).1
  refine ⟨?_, Rat.le_trans h.1 h.2, ?_, ?_⟩
  · unfold pwL; split
    · exact le_qmin (le_qmin p1 p2) Rat.le_refl
    · exact le_qmin p1 p2
  · unfold pwL; split
    · rename_i z
      have h1 := dv_le0 (e := e).2 z.2.2.1
      have h2 := dv_ge0 (e := f).2 z.2.2.2
      have h3 : dv m e * dv n f ≤ 0 := by
        have := Rat.mul_nonneg (show 0 ≤ -dv m e by grind) h2; grind
      exact le_qmin (le_qmin q1.1 q2.1) (Rat.le_trans c.1 h3)
    · exact le_qmin q1.1 q2.1
  · unfold pwH; split
    · exact qmax_le2 (qmax_le2 q1.2 q2.2) (Rat.le_trans p1 q1.2)
    · exact qmax_le2 q1.2 q2.2
theorem pw2_L {m e n f w : Int} (h : Fit2 m e n f) (hw : 0 ≤ w ∧ w ≤ 100) : L (flr (pwL m e n f 2) w).natAbs ≤ 20 ∧ L (cei (pwH m e n f 2) w).natAbs ≤ 20 := by
  obtain ⟨a, b, _⟩ := h
  have t : ∀ (x y : Int), L x.natAbs ≤ 2 → -6 ≤ y ∧ y ≤ 70 → L (flr (dv x y ^ (2 : Int)) w).natAbs ≤ 20 ∧ L (cei (dv x y ^ (2 : Int)) w).natAbs ≤ 20 := fun x y hx hy => by
    rw [pw2, ← dv_mul]
    have h1 := L_abs_mul x x
    have h2 := flr_LD (x * x) (y + y) w
    omega
  have t1 := t m e a.1 a.2
  have t2 := t n f b.1 b.2
  have z : L (flr 0 w).natAbs ≤ 20 ∧ L (cei 0 w).natAbs ≤ 20 := by
    have h2 := flr_LD 0 0 w
    have zl : L (0 : Int).natAbs = 0 := L_zero
    rw [dv_zero] at h2
    omega
  refine ⟨?_, ?_⟩
  · unfold pwL; split
    · exact flr_qmin_L (flr_qmin_L t1.1 t2.1) z.1
    · exact flr_qmin_L t1.1 t2.1
  · unfold pwH; split
    · exact cei_qmax_L (cei_qmax_L t1.2 t2.2) z.2
    · exact cei_qmax_L t1.2 t2.2
theorem en_pos {lo hi : Rat} {w : Int} {c : Nat} (h0 : 0 ≤ lo) (hl : lo ≤ hi) (hw : 0 ≤ w ∧ w ≤ 200) (h1 : L (flr lo w).natAbs ≤ c) (h2 : L (cei hi w).natAbs ≤ c) (hc : c ≤ 25) :
    enE lo hi w = 0 ∧ (0 ≤ enM lo hi w ∧ L (enM lo hi w).natAbs ≤ c ∧ (-200 ≤ enX lo hi w ∧ enX lo hi w ≤ 32 * c)) ∧ (0 ≤ enN lo hi w ∧ L (enN lo hi w).natAbs ≤ c ∧ (-200 ≤ enF lo hi w ∧ enF lo hi w ≤ 32 * c)) ∧
    (dv (enM lo hi w) (enX lo hi w) ≤ lo ∧ hi ≤ dv (enN lo hi w) (enF lo hi w)) ∧ (dv (enM lo hi w) (enX lo hi w) = dv (flr lo w) (-w) ∧ dv (enN lo hi w) (enF lo hi w) = dv (cei hi w) (-w)) := by
  have he := en_ok (by omega : 0 ≤ w ∧ w ≤ 300) hl (Nat.le_trans h1 (by omega)) (Nat.le_trans h2 (by omega))
  obtain ⟨a, b, cc, d⟩ := en_yes he
  have f1 := mk_fit (m := flr lo w) (e := -w) (by omega) (by omega)
  have f2 := mk_fit (m := cei hi w) (e := -w) (by omega) (by omega)
  have i1 := iMin_range (-w) 0
  have i2 : iMax (-w) 0 ≤ 0 := by unfold iMax; split <;> omega
  have p1 : 0 ≤ flr lo w := flr_nonneg h0 w
  have p2 := flr_cei hl w
  have dd := en_dv he
  have n1 : 0 ≤ enM lo hi w := dv_ge0.1 (by rw [dd.1]; exact dv_nonneg p1)
  have n2 : 0 ≤ enN lo hi w := dv_ge0.1 (by rw [dd.2]; exact dv_nonneg (by omega))
  refine ⟨he, ⟨n1, ?_, ?_⟩, ⟨n2, ?_, ?_⟩, ⟨?_, ?_⟩, dd⟩
  · rw [a]; omega
  · rw [b]; omega
  · rw [cc]; omega
  · rw [d]; omega
  · rw [dd.1]; exact flr_le lo w
  · rw [dd.2]; exact cei_ge hi w
theorem sqV_L2 {M X w : Int} {up : Bool} (hL : L M.natAbs ≤ 20) (hX : -200 ≤ X ∧ X ≤ 640) (hw : 0 ≤ w ∧ w ≤ 100) : L (sqV M X w up).natAbs ≤ 60 := by
  have h := flr_LD M X (2 * w)
  have h2 := rt_L (flr (dv M X) (2 * w)).natAbs
  have h1 : L (1 : Int).natAbs ≤ 1 := L_le (by decide)
  have h3 := L_abs_add (sqF M X w) 1
  rw [Int.natAbs_natCast] at h3
  have h4 : L (sqF M X w) ≤ 50 := by unfold sqF; omega
  unfold sqV
  split
  · omega
  · rw [Int.add_zero, Int.natAbs_natCast]; omega
theorem rp_square {w M X N F : Int} (hM : 0 ≤ M) (hN : 0 ≤ N) (h1 : L M.natAbs ≤ 20 ∧ -200 ≤ X ∧ X ≤ 640) (h2 : L N.natAbs ≤ 20 ∧ -200 ≤ F ∧ F ≤ 640) (hw : 0 ≤ w ∧ w ≤ 100) (v2 : vdb N F = true) (ho : dv M X ≤ dv N F)
    {a b c d : Int} (ea : a = srM M X w false) (eb : b = srX M X w false) (ec : c = srM N F w true) (ed : d = srX N F w true) :
    (0 ≤ a ∧ L a.natAbs ≤ 60 ∧ (-300 ≤ b ∧ b ≤ 4900)) ∧ (0 ≤ c ∧ L c.natAbs ≤ 60 ∧ (-300 ≤ d ∧ d ≤ 4900)) ∧ dv a b ≤ dv c d ∧ (dv a b * dv a b ≤ dv M X ∧ dv N F ≤ dv c d * dv c d) ∧ (0 ≤ dv a b ∧ L (flr (dv a b ^ (2 : Int)) w).natAbs ≤ 60 ∧ L (cei (dv c d ^ (2 : Int)) w).natAbs ≤ 60) := by
  have hw2 : 0 ≤ w ∧ w ≤ 300 := by omega
  have r1 := sr_all (up := false) hM (show L M.natAbs ≤ 30 by omega) (by omega : -1000 ≤ X ∧ X ≤ 3000) hw2
  have r2 := sr_all (up := true) hN (show L N.natAbs ≤ 30 by omega) (by omega : -1000 ≤ F ∧ F ≤ 3000) hw2
  have s1 := sqV_L2 (up := false) h1.1 h1.2 hw
  have s2 := sqV_L2 (up := true) h2.1 h2.2 hw
  have m1 := mk_facts (sqV M X w false) (-w)
  have m2 := mk_facts (sqV N F w true) (-w)
  have n1 := sr_nonneg (up := false) hM (show L M.natAbs ≤ 30 by omega) (by omega : -1000 ≤ X ∧ X ≤ 3000) hw2
  have n2 := sr_nonneg (up := true) hN (show L N.natAbs ≤ 30 by omega) (by omega : -1000 ≤ F ∧ F ≤ 3000) hw2
  subst ea; subst eb; subst ec; subst ed
  have d1 := r1.2.2.2.1
  have d2 := r2.2.2.2.1
  have e1 : dv (srM M X w false) (srX M X w false) * dv (srM M X w false) (srX M X w false) ≤ dv M X := by rw [d1]; exact sq_dn hM
  have e2 : dv N F ≤ dv (srM N F w true) (srX N F w true) * dv (srM N F w true) (srX N F w true) := by rw [d2]; exact sq_up hN v2
  have p1 := dv_nonneg (e := srX M X w false) n1
  have p2 := dv_nonneg (e := srX N F w true) n2
  have l1 : L (flr (dv (srM M X w false) (srX M X w false) ^ (2 : Int)) w).natAbs ≤ 60 := by
    have g0 : 0 ≤ flr (dv (srM M X w false) (srX M X w false) ^ (2 : Int)) w := flr_nonneg (by rw [pw2]; exact Rat.mul_nonneg p1 p1) w
    have g1 : flr (dv (srM M X w false) (srX M X w false) ^ (2 : Int)) w ≤ flr (dv M X) w := flr_mono (by rw [pw2]; exact e1) w
    have g2 := flr_LD M X w
    exact Nat.le_trans (L_mono (by omega)) (show L (flr (dv M X) w).natAbs ≤ 60 by omega)
  have l2 : L (cei (dv (srM N F w true) (srX N F w true) ^ (2 : Int)) w).natAbs ≤ 60 := by
    have g0 : dv (srM N F w true) (srX N F w true) ^ (2 : Int) = dv (sqV N F w true * sqV N F w true) (-(2 * w)) := by rw [pw2, d2, dv_sq]
    have g1 := flr_LD (sqV N F w true * sqV N F w true) (-(2 * w)) w
    rw [← g0] at g1
    have g3 := flr_LD N F (2 * w)
    have g4 := rt_L (flr (dv N F) (2 * w)).natAbs
    have g5 := L_abs_mul (sqV N F w true) (sqV N F w true)
    have hs : L (sqV N F w true).natAbs ≤ 29 := by
      -- the root is short: its square is at most four times what is under it
      have hb := sq_le (X := F) w hN
      have t1 : L (sqF N F w) ≤ 28 := by
        have t2 : sqF N F w < 4294967296 ^ 28 := by
          refine sq_lt (Nat.lt_of_le_of_lt (rt_spec (flr (dv N F) (2 * w)).natAbs).1 ?_)
          have t3 := L_lt (flr (dv N F) (2 * w)).natAbs
          refine Nat.lt_of_lt_of_le t3 ?_
          rw [← Nat.pow_add]
          exact Nat.pow_le_pow_right (by decide) (by omega)
        exact L_le t2
      have t4 : L (1 : Int).natAbs ≤ 1 := L_le (by decide)
      have t5 := L_abs_add (sqF N F w) 1
      rw [Int.natAbs_natCast] at t5
      unfold sqV
      split
      · omega
      · rw [Int.add_zero, Int.natAbs_natCast]; omega
    omega
  refine ⟨⟨n1, ?_, r1.2.2.2.2.2.1⟩, ⟨n2, ?_, r2.2.2.2.2.2.1⟩, sq_cmp p1 p2 (Rat.le_trans e1 (Rat.le_trans ho e2)), ⟨e1, e2⟩, p1, l1, l2⟩
  · rw [r1.2.1]; omega
  · rw [r2.2.1]; omega
end Go.Proofs.YtmbpoibhamlkbaaGreatDoor

namespace Go.Proofs.YtmbpoibhamlkbaaGreatDoor
open Go.RowKit
set_option maxRecDepth 100000
set_option maxHeartbeats 8000000
theorem l12_RPd0 (b1 : Bool) (l1 : List Nat) (e1 : Int) (b2 : Bool) (l2 : List Nat) (e2 : Int) (w : Int) (m : Int) (ee : Int) (n : Int) (f : Int) (pa : Int) (pb : Int) (pc : Int) (pd : Int) (qa : Int) (qb : Int) (qc : Int) (qd : Int) (ra : Int) (rb : Int) (rc : Int) (rd : Int) (sa : Int) (sb : Int) (sc : Int) (sd : Int) (c0 : (-9223372036854775808 : Int) ≤ w ∧ w ≤ 9223372036854775807) (c1 : Impl Tryz.prog Amb 28 [(.agg [(.bool b1), (.sl 1 (U l1)), (.int .i64 e1), (.bool b2), (.sl 1 (U l2)), (.int .i64 e2)]), (.int .i64 2), (.int .i64 6)] (.tup [(wV m ee n f), (.bool (decide ((l1.length : Int) ≤ 2 ∧ (l2.length : Int) ≤ 2)))])) (c2 : Impl Tryz.prog Amb 44 [(wV m ee n f), (.int .i64 2), (.int .i64 (w % 60))] (.tup [(wV pa pb pc pd), (.int .i64 0)])) (c3 : Impl Tryz.prog Amb 51 [(wV m ee n f), (wV m ee n f), (.int .i64 (w % 60))] (.tup [(wV qa qb qc qd), (.int .i64 0)])) (c4 : Impl Tryz.prog Amb 63 [(wV pa pb pc pd), (wV qa qb qc qd)] (.bool true)) (c5 : Impl Tryz.prog Amb 32 [(wV pa pb pc pd), (.int .i64 (w % 60))] (.tup [(wV ra rb rc rd), (.int .i64 0)])) (c6 : Impl Tryz.prog Amb 44 [(wV ra rb rc rd), (.int .i64 2), (.int .i64 (w % 60))] (.tup [(wV sa sb sc sd), (.int .i64 0)])) (c7 : Impl Tryz.prog Amb 63 [(wV pa pb pc pd), (wV sa sb sc sd)] (.bool true)) : Impl Tryz.prog Amb 13 [(.agg [(.bool b1), (.sl 1 (U l1)), (.int .i64 e1), (.bool b2), (.sl 1 (U l2)), (.int .i64 e2)]), (.int .i64 w)] (.bool true) := by
  exact impl_ob hP hAmb Tryz.func13 (by kernel_rfl) (.lit <| .call (.bool true) <| .lits 4 <| .call (.tup [(wV m ee n f), (.bool (decide ((l1.length : Int) ≤ 2 ∧ (l2.length : Int) ≤ 2)))]) <| .lits 2 <| .both (.lit <| .ret) (.lit <| .call (.int .i64 (w % 60)) <| .lits 2 <| .call (.tup [(wV pa pb pc pd), (.int .i64 0)]) <| .lits 4 <| .call (.tup [(wV qa qb qc qd), (.int .i64 0)]) <| .lits 12 <| .call (.bool true) <| .lits 6 <| .call (.tup [(wV ra rb rc rd), (.int .i64 0)]) <| .lits 3 <| .call (.tup [(wV sa sb sc sd), (.int .i64 0)]) <| .lits 12 <| .call (.bool true) <| .lits 2 <| .ret))
    (cast_ob (aI True.intro (aI (l12_awake ) (aI (c1 ) (aI (fun (h1 : (!(decide ((l1.length : Int) ≤ 2 ∧ (l2.length : Int) ≤ 2))) = true) => have _gh1 := of_decide_eq_false (notb_t h1); (vsub_refl (.bool true))) (fun (h2 : (!(decide ((l1.length : Int) ≤ 2 ∧ (l2.length : Int) ≤ 2))) = false) => have _gh2 := of_decide_eq_true (notb_f h2); aI (mill_Mod w 60 oS oS) (have f4 := Int.emod_lt_of_pos w (show (0 : Int) < 60 by first | omega | assumption); have f3 := Int.emod_nonneg w (show (60 : Int) ≠ 0 by first | omega | assumption); aI (c2 ) (aI (c3 ) (aI (c4 ) (aI (c5 ) (aI (c6 ) (aI (c7 ) ((vsub_refl (.bool true)))))))))))))) (by kernel_rfl))
theorem l12_RadicalProducts (b1 : Bool) (l1 : List Nat) (e1 : Int) (b2 : Bool) (l2 : List Nat) (e2 : Int) (w : Int) (c0 : Dig l1) (c1 : l1.length ≤ 9223372036854775807) (c2 : (-9223372036854775808 : Int) ≤ e1 ∧ e1 ≤ 9223372036854775807) (c3 : Dig l2) (c4 : l2.length ≤ 9223372036854775807) (c5 : (-9223372036854775808 : Int) ≤ e2 ∧ e2 ≤ 9223372036854775807) (c6 : (-9223372036854775808 : Int) ≤ w ∧ w ≤ 9223372036854775807) : Impl Tryz.prog Amb 13 [(.agg [(.bool b1), (.sl 1 (U l1)), (.int .i64 e1), (.bool b2), (.sl 1 (U l2)), (.int .i64 e2)]), .int .i64 w] (.bool true) := by
  have fa := iv_fit (b := b1) (e := e1) (c := b2) (f := e2) (n := 2) (k := 6) c0 c3 oO oO
  have hi := mill_Iv b1 l1 e1 b2 l2 e2 2 6 c0 c1 c3 c4 c2 c5 oO oO
  generalize hm : (ivM b1 l1 e1 b2 l2 e2 2 6) = m at fa hi
  generalize he : (ivX b1 l1 e1 b2 l2 e2 2 6) = ee at fa hi
  generalize hn : (ivN b1 l1 e1 b2 l2 e2 2 6) = n at fa hi
  generalize hf : (ivF b1 l1 e1 b2 l2 e2 2 6) = f at fa hi
  have w1 := Int.emod_nonneg w (show (60 : Int) ≠ 0 by omega)
  have w2 := Int.emod_lt_of_pos w (show (0 : Int) < 60 by omega)
  generalize hv : w % 60 = v at w1 w2
  have f2 : Fit2 m ee n f := ⟨⟨by omega, by omega, by omega⟩, ⟨by omega, by omega, by omega⟩, fa.2.2.2⟩
  have hv4 : (0 ≤ v ∧ v ≤ 4096) ∧ (-64 : Int) ≤ 2 ∧ (2 : Int) ≤ 64 := by omega
  have k1 := pw2_lo (e := ee) (f := f) fa.2.2.2
  have k2 := pw2_L f2 (w := v) oO
  have k3 := en_pos (w := v) k1.1 k1.2.1 oO k2.1 k2.2 oO
  have t1 : pqT m ee n f 2 v = .tup [(wV (enM (pwL m ee n f 2) (pwH m ee n f 2) v) (enX (pwL m ee n f 2) (pwH m ee n f 2) v) (enN (pwL m ee n f 2) (pwH m ee n f 2) v) (enF (pwL m ee n f 2) (pwH m ee n f 2) v)), .int .i64 0] := by
    rw [pq_ok hv4 oO]; unfold enV; rw [k3.1]
  have hp := impl_eq t1 (rad_Power m ee n f 2 v oO oO fa.2.1 oO oO fa.2.2.1 fa.2.2.2 oO oO)
  have kq := ml_ok (w := v) (fit2_I f2) (fit2_I f2) oO
  have q9 : enV (mlLo m ee n f m ee n f) (mlHi m ee n f m ee n f) v = .tup [(wV (enM (mlLo m ee n f m ee n f) (mlHi m ee n f m ee n f) v) (enX (mlLo m ee n f m ee n f) (mlHi m ee n f m ee n f) v) (enN (mlLo m ee n f m ee n f) (mlHi m ee n f m ee n f) v) (enF (mlLo m ee n f m ee n f) (mlHi m ee n f m ee n f) v)), .int .i64 0] := by unfold enV; rw [kq]
  have hq0 := impl_eq q9 (ar_Mul m ee n f m ee n f v oO oO oO oO oO oO oO oO (ml_fine oO oO oO oO) (ml_fine oO oO oO oO) (ml_fine oO oO oO oO) (ml_fine oO oO oO oO) oO)
  have zq := en_sz (mlLo m ee n f m ee n f) (mlHi m ee n f m ee n f) v
  have hw1 := en_within kq k3.1 (Int.le_refl v) k1.2.2.1 k1.2.2.2
  have vp := en_vdb (pwL m ee n f 2) (pwH m ee n f 2) v
  have op : dv (enM (pwL m ee n f 2) (pwH m ee n f 2) v) (enX (pwL m ee n f 2) (pwH m ee n f 2) v) ≤ dv (enN (pwL m ee n f 2) (pwH m ee n f 2) v) (enF (pwL m ee n f 2) (pwH m ee n f 2) v) := Rat.le_trans k3.2.2.2.1.1 (Rat.le_trans k1.2.1 k3.2.2.2.1.2)
  generalize enM (pwL m ee n f 2) (pwH m ee n f 2) v = pa at *
  generalize enX (pwL m ee n f 2) (pwH m ee n f 2) v = pb at *
  generalize enN (pwL m ee n f 2) (pwH m ee n f 2) v = pc at *
  generalize enF (pwL m ee n f 2) (pwH m ee n f 2) v = pd at *
  generalize enM (mlLo m ee n f m ee n f) (mlHi m ee n f m ee n f) v = qa at *
  generalize enX (mlLo m ee n f m ee n f) (mlHi m ee n f m ee n f) v = qb at *
  generalize enN (mlLo m ee n f m ee n f) (mlHi m ee n f m ee n f) v = qc at *
  generalize enF (mlLo m ee n f m ee n f) (mlHi m ee n f m ee n f) v = qd at *
  have hW1 := impl_eq (congrArg V.bool hw1) (r10_Within pa pb pc pd qa qb qc qd oO oO oO oO oO oO oO oO)
  have kr := rp_square (w := v) k3.2.1.1 k3.2.2.1.1 (show L pa.natAbs ≤ 20 ∧ -200 ≤ pb ∧ pb ≤ 640 by omega) (show L pc.natAbs ≤ 20 ∧ -200 ≤ pd ∧ pd ≤ 640 by omega) oO vp.2 op rfl rfl rfl rfl
  have sf := st_found (w := v) k3.2.1.1 k3.2.2.1.1 (show L pa.natAbs ≤ 30 ∧ -1000 ≤ pb ∧ pb ≤ 3000 by omega) (show L pc.natAbs ≤ 30 ∧ -1000 ≤ pd ∧ pd ≤ 3000 by omega) oO op (sqV_L2 oO oO oO) (sqV_L2 oO oO oO)
  have q8 : stT pa pb pc pd v = .tup [(wV (srM pa pb v false) (srX pa pb v false) (srM pc pd v true) (srX pc pd v true)), .int .i64 0] := by unfold stT; simp only [sf.1, sf.2]
  have hs0 := impl_eq q8 (rad_Sqrt pa pb pc pd v oO oO vp.1 oO oO vp.2 oO)
  have v1 := (sr_facts pa pb v false).2
  have v2 := (sr_facts pc pd v true).2
  generalize srM pa pb v false = ra at *
  generalize srX pa pb v false = rb at *
  generalize srM pc pd v true = rc at *
  generalize srX pc pd v true = rd at *
  have y1 := pw_in (k := 2) (Rat.le_refl (a := dv ra rb)) kr.2.2.1 oO
  have y2 := pw_in (k := 2) kr.2.2.1 (Rat.le_refl (a := dv rc rd)) oO
  have kz : pwL ra rb rc rd 2 = dv ra rb ^ (2 : Int) ∧ pwH ra rb rc rd 2 = dv rc rd ^ (2 : Int) := by
    by_cases h0 : 0 < ra
    · obtain ⟨a, b⟩ := pwo_p1 kr.2.2.1 (show (0 : Int) < 2 by decide) (.inr h0)
      exact ⟨a.symm, b.symm⟩
    · have r0 : ra = 0 := by omega
      have z1 := (pwo_z (m := ra) (e := rb) (n := rc) (f := rd) (k := 2) (by decide) (by decide) oO oO)
      rw [r0, dv_zero, zero_zp (by decide)]
      rw [r0, dv_zero] at z1
      refine ⟨z1.1, z1.2.2 ?_⟩
      have := dv_nonneg (e := rd) (show 0 ≤ rc by omega)
      grind
  have ke := en_ok (lo := pwL ra rb rc rd 2) (hi := pwH ra rb rc rd 2) (w := v) oO (Rat.le_trans y1.1 y1.2) (by rw [kz.1]; exact kr.2.2.2.2.2.1) (by rw [kz.2]; exact kr.2.2.2.2.2.2)
  have t2 : pqT ra rb rc rd 2 v = .tup [(wV (enM (pwL ra rb rc rd 2) (pwH ra rb rc rd 2) v) (enX (pwL ra rb rc rd 2) (pwH ra rb rc rd 2) v) (enN (pwL ra rb rc rd 2) (pwH ra rb rc rd 2) v) (enF (pwL ra rb rc rd 2) (pwH ra rb rc rd 2) v)), .int .i64 0] := by
    rw [pq_ok hv4 oO]; unfold enV; rw [ke]
  have hp2 := impl_eq t2 (rad_Power ra rb rc rd 2 v oO oO v1 oO oO v2 kr.2.2.1 oO oO)
  have zs := en_sz (pwL ra rb rc rd 2) (pwH ra rb rc rd 2) v
  have dd := en_dv ke
  have i1 : dv (enM (pwL ra rb rc rd 2) (pwH ra rb rc rd 2) v) (enX (pwL ra rb rc rd 2) (pwH ra rb rc rd 2) v) ≤ dv pa pb := by
    rw [dd.1]
    refine Rat.le_trans (flr_le _ v) ?_
    rw [kz.1, pw2]; exact kr.2.2.2.1.1
  have i2 : dv pc pd ≤ dv (enN (pwL ra rb rc rd 2) (pwH ra rb rc rd 2) v) (enF (pwL ra rb rc rd 2) (pwH ra rb rc rd 2) v) := by
    rw [dd.2]
    refine Rat.le_trans ?_ (cei_ge _ v)
    rw [kz.2, pw2]; exact kr.2.2.2.1.2
  have hw2 : decide (cmpD (enM (pwL ra rb rc rd 2) (pwH ra rb rc rd 2) v) (enX (pwL ra rb rc rd 2) (pwH ra rb rc rd 2) v) pa pb ≤ 0 ∧ cmpD pc pd (enN (pwL ra rb rc rd 2) (pwH ra rb rc rd 2) v) (enF (pwL ra rb rc rd 2) (pwH ra rb rc rd 2) v) ≤ 0) = true := by
    refine decide_eq_true ⟨?_, ?_⟩ <;> rw [cmpD_dv, cmpQ_le] <;> assumption
  have hW2 := impl_eq (congrArg V.bool hw2) (r10_Within pa pb pc pd _ _ _ _ oO oO oO oO oO oO oO oO)
  exact l12_RPd0 b1 l1 e1 b2 l2 e2 w m ee n f pa pb pc pd qa qb qc qd ra rb rc rd _ _ _ _ c6 hi (by rw [hv]; exact hp) (by rw [hv]; exact hq0) hW1 (by rw [hv]; exact hs0) (by rw [hv]; exact hp2) hW2
end Go.Proofs.YtmbpoibhamlkbaaGreatDoor

namespace Go.Proofs.YtmbpoibhamlkbaaGreatDoor
open Go.ChangeShapes Go.WideShapes Go.ChangeAt Go.RowKit
theorem ownNone : ownKnob Tryz.prog.godebug = none := by kernel_rfl
theorem gTab : Tryz.prog.globalNamed "math/bits.deBruijn32tab" = some 0 := by kernel_rfl
theorem gTabType : (Tryz.prog.globals[0]?).map (·.type) = some 172 := by kernel_rfl
theorem cellsTab : Tryz.prog.cellsOf 172 = 32 := by kernel_rfl
theorem cellsU8 : Tryz.prog.cellsOf 5 = 1 := by kernel_rfl
theorem amb_of {W : World} (h : laidMetH Tryz.prog [("math/bits.deBruijn32tab", Rows.laid_math_bits_deBruijn32tab)] W) : Amb W := by
  have t : Lib.TabIs Tryz.prog W "math/bits.deBruijn32tab" .u8 tab32 := Lib.tabIs_of_head (rest := []) gTab gTabType Tryz.underlying172 Tryz.underlying5 cellsU8 cellsTab h
  intro i v hi
  have hlt : i < tab32.length := by
    rcases Nat.lt_or_ge i tab32.length with q | q
    · exact q
    · rw [List.getElem?_eq_none q] at hi; cases hi
  have h1 := t.cell gTab i hlt
  rw [List.getD_eq_getElem?_getD, hi] at h1
  exact h1
theorem int_wf {n : Int} (h : (Lit.int .i64 n).wf = true) : (-9223372036854775808 : Int) ≤ n ∧ n ≤ 9223372036854775807 := by
  simp only [Lit.wf, Bool.and_eq_true, decide_eq_true_eq] at h
  simp [IntKind.min, IntKind.max, IntKind.signed, IntKind.bits] at h
  omega
noncomputable def laidWorld (os : Os) : World :=
  { World.holding Tryz.prog os ⟨#[], #[], []⟩ with heap := (World.holding Tryz.prog os ⟨#[], #[], []⟩).heap.modify 0 fun
      | .cells _ t frozen => .cells (tab32.map (Value.int .u8)).toArray t frozen
      | o => o }
theorem post_of_below {H : Type} {enc : TypeId × Value → H} {P : Program} {f : Func} {s : ChangeSpec} {apart fresh handsOn again : Bool} {W W' : World} {args : Array Value} {v : Value} {ds gs : List (DataW H)} {before pa pv : List MemPlace}
    (hW : DataW.Whole enc P f.params.toList s.vars apart W args.toList ds gs before)
    (hres : ∀ (b : Nat) (sp : Nat → Bool) (hd : Bool), DataW.TrodAll enc P W' b sp hd f.resultTypes.toList (v.resultList f.resultTypes.size) (s.fn H (ds ++ gs)).results [])
    (hargs : ∀ sp : Nat → Bool, (∀ p ∈ before, sp p.block = true) → DataW.TrodAll enc P W' 0 sp true f.params.toList args.toList (s.fn H (ds ++ gs)).args pa)
    (hvars : ∀ sp : Nat → Bool, (∀ p ∈ before, sp p.block = true) → DataW.TrodVars enc P W' sp s.vars (s.fn H (ds ++ gs)).vars pv)
    (hps : before = pa ++ pv) (hb : Below W.heap.size W W')
    (hok : ∀ (j : Nat) (t : TypeId) (r : Value), f.resultTypes[j]? = some t → (v.resultList f.resultTypes.size)[j]? = some r → Value.okWide P W' .any 0 t r) : s.post enc P f apart fresh handsOn again W args v W' := by
  have lt := hW.lt
  have old : ∀ p ∈ before, (fun b => decide (b < W.heap.size)) p.block = true := fun p hp => decide_eq_true (lt p hp)
  subst hps
  refine ⟨ds, gs, pa ++ pv, [], pa, pv, hW, hres _ _ _, hargs _ old, hvars _ old, hb.frame _, fun _ => ?_⟩
  obtain ⟨_, _, _, _, _, hz, hn⟩ := hW
  have h1 := trodAll_append (hargs (fun _ => true) fun _ _ => rfl) (hres 0 (fun _ => true) true)
  refine ⟨hok, _, _, _, ⟨_, pv, h1, hvars _ fun _ _ => rfl, rfl, fun b off hp => ?_, fun ha => ?_⟩, fun p hp _ => ?_⟩
  · have hp' : MemPlace.cell b off ∈ pa ++ pv := by simpa using hp
    rw [hb.frozen (lt _ hp')]
    exact hz b off hp'
  · simpa using hn ha
  · simpa using hp
end Go.Proofs.YtmbpoibhamlkbaaGreatDoor

namespace Go.Proofs.YtmbpoibhamlkbaaGreatDoor
open Go.ChangeShapes Go.WideShapes Go.ChangeAt Go.RowKit
set_option maxRecDepth 100000
variable {H : Type} {enc : TypeId × Value → H} {W : World} {sp : Nat → Bool} {held : Bool}
theorem laidOut : laidOutB Tryz.prog = true := by kernel_rfl
theorem cellsU32 : Tryz.prog.cellsOf 137 = 1 := by kernel_rfl
theorem cellsSl : Tryz.prog.cellsOf 22 = 1 := by kernel_rfl
theorem cellsBool : Tryz.prog.cellsOf 4 = 1 := by kernel_rfl
theorem cellsInt : Tryz.prog.cellsOf 3 = 1 := by kernel_rfl
theorem cellsZ : Tryz.prog.cellsOf 24 = 2 := by kernel_rfl
theorem cellsY : Tryz.prog.cellsOf 26 = 3 := by kernel_rfl
theorem cellsW : Tryz.prog.cellsOf 28 = 6 := by kernel_rfl
theorem rdl_U (S : Nat → Prop) : ∀ l : List Nat, RdL W S (l.map fun (d : Nat) => Value.int .u32 (d : Int)) (U l)
  | [] => .nil
  | _ :: l => .cons .int (rdl_U S l)
theorem wf_u32 {n : Int} (h : (Lit.int .u32 n).wf = true) : 0 ≤ n ∧ n < 4294967296 := by
  simp only [Lit.wf, Bool.and_eq_true, decide_eq_true_eq] at h
  simp [IntKind.min, IntKind.max, IntKind.signed, IntKind.bits] at h
  omega
theorem open_slice32 {n : Nat} {c : Value} {x : DataW H × List MemPlace} {b0 : Nat} (h : DataW.trod enc Tryz.prog W 0 sp held n 22 [c] = some x) (hok : Cell.okWide Tryz.prog W .any b0 22 c) :
    ∃ l : List Nat, Dig l ∧ l.length ≤ maxLen ∧ Rd W (fun _ => True) c (.sl 1 (U l)) := by
  rcases open_ints Tryz.underlying22 Tryz.underlying137 cellsU32 h with ⟨hc, _⟩ | ⟨a, len, cap, zs, hc, _, hl, hm, hz, _, hcell, hwf⟩
  · obtain rfl : c = .slice none 0 0 := by simpa using hc
    exact ⟨[], (fun d hd => by cases hd), Nat.zero_le _, .nilsl⟩
  · obtain rfl : c = .slice (some a) len cap := by simpa using hc
    have hlen : len ≤ zs.length := by rw [hz]; split <;> omega
    simp only [Cell.okWide, Cell.ok, Tryz.underlying22, World.has] at hok
    obtain ⟨_, _, _, hs, row, cells, hsh, _⟩ := hok
    obtain ⟨ab, ao, spot⟩ := a
    simp only at hs hsh
    subst hs
    have hb : ab < W.heap.size := by
      unfold World.shape? at hsh
      split at hsh
      · rename_i q; exact (Array.getElem?_eq_some_iff.1 q).1
      · cases hsh
    refine ⟨(zs.take len).map Int.toNat, ?_, ?_, ?_⟩
    · intro d hd
      obtain ⟨z, hz', rfl⟩ := List.mem_map.1 hd
      have := wf_u32 (hwf z (List.mem_of_mem_take hz'))
      show z.toNat < 4294967296
      omega
    · simp; omega
    · refine .sl (vals := ((zs.take len).map Int.toNat).map fun (d : Nat) => Value.int .u32 (d : Int)) trivial hb hl (by simp [U]; omega) (rdl_U _ _) ?_
      intro i v hv
      simp only [List.getElem?_map, Option.map_eq_some_iff] at hv
      obtain ⟨d, ⟨z, hz', rfl⟩, rfl⟩ := hv
      have hi : i < len := by
        rcases Nat.lt_or_ge i len with q | q
        · exact q
        · rw [List.getElem?_eq_none (by simp; omega)] at hz'; cases hz'
      rw [List.getElem?_take, if_pos hi] at hz'
      have h1 := hcell i (by omega)
      rw [List.getD_eq_getElem?_getD, hz'] at h1
      have h2 := wf_u32 (hwf z (List.mem_of_getElem? hz'))
      have h3 : ((z.toNat : Nat) : Int) = z := Int.toNat_of_nonneg h2.1
      simp only [Option.getD_some] at h1
      rw [h3]
      have h4 : (Addr.mk ab ao none).add i = ⟨ab, ao + i, none⟩ := by
        unfold Addr.add; split
        · rename_i q; subst q; rfl
        · rfl
      rw [h4] at h1
      exact h1
theorem open_Z {n : Nat} {c0 c1 : Value} {x : DataW H × List MemPlace} {b0 : Nat} (h : DataW.trod enc Tryz.prog W 0 sp held n 24 [c0, c1] = some x) (hok : Cell.okWide Tryz.prog W .any b0 22 c1) :
    ∃ (b : Bool) (l : List Nat), Dig l ∧ l.length ≤ maxLen ∧ RdL W (fun _ => True) [c0, c1] [.bool b, .sl 1 (U l)] := by
  obtain ⟨y0, y1, m, _, _, h0, h1⟩ := trod_struct2 Tryz.underlying24 h
  have k0 : DataW.trod enc Tryz.prog W 0 sp held m 4 [c0] = some y0 := by simpa [cellsBool] using h0
  have k1 : DataW.trod enc Tryz.prog W 0 sp held m 22 [c1] = some y1 := by simpa [cellsSl] using h1
  obtain ⟨b, hb, _⟩ := DataW.trod_bool Tryz.underlying4 k0
  obtain rfl : c0 = .bool b := by simpa using hb
  obtain ⟨l, d, e, r⟩ := open_slice32 k1 hok
  exact ⟨b, l, d, e, .cons .bool (.cons r .nil)⟩
theorem open_Y {n : Nat} {c0 c1 c2 : Value} {x : DataW H × List MemPlace} {b0 : Nat} (h : DataW.trod enc Tryz.prog W 0 sp held n 26 [c0, c1, c2] = some x) (hok : Cell.okWide Tryz.prog W .any b0 22 c1) :
    ∃ (b : Bool) (l : List Nat) (e : Int), Dig l ∧ l.length ≤ maxLen ∧ ((-9223372036854775808 : Int) ≤ e ∧ e ≤ 9223372036854775807) ∧ RdL W (fun _ => True) [c0, c1, c2] [.bool b, .sl 1 (U l), .int .i64 e] := by
  obtain ⟨y0, y1, m, _, _, h0, h1⟩ := trod_struct2 Tryz.underlying26 h
  have k0 : DataW.trod enc Tryz.prog W 0 sp held m 24 [c0, c1] = some y0 := by simpa [cellsZ] using h0
  have k1 : DataW.trod enc Tryz.prog W 0 sp held m 3 [c2] = some y1 := by simpa [cellsInt] using h1
  obtain ⟨b, l, d, e, r⟩ := open_Z k0 hok
  obtain ⟨z, hz, _, hw⟩ := DataW.trod_int Tryz.underlying3 k1
  obtain rfl : c2 = .int .i64 z := by simpa using hz
  cases r with | cons r0 r => cases r with | cons r1 r => cases r with | nil =>
    exact ⟨b, l, z, d, e, int_wf hw, .cons r0 (.cons r1 (.cons .int .nil))⟩
theorem array6 {α : Type} {cs : Array α} (h : cs.size = 6) : ∃ c0 c1 c2 c3 c4 c5, cs = #[c0, c1, c2, c3, c4, c5] := by
  obtain ⟨l⟩ := cs
  match l, h with
  | [c0, c1, c2, c3, c4, c5], _ => exact ⟨c0, c1, c2, c3, c4, c5, rfl⟩
theorem open_W {v : Value} {d : DataW H} {p : List MemPlace} {b0 : Nat} (hv : Value.okWide Tryz.prog W .any b0 28 v) (h : DataW.Trod enc Tryz.prog W 0 sp held 28 v d p) :
    ∃ (b : Bool) (l : List Nat) (e : Int) (c : Bool) (r : List Nat) (f : Int), (Dig l ∧ l.length ≤ maxLen ∧ ((-9223372036854775808 : Int) ≤ e ∧ e ≤ 9223372036854775807)) ∧ (Dig r ∧ r.length ≤ maxLen ∧ ((-9223372036854775808 : Int) ≤ f ∧ f ≤ 9223372036854775807)) ∧
      Rd W (fun _ => True) v (.agg [.bool b, .sl 1 (U l), .int .i64 e, .bool c, .sl 1 (U r), .int .i64 f]) := by
  simp only [Value.okWide, Tryz.underlying28] at hv
  obtain ⟨cs, rfl, hsz, ts, hts, _, hrow⟩ := hv
  have e0 : Tryz.prog.cellTypes Tryz.prog.depth 28 = some [4, 22, 3, 4, 22, 3] := by kernel_rfl
  rw [e0] at hts
  obtain rfl := Option.some.inj hts
  obtain ⟨c0, c1, c2, c3, c4, c5, rfl⟩ := array6 (hsz.trans cellsW)
  obtain ⟨u1, q1, ok1⟩ := hrow 1 c1 rfl
  obtain rfl : 22 = u1 := by simpa using q1
  obtain ⟨u4, q4, ok4⟩ := hrow 4 c4 rfl
  obtain rfl : 22 = u4 := by simpa using q4
  obtain ⟨n, hn⟩ := h
  obtain ⟨y0, y1, m, _, _, h0, h1⟩ := trod_struct2 Tryz.underlying28 hn
  have k0 : DataW.trod enc Tryz.prog W 0 sp held m 26 [c0, c1, c2] = some y0 := by simpa [cellsY, Value.cells] using h0
  have k1 : DataW.trod enc Tryz.prog W 0 sp held m 26 [c3, c4, c5] = some y1 := by simpa [cellsY, Value.cells] using h1
  obtain ⟨b, l, e, d1, d2, d3, r1⟩ := open_Y k0 ok1
  obtain ⟨c, r, f, f1, f2, f3, r2⟩ := open_Y k1 ok4
  refine ⟨b, l, e, c, r, f, ⟨d1, d2, d3⟩, ⟨f1, f2, f3⟩, ?_⟩
  cases r1 with | cons a0 r1 => cases r1 with | cons a1 r1 => cases r1 with | cons a2 r1 => cases r1 with | nil =>
  cases r2 with | cons b0 r2 => cases r2 with | cons b1 r2 => cases r2 with | cons b2 r2 => cases r2 with | nil =>
    exact .agg (.cons a0 (.cons a1 (.cons a2 (.cons b0 (.cons b1 (.cons b2 .nil))))))
end Go.Proofs.YtmbpoibhamlkbaaGreatDoor
