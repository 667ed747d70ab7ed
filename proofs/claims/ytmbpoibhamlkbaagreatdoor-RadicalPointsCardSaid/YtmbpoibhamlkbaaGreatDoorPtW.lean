/-
  Lower layers: what functions of the program compute, and plain facts. Conditions: as the theorems say.
-/
import Derived.Test.YtmbpoibhamlkbaaGreatDoorPtV
set_option linter.unusedVariables false
set_option linter.unusedSimpArgs false
namespace Go.Proofs.YtmbpoibhamlkbaaGreatDoor
open Go.RowKit
set_option maxRecDepth 100000
set_option maxHeartbeats 8000000
theorem l12_awake : Impl Tryz.prog Amb 27 [] (.bool true) := by
  exact impl_ob hP hAmb Tryz.func27 (by kernel_rfl) (.lit <| .call (wV (mkM 2 0) (mkX 2 0) (mkM 2 0) (mkX 2 0)) <| .lit <| .call (stT (mkM 2 0) (mkX 2 0) (mkM 2 0) (mkX 2 0) 1) <| .lits 2 <| .call (wV (mkM (-1) 0) (mkX (-1) 0) (mkM 1 0) (mkX 1 0)) <| .lit <| .call (stT (mkM (-1) 0) (mkX (-1) 0) (mkM 1 0) (mkX 1 0) 1) <| .lits 2 <| .call (wV (mkM (-2) 0) (mkX (-2) 0) (mkM (-1) 0) (mkX (-1) 0)) <| .lit <| .call (stT (mkM (-2) 0) (mkX (-2) 0) (mkM (-1) 0) (mkX (-1) 0) 1) <| .lits 2 <| .call (wV (mkM (-1) 0) (mkX (-1) 0) (mkM 2 0) (mkX 2 0)) <| .lit <| .call (pqT (mkM (-1) 0) (mkX (-1) 0) (mkM 2 0) (mkX 2 0) 2 0) <| .lits 2 <| .call (zV (3 : Int)) <| .lit <| .call (mkT (3 : Int) (-1)) <| .lits 2 <| .yes <| .lits 3 <| .call (yV (mkM 1 0) (mkX 1 0)) <| .lits 6 <| .call (.bool (decide (((stV (srX (mkM 2 0) (mkX 2 0) 1 false) (mkM 2 0) (mkX 2 0) (mkM 2 0) (mkX 2 0) 1) = (mkX 1 0) ∧ (stV (srM (mkM 2 0) (mkX 2 0) 1 false) (mkM 2 0) (mkX 2 0) (mkM 2 0) (mkX 2 0) 1) = (mkM 1 0)) ∧ ((stV (srX (mkM 2 0) (mkX 2 0) 1 true) (mkM 2 0) (mkX 2 0) (mkM 2 0) (mkX 2 0) 1) = (mkX (3 : Int) (-1)) ∧ (stV (srM (mkM 2 0) (mkX 2 0) 1 true) (mkM 2 0) (mkX 2 0) (mkM 2 0) (mkX 2 0) 1) = (mkM (3 : Int) (-1)))))) <| .lit <| .yes <| .lits 3 <| .yes <| .lits 3 <| .yes <| .lits 3 <| .yes <| .lits 3 <| .call (wV (mkM 0 0) (mkX 0 0) (mkM 4 0) (mkX 4 0)) <| .lits 2 <| .call (.bool (decide (((pqV (enX (pwL (mkM (-1) 0) (mkX (-1) 0) (mkM 2 0) (mkX 2 0) 2) (pwH (mkM (-1) 0) (mkX (-1) 0) (mkM 2 0) (mkX 2 0) 2) 0) (mkM (-1) 0) (mkX (-1) 0) (mkM 2 0) (mkX 2 0) 2 0) = (mkX 0 0) ∧ (pqV (enM (pwL (mkM (-1) 0) (mkX (-1) 0) (mkM 2 0) (mkX 2 0) 2) (pwH (mkM (-1) 0) (mkX (-1) 0) (mkM 2 0) (mkX 2 0) 2) 0) (mkM (-1) 0) (mkX (-1) 0) (mkM 2 0) (mkX 2 0) 2 0) = (mkM 0 0)) ∧ ((pqV (enF (pwL (mkM (-1) 0) (mkX (-1) 0) (mkM 2 0) (mkX 2 0) 2) (pwH (mkM (-1) 0) (mkX (-1) 0) (mkM 2 0) (mkX 2 0) 2) 0) (mkM (-1) 0) (mkX (-1) 0) (mkM 2 0) (mkX 2 0) 2 0) = (mkX 4 0) ∧ (pqV (enN (pwL (mkM (-1) 0) (mkX (-1) 0) (mkM 2 0) (mkX 2 0) 2) (pwH (mkM (-1) 0) (mkX (-1) 0) (mkM 2 0) (mkX 2 0) 2) 0) (mkM (-1) 0) (mkX (-1) 0) (mkM 2 0) (mkX 2 0) 2 0) = (mkM 4 0))))) <| .lits 2 <| .ret)
    (cast_ob (aI True.intro (aI (l12_of 2 2 (by first | omega | exact (of_fit oO).2.2.2.2.1 | kernel_rfl | (rw [(of_fit oO).2.2.2.2.2, (of_fit oO).2.2.2.2.2]; decide)) (by first | omega | exact (of_fit oO).2.2.2.2.1 | kernel_rfl | (rw [(of_fit oO).2.2.2.2.2, (of_fit oO).2.2.2.2.2]; decide))) (have f83 := (of_fit (n := 2) (by first | omega | exact (of_fit oO).2.2.2.2.1 | kernel_rfl | (rw [(of_fit oO).2.2.2.2.2, (of_fit oO).2.2.2.2.2]; decide))).2.2.2.2.1; have f82 := (of_fit (n := 2) (by first | omega | exact (of_fit oO).2.2.2.2.1 | kernel_rfl | (rw [(of_fit oO).2.2.2.2.2, (of_fit oO).2.2.2.2.2]; decide))).2.2.2.1; have f81 := (of_fit (n := 2) (by first | omega | exact (of_fit oO).2.2.2.2.1 | kernel_rfl | (rw [(of_fit oO).2.2.2.2.2, (of_fit oO).2.2.2.2.2]; decide))).2.2.1; have f80 := (of_fit (n := 2) (by first | omega | exact (of_fit oO).2.2.2.2.1 | kernel_rfl | (rw [(of_fit oO).2.2.2.2.2, (of_fit oO).2.2.2.2.2]; decide))).2.1; have f79 := (of_fit (n := 2) (by first | omega | exact (of_fit oO).2.2.2.2.1 | kernel_rfl | (rw [(of_fit oO).2.2.2.2.2, (of_fit oO).2.2.2.2.2]; decide))).1; have f78 := (L_i64 (by first | omega | exact (of_fit oO).2.2.2.2.1 | kernel_rfl | (rw [(of_fit oO).2.2.2.2.2, (of_fit oO).2.2.2.2.2]; decide)) : L (2 : Int).natAbs ≤ 2); have f77 := mk_facts 2 0; have f76 := (of_fit (n := 2) (by first | omega | exact (of_fit oO).2.2.2.2.1 | kernel_rfl | (rw [(of_fit oO).2.2.2.2.2, (of_fit oO).2.2.2.2.2]; decide))).2.2.2.2.1; have f75 := (of_fit (n := 2) (by first | omega | exact (of_fit oO).2.2.2.2.1 | kernel_rfl | (rw [(of_fit oO).2.2.2.2.2, (of_fit oO).2.2.2.2.2]; decide))).2.2.2.1; have f74 := (of_fit (n := 2) (by first | omega | exact (of_fit oO).2.2.2.2.1 | kernel_rfl | (rw [(of_fit oO).2.2.2.2.2, (of_fit oO).2.2.2.2.2]; decide))).2.2.1; have f73 := (of_fit (n := 2) (by first | omega | exact (of_fit oO).2.2.2.2.1 | kernel_rfl | (rw [(of_fit oO).2.2.2.2.2, (of_fit oO).2.2.2.2.2]; decide))).2.1; have f72 := (of_fit (n := 2) (by first | omega | exact (of_fit oO).2.2.2.2.1 | kernel_rfl | (rw [(of_fit oO).2.2.2.2.2, (of_fit oO).2.2.2.2.2]; decide))).1; have f71 := (L_i64 (by first | omega | exact (of_fit oO).2.2.2.2.1 | kernel_rfl | (rw [(of_fit oO).2.2.2.2.2, (of_fit oO).2.2.2.2.2]; decide)) : L (2 : Int).natAbs ≤ 2); have f70 := mk_facts 2 0; aI (rad_Sqrt (mkM 2 0) (mkX 2 0) (mkM 2 0) (mkX 2 0) 1 (by first | omega | exact (of_fit oO).2.2.2.2.1 | kernel_rfl | (rw [(of_fit oO).2.2.2.2.2, (of_fit oO).2.2.2.2.2]; decide)) (by first | omega | exact (of_fit oO).2.2.2.2.1 | kernel_rfl | (rw [(of_fit oO).2.2.2.2.2, (of_fit oO).2.2.2.2.2]; decide)) (by first | omega | exact (of_fit oO).2.2.2.2.1 | kernel_rfl | (rw [(of_fit oO).2.2.2.2.2, (of_fit oO).2.2.2.2.2]; decide)) (by first | omega | exact (of_fit oO).2.2.2.2.1 | kernel_rfl | (rw [(of_fit oO).2.2.2.2.2, (of_fit oO).2.2.2.2.2]; decide)) (by first | omega | exact (of_fit oO).2.2.2.2.1 | kernel_rfl | (rw [(of_fit oO).2.2.2.2.2, (of_fit oO).2.2.2.2.2]; decide)) (by first | omega | exact (of_fit oO).2.2.2.2.1 | kernel_rfl | (rw [(of_fit oO).2.2.2.2.2, (of_fit oO).2.2.2.2.2]; decide)) (by first | omega | exact (of_fit oO).2.2.2.2.1 | kernel_rfl | (rw [(of_fit oO).2.2.2.2.2, (of_fit oO).2.2.2.2.2]; decide))) (have f69 := st_facts (mkM 2 0) (mkX 2 0) (mkM 2 0) (mkX 2 0) 1; aI (l12_of (-1) 1 (by first | omega | exact (of_fit oO).2.2.2.2.1 | kernel_rfl | (rw [(of_fit oO).2.2.2.2.2, (of_fit oO).2.2.2.2.2]; decide)) (by first | omega | exact (of_fit oO).2.2.2.2.1 | kernel_rfl | (rw [(of_fit oO).2.2.2.2.2, (of_fit oO).2.2.2.2.2]; decide))) (have f68 := (of_fit (n := 1) (by first | omega | exact (of_fit oO).2.2.2.2.1 | kernel_rfl | (rw [(of_fit oO).2.2.2.2.2, (of_fit oO).2.2.2.2.2]; decide))).2.2.2.2.1; have f67 := (of_fit (n := 1) (by first | omega | exact (of_fit oO).2.2.2.2.1 | kernel_rfl | (rw [(of_fit oO).2.2.2.2.2, (of_fit oO).2.2.2.2.2]; decide))).2.2.2.1; have f66 := (of_fit (n := 1) (by first | omega | exact (of_fit oO).2.2.2.2.1 | kernel_rfl | (rw [(of_fit oO).2.2.2.2.2, (of_fit oO).2.2.2.2.2]; decide))).2.2.1; have f65 := (of_fit (n := 1) (by first | omega | exact (of_fit oO).2.2.2.2.1 | kernel_rfl | (rw [(of_fit oO).2.2.2.2.2, (of_fit oO).2.2.2.2.2]; decide))).2.1; have f64 := (of_fit (n := 1) (by first | omega | exact (of_fit oO).2.2.2.2.1 | kernel_rfl | (rw [(of_fit oO).2.2.2.2.2, (of_fit oO).2.2.2.2.2]; decide))).1; have f63 := (L_i64 (by first | omega | exact (of_fit oO).2.2.2.2.1 | kernel_rfl | (rw [(of_fit oO).2.2.2.2.2, (of_fit oO).2.2.2.2.2]; decide)) : L (1 : Int).natAbs ≤ 2); have f62 := mk_facts 1 0; have f61 := (of_fit (n := -1) (by first | omega | exact (of_fit oO).2.2.2.2.1 | kernel_rfl | (rw [(of_fit oO).2.2.2.2.2, (of_fit oO).2.2.2.2.2]; decide))).2.2.2.2.1; have f60 := (of_fit (n := -1) (by first | omega | exact (of_fit oO).2.2.2.2.1 | kernel_rfl | (rw [(of_fit oO).2.2.2.2.2, (of_fit oO).2.2.2.2.2]; decide))).2.2.2.1; have f59 := (of_fit (n := -1) (by first | omega | exact (of_fit oO).2.2.2.2.1 | kernel_rfl | (rw [(of_fit oO).2.2.2.2.2, (of_fit oO).2.2.2.2.2]; decide))).2.2.1; have f58 := (of_fit (n := -1) (by first | omega | exact (of_fit oO).2.2.2.2.1 | kernel_rfl | (rw [(of_fit oO).2.2.2.2.2, (of_fit oO).2.2.2.2.2]; decide))).2.1; have f57 := (of_fit (n := -1) (by first | omega | exact (of_fit oO).2.2.2.2.1 | kernel_rfl | (rw [(of_fit oO).2.2.2.2.2, (of_fit oO).2.2.2.2.2]; decide))).1; have f56 := (L_i64 (by first | omega | exact (of_fit oO).2.2.2.2.1 | kernel_rfl | (rw [(of_fit oO).2.2.2.2.2, (of_fit oO).2.2.2.2.2]; decide)) : L (-1 : Int).natAbs ≤ 2); have f55 := mk_facts (-1) 0; aI (rad_Sqrt (mkM (-1) 0) (mkX (-1) 0) (mkM 1 0) (mkX 1 0) 1 (by first | omega | exact (of_fit oO).2.2.2.2.1 | kernel_rfl | (rw [(of_fit oO).2.2.2.2.2, (of_fit oO).2.2.2.2.2]; decide)) (by first | omega | exact (of_fit oO).2.2.2.2.1 | kernel_rfl | (rw [(of_fit oO).2.2.2.2.2, (of_fit oO).2.2.2.2.2]; decide)) (by first | omega | exact (of_fit oO).2.2.2.2.1 | kernel_rfl | (rw [(of_fit oO).2.2.2.2.2, (of_fit oO).2.2.2.2.2]; decide)) (by first | omega | exact (of_fit oO).2.2.2.2.1 | kernel_rfl | (rw [(of_fit oO).2.2.2.2.2, (of_fit oO).2.2.2.2.2]; decide)) (by first | omega | exact (of_fit oO).2.2.2.2.1 | kernel_rfl | (rw [(of_fit oO).2.2.2.2.2, (of_fit oO).2.2.2.2.2]; decide)) (by first | omega | exact (of_fit oO).2.2.2.2.1 | kernel_rfl | (rw [(of_fit oO).2.2.2.2.2, (of_fit oO).2.2.2.2.2]; decide)) (by first | omega | exact (of_fit oO).2.2.2.2.1 | kernel_rfl | (rw [(of_fit oO).2.2.2.2.2, (of_fit oO).2.2.2.2.2]; decide))) (have f54 := st_facts (mkM (-1) 0) (mkX (-1) 0) (mkM 1 0) (mkX 1 0) 1; aI (l12_of (-2) (-1) (by first | omega | exact (of_fit oO).2.2.2.2.1 | kernel_rfl | (rw [(of_fit oO).2.2.2.2.2, (of_fit oO).2.2.2.2.2]; decide)) (by first | omega | exact (of_fit oO).2.2.2.2.1 | kernel_rfl | (rw [(of_fit oO).2.2.2.2.2, (of_fit oO).2.2.2.2.2]; decide))) (have f53 := (of_fit (n := -1) (by first | omega | exact (of_fit oO).2.2.2.2.1 | kernel_rfl | (rw [(of_fit oO).2.2.2.2.2, (of_fit oO).2.2.2.2.2]; decide))).2.2.2.2.1; have f52 := (of_fit (n := -1) (by first | omega | exact (of_fit oO).2.2.2.2.1 | kernel_rfl | (rw [(of_fit oO).2.2.2.2.2, (of_fit oO).2.2.2.2.2]; decide))).2.2.2.1; have f51 := (of_fit (n := -1) (by first | omega | exact (of_fit oO).2.2.2.2.1 | kernel_rfl | (rw [(of_fit oO).2.2.2.2.2, (of_fit oO).2.2.2.2.2]; decide))).2.2.1; have f50 := (of_fit (n := -1) (by first | omega | exact (of_fit oO).2.2.2.2.1 | kernel_rfl | (rw [(of_fit oO).2.2.2.2.2, (of_fit oO).2.2.2.2.2]; decide))).2.1; have f49 := (of_fit (n := -1) (by first | omega | exact (of_fit oO).2.2.2.2.1 | kernel_rfl | (rw [(of_fit oO).2.2.2.2.2, (of_fit oO).2.2.2.2.2]; decide))).1; have f48 := (L_i64 (by first | omega | exact (of_fit oO).2.2.2.2.1 | kernel_rfl | (rw [(of_fit oO).2.2.2.2.2, (of_fit oO).2.2.2.2.2]; decide)) : L (-1 : Int).natAbs ≤ 2); have f47 := mk_facts (-1) 0; have f46 := (of_fit (n := -2) (by first | omega | exact (of_fit oO).2.2.2.2.1 | kernel_rfl | (rw [(of_fit oO).2.2.2.2.2, (of_fit oO).2.2.2.2.2]; decide))).2.2.2.2.1; have f45 := (of_fit (n := -2) (by first | omega | exact (of_fit oO).2.2.2.2.1 | kernel_rfl | (rw [(of_fit oO).2.2.2.2.2, (of_fit oO).2.2.2.2.2]; decide))).2.2.2.1; have f44 := (of_fit (n := -2) (by first | omega | exact (of_fit oO).2.2.2.2.1 | kernel_rfl | (rw [(of_fit oO).2.2.2.2.2, (of_fit oO).2.2.2.2.2]; decide))).2.2.1; have f43 := (of_fit (n := -2) (by first | omega | exact (of_fit oO).2.2.2.2.1 | kernel_rfl | (rw [(of_fit oO).2.2.2.2.2, (of_fit oO).2.2.2.2.2]; decide))).2.1; have f42 := (of_fit (n := -2) (by first | omega | exact (of_fit oO).2.2.2.2.1 | kernel_rfl | (rw [(of_fit oO).2.2.2.2.2, (of_fit oO).2.2.2.2.2]; decide))).1; have f41 := (L_i64 (by first | omega | exact (of_fit oO).2.2.2.2.1 | kernel_rfl | (rw [(of_fit oO).2.2.2.2.2, (of_fit oO).2.2.2.2.2]; decide)) : L (-2 : Int).natAbs ≤ 2); have f40 := mk_facts (-2) 0; aI (rad_Sqrt (mkM (-2) 0) (mkX (-2) 0) (mkM (-1) 0) (mkX (-1) 0) 1 (by first | omega | exact (of_fit oO).2.2.2.2.1 | kernel_rfl | (rw [(of_fit oO).2.2.2.2.2, (of_fit oO).2.2.2.2.2]; decide)) (by first | omega | exact (of_fit oO).2.2.2.2.1 | kernel_rfl | (rw [(of_fit oO).2.2.2.2.2, (of_fit oO).2.2.2.2.2]; decide)) (by first | omega | exact (of_fit oO).2.2.2.2.1 | kernel_rfl | (rw [(of_fit oO).2.2.2.2.2, (of_fit oO).2.2.2.2.2]; decide)) (by first | omega | exact (of_fit oO).2.2.2.2.1 | kernel_rfl | (rw [(of_fit oO).2.2.2.2.2, (of_fit oO).2.2.2.2.2]; decide)) (by first | omega | exact (of_fit oO).2.2.2.2.1 | kernel_rfl | (rw [(of_fit oO).2.2.2.2.2, (of_fit oO).2.2.2.2.2]; decide)) (by first | omega | exact (of_fit oO).2.2.2.2.1 | kernel_rfl | (rw [(of_fit oO).2.2.2.2.2, (of_fit oO).2.2.2.2.2]; decide)) (by first | omega | exact (of_fit oO).2.2.2.2.1 | kernel_rfl | (rw [(of_fit oO).2.2.2.2.2, (of_fit oO).2.2.2.2.2]; decide))) (have f39 := st_facts (mkM (-2) 0) (mkX (-2) 0) (mkM (-1) 0) (mkX (-1) 0) 1; aI (l12_of (-1) 2 (by first | omega | exact (of_fit oO).2.2.2.2.1 | kernel_rfl | (rw [(of_fit oO).2.2.2.2.2, (of_fit oO).2.2.2.2.2]; decide)) (by first | omega | exact (of_fit oO).2.2.2.2.1 | kernel_rfl | (rw [(of_fit oO).2.2.2.2.2, (of_fit oO).2.2.2.2.2]; decide))) (have f38 := (of_fit (n := 2) (by first | omega | exact (of_fit oO).2.2.2.2.1 | kernel_rfl | (rw [(of_fit oO).2.2.2.2.2, (of_fit oO).2.2.2.2.2]; decide))).2.2.2.2.1; have f37 := (of_fit (n := 2) (by first | omega | exact (of_fit oO).2.2.2.2.1 | kernel_rfl | (rw [(of_fit oO).2.2.2.2.2, (of_fit oO).2.2.2.2.2]; decide))).2.2.2.1; have f36 := (of_fit (n := 2) (by first | omega | exact (of_fit oO).2.2.2.2.1 | kernel_rfl | (rw [(of_fit oO).2.2.2.2.2, (of_fit oO).2.2.2.2.2]; decide))).2.2.1; have f35 := (of_fit (n := 2) (by first | omega | exact (of_fit oO).2.2.2.2.1 | kernel_rfl | (rw [(of_fit oO).2.2.2.2.2, (of_fit oO).2.2.2.2.2]; decide))).2.1; have f34 := (of_fit (n := 2) (by first | omega | exact (of_fit oO).2.2.2.2.1 | kernel_rfl | (rw [(of_fit oO).2.2.2.2.2, (of_fit oO).2.2.2.2.2]; decide))).1; have f33 := (L_i64 (by first | omega | exact (of_fit oO).2.2.2.2.1 | kernel_rfl | (rw [(of_fit oO).2.2.2.2.2, (of_fit oO).2.2.2.2.2]; decide)) : L (2 : Int).natAbs ≤ 2); have f32 := mk_facts 2 0; have f31 := (of_fit (n := -1) (by first | omega | exact (of_fit oO).2.2.2.2.1 | kernel_rfl | (rw [(of_fit oO).2.2.2.2.2, (of_fit oO).2.2.2.2.2]; decide))).2.2.2.2.1; have f30 := (of_fit (n := -1) (by first | omega | exact (of_fit oO).2.2.2.2.1 | kernel_rfl | (rw [(of_fit oO).2.2.2.2.2, (of_fit oO).2.2.2.2.2]; decide))).2.2.2.1; have f29 := (of_fit (n := -1) (by first | omega | exact (of_fit oO).2.2.2.2.1 | kernel_rfl | (rw [(of_fit oO).2.2.2.2.2, (of_fit oO).2.2.2.2.2]; decide))).2.2.1; have f28 := (of_fit (n := -1) (by first | omega | exact (of_fit oO).2.2.2.2.1 | kernel_rfl | (rw [(of_fit oO).2.2.2.2.2, (of_fit oO).2.2.2.2.2]; decide))).2.1; have f27 := (of_fit (n := -1) (by first | omega | exact (of_fit oO).2.2.2.2.1 | kernel_rfl | (rw [(of_fit oO).2.2.2.2.2, (of_fit oO).2.2.2.2.2]; decide))).1; have f26 := (L_i64 (by first | omega | exact (of_fit oO).2.2.2.2.1 | kernel_rfl | (rw [(of_fit oO).2.2.2.2.2, (of_fit oO).2.2.2.2.2]; decide)) : L (-1 : Int).natAbs ≤ 2); have f25 := mk_facts (-1) 0; aI (rad_Power (mkM (-1) 0) (mkX (-1) 0) (mkM 2 0) (mkX 2 0) 2 0 (by first | omega | exact (of_fit oO).2.2.2.2.1 | kernel_rfl | (rw [(of_fit oO).2.2.2.2.2, (of_fit oO).2.2.2.2.2]; decide)) (by first | omega | exact (of_fit oO).2.2.2.2.1 | kernel_rfl | (rw [(of_fit oO).2.2.2.2.2, (of_fit oO).2.2.2.2.2]; decide)) (by first | omega | exact (of_fit oO).2.2.2.2.1 | kernel_rfl | (rw [(of_fit oO).2.2.2.2.2, (of_fit oO).2.2.2.2.2]; decide)) (by first | omega | exact (of_fit oO).2.2.2.2.1 | kernel_rfl | (rw [(of_fit oO).2.2.2.2.2, (of_fit oO).2.2.2.2.2]; decide)) (by first | omega | exact (of_fit oO).2.2.2.2.1 | kernel_rfl | (rw [(of_fit oO).2.2.2.2.2, (of_fit oO).2.2.2.2.2]; decide)) (by first | omega | exact (of_fit oO).2.2.2.2.1 | kernel_rfl | (rw [(of_fit oO).2.2.2.2.2, (of_fit oO).2.2.2.2.2]; decide)) (by first | omega | exact (of_fit oO).2.2.2.2.1 | kernel_rfl | (rw [(of_fit oO).2.2.2.2.2, (of_fit oO).2.2.2.2.2]; decide)) (by first | omega | exact (of_fit oO).2.2.2.2.1 | kernel_rfl | (rw [(of_fit oO).2.2.2.2.2, (of_fit oO).2.2.2.2.2]; decide)) (by first | omega | exact (of_fit oO).2.2.2.2.1 | kernel_rfl | (rw [(of_fit oO).2.2.2.2.2, (of_fit oO).2.2.2.2.2]; decide))) (have f24 := pq_facts (mkM (-1) 0) (mkX (-1) 0) (mkM 2 0) (mkX 2 0) 2 0; aI (r05_Of 3 (by first | omega | exact (of_fit oO).2.2.2.2.1 | kernel_rfl | (rw [(of_fit oO).2.2.2.2.2, (of_fit oO).2.2.2.2.2]; decide))) (have f23 := (L_i64 (by first | omega | exact (of_fit oO).2.2.2.2.1 | kernel_rfl | (rw [(of_fit oO).2.2.2.2.2, (of_fit oO).2.2.2.2.2]; decide)) : L (3 : Int).natAbs ≤ 2); aI (r08_Make (3 : Int) (-1) (by first | omega | exact (of_fit oO).2.2.2.2.1 | kernel_rfl | (rw [(of_fit oO).2.2.2.2.2, (of_fit oO).2.2.2.2.2]; decide)) (by first | omega | exact (of_fit oO).2.2.2.2.1 | kernel_rfl | (rw [(of_fit oO).2.2.2.2.2, (of_fit oO).2.2.2.2.2]; decide))) (have f22 := mk_facts (3 : Int) (-1); aI ((by kernel_rfl) : (iEq (stE (mkM 2 0) (mkX 2 0) (mkM 2 0) (mkX 2 0) 1) 0) = true) (aI (r08_Of 1 (by first | omega | exact (of_fit oO).2.2.2.2.1 | kernel_rfl | (rw [(of_fit oO).2.2.2.2.2, (of_fit oO).2.2.2.2.2]; decide))) (have f21 := (of_fit (n := 1) (by first | omega | exact (of_fit oO).2.2.2.2.1 | kernel_rfl | (rw [(of_fit oO).2.2.2.2.2, (of_fit oO).2.2.2.2.2]; decide))).2.2.2.2.1; have f20 := (of_fit (n := 1) (by first | omega | exact (of_fit oO).2.2.2.2.1 | kernel_rfl | (rw [(of_fit oO).2.2.2.2.2, (of_fit oO).2.2.2.2.2]; decide))).2.2.2.1; have f19 := (of_fit (n := 1) (by first | omega | exact (of_fit oO).2.2.2.2.1 | kernel_rfl | (rw [(of_fit oO).2.2.2.2.2, (of_fit oO).2.2.2.2.2]; decide))).2.2.1; have f18 := (of_fit (n := 1) (by first | omega | exact (of_fit oO).2.2.2.2.1 | kernel_rfl | (rw [(of_fit oO).2.2.2.2.2, (of_fit oO).2.2.2.2.2]; decide))).2.1; have f17 := (of_fit (n := 1) (by first | omega | exact (of_fit oO).2.2.2.2.1 | kernel_rfl | (rw [(of_fit oO).2.2.2.2.2, (of_fit oO).2.2.2.2.2]; decide))).1; have f16 := (L_i64 (by first | omega | exact (of_fit oO).2.2.2.2.1 | kernel_rfl | (rw [(of_fit oO).2.2.2.2.2, (of_fit oO).2.2.2.2.2]; decide)) : L (1 : Int).natAbs ≤ 2); have f15 := mk_facts 1 0; aI (r10_Same (stV (srM (mkM 2 0) (mkX 2 0) 1 false) (mkM 2 0) (mkX 2 0) (mkM 2 0) (mkX 2 0) 1) (stV (srX (mkM 2 0) (mkX 2 0) 1 false) (mkM 2 0) (mkX 2 0) (mkM 2 0) (mkX 2 0) 1) (stV (srM (mkM 2 0) (mkX 2 0) 1 true) (mkM 2 0) (mkX 2 0) (mkM 2 0) (mkX 2 0) 1) (stV (srX (mkM 2 0) (mkX 2 0) 1 true) (mkM 2 0) (mkX 2 0) (mkM 2 0) (mkX 2 0) 1) (mkM 1 0) (mkX 1 0) (mkM (3 : Int) (-1)) (mkX (3 : Int) (-1)) (by first | omega | exact (of_fit oO).2.2.2.2.1 | kernel_rfl | (rw [(of_fit oO).2.2.2.2.2, (of_fit oO).2.2.2.2.2]; decide)) (by first | omega | exact (of_fit oO).2.2.2.2.1 | kernel_rfl | (rw [(of_fit oO).2.2.2.2.2, (of_fit oO).2.2.2.2.2]; decide)) (by first | omega | exact (of_fit oO).2.2.2.2.1 | kernel_rfl | (rw [(of_fit oO).2.2.2.2.2, (of_fit oO).2.2.2.2.2]; decide)) (by first | omega | exact (of_fit oO).2.2.2.2.1 | kernel_rfl | (rw [(of_fit oO).2.2.2.2.2, (of_fit oO).2.2.2.2.2]; decide))) (aI ((by kernel_rfl) : (decide (((stV (srX (mkM 2 0) (mkX 2 0) 1 false) (mkM 2 0) (mkX 2 0) (mkM 2 0) (mkX 2 0) 1) = (mkX 1 0) ∧ (stV (srM (mkM 2 0) (mkX 2 0) 1 false) (mkM 2 0) (mkX 2 0) (mkM 2 0) (mkX 2 0) 1) = (mkM 1 0)) ∧ ((stV (srX (mkM 2 0) (mkX 2 0) 1 true) (mkM 2 0) (mkX 2 0) (mkM 2 0) (mkX 2 0) 1) = (mkX (3 : Int) (-1)) ∧ (stV (srM (mkM 2 0) (mkX 2 0) 1 true) (mkM 2 0) (mkX 2 0) (mkM 2 0) (mkX 2 0) 1) = (mkM (3 : Int) (-1))))) = true) (aI ((by kernel_rfl) : (iEq (stE (mkM (-1) 0) (mkX (-1) 0) (mkM 1 0) (mkX 1 0) 1) 5) = true) (aI ((by kernel_rfl) : (iEq (stE (mkM (-2) 0) (mkX (-2) 0) (mkM (-1) 0) (mkX (-1) 0) 1) 4) = true) (aI ((by kernel_rfl) : (iEq (pqE (mkM (-1) 0) (mkX (-1) 0) (mkM 2 0) (mkX 2 0) 2 0) 0) = true) (aI (l12_of 0 4 (by first | omega | exact (of_fit oO).2.2.2.2.1 | kernel_rfl | (rw [(of_fit oO).2.2.2.2.2, (of_fit oO).2.2.2.2.2]; decide)) (by first | omega | exact (of_fit oO).2.2.2.2.1 | kernel_rfl | (rw [(of_fit oO).2.2.2.2.2, (of_fit oO).2.2.2.2.2]; decide))) (have f14 := (of_fit (n := 4) (by first | omega | exact (of_fit oO).2.2.2.2.1 | kernel_rfl | (rw [(of_fit oO).2.2.2.2.2, (of_fit oO).2.2.2.2.2]; decide))).2.2.2.2.1; have f13 := (of_fit (n := 4) (by first | omega | exact (of_fit oO).2.2.2.2.1 | kernel_rfl | (rw [(of_fit oO).2.2.2.2.2, (of_fit oO).2.2.2.2.2]; decide))).2.2.2.1; have f12 := (of_fit (n := 4) (by first | omega | exact (of_fit oO).2.2.2.2.1 | kernel_rfl | (rw [(of_fit oO).2.2.2.2.2, (of_fit oO).2.2.2.2.2]; decide))).2.2.1; have f11 := (of_fit (n := 4) (by first | omega | exact (of_fit oO).2.2.2.2.1 | kernel_rfl | (rw [(of_fit oO).2.2.2.2.2, (of_fit oO).2.2.2.2.2]; decide))).2.1; have f10 := (of_fit (n := 4) (by first | omega | exact (of_fit oO).2.2.2.2.1 | kernel_rfl | (rw [(of_fit oO).2.2.2.2.2, (of_fit oO).2.2.2.2.2]; decide))).1; have f9 := (L_i64 (by first | omega | exact (of_fit oO).2.2.2.2.1 | kernel_rfl | (rw [(of_fit oO).2.2.2.2.2, (of_fit oO).2.2.2.2.2]; decide)) : L (4 : Int).natAbs ≤ 2); have f8 := mk_facts 4 0; have f7 := (of_fit (n := 0) (by first | omega | exact (of_fit oO).2.2.2.2.1 | kernel_rfl | (rw [(of_fit oO).2.2.2.2.2, (of_fit oO).2.2.2.2.2]; decide))).2.2.2.2.1; have f6 := (of_fit (n := 0) (by first | omega | exact (of_fit oO).2.2.2.2.1 | kernel_rfl | (rw [(of_fit oO).2.2.2.2.2, (of_fit oO).2.2.2.2.2]; decide))).2.2.2.1; have f5 := (of_fit (n := 0) (by first | omega | exact (of_fit oO).2.2.2.2.1 | kernel_rfl | (rw [(of_fit oO).2.2.2.2.2, (of_fit oO).2.2.2.2.2]; decide))).2.2.1; have f4 := (of_fit (n := 0) (by first | omega | exact (of_fit oO).2.2.2.2.1 | kernel_rfl | (rw [(of_fit oO).2.2.2.2.2, (of_fit oO).2.2.2.2.2]; decide))).2.1; have f3 := (of_fit (n := 0) (by first | omega | exact (of_fit oO).2.2.2.2.1 | kernel_rfl | (rw [(of_fit oO).2.2.2.2.2, (of_fit oO).2.2.2.2.2]; decide))).1; have f2 := (L_i64 (by first | omega | exact (of_fit oO).2.2.2.2.1 | kernel_rfl | (rw [(of_fit oO).2.2.2.2.2, (of_fit oO).2.2.2.2.2]; decide)) : L (0 : Int).natAbs ≤ 2); have f1 := mk_facts 0 0; aI (r10_Same (pqV (enM (pwL (mkM (-1) 0) (mkX (-1) 0) (mkM 2 0) (mkX 2 0) 2) (pwH (mkM (-1) 0) (mkX (-1) 0) (mkM 2 0) (mkX 2 0) 2) 0) (mkM (-1) 0) (mkX (-1) 0) (mkM 2 0) (mkX 2 0) 2 0) (pqV (enX (pwL (mkM (-1) 0) (mkX (-1) 0) (mkM 2 0) (mkX 2 0) 2) (pwH (mkM (-1) 0) (mkX (-1) 0) (mkM 2 0) (mkX 2 0) 2) 0) (mkM (-1) 0) (mkX (-1) 0) (mkM 2 0) (mkX 2 0) 2 0) (pqV (enN (pwL (mkM (-1) 0) (mkX (-1) 0) (mkM 2 0) (mkX 2 0) 2) (pwH (mkM (-1) 0) (mkX (-1) 0) (mkM 2 0) (mkX 2 0) 2) 0) (mkM (-1) 0) (mkX (-1) 0) (mkM 2 0) (mkX 2 0) 2 0) (pqV (enF (pwL (mkM (-1) 0) (mkX (-1) 0) (mkM 2 0) (mkX 2 0) 2) (pwH (mkM (-1) 0) (mkX (-1) 0) (mkM 2 0) (mkX 2 0) 2) 0) (mkM (-1) 0) (mkX (-1) 0) (mkM 2 0) (mkX 2 0) 2 0) (mkM 0 0) (mkX 0 0) (mkM 4 0) (mkX 4 0) (by first | omega | exact (of_fit oO).2.2.2.2.1 | kernel_rfl | (rw [(of_fit oO).2.2.2.2.2, (of_fit oO).2.2.2.2.2]; decide)) (by first | omega | exact (of_fit oO).2.2.2.2.1 | kernel_rfl | (rw [(of_fit oO).2.2.2.2.2, (of_fit oO).2.2.2.2.2]; decide)) (by first | omega | exact (of_fit oO).2.2.2.2.1 | kernel_rfl | (rw [(of_fit oO).2.2.2.2.2, (of_fit oO).2.2.2.2.2]; decide)) (by first | omega | exact (of_fit oO).2.2.2.2.1 | kernel_rfl | (rw [(of_fit oO).2.2.2.2.2, (of_fit oO).2.2.2.2.2]; decide))) ((vsub_of (congrArg V.bool (by kernel_rfl)) : vsub (.bool (decide (((pqV (enX (pwL (mkM (-1) 0) (mkX (-1) 0) (mkM 2 0) (mkX 2 0) 2) (pwH (mkM (-1) 0) (mkX (-1) 0) (mkM 2 0) (mkX 2 0) 2) 0) (mkM (-1) 0) (mkX (-1) 0) (mkM 2 0) (mkX 2 0) 2 0) = (mkX 0 0) ∧ (pqV (enM (pwL (mkM (-1) 0) (mkX (-1) 0) (mkM 2 0) (mkX 2 0) 2) (pwH (mkM (-1) 0) (mkX (-1) 0) (mkM 2 0) (mkX 2 0) 2) 0) (mkM (-1) 0) (mkX (-1) 0) (mkM 2 0) (mkX 2 0) 2 0) = (mkM 0 0)) ∧ ((pqV (enF (pwL (mkM (-1) 0) (mkX (-1) 0) (mkM 2 0) (mkX 2 0) 2) (pwH (mkM (-1) 0) (mkX (-1) 0) (mkM 2 0) (mkX 2 0) 2) 0) (mkM (-1) 0) (mkX (-1) 0) (mkM 2 0) (mkX 2 0) 2 0) = (mkX 4 0) ∧ (pqV (enN (pwL (mkM (-1) 0) (mkX (-1) 0) (mkM 2 0) (mkX 2 0) 2) (pwH (mkM (-1) 0) (mkX (-1) 0) (mkM 2 0) (mkX 2 0) 2) 0) (mkM (-1) 0) (mkX (-1) 0) (mkM 2 0) (mkX 2 0) 2 0) = (mkM 4 0))))) (.bool true))))))))))))))))))))))) (by kernel_rfl))

end Go.Proofs.YtmbpoibhamlkbaaGreatDoor


namespace Go.Proofs.YtmbpoibhamlkbaaGreatDoor
theorem natAbs_flr {M X : Int} (w : Int) (hM : 0 ≤ M) : ((flr (dv M X) (2 * w)).natAbs : Int) = flr (dv M X) (2 * w) := by
  have := flr_nonneg (dv_nonneg (e := X) hM) (2 * w); omega
theorem dv_sq (x w : Int) : dv x (-w) * dv x (-w) = dv (x * x) (-(2 * w)) := by
  rw [← dv_mul, show -w + -w = -(2 * w) by omega]
theorem sq_le {M X : Int} (w : Int) (hM : 0 ≤ M) : dv (sqF M X w : Int) (-w) * dv (sqF M X w : Int) (-w) ≤ dv M X := by
  have h := (rt_spec (flr (dv M X) (2 * w)).natAbs).1
  have h2 := natAbs_flr (X := X) w hM
  rw [dv_sq]
  refine le_flr.1 ?_
  have h3 : ((sqF M X w * sqF M X w : Nat) : Int) ≤ ((flr (dv M X) (2 * w)).natAbs : Int) := Int.ofNat_le.2 h
  rw [Int.natCast_mul] at h3
  omega
theorem sq_gt {M X : Int} (w : Int) (hM : 0 ≤ M) : dv M X < dv ((sqF M X w : Int) + 1) (-w) * dv ((sqF M X w : Int) + 1) (-w) := by
  have h := (rt_spec (flr (dv M X) (2 * w)).natAbs).2
  have h2 := natAbs_flr (X := X) w hM
  rw [dv_sq]
  have h3 : ((flr (dv M X) (2 * w)).natAbs : Int) < (((sqF M X w + 1) * (sqF M X w + 1) : Nat) : Int) := Int.ofNat_lt.2 h
  rw [Int.natCast_mul] at h3
  have h4 := flr_lt (dv M X) (2 * w)
  have h5 : dv (flr (dv M X) (2 * w) + 1) (-(2 * w)) ≤ dv (((sqF M X w : Int) + 1) * ((sqF M X w : Int) + 1)) (-(2 * w)) := dv_le.2 (by push_cast at h3; omega)
  grind
theorem sq_ex {M X : Int} {w : Int} (hM : 0 ≤ M) (hv : vdb M X = true) : sqX M X w = true ↔ dv (sqF M X w : Int) (-w) * dv (sqF M X w : Int) (-w) = dv M X := by
  have h2 := natAbs_flr (X := X) w hM
  have hs := (rt_spec (flr (dv M X) (2 * w)).natAbs).1
  have hflr : (M = 0 ∨ -(2 * w) ≤ X) ↔ dv (flr (dv M X) (2 * w)) (-(2 * w)) = dv M X := by
    constructor
    · rintro (h | h)
      · rw [h, flr_dv]
        split
        · rw [Int.zero_mul, dv_zero, dv_zero]
        · rw [Int.zero_ediv, dv_zero, dv_zero]
      · rw [flr_dv, if_pos (by omega), dv_at (m := M) (show -(2 * w) ≤ X by omega)]
        congr 2; congr 1; omega
    · intro h
      by_cases hM0 : M = 0
      · exact .inl hM0
      · refine .inr (Decidable.byContradiction fun q => ?_)
        rw [dv_at (m := flr (dv M X) (2 * w)) (show X ≤ -(2 * w) by omega)] at h
        have h3 := dv_inj h
        rcases vdb_iff.1 hv with q2 | q2
        · exact hM0 q2.1
        · have h4 : M.natAbs = (flr (dv M X) (2 * w)).natAbs * 2 ^ (-(2 * w) - X).toNat := by
            have := congrArg Int.natAbs h3
            rw [abs_shl] at this; exact this.symm
          have h5 : 2 ∣ 2 ^ (-(2 * w) - X).toNat := ⟨2 ^ ((-(2 * w) - X).toNat - 1), by rw [← Nat.pow_succ']; congr 1; omega⟩
          have h6 : 2 ∣ M.natAbs := by rw [h4]; exact Nat.dvd_trans h5 (Nat.dvd_mul_left _ _)
          have := Nat.mod_eq_zero_of_dvd h6
          omega
  unfold sqX
  rw [decide_eq_true_eq, hflr]
  constructor
  · rintro ⟨a, b⟩
    rw [dv_sq, ← b, ← h2, ← a, Int.natCast_mul]
  · intro h
    have a1 := sq_le (X := X) w hM
    have a2 : dv ((sqF M X w : Int) * (sqF M X w : Int)) (-(2 * w)) ≤ dv (flr (dv M X) (2 * w)) (-(2 * w)) := dv_le.2 (by
      rw [← h2]
      have : ((sqF M X w * sqF M X w : Nat) : Int) ≤ ((flr (dv M X) (2 * w)).natAbs : Int) := Int.ofNat_le.2 hs
      rwa [Int.natCast_mul] at this)
    have a3 := flr_le (dv M X) (2 * w)
    rw [dv_sq] at h
    have a4 : dv (flr (dv M X) (2 * w)) (-(2 * w)) = dv M X := by grind
    refine ⟨?_, a4⟩
    rw [← a4] at h
    have a5 := dv_inj h
    rw [← h2] at a5
    exact Int.ofNat.inj (by rw [Int.ofNat_eq_natCast, Int.ofNat_eq_natCast, Int.natCast_mul]; exact a5)
theorem sq_Ls {M X w : Int} {up : Bool} (hL : L M.natAbs ≤ 30) (hX : -1000 ≤ X ∧ X ≤ 3000) (hw : 0 ≤ w ∧ w ≤ 300) : L (sqV M X w up).natAbs ≤ 150 := by
  have h := flr_LD M X (2 * w)
  have h2 := rt_L (flr (dv M X) (2 * w)).natAbs
  have h1 : L (1 : Int).natAbs ≤ 1 := L_le (by decide)
  have h3 := L_abs_add (sqF M X w) 1
  rw [Int.natAbs_natCast] at h3
  have h4 : L (sqF M X w) ≤ 149 := by unfold sqF; omega
  unfold sqV
  split
  · omega
  · rw [Int.add_zero, Int.natAbs_natCast]; omega
theorem sr_all {M X w : Int} {up : Bool} (hM : 0 ≤ M) (hL : L M.natAbs ≤ 30) (hX : -1000 ≤ X ∧ X ≤ 3000) (hw : 0 ≤ w ∧ w ≤ 300) :
    srE M X w up = 0 ∧ srM M X w up = mkM (sqV M X w up) (-w) ∧ srX M X w up = mkX (sqV M X w up) (-w) ∧ dv (srM M X w up) (srX M X w up) = dv (sqV M X w up) (-w) ∧ L (srM M X w up).natAbs ≤ 150 ∧ (-300 ≤ srX M X w up ∧ srX M X w up ≤ 4900) ∧ vdb (srM M X w up) (srX M X w up) = true ∧ (srM M X w up = 0 ∨ -w ≤ srX M X w up) := by
  have k := sq_Ls (up := up) hL hX hw
  have f := mk_fit (m := sqV M X w up) (e := -w) (by omega) (by omega)
  obtain ⟨a, b, c⟩ := sr_3 (e := X) (up := up) (show 0 ≤ w ∧ w ≤ 4096 by omega) hM
  have i1 := iMin_range (-w) 0
  have i2 : iMax (-w) 0 ≤ 0 := by unfold iMax; split <;> omega
  rw [a, b, c]
  refine ⟨f.1, rfl, rfl, f.2.2.2.2.2, by omega, by omega, f.2.2.2.2.1, ?_⟩
  rcases mkX_b f.1 with ⟨q, _⟩ | ⟨_, q, _⟩
  · left; rw [q]; exact (mk_zero _).1
  · right; exact q
theorem sqV_nonneg {M X w : Int} {up : Bool} : 0 ≤ sqV M X w up := by unfold sqV; split <;> omega
end Go.Proofs.YtmbpoibhamlkbaaGreatDoor


namespace Go.Proofs.YtmbpoibhamlkbaaGreatDoor
theorem zp_pos_mono {a b : Rat} (ha : 0 < a) (h : a ≤ b) {k : Int} : (0 ≤ k → a ^ k ≤ b ^ k) ∧ (k < 0 → b ^ k ≤ a ^ k) := by
  refine ⟨fun hk => ?_, fun hk => ?_⟩
  · rw [zp_n hk, zp_n hk]; exact pw_mono (Rat.le_of_lt ha) h _
  · rw [zp_i hk, zp_i hk]; exact inv_anti (pw_pos ha _) (pw_mono (Rat.le_of_lt ha) h _)
theorem qm_in {a b x : Rat} (h : (a ≤ x ∧ x ≤ b) ∨ (b ≤ x ∧ x ≤ a)) : qmin a b ≤ x ∧ x ≤ qmax a b := by
  have h1 := qmin_both a b
  have h2 := qmax_both a b
  rcases h with ⟨p, q⟩ | ⟨p, q⟩
  · exact ⟨Rat.le_trans h1.1 p, Rat.le_trans q h2.2⟩
  · exact ⟨Rat.le_trans h1.2 p, Rat.le_trans q h2.1⟩
theorem pw_in {m e n f k : Int} {r : Rat} (h1 : dv m e ≤ r) (h2 : r ≤ dv n f) (hk : ¬ (k < 0 ∧ m ≤ 0 ∧ 0 ≤ n)) : pwL m e n f k ≤ r ^ k ∧ r ^ k ≤ pwH m e n f k := by
  by_cases h0 : k = 0
  · subst h0
    obtain ⟨a, b⟩ := pwo_0 (m := m) (e := e) (n := n) (f := f) (k := 0) rfl
    rw [zp_0] at a b
    rw [← a, ← b, zp_0]; exact ⟨Rat.le_refl, Rat.le_refl⟩
  by_cases hz : 0 < k ∧ k % 2 = 0 ∧ m ≤ 0 ∧ 0 ≤ n
  · obtain ⟨hk1, hk2, hm, hn⟩ := hz
    have e1 : pwL m e n f k = 0 := (pwo_z hk1 hk2 hm hn).1
    rw [e1, zp_n (a := r) (by omega)]
    have hK : k.toNat % 2 = 0 := by omega
    refine ⟨even_nonneg r hK, ?_⟩
    have hb := pw_between m e n f k
    rw [zp_n (a := dv m e) (by omega), zp_n (a := dv n f) (by omega)] at hb
    rcases (Rat.le_total : 0 ≤ r ∨ r ≤ 0) with q | q
    · exact Rat.le_trans (pw_mono q h2 _) hb.2.2
    · exact Rat.le_trans (even_anti h1 q hK) hb.1.2
  · obtain ⟨a, b⟩ := pwo_off (e := e) (f := f) hz
    rw [a, b]
    refine qm_in ?_
    by_cases hk1 : 0 < k
    · rw [zp_n (a := r) (by omega), zp_n (a := dv m e) (by omega), zp_n (a := dv n f) (by omega)]
      by_cases ho : k % 2 = 1
      · exact .inl ⟨odd_mono h1 (by omega), odd_mono h2 (by omega)⟩
      · by_cases hm : 0 < m
        · have : 0 ≤ dv m e := dv_ge0.2 (by omega)
          exact .inl ⟨pw_mono this h1 _, pw_mono (Rat.le_trans this h1) h2 _⟩
        · have hn : dv n f ≤ 0 := dv_le0.2 (by omega)
          exact .inr ⟨even_anti h2 hn (by omega), even_anti h1 (Rat.le_trans h2 hn) (by omega)⟩
    · have hk2 : k < 0 := by omega
      by_cases hm : 0 < m
      · have p : 0 < dv m e := dv_pos.2 hm
        exact .inr ⟨(zp_pos_mono (by grind) h2).2 hk2, (zp_pos_mono p h1).2 hk2⟩
      · have hn : dv n f < 0 := dv_lt0.2 (by omega)
        rw [zp_i hk2, zp_i hk2, zp_i hk2]
        by_cases ho : k % 2 = 1
        · have o : (-k).toNat % 2 = 1 := by omega
          have t : ∀ {x : Rat}, x < 0 → x ^ (-k).toNat < 0 := fun {x} hx => by
            have := pw_pos (show 0 < -x by grind) (-k).toNat
            rw [neg_odd _ o] at this; grind
          exact .inr ⟨inv_anti2 (t hn) (odd_mono h2 o), inv_anti2 (t (by grind)) (odd_mono h1 o)⟩
        · have o : (-k).toNat % 2 = 0 := by omega
          have t : ∀ {x : Rat}, x < 0 → 0 < x ^ (-k).toNat := fun {x} hx => by
            have := pw_pos (show 0 < -x by grind) (-k).toNat
            rwa [neg_even _ o] at this
          exact .inl ⟨inv_anti (t (by grind)) (even_anti h1 (by grind) o), inv_anti (t hn) (even_anti h2 (by grind) o)⟩
theorem pq_0 {m e n f k w : Int} (h : pqE m e n f k w = 0) : ((0 ≤ w ∧ w ≤ 4096) ∧ -64 ≤ k ∧ k ≤ 64) ∧ ¬ (k < 0 ∧ m ≤ 0 ∧ 0 ≤ n) ∧ enE (pwL m e n f k) (pwH m e n f k) w = 0 ∧ ∀ x, pqV x m e n f k w = x := by
  unfold pqE at h
  split at h
  · rename_i a
    split at h
    · omega
    · split at h
      · omega
      · rename_i b c
        exact ⟨a, c, h, fun x => by unfold pqV; rw [if_pos ⟨a, c⟩]⟩
  · omega
def ppN (r : Rat) (k : Int) : Int := if k < 0 ∧ r = 0 then 0 else (r ^ k).num
def ppD (r : Rat) (k : Int) : Nat := if k < 0 ∧ r = 0 then 0 else (r ^ k).den
def ppE (r : Rat) (k : Int) : Int := if k < 0 ∧ r = 0 then 2 else 0
theorem pp_ne {r : Rat} {k : Int} (h : ¬ (k < 0 ∧ r = 0)) : ppN r k = (r ^ k).num ∧ ppD r k = (r ^ k).den ∧ ppE r k = 0 := by
  unfold ppN ppD ppE; rw [if_neg h, if_neg h, if_neg h]; exact ⟨rfl, rfl, rfl⟩
theorem pp_eq {r : Rat} {k : Int} (h : k < 0 ∧ r = 0) : ppN r k = 0 ∧ ppD r k = 0 ∧ ppE r k = 2 := by
  unfold ppN ppD ppE; rw [if_pos h, if_pos h, if_pos h]; exact ⟨rfl, rfl, rfl⟩
theorem pq_nz {m e n f k w : Int} {r : Rat} (h : pqE m e n f k w = 0) (h1 : dv m e ≤ r) (h2 : r ≤ dv n f) : ¬ (k < 0 ∧ r = 0) := by
  rintro ⟨a, rfl⟩
  exact (pq_0 h).2.1 ⟨a, dv_le0.1 h1, dv_ge0.1 h2⟩
theorem st_found {m e n f w : Int} (hm : 0 ≤ m) (hn : 0 ≤ n) (h1 : L m.natAbs ≤ 30 ∧ -1000 ≤ e ∧ e ≤ 3000) (h2 : L n.natAbs ≤ 30 ∧ -1000 ≤ f ∧ f ≤ 3000) (hw : 0 ≤ w ∧ w ≤ 300) (ho : dv m e ≤ dv n f)
    (s1 : L (sqV m e w false).natAbs ≤ 60) (s2 : L (sqV n f w true).natAbs ≤ 60) :
    stE m e n f w = 0 ∧ ∀ x, stV x m e n f w = x := by
  have hw2 : 0 ≤ w ∧ w ≤ 4096 := by omega
  obtain ⟨a, b⟩ := sst_ok (e := e) (f := f) hw2 hn hm
  have r1 := sr_all (up := false) hm h1.1 h1.2 hw
  have r2 := sr_all (up := true) hn h2.1 h2.2 hw
  have key : ecE (srM m e w false) (srX m e w false) (srM n f w true) (srX n f w true) (srE m e w false) (srE n f w true) = 0 := by
    unfold ecE
    rw [if_pos]
    refine ⟨r1.1, r2.1, ?_⟩
    unfold smB ivB
    rw [r1.2.1, r1.2.2.1, r2.2.1, r2.2.2.1, end_ok s1 hw, end_ok s2 hw, ← r1.2.1, ← r1.2.2.1, ← r2.2.1, ← r2.2.2.1, r1.2.2.2.2.2.2.1, r2.2.2.2.2.2.2.1]
    simp only [Bool.and_true, Bool.true_and, decide_eq_true_eq]
    rw [cmpD_dv, cmpQ_le, r1.2.2.2.1, r2.2.2.2.1, dv_le]
    have q1 := sq_le (X := e) w hm
    have q2 := sq_gt (X := f) w hn
    have q3 : dv (sqF m e w : Int) (-w) * dv (sqF m e w : Int) (-w) < dv ((sqF n f w : Int) + 1) (-w) * dv ((sqF n f w : Int) + 1) (-w) := by grind
    rw [dv_sq, dv_sq, dv_lt] at q3
    have q4 : sqF m e w < sqF n f w + 1 := by
      refine sq_lt ?_
      have : ((sqF m e w * sqF m e w : Nat) : Int) < (((sqF n f w + 1) * (sqF n f w + 1) : Nat) : Int) := by push_cast; exact q3
      exact Int.ofNat_lt.1 this
    have q5 : sqV m e w false = (sqF m e w : Int) := by unfold sqV; simp
    rw [q5]
    by_cases hx : sqX n f w = true
    · have q6 : sqV n f w true = (sqF n f w : Int) := by unfold sqV; rw [hx]; simp
      rw [q6]; omega
    · have q6 : sqV n f w true = (sqF n f w : Int) + 1 := by
        have : sqX n f w = false := by simpa using hx
        unfold sqV; rw [this]; rfl
      rw [q6]; omega
  refine ⟨by rw [a]; exact key, fun x => by rw [b]; unfold ecV; rw [if_pos key]⟩
theorem sq_up {M X w : Int} (hM : 0 ≤ M) (hv : vdb M X = true) : dv M X ≤ dv (sqV M X w true) (-w) * dv (sqV M X w true) (-w) := by
  by_cases hx : sqX M X w = true
  · have e1 := (sq_ex hM hv).1 hx
    have q6 : sqV M X w true = (sqF M X w : Int) := by unfold sqV; rw [hx]; simp
    rw [q6, e1]; exact Rat.le_refl
  · have q6 : sqV M X w true = (sqF M X w : Int) + 1 := by
      have : sqX M X w = false := by simpa using hx
      unfold sqV; rw [this]; rfl
    rw [q6]
    exact Rat.le_of_lt (sq_gt w hM)
theorem sq_dn {M X w : Int} (hM : 0 ≤ M) : dv (sqV M X w false) (-w) * dv (sqV M X w false) (-w) ≤ dv M X := by
  have q5 : sqV M X w false = (sqF M X w : Int) := by unfold sqV; simp
  rw [q5]; exact sq_le w hM
theorem sq_cmp {a b : Rat} (ha : 0 ≤ a) (hb : 0 ≤ b) (h : a * a ≤ b * b) : a ≤ b := by
  refine Rat.not_lt.1 fun q => ?_
  have h1 : b * b ≤ a * b := Rat.mul_le_mul_of_nonneg_right (Rat.le_of_lt q) hb
  have h2 : a * b < a * a := Rat.mul_lt_mul_of_pos_left q (by grind)
  grind
end Go.Proofs.YtmbpoibhamlkbaaGreatDoor


namespace Go.Proofs.YtmbpoibhamlkbaaGreatDoor
theorem mid_fit2 {m e n f : Int} (hm : L m.natAbs ≤ 2) (hn : L n.natAbs ≤ 2) (he : -6 ≤ e ∧ e ≤ 70) (hf : -6 ≤ f ∧ f ≤ 70) : L (midM m e n f).natAbs ≤ 7 ∧ -10 ≤ midX m e n f ∧ midX m e n f ≤ 600 := by
  have h0 := iMin_range e f
  have h1 := adS_L (a := 2) (c := 3) (e := e) (f := f) hm hn (by omega) (by omega)
  have a := mk_fit (m := adS m e n f) (e := iMin e f) (by omega) (by omega)
  have i1 := iMin_range (iMin e f) 0
  have i2 : iMax (iMin e f) 0 ≤ 70 := by unfold iMax; split <;> omega
  have b := mk_fit (m := mkM (adS m e n f) (iMin e f)) (e := mkX (adS m e n f) (iMin e f) + (-1)) (by omega) (by omega)
  have i3 := iMin_range (mkX (adS m e n f) (iMin e f) + (-1)) 0
  have i4 : iMax (mkX (adS m e n f) (iMin e f) + (-1)) 0 ≤ 300 := by unfold iMax; split <;> omega
  refine ⟨?_, ?_, ?_⟩
  · show L (mkM _ _).natAbs ≤ 7; omega
  · show -10 ≤ mkX _ _; omega
  · show mkX _ _ ≤ 600; omega
theorem rp_point {d x w : Int} (hL : L d.natAbs ≤ 7) (hx : -10 ≤ x ∧ x ≤ 600) (hw : 0 ≤ w ∧ w ≤ 60) {M X : Int} (eM : M = mkM (d * d) (x + x)) (eX : X = mkX (d * d) (x + x)) :
    (0 ≤ M ∧ L M.natAbs ≤ 14 ∧ (-20 ≤ X ∧ X ≤ 1700) ∧ vdb M X = true) ∧ (stE M X M X w = 0 ∧ ∀ z, stV z M X M X w = z) ∧
    ∀ y : Rat, 0 ≤ y → y * y = dv d x * dv d x → dv (srM M X w false) (srX M X w false) ≤ y ∧ y ≤ dv (srM M X w true) (srX M X w true) := by
  have l := L_abs_mul d d
  have f := mk_fit (m := d * d) (e := x + x) (by omega) (by omega)
  have i1 := iMin_range (x + x) 0
  have i2 : iMax (x + x) 0 ≤ 1200 := by unfold iMax; split <;> omega
  rw [← eM, ← eX] at f
  have hd : dv M X = dv d x * dv d x := by rw [f.2.2.2.2.2, dv_mul]
  have hM : 0 ≤ M := dv_ge0.1 (by
    rw [hd]
    rcases (Rat.le_total : 0 ≤ dv d x ∨ dv d x ≤ 0) with q | q
    · exact Rat.mul_nonneg q q
    · have := Rat.mul_nonneg (show 0 ≤ -dv d x by grind) (show 0 ≤ -dv d x by grind); grind)
  have hs : ∀ up, L (sqV M X w up).natAbs ≤ 60 := fun up => by
    have h := flr_LD (d * d) (x + x) (2 * w)
    rw [← f.2.2.2.2.2] at h
    have h2 := rt_L (flr (dv M X) (2 * w)).natAbs
    have h1 : L (1 : Int).natAbs ≤ 1 := L_le (by decide)
    have h3 := L_abs_add (sqF M X w) 1
    rw [Int.natAbs_natCast] at h3
    have h4 : L (sqF M X w) ≤ 57 := by unfold sqF; omega
    unfold sqV
    split
    · omega
    · rw [Int.add_zero, Int.natAbs_natCast]; omega
  have hw2 : 0 ≤ w ∧ w ≤ 300 := by omega
  refine ⟨⟨hM, by omega, by omega, f.2.2.2.2.1⟩, st_found hM hM ⟨by omega, by omega, by omega⟩ ⟨by omega, by omega, by omega⟩ hw2 Rat.le_refl (hs false) (hs true), fun y hy hyy => ?_⟩
  have r1 := sr_all (up := false) hM (show L M.natAbs ≤ 30 by omega) (by omega : -1000 ≤ X ∧ X ≤ 3000) hw2
  have r2 := sr_all (up := true) hM (show L M.natAbs ≤ 30 by omega) (by omega : -1000 ≤ X ∧ X ≤ 3000) hw2
  rw [r1.2.2.2.1, r2.2.2.2.1]
  refine ⟨sq_cmp (dv_nonneg sqV_nonneg) hy ?_, sq_cmp hy (dv_nonneg sqV_nonneg) ?_⟩
  · rw [hyy, ← hd]; exact sq_dn hM
  · rw [hyy, ← hd]; exact sq_up hM f.2.2.2.2.1
end Go.Proofs.YtmbpoibhamlkbaaGreatDoor
