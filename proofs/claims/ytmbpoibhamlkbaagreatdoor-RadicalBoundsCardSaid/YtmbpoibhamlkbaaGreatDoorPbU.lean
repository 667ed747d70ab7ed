/-
  Lower layers: what functions of the program compute, and plain facts. Conditions: as the theorems say.
-/
import Derived.Test.YtmbpoibhamlkbaaGreatDoorPbT
set_option linter.unusedVariables false
set_option linter.unusedSimpArgs false
namespace Go.Proofs.YtmbpoibhamlkbaaGreatDoor
open Go.RowKit
set_option maxRecDepth 100000
set_option maxHeartbeats 8000000
theorem l12_awake : Impl Tryz.prog Amb 27 [] (.bool true) := by
  exact impl_ob hP hAmb Tryz.func27 (by kernel_rfl) (.lit <| .call (wV (mkM 2 0) (mkX 2 0) (mkM 2 0) (mkX 2 0)) <| .lit <| .call (stT (mkM 2 0) (mkX 2 0) (mkM 2 0) (mkX 2 0) 1) <| .lits 2 <| .call (wV (mkM (-1) 0) (mkX (-1) 0) (mkM 1 0) (mkX 1 0)) <| .lit <| .call (stT (mkM (-1) 0) (mkX (-1) 0) (mkM 1 0) (mkX 1 0) 1) <| .lits 2 <| .call (wV (mkM (-2) 0) (mkX (-2) 0) (mkM (-1) 0) (mkX (-1) 0)) <| .lit <| .call (stT (mkM (-2) 0) (mkX (-2) 0) (mkM (-1) 0) (mkX (-1) 0) 1) <| .lits 2 <| .call (wV (mkM (-1) 0) (mkX (-1) 0) (mkM 2 0) (mkX 2 0)) <| .lit <| .call (pqT (mkM (-1) 0) (mkX (-1) 0) (mkM 2 0) (mkX 2 0) 2 0) <| .lits 2 <| .call (zV (3 : Int)) <| .lit <| .call (mkT (3 : Int) (-1)) <| .lits 2 <| .yes <| .lits 3 <| .call (yV (mkM 1 0) (mkX 1 0)) <| .lits 6 <| .call (.bool (decide (((stV (srX (mkM 2 0) (mkX 2 0) 1 false) (mkM 2 0) (mkX 2 0) (mkM 2 0) (mkX 2 0) 1) = (mkX 1 0) ∧ (stV (srM (mkM 2 0) (mkX 2 0) 1 false) (mkM 2 0) (mkX 2 0) (mkM 2 0) (mkX 2 0) 1) = (mkM 1 0)) ∧ ((stV (srX (mkM 2 0) (mkX 2 0) 1 true) (mkM 2 0) (mkX 2 0) (mkM 2 0) (mkX 2 0) 1) = (mkX (3 : Int) (-1)) ∧ (stV (srM (mkM 2 0) (mkX 2 0) 1 true) (mkM 2 0) (mkX 2 0) (mkM 2 0) (mkX 2 0) 1) = (mkM (3 : Int) (-1)))))) <| .lit <| .yes <| .lits 3 <| .yes <| .lits 3 <| .yes <| .lits 3 <| .yes <| .lits 3 <| .call (wV (mkM 0 0) (mkX 0 0) (mkM 4 0) (mkX 4 0)) <| .lits 2 <| .call (.bool (decide (((pqV (enX (pwL (mkM (-1) 0) (mkX (-1) 0) (mkM 2 0) (mkX 2 0) 2) (pwH (mkM (-1) 0) (mkX (-1) 0) (mkM 2 0) (mkX 2 0) 2) 0) (mkM (-1) 0) (mkX (-1) 0) (mkM 2 0) (mkX 2 0) 2 0) = (mkX 0 0) ∧ (pqV (enM (pwL (mkM (-1) 0) (mkX (-1) 0) (mkM 2 0) (mkX 2 0) 2) (pwH (mkM (-1) 0) (mkX (-1) 0) (mkM 2 0) (mkX 2 0) 2) 0) (mkM (-1) 0) (mkX (-1) 0) (mkM 2 0) (mkX 2 0) 2 0) = (mkM 0 0)) ∧ ((pqV (enF (pwL (mkM (-1) 0) (mkX (-1) 0) (mkM 2 0) (mkX 2 0) 2) (pwH (mkM (-1) 0) (mkX (-1) 0) (mkM 2 0) (mkX 2 0) 2) 0) (mkM (-1) 0) (mkX (-1) 0) (mkM 2 0) (mkX 2 0) 2 0) = (mkX 4 0) ∧ (pqV (enN (pwL (mkM (-1) 0) (mkX (-1) 0) (mkM 2 0) (mkX 2 0) 2) (pwH (mkM (-1) 0) (mkX (-1) 0) (mkM 2 0) (mkX 2 0) 2) 0) (mkM (-1) 0) (mkX (-1) 0) (mkM 2 0) (mkX 2 0) 2 0) = (mkM 4 0))))) <| .lits 2 <| .ret)
    (cast_ob (aI True.intro (aI (l12_of 2 2 (by first | omega | exact (of_fit oO).2.2.2.2.1 | kernel_rfl | (rw [(of_fit oO).2.2.2.2.2, (of_fit oO).2.2.2.2.2]; decide)) (by first | omega | exact (of_fit oO).2.2.2.2.1 | kernel_rfl | (rw [(of_fit oO).2.2.2.2.2, (of_fit oO).2.2.2.2.2]; decide))) (have f83 := (of_fit (n := 2) (by first | omega | exact (of_fit oO).2.2.2.2.1 | kernel_rfl | (rw [(of_fit oO).2.2.2.2.2, (of_fit oO).2.2.2.2.2]; decide))).2.2.2.2.1; have f82 := (of_fit (n := 2) (by first | omega | exact (of_fit oO).2.2.2.2.1 | kernel_rfl | (rw [(of_fit oO).2.2.2.2.2, (of_fit oO).2.2.2.2.2]; decide))).2.2.2.1; have f81 := (of_fit (n := 2) (by first | omega | exact (of_fit oO).2.2.2.2.1 | kernel_rfl | (rw [(of_fit oO).2.2.2.2.2, (of_fit oO).2.2.2.2.2]; decide))).2.2.1; have f80 := (of_fit (n := 2) (by first | omega | exact (of_fit oO).2.2.2.2.1 | kernel_rfl | (rw [(of_fit oO).2.2.2.2.2, (of_fit oO).2.2.2.2.2]; decide))).2.1; have f79 := (of_fit (n := 2) (by first | omega | exact (of_fit oO).2.2.2.2.1 | kernel_rfl | (rw [(of_fit oO).2.2.2.2.2, (of_fit oO).2.2.2.2.2]; decide))).1; have f78 := (L_i64 (by first | omega | exact (of_fit oO).2.2.2.2.1 | kernel_rfl | (rw [(of_fit oO).2.2.2.2.2, (of_fit oO).2.2.2.2.2]; decide)) : L (2 : Int).natAbs ≤ 2); have f77 := mk_facts 2 0; have f76 := (of_fit (n := 2) (by first | omega | exact (of_fit oO).2.2.2.2.1 | kernel_rfl | (rw [(of_fit oO).2.2.2.2.2, (of_fit oO).2.2.2.2.2]; decide))).2.2.2.2.1; have f75 := (of_fit (n := 2) (by first | omega | exact (of_fit oO).2.2.2.2.1 | kernel_rfl | (rw [(of_fit oO).2.2.2.2.2, (of_fit oO).2.2.2.2.2]; decide))).2.2.2.1; have f74 := (of_fit (n := 2) (by first | omega | exact (of_fit oO).2.2.2.2.1 | kernel_rfl | (rw [(of_fit oO).2.2.2.2.2, (of_fit oO).2.2.2.2.2]; decide))).2.2.1; have f73 := (of_fit (n := 2) (by first | omega | exact (of_fit oO).2.2.2.2.1 | kernel_rfl | (rw [(of_fit oO).2.2.2.2.2, (of_fit oO).2.2.2.2.2]; decide))).2.1; have f72 := (of_fit (n := 2) (by first | omega | exact (of_fit oO).2.2.2.2.1 | kernel_rfl | (rw [(of_fit oO).2.2.2.2.2, (of_fit oO).2.2.2.2.2]; decide))).1; have f71 := (L_i64 (by first | omega | exact (of_fit oO).2.2.2.2.1 | kernel_rfl | (rw [(of_fit oO).2.2.2.2.2, (of_fit oO).2.2.2.2.2]; decide)) : L (2 : Int).natAbs ≤ 2); have f70 := mk_facts 2 0; aI (rad_Sqrt (mkM 2 0) (mkX 2 0) (mkM 2 0) (mkX 2 0) 1 (by first | omega | exact (of_fit oO).2.2.2.2.1 | kernel_rfl | (rw [(of_fit oO).2.2.2.2.2, (of_fit oO).2.2.2.2.2]; decide)) (by first | omega | exact (of_fit oO).2.2.2.2.1 | kernel_rfl | (rw [(of_fit oO).2.2.2.2.2, (of_fit oO).2.2.2.2.2]; decide)) (by first | omega | exact (of_fit oO).2.2.2.2.1 | kernel_rfl | (rw [(of_fit oO).2.2.2.2.2, (of_fit oO).2.2.2.2.2]; decide)) (by first | omega | exact (of_fit oO).2.2.2.2.1 | kernel_rfl | (rw [(of_fit oO).2.2.2.2.2, (of_fit oO).2.2.2.2.2]; decide)) (by first | omega | exact (of_fit oO).2.2.2.2.1 | kernel_rfl | (rw [(of_fit oO).2.2.2.2.2, (of_fit oO).2.2.2.2.2]; decide)) (by first | omega | exact (of_fit oO).2.2.2.2.1 | kernel_rfl | (rw [(of_fit oO).2.2.2.2.2, (of_fit oO).2.2.2.2.2]; decide)) (by first | omega | exact (of_fit oO).2.2.2.2.1 | kernel_rfl | (rw [(of_fit oO).2.2.2.2.2, (of_fit oO).2.2.2.2.2]; decide))) (have f69 := st_facts (mkM 2 0) (mkX 2 0) (mkM 2 0) (mkX 2 0) 1; aI (l12_of (-1) 1 (by first | omega | exact (of_fit oO).2.2.2.2.1 | kernel_rfl | (rw [(of_fit oO).2.2.2.2.2, (of_fit oO).2.2.2.2.2]; decide)) (by first | omega | exact (of_fit oO).2.2.2.2.1 | kernel_rfl | (rw [(of_fit oO).2.2.2.2.2, (of_fit oO).2.2.2.2.2]; decide))) (have f68 := (of_fit (n := 1) (by first | omega | exact (of_fit oO).2.2.2.2.1 | kernel_rfl | (rw [(of_fit oO).2.2.2.2.2, (of_fit oO).2.2.2.2.2]; decide))).2.2.2.2.1; have f67 := (of_fit (n := 1) (by first | omega | exact (of_fit oO).2.2.2.2.1 | kernel_rfl | (rw [(of_fit oO).2.2.2.2.2, (of_fit oO).2.2.2.2.2]; decide))).2.2.2.1; have f66 := (of_fit (n := 1) (by first | omega | exact (of_fit oO).2.2.2.2.1 | kernel_rfl | (rw [(of_fit oO).2.2.2.2.2, (of_fit oO).2.2.2.2.2]; decide))).2.2.1; have f65 := (of_fit (n := 1) (by first | omega | exact (of_fit oO).2.2.2.2.1 | kernel_rfl | (rw [(of_fit oO).2.2.2.2.2, (of_fit oO).2.2.2.2.2]; decide))).2.1; have f64 := (of_fit (n := 1) (by first | omega | exact (of_fit oO).2.2.2.2.1 | kernel_rfl | (rw [(of_fit oO).2.2.2.2.2, (of_fit oO).2.2.2.2.2]; decide))).1; have f63 := (L_i64 (by first | omega | exact (of_fit oO).2.2.2.2.1 | kernel_rfl | (rw [(of_fit oO).2.2.2.2.2, (of_fit oO).2.2.2.2.2]; decide)) : L (1 : Int).natAbs ≤ 2); have f62 := mk_facts 1 0; have f61 := (of_fit (n := -1) (by first | omega | exact (of_fit oO).2.2.2.2.1 | kernel_rfl | (rw [(of_fit oO).2.2.2.2.2, (of_fit oO).2.2.2.2.2]; decide))).2.2.2.2.1; have f60 := (of_fit (n := -1) (by first | omega | exact (of_fit oO).2.2.2.2.1 | kernel_rfl | (rw [(of_fit oO).2.2.2.2.2, (of_fit oO).2.2.2.2.2]; decide))).2.2.2.1; have f59 := (of_fit (n := -1) (by first | omega | exact (of_fit oO).2.2.2.2.1 | kernel_rfl | (rw [(of_fit oO).2.2.2.2.2, (of_fit oO).2.2.2.2.2]; decide))).2.2.1; have f58 := (of_fit (n := -1) (by first | omega | exact (of_fit oO).2.2.2.2.1 | kernel_rfl | (rw [(of_fit oO).2.2.2.2.2, (of_fit oO).2.2.2.2.2]; decide))).2.1; have f57 := (of_fit (n := -1) (by first | omega | exact (of_fit oO).2.2.2.2.1 | kernel_rfl | (rw [(of_fit oO).2.2.2.2.2, (of_fit oO).2.2.2.2.2]; decide))).1; have f56 := (L_i64 (by first | omega | exact (of_fit oO).2.2.2.2.1 | kernel_rfl | (rw [(of_fit oO).2.2.2.2.2, (of_fit oO).2.2.2.2.2]; decide)) : L (-1 : Int).natAbs ≤ 2); have f55 := mk_facts (-1) 0; aI (rad_Sqrt (mkM (-1) 0) (mkX (-1) 0) (mkM 1 0) (mkX 1 0) 1 (by first | omega | exact (of_fit oO).2.2.2.2.1 | kernel_rfl | (rw [(of_fit oO).2.2.2.2.2, (of_fit oO).2.2.2.2.2]; decide)) (by first | omega | exact (of_fit oO).2.2.2.2.1 | kernel_rfl | (rw [(of_fit oO).2.2.2.2.2, (of_fit oO).2.2.2.2.2]; decide)) (by first | omega | exact (of_fit oO).2.2.2.2.1 | kernel_rfl | (rw [(of_fit oO).2.2.2.2.2, (of_fit oO).2.2.2.2.2]; decide)) (by first | omega | exact (of_fit oO).2.2.2.2.1 | kernel_rfl | (rw [(of_fit oO).2.2.2.2.2, (of_fit oO).2.2.2.2.2]; decide)) (by first | omega | exact (of_fit oO).2.2.2.2.1 | kernel_rfl | (rw [(of_fit oO).2.2.2.2.2, (of_fit oO).2.2.2.2.2]; decide)) (by first | omega | exact (of_fit oO).2.2.2.2.1 | kernel_rfl | (rw [(of_fit oO).2.2.2.2.2, (of_fit oO).2.2.2.2.2]; decide)) (by first | omega | exact (of_fit oO).2.2.2.2.1 | kernel_rfl | (rw [(of_fit oO).2.2.2.2.2, (of_fit oO).2.2.2.2.2]; decide))) (have f54 := st_facts (mkM (-1) 0) (mkX (-1) 0) (mkM 1 0) (mkX 1 0) 1; aI (l12_of (-2) (-1) (by first | omega | exact (of_fit oO).2.2.2.2.1 | kernel_rfl | (rw [(of_fit oO).2.2.2.2.2, (of_fit oO).2.2.2.2.2]; decide)) (by first | omega | exact (of_fit oO).2.2.2.2.1 | kernel_rfl | (rw [(of_fit oO).2.2.2.2.2, (of_fit oO).2.2.2.2.2]; decide))) (have f53 := (of_fit (n := -1) (by first | omega | exact (of_fit oO).2.2.2.2.1 | kernel_rfl | (rw [(of_fit oO).2.2.2.2.2, (of_fit oO).2.2.2.2.2]; decide))).2.2.2.2.1; have f52 := (of_fit (n := -1) (by first | omega | exact (of_fit oO).2.2.2.2.1 | kernel_rfl | (rw [(of_fit oO).2.2.2.2.2, (of_fit oO).2.2.2.2.2]; decide))).2.2.2.1; have f51 := (of_fit (n := -1) (by first | omega | exact (of_fit oO).2.2.2.2.1 | kernel_rfl | (rw [(of_fit oO).2.2.2.2.2, (of_fit oO).2.2.2.2.2]; decide))).2.2.1; have f50 := (of_fit (n := -1) (by first | omega | exact (of_fit oO).2.2.2.2.1 | kernel_rfl | (rw [(of_fit oO).2.2.2.2.2, (of_fit oO).2.2.2.2.2]; decide))).2.1; have f49 := (of_fit (n := -1) (by first | omega | exact (of_fit oO).2.2.2.2.1 | kernel_rfl | (rw [(of_fit oO).2.2.2.2.2, (of_fit oO).2.2.2.2.2]; decide))).1; have f48 := (L_i64 (by first | omega | exact (of_fit oO).2.2.2.2.1 | kernel_rfl | (rw [(of_fit oO).2.2.2.2.2, (of_fit oO).2.2.2.2.2]; decide)) : L (-1 : Int).natAbs ≤ 2); have f47 := mk_facts (-1) 0; have f46 := (of_fit (n := -2) (by first | omega | exact (of_fit oO).2.2.2.2.1 | kernel_rfl | (rw [(of_fit oO).2.2.2.2.2, (of_fit oO).2.2.2.2.2]; decide))).2.2.2.2.1; have f45 := (of_fit (n := -2) (by first | omega | exact (of_fit oO).2.2.2.2.1 | kernel_rfl | (rw [(of_fit oO).2.2.2.2.2, (of_fit oO).2.2.2.2.2]; decide))).2.2.2.1; have f44 := (of_fit (n := -2) (by first | omega | exact (of_fit oO).2.2.2.2.1 | kernel_rfl | (rw [(of_fit oO).2.2.2.2.2, (of_fit oO).2.2.2.2.2]; decide))).2.2.1; have f43 := (of_fit (n := -2) (by first | omega | exact (of_fit oO).2.2.2.2.1 | kernel_rfl | (rw [(of_fit oO).2.2.2.2.2, (of_fit oO).2.2.2.2.2]; decide))).2.1; have f42 := (of_fit (n := -2) (by first | omega | exact (of_fit oO).2.2.2.2.1 | kernel_rfl | (rw [(of_fit oO).2.2.2.2.2, (of_fit oO).2.2.2.2.2]; decide))).1; have f41 := (L_i64 (by first | omega | exact (of_fit oO).2.2.2.2.1 | kernel_rfl | (rw [(of_fit oO).2.2.2.2.2, (of_fit oO).2.2.2.2.2]; decide)) : L (-2 : Int).natAbs ≤ 2); have f40 := mk_facts (-2) 0; aI (rad_Sqrt (mkM (-2) 0) (mkX (-2) 0) (mkM (-1) 0) (mkX (-1) 0) 1 (by first | omega | exact (of_fit oO).2.2.2.2.1 | kernel_rfl | (rw [(of_fit oO).2.2.2.2.2, (of_fit oO).2.2.2.2.2]; decide)) (by first | omega | exact (of_fit oO).2.2.2.2.1 | kernel_rfl | (rw [(of_fit oO).2.2.2.2.2, (of_fit oO).2.2.2.2.2]; decide)) (by first | omega | exact (of_fit oO).2.2.2.2.1 | kernel_rfl | (rw [(of_fit oO).2.2.2.2.2, (of_fit oO).2.2.2.2.2]; decide)) (by first | omega | exact (of_fit oO).2.2.2.2.1 | kernel_rfl | (rw [(of_fit oO).2.2.2.2.2, (of_fit oO).2.2.2.2.2]; decide)) (by first | omega | exact (of_fit oO).2.2.2.2.1 | kernel_rfl | (rw [(of_fit oO).2.2.2.2.2, (of_fit oO).2.2.2.2.2]; decide)) (by first | omega | exact (of_fit oO).2.2.2.2.1 | kernel_rfl | (rw [(of_fit oO).2.2.2.2.2, (of_fit oO).2.2.2.2.2]; decide)) (by first | omega | exact (of_fit oO).2.2.2.2.1 | kernel_rfl | (rw [(of_fit oO).2.2.2.2.2, (of_fit oO).2.2.2.2.2]; decide))) (have f39 := st_facts (mkM (-2) 0) (mkX (-2) 0) (mkM (-1) 0) (mkX (-1) 0) 1; aI (l12_of (-1) 2 (by first | omega | exact (of_fit oO).2.2.2.2.1 | kernel_rfl | (rw [(of_fit oO).2.2.2.2.2, (of_fit oO).2.2.2.2.2]; decide)) (by first | omega | exact (of_fit oO).2.2.2.2.1 | kernel_rfl | (rw [(of_fit oO).2.2.2.2.2, (of_fit oO).2.2.2.2.2]; decide))) (have f38 := (of_fit (n := 2) (by first | omega | exact (of_fit oO).2.2.2.2.1 | kernel_rfl | (rw [(of_fit oO).2.2.2.2.2, (of_fit oO).2.2.2.2.2]; decide))).2.2.2.2.1; have f37 := (of_fit (n := 2) (by first | omega | exact (of_fit oO).2.2.2.2.1 | kernel_rfl | (rw [(of_fit oO).2.2.2.2.2, (of_fit oO).2.2.2.2.2]; decide))).2.2.2.1; have f36 := (of_fit (n := 2) (by first | omega | exact (of_fit oO).2.2.2.2.1 | kernel_rfl | (rw [(of_fit oO).2.2.2.2.2, (of_fit oO).2.2.2.2.2]; decide))).2.2.1; have f35 := (of_fit (n := 2) (by first | omega | exact (of_fit oO).2.2.2.2.1 | kernel_rfl | (rw [(of_fit oO).2.2.2.2.2, (of_fit oO).2.2.2.2.2]; decide))).2.1; have f34 := (of_fit (n := 2) (by first | omega | exact (of_fit oO).2.2.2.2.1 | kernel_rfl | (rw [(of_fit oO).2.2.2.2.2, (of_fit oO).2.2.2.2.2]; decide))).1; have f33 := (L_i64 (by first | omega | exact (of_fit oO).2.2.2.2.1 | kernel_rfl | (rw [(of_fit oO).2.2.2.2.2, (of_fit oO).2.2.2.2.2]; decide)) : L (2 : Int).natAbs ≤ 2); have f32 := mk_facts 2 0; have f31 := (of_fit (n := -1) (by first | omega | exact (of_fit oO).2.2.2.2.1 | kernel_rfl | (rw [(of_fit oO).2.2.2.2.2, (of_fit oO).2.2.2.2.2]; decide))).2.2.2.2.1; have f30 := (of_fit (n := -1) (by first | omega | exact (of_fit oO).2.2.2.2.1 | kernel_rfl | (rw [(of_fit oO).2.2.2.2.2, (of_fit oO).2.2.2.2.2]; decide))).2.2.2.1; have f29 := (of_fit (n := -1) (by first | omega | exact (of_fit oO).2.2.2.2.1 | kernel_rfl | (rw [(of_fit oO).2.2.2.2.2, (of_fit oO).2.2.2.2.2]; decide))).2.2.1; have f28 := (of_fit (n := -1) (by first | omega | exact (of_fit oO).2.2.2.2.1 | kernel_rfl | (rw [(of_fit oO).2.2.2.2.2, (of_fit oO).2.2.2.2.2]; decide))).2.1; have f27 := (of_fit (n := -1) (by first | omega | exact (of_fit oO).2.2.2.2.1 | kernel_rfl | (rw [(of_fit oO).2.2.2.2.2, (of_fit oO).2.2.2.2.2]; decide))).1; have f26 := (L_i64 (by first | omega | exact (of_fit oO).2.2.2.2.1 | kernel_rfl | (rw [(of_fit oO).2.2.2.2.2, (of_fit oO).2.2.2.2.2]; decide)) : L (-1 : Int).natAbs ≤ 2); have f25 := mk_facts (-1) 0; aI (rad_Power (mkM (-1) 0) (mkX (-1) 0) (mkM 2 0) (mkX 2 0) 2 0 (by first | omega | exact (of_fit oO).2.2.2.2.1 | kernel_rfl | (rw [(of_fit oO).2.2.2.2.2, (of_fit oO).2.2.2.2.2]; decide)) (by first | omega | exact (of_fit oO).2.2.2.2.1 | kernel_rfl | (rw [(of_fit oO).2.2.2.2.2, (of_fit oO).2.2.2.2.2]; decide)) (by first | omega | exact (of_fit oO).2.2.2.2.1 | kernel_rfl | (rw [(of_fit oO).2.2.2.2.2, (of_fit oO).2.2.2.2.2]; decide)) (by first | omega | exact (of_fit oO).2.2.2.2.1 | kernel_rfl | (rw [(of_fit oO).2.2.2.2.2, (of_fit oO).2.2.2.2.2]; decide)) (by first | omega | exact (of_fit oO).2.2.2.2.1 | kernel_rfl | (rw [(of_fit oO).2.2.2.2.2, (of_fit oO).2.2.2.2.2]; decide)) (by first | omega | exact (of_fit oO).2.2.2.2.1 | kernel_rfl | (rw [(of_fit oO).2.2.2.2.2, (of_fit oO).2.2.2.2.2]; decide)) (by first | omega | exact (of_fit oO).2.2.2.2.1 | kernel_rfl | (rw [(of_fit oO).2.2.2.2.2, (of_fit oO).2.2.2.2.2]; decide)) (by first | omega | exact (of_fit oO).2.2.2.2.1 | kernel_rfl | (rw [(of_fit oO).2.2.2.2.2, (of_fit oO).2.2.2.2.2]; decide)) (by first | omega | exact (of_fit oO).2.2.2.2.1 | kernel_rfl | (rw [(of_fit oO).2.2.2.2.2, (of_fit oO).2.2.2.2.2]; decide))) (have f24 := pq_facts (mkM (-1) 0) (mkX (-1) 0) (mkM 2 0) (mkX 2 0) 2 0; aI (r05_Of 3 (by first | omega | exact (of_fit oO).2.2.2.2.1 | kernel_rfl | (rw [(of_fit oO).2.2.2.2.2, (of_fit oO).2.2.2.2.2]; decide))) (have f23 := (L_i64 (by first | omega | exact (of_fit oO).2.2.2.2.1 | kernel_rfl | (rw [(of_fit oO).2.2.2.2.2, (of_fit oO).2.2.2.2.2]; decide)) : L (3 : Int).natAbs ≤ 2); aI (r08_Make (3 : Int) (-1) (by first | omega | exact (of_fit oO).2.2.2.2.1 | kernel_rfl | (rw [(of_fit oO).2.2.2.2.2, (of_fit oO).2.2.2.2.2]; decide)) (by first | omega | exact (of_fit oO).2.2.2.2.1 | kernel_rfl | (rw [(of_fit oO).2.2.2.2.2, (of_fit oO).2.2.2.2.2]; decide))) (have f22 := mk_facts (3 : Int) (-1); aI ((by kernel_rfl) : (iEq (stE (mkM 2 0) (mkX 2 0) (mkM 2 0) (mkX 2 0) 1) 0) = true) (aI (r08_Of 1 (by first | omega | exact (of_fit oO).2.2.2.2.1 | kernel_rfl | (rw [(of_fit oO).2.2.2.2.2, (of_fit oO).2.2.2.2.2]; decide))) (have f21 := (of_fit (n := 1) (by first | omega | exact (of_fit oO).2.2.2.2.1 | kernel_rfl | (rw [(of_fit oO).2.2.2.2.2, (of_fit oO).2.2.2.2.2]; decide))).2.2.2.2.1; have f20 := (of_fit (n := 1) (by first | omega | exact (of_fit oO).2.2.2.2.1 | kernel_rfl | (rw [(of_fit oO).2.2.2.2.2, (of_fit oO).2.2.2.2.2]; decide))).2.2.2.1; have f19 := (of_fit (n := 1) (by first | omega | exact (of_fit oO).2.2.2.2.1 | kernel_rfl | (rw [(of_fit oO).2.2.2.2.2, (of_fit oO).2.2.2.2.2]; decide))).2.2.1; have f18 := (of_fit (n := 1) (by first | omega | exact (of_fit oO).2.2.2.2.1 | kernel_rfl | (rw [(of_fit oO).2.2.2.2.2, (of_fit oO).2.2.2.2.2]; decide))).2.1; have f17 := (of_fit (n := 1) (by first | omega | exact (of_fit oO).2.2.2.2.1 | kernel_rfl | (rw [(of_fit oO).2.2.2.2.2, (of_fit oO).2.2.2.2.2]; decide))).1; have f16 := (L_i64 (by first | omega | exact (of_fit oO).2.2.2.2.1 | kernel_rfl | (rw [(of_fit oO).2.2.2.2.2, (of_fit oO).2.2.2.2.2]; decide)) : L (1 : Int).natAbs ≤ 2); have f15 := mk_facts 1 0; aI (r10_Same (stV (srM (mkM 2 0) (mkX 2 0) 1 false) (mkM 2 0) (mkX 2 0) (mkM 2 0) (mkX 2 0) 1) (stV (srX (mkM 2 0) (mkX 2 0) 1 false) (mkM 2 0) (mkX 2 0) (mkM 2 0) (mkX 2 0) 1) (stV (srM (mkM 2 0) (mkX 2 0) 1 true) (mkM 2 0) (mkX 2 0) (mkM 2 0) (mkX 2 0) 1) (stV (srX (mkM 2 0) (mkX 2 0) 1 true) (mkM 2 0) (mkX 2 0) (mkM 2 0) (mkX 2 0) 1) (mkM 1 0) (mkX 1 0) (mkM (3 : Int) (-1)) (mkX (3 : Int) (-1)) (by first | omega | exact (of_fit oO).2.2.2.2.1 | kernel_rfl | (rw [(of_fit oO).2.2.2.2.2, (of_fit oO).2.2.2.2.2]; decide)) (by first | omega | exact (of_fit oO).2.2.2.2.1 | kernel_rfl | (rw [(of_fit oO).2.2.2.2.2, (of_fit oO).2.2.2.2.2]; decide)) (by first | omega | exact (of_fit oO).2.2.2.2.1 | kernel_rfl | (rw [(of_fit oO).2.2.2.2.2, (of_fit oO).2.2.2.2.2]; decide)) (by first | omega | exact (of_fit oO).2.2.2.2.1 | kernel_rfl | (rw [(of_fit oO).2.2.2.2.2, (of_fit oO).2.2.2.2.2]; decide))) (aI ((by kernel_rfl) : (decide (((stV (srX (mkM 2 0) (mkX 2 0) 1 false) (mkM 2 0) (mkX 2 0) (mkM 2 0) (mkX 2 0) 1) = (mkX 1 0) ∧ (stV (srM (mkM 2 0) (mkX 2 0) 1 false) (mkM 2 0) (mkX 2 0) (mkM 2 0) (mkX 2 0) 1) = (mkM 1 0)) ∧ ((stV (srX (mkM 2 0) (mkX 2 0) 1 true) (mkM 2 0) (mkX 2 0) (mkM 2 0) (mkX 2 0) 1) = (mkX (3 : Int) (-1)) ∧ (stV (srM (mkM 2 0) (mkX 2 0) 1 true) (mkM 2 0) (mkX 2 0) (mkM 2 0) (mkX 2 0) 1) = (mkM (3 : Int) (-1))))) = true) (aI ((by kernel_rfl) : (iEq (stE (mkM (-1) 0) (mkX (-1) 0) (mkM 1 0) (mkX 1 0) 1) 5) = true) (aI ((by kernel_rfl) : (iEq (stE (mkM (-2) 0) (mkX (-2) 0) (mkM (-1) 0) (mkX (-1) 0) 1) 4) = true) (aI ((by kernel_rfl) : (iEq (pqE (mkM (-1) 0) (mkX (-1) 0) (mkM 2 0) (mkX 2 0) 2 0) 0) = true) (aI (l12_of 0 4 (by first | omega | exact (of_fit oO).2.2.2.2.1 | kernel_rfl | (rw [(of_fit oO).2.2.2.2.2, (of_fit oO).2.2.2.2.2]; decide)) (by first | omega | exact (of_fit oO).2.2.2.2.1 | kernel_rfl | (rw [(of_fit oO).2.2.2.2.2, (of_fit oO).2.2.2.2.2]; decide))) (have f14 := (of_fit (n := 4) (by first | omega | exact (of_fit oO).2.2.2.2.1 | kernel_rfl | (rw [(of_fit oO).2.2.2.2.2, (of_fit oO).2.2.2.2.2]; decide))).2.2.2.2.1; have f13 := (of_fit (n := 4) (by first | omega | exact (of_fit oO).2.2.2.2.1 | kernel_rfl | (rw [(of_fit oO).2.2.2.2.2, (of_fit oO).2.2.2.2.2]; decide))).2.2.2.1; have f12 := (of_fit (n := 4) (by first | omega | exact (of_fit oO).2.2.2.2.1 | kernel_rfl | (rw [(of_fit oO).2.2.2.2.2, (of_fit oO).2.2.2.2.2]; decide))).2.2.1; have f11 := (of_fit (n := 4) (by first | omega | exact (of_fit oO).2.2.2.2.1 | kernel_rfl | (rw [(of_fit oO).2.2.2.2.2, (of_fit oO).2.2.2.2.2]; decide))).2.1; have f10 := (of_fit (n := 4) (by first | omega | exact (of_fit oO).2.2.2.2.1 | kernel_rfl | (rw [(of_fit oO).2.2.2.2.2, (of_fit oO).2.2.2.2.2]; decide))).1; have f9 := (L_i64 (by first | omega | exact (of_fit oO).2.2.2.2.1 | kernel_rfl | (rw [(of_fit oO).2.2.2.2.2, (of_fit oO).2.2.2.2.2]; decide)) : L (4 : Int).natAbs ≤ 2); have f8 := mk_facts 4 0; have f7 := (of_fit (n := 0) (by first | omega | exact (of_fit oO).2.2.2.2.1 | kernel_rfl | (rw [(of_fit oO).2.2.2.2.2, (of_fit oO).2.2.2.2.2]; decide))).2.2.2.2.1; have f6 := (of_fit (n := 0) (by first | omega | exact (of_fit oO).2.2.2.2.1 | kernel_rfl | (rw [(of_fit oO).2.2.2.2.2, (of_fit oO).2.2.2.2.2]; decide))).2.2.2.1; have f5 := (of_fit (n := 0) (by first | omega | exact (of_fit oO).2.2.2.2.1 | kernel_rfl | (rw [(of_fit oO).2.2.2.2.2, (of_fit oO).2.2.2.2.2]; decide))).2.2.1; have f4 := (of_fit (n := 0) (by first | omega | exact (of_fit oO).2.2.2.2.1 | kernel_rfl | (rw [(of_fit oO).2.2.2.2.2, (of_fit oO).2.2.2.2.2]; decide))).2.1; have f3 := (of_fit (n := 0) (by first | omega | exact (of_fit oO).2.2.2.2.1 | kernel_rfl | (rw [(of_fit oO).2.2.2.2.2, (of_fit oO).2.2.2.2.2]; decide))).1; have f2 := (L_i64 (by first | omega | exact (of_fit oO).2.2.2.2.1 | kernel_rfl | (rw [(of_fit oO).2.2.2.2.2, (of_fit oO).2.2.2.2.2]; decide)) : L (0 : Int).natAbs ≤ 2); have f1 := mk_facts 0 0; aI (r10_Same (pqV (enM (pwL (mkM (-1) 0) (mkX (-1) 0) (mkM 2 0) (mkX 2 0) 2) (pwH (mkM (-1) 0) (mkX (-1) 0) (mkM 2 0) (mkX 2 0) 2) 0) (mkM (-1) 0) (mkX (-1) 0) (mkM 2 0) (mkX 2 0) 2 0) (pqV (enX (pwL (mkM (-1) 0) (mkX (-1) 0) (mkM 2 0) (mkX 2 0) 2) (pwH (mkM (-1) 0) (mkX (-1) 0) (mkM 2 0) (mkX 2 0) 2) 0) (mkM (-1) 0) (mkX (-1) 0) (mkM 2 0) (mkX 2 0) 2 0) (pqV (enN (pwL (mkM (-1) 0) (mkX (-1) 0) (mkM 2 0) (mkX 2 0) 2) (pwH (mkM (-1) 0) (mkX (-1) 0) (mkM 2 0) (mkX 2 0) 2) 0) (mkM (-1) 0) (mkX (-1) 0) (mkM 2 0) (mkX 2 0) 2 0) (pqV (enF (pwL (mkM (-1) 0) (mkX (-1) 0) (mkM 2 0) (mkX 2 0) 2) (pwH (mkM (-1) 0) (mkX (-1) 0) (mkM 2 0) (mkX 2 0) 2) 0) (mkM (-1) 0) (mkX (-1) 0) (mkM 2 0) (mkX 2 0) 2 0) (mkM 0 0) (mkX 0 0) (mkM 4 0) (mkX 4 0) (by first | omega | exact (of_fit oO).2.2.2.2.1 | kernel_rfl | (rw [(of_fit oO).2.2.2.2.2, (of_fit oO).2.2.2.2.2]; decide)) (by first | omega | exact (of_fit oO).2.2.2.2.1 | kernel_rfl | (rw [(of_fit oO).2.2.2.2.2, (of_fit oO).2.2.2.2.2]; decide)) (by first | omega | exact (of_fit oO).2.2.2.2.1 | kernel_rfl | (rw [(of_fit oO).2.2.2.2.2, (of_fit oO).2.2.2.2.2]; decide)) (by first | omega | exact (of_fit oO).2.2.2.2.1 | kernel_rfl | (rw [(of_fit oO).2.2.2.2.2, (of_fit oO).2.2.2.2.2]; decide))) ((vsub_of (congrArg V.bool (by kernel_rfl)) : vsub (.bool (decide (((pqV (enX (pwL (mkM (-1) 0) (mkX (-1) 0) (mkM 2 0) (mkX 2 0) 2) (pwH (mkM (-1) 0) (mkX (-1) 0) (mkM 2 0) (mkX 2 0) 2) 0) (mkM (-1) 0) (mkX (-1) 0) (mkM 2 0) (mkX 2 0) 2 0) = (mkX 0 0) ∧ (pqV (enM (pwL (mkM (-1) 0) (mkX (-1) 0) (mkM 2 0) (mkX 2 0) 2) (pwH (mkM (-1) 0) (mkX (-1) 0) (mkM 2 0) (mkX 2 0) 2) 0) (mkM (-1) 0) (mkX (-1) 0) (mkM 2 0) (mkX 2 0) 2 0) = (mkM 0 0)) ∧ ((pqV (enF (pwL (mkM (-1) 0) (mkX (-1) 0) (mkM 2 0) (mkX 2 0) 2) (pwH (mkM (-1) 0) (mkX (-1) 0) (mkM 2 0) (mkX 2 0) 2) 0) (mkM (-1) 0) (mkX (-1) 0) (mkM 2 0) (mkX 2 0) 2 0) = (mkX 4 0) ∧ (pqV (enN (pwL (mkM (-1) 0) (mkX (-1) 0) (mkM 2 0) (mkX 2 0) 2) (pwH (mkM (-1) 0) (mkX (-1) 0) (mkM 2 0) (mkX 2 0) 2) 0) (mkM (-1) 0) (mkX (-1) 0) (mkM 2 0) (mkX 2 0) 2 0) = (mkM 4 0))))) (.bool true))))))))))))))))))))))) (by kernel_rfl))

end Go.Proofs.YtmbpoibhamlkbaaGreatDoor


namespace Go.Proofs.YtmbpoibhamlkbaaGreatDoor
theorem natAbs_flr {M X : Int} (w : Int) (hM : 0 ≤ M) : ((flr (dv M X) (2 * w)).natAbs : Int) = flr (dv M X) (2 * w) := by
  have := flr_nonneg (dv_nonneg (e := X) hM) (2 * w); omega
theorem dv_sq (x w : Int) : dv x (-w) * dv x (-w) = dv (x * x) (-(2 * w)) := by
  rw [← dv_mul, show -w + -w = -(2 * w) by omega]
theorem sq_le {M X : Int} (w : Int) (hM : 0 ≤ M) : dv (sqF M X w : Int) (-w) * dv (sqF M X w : Int) (-w) ≤ dv M X := by
  have h := (rt_spec (flr (dv M X) (2 * w)).natAbs).1
  have h2 := natAbs_flr (X := X) w hM
  rw [dv_sq]
  refine le_flr.1 ?_
  have h3 : ((sqF M X w * sqF M X w : Nat) : Int) ≤ ((flr (dv M X) (2 * w)).natAbs : Int) := Int.ofNat_le.2 h
  rw [Int.natCast_mul] at h3
  omega
theorem sq_gt {M X : Int} (w : Int) (hM : 0 ≤ M) : dv M X < dv ((sqF M X w : Int) + 1) (-w) * dv ((sqF M X w : Int) + 1) (-w) := by
  have h := (rt_spec (flr (dv M X) (2 * w)).natAbs).2
  have h2 := natAbs_flr (X := X) w hM
  rw [dv_sq]
  have h3 : ((flr (dv M X) (2 * w)).natAbs : Int) < (((sqF M X w + 1) * (sqF M X w + 1) : Nat) : Int) := Int.ofNat_lt.2 h
  rw [Int.natCast_mul] at h3
  have h4 := flr_lt (dv M X) (2 * w)
  have h5 : dv (flr (dv M X) (2 * w) + 1) (-(2 * w)) ≤ dv (((sqF M X w : Int) + 1) * ((sqF M X w : Int) + 1)) (-(2 * w)) := dv_le.2 (by push_cast at h3; omega)
  grind
theorem sq_ex {M X : Int} {w : Int} (hM : 0 ≤ M) (hv : vdb M X = true) : sqX M X w = true ↔ dv (sqF M X w : Int) (-w) * dv (sqF M X w : Int) (-w) = dv M X := by
  have h2 := natAbs_flr (X := X) w hM
  have hs := (rt_spec (flr (dv M X) (2 * w)).natAbs).1
  have hflr : (M = 0 ∨ -(2 * w) ≤ X) ↔ dv (flr (dv M X) (2 * w)) (-(2 * w)) = dv M X := by
    constructor
    · rintro (h | h)
      · rw [h, flr_dv]
        split
        · rw [Int.zero_mul, dv_zero, dv_zero]
        · rw [Int.zero_ediv, dv_zero, dv_zero]
      · rw [flr_dv, if_pos (by omega), dv_at (m := M) (show -(2 * w) ≤ X by omega)]
        congr 2; congr 1; omega
    · intro h
      by_cases hM0 : M = 0
      · exact .inl hM0
      · refine .inr (Decidable.byContradiction fun q => ?_)
        rw [dv_at (m := flr (dv M X) (2 * w)) (show X ≤ -(2 * w) by omega)] at h
        have h3 := dv_inj h
        rcases vdb_iff.1 hv with q2 | q2
        · exact hM0 q2.1
        · have h4 : M.natAbs = (flr (dv M X) (2 * w)).natAbs * 2 ^ (-(2 * w) - X).toNat := by
            have := congrArg Int.natAbs h3
            rw [abs_shl] at this; exact this.symm
          have h5 : 2 ∣ 2 ^ (-(2 * w) - X).toNat := ⟨2 ^ ((-(2 * w) - X).toNat - 1), by rw [← Nat.pow_succ']; congr 1; omega⟩
          have h6 : 2 ∣ M.natAbs := by rw [h4]; exact Nat.dvd_trans h5 (Nat.dvd_mul_left _ _)
          have := Nat.mod_eq_zero_of_dvd h6
          omega
  unfold sqX
  rw [decide_eq_true_eq, hflr]
  constructor
  · rintro ⟨a, b⟩
    rw [dv_sq, ← b, ← h2, ← a, Int.natCast_mul]
  · intro h
    have a1 := sq_le (X := X) w hM
    have a2 : dv ((sqF M X w : Int) * (sqF M X w : Int)) (-(2 * w)) ≤ dv (flr (dv M X) (2 * w)) (-(2 * w)) := dv_le.2 (by
      rw [← h2]
      have : ((sqF M X w * sqF M X w : Nat) : Int) ≤ ((flr (dv M X) (2 * w)).natAbs : Int) := Int.ofNat_le.2 hs
      rwa [Int.natCast_mul] at this)
    have a3 := flr_le (dv M X) (2 * w)
    rw [dv_sq] at h
    have a4 : dv (flr (dv M X) (2 * w)) (-(2 * w)) = dv M X := by grind
    refine ⟨?_, a4⟩
    rw [← a4] at h
    have a5 := dv_inj h
    rw [← h2] at a5
    exact Int.ofNat.inj (by rw [Int.ofNat_eq_natCast, Int.ofNat_eq_natCast, Int.natCast_mul]; exact a5)
theorem sq_Ls {M X w : Int} {up : Bool} (hL : L M.natAbs ≤ 30) (hX : -1000 ≤ X ∧ X ≤ 3000) (hw : 0 ≤ w ∧ w ≤ 300) : L (sqV M X w up).natAbs ≤ 150 := by
  have h := flr_LD M X (2 * w)
  have h2 := rt_L (flr (dv M X) (2 * w)).natAbs
  have h1 : L (1 : Int).natAbs ≤ 1 := L_le (by decide)
  have h3 := L_abs_add (sqF M X w) 1
  rw [Int.natAbs_natCast] at h3
  have h4 : L (sqF M X w) ≤ 149 := by unfold sqF; omega
  unfold sqV
  split
  · omega
  · rw [Int.add_zero, Int.natAbs_natCast]; omega
theorem sr_all {M X w : Int} {up : Bool} (hM : 0 ≤ M) (hL : L M.natAbs ≤ 30) (hX : -1000 ≤ X ∧ X ≤ 3000) (hw : 0 ≤ w ∧ w ≤ 300) :
    srE M X w up = 0 ∧ srM M X w up = mkM (sqV M X w up) (-w) ∧ srX M X w up = mkX (sqV M X w up) (-w) ∧ dv (srM M X w up) (srX M X w up) = dv (sqV M X w up) (-w) ∧ L (srM M X w up).natAbs ≤ 150 ∧ (-300 ≤ srX M X w up ∧ srX M X w up ≤ 4900) ∧ vdb (srM M X w up) (srX M X w up) = true ∧ (srM M X w up = 0 ∨ -w ≤ srX M X w up) := by
  have k := sq_Ls (up := up) hL hX hw
  have f := mk_fit (m := sqV M X w up) (e := -w) (by omega) (by omega)
  obtain ⟨a, b, c⟩ := sr_3 (e := X) (up := up) (show 0 ≤ w ∧ w ≤ 4096 by omega) hM
  have i1 := iMin_range (-w) 0
  have i2 : iMax (-w) 0 ≤ 0 := by unfold iMax; split <;> omega
  rw [a, b, c]
  refine ⟨f.1, rfl, rfl, f.2.2.2.2.2, by omega, by omega, f.2.2.2.2.1, ?_⟩
  rcases mkX_b f.1 with ⟨q, _⟩ | ⟨_, q, _⟩
  · left; rw [q]; exact (mk_zero _).1
  · right; exact q
theorem sqV_nonneg {M X w : Int} {up : Bool} : 0 ≤ sqV M X w up := by unfold sqV; split <;> omega
theorem sr_nonneg {M X w : Int} {up : Bool} (hM : 0 ≤ M) (hL : L M.natAbs ≤ 30) (hX : -1000 ≤ X ∧ X ≤ 3000) (hw : 0 ≤ w ∧ w ≤ 300) : 0 ≤ srM M X w up := by
  have h := (sr_all (up := up) hM hL hX hw).2.2.2.1
  have h2 := dv_nonneg (e := -w) (sqV_nonneg (M := M) (X := X) (w := w) (up := up))
  rw [← h] at h2
  exact dv_ge0.1 h2
end Go.Proofs.YtmbpoibhamlkbaaGreatDoor

namespace Go.Proofs.YtmbpoibhamlkbaaGreatDoor
def RbH (M X w : Int) : Prop := 0 ≤ M ∧ L M.natAbs ≤ 30 ∧ (-1000 ≤ X ∧ X ≤ 3000) ∧ (0 ≤ w ∧ w ≤ 300) ∧ vdb M X = true
theorem rb_unit {w : Int} (hw : 0 ≤ w ∧ w ≤ 300) : L (mkM 1 (-w)).natAbs ≤ 1 ∧ (-300 ≤ mkX 1 (-w) ∧ mkX 1 (-w) ≤ 32) ∧ dv (mkM 1 (-w)) (mkX 1 (-w)) = dv 1 (-w) := by
  have l1 : L (1 : Int).natAbs ≤ 1 := L_le (by decide)
  have f := mk_fit (m := 1) (e := -w) (by omega) (by omega)
  have i1 := iMin_range (-w) 0
  have i2 : iMax (-w) 0 ≤ 0 := by unfold iMax; split <;> omega
  exact ⟨by omega, by omega, f.2.2.2.2.2⟩
def nxM (M X w : Int) : Int := mkM (adS (srM M X w false) (srX M X w false) (mkM 1 (-w)) (mkX 1 (-w))) (iMin (srX M X w false) (mkX 1 (-w)))
def nxX (M X w : Int) : Int := mkX (adS (srM M X w false) (srX M X w false) (mkM 1 (-w)) (mkX 1 (-w))) (iMin (srX M X w false) (mkX 1 (-w)))
theorem rb_next {M X w : Int} (h : RbH M X w) : L (nxM M X w).natAbs ≤ 315 ∧ (-300 ≤ nxX M X w ∧ nxX M X w ≤ 10200) ∧ dv (nxM M X w) (nxX M X w) = dv ((sqF M X w : Int) + 1) (-w) := by
  obtain ⟨hM, hL, hX, hw, hv⟩ := h
  have a := sr_all (up := false) hM hL hX hw
  have u := rb_unit hw
  have i0 := iMin_range (srX M X w false) (mkX 1 (-w))
  have l := adS_L (a := 150) (c := 163) (e := srX M X w false) (f := mkX 1 (-w)) a.2.2.2.2.1 (show L (mkM 1 (-w)).natAbs ≤ 150 by omega) (by omega) (by omega)
  have f := mk_fit (m := adS (srM M X w false) (srX M X w false) (mkM 1 (-w)) (mkX 1 (-w))) (e := iMin (srX M X w false) (mkX 1 (-w))) (by omega) (by omega)
  have i1 := iMin_range (iMin (srX M X w false) (mkX 1 (-w))) 0
  have i2 : iMax (iMin (srX M X w false) (mkX 1 (-w))) 0 ≤ 32 := by unfold iMax; split <;> omega
  unfold nxM nxX
  refine ⟨by omega, by omega, ?_⟩
  rw [f.2.2.2.2.2, dv_ad, a.2.2.2.1, u.2.2, ← dv_add]
  congr 1
theorem rb_sq {a b : Int} (ha : L a.natAbs ≤ 315) (hb : -300 ≤ b ∧ b ≤ 10200) : mkE (a * a) (b + b) = 0 ∧ L (mkM (a * a) (b + b)).natAbs ≤ 630 ∧ dv (mkM (a * a) (b + b)) (mkX (a * a) (b + b)) = dv a b * dv a b ∧ vdb (mkM (a * a) (b + b)) (mkX (a * a) (b + b)) = true := by
  have l := L_abs_mul a a
  have f := mk_fit (m := a * a) (e := b + b) (by omega) (by omega)
  exact ⟨f.1, by omega, by rw [f.2.2.2.2.2, dv_mul], f.2.2.2.2.1⟩
theorem rb_lo {M X w : Int} (h : RbH M X w) : dv (srM M X w false) (srX M X w false) = dv (sqF M X w : Int) (-w) := by
  rw [(sr_all (up := false) h.1 h.2.1 h.2.2.1 h.2.2.2.1).2.2.2.1]
  congr 1
theorem rb_1 {M X w : Int} (h : RbH M X w) : cmpD (mkM (srM M X w false * srM M X w false) (srX M X w false + srX M X w false)) (mkX (srM M X w false * srM M X w false) (srX M X w false + srX M X w false)) M X ≤ 0 := by
  have a := sr_all (up := false) h.1 h.2.1 h.2.2.1 h.2.2.2.1
  have s := rb_sq (a := srM M X w false) (b := srX M X w false) (by omega) (by omega)
  rw [cmpD_dv, s.2.2.1, rb_lo h, cmpQ_le]
  exact sq_le w h.1
theorem rb_2 {M X w : Int} (h : RbH M X w) : 0 < cmpD (mkM (nxM M X w * nxM M X w) (nxX M X w + nxX M X w)) (mkX (nxM M X w * nxM M X w) (nxX M X w + nxX M X w)) M X := by
  have n := rb_next h
  have s := rb_sq n.1 n.2.1
  rw [cmpD_pos, s.2.2.1, n.2.2]
  exact sq_gt w h.1
theorem same_dv {m e n f : Int} (h1 : vdb m e = true) (h2 : vdb n f = true) (he : -65536 ≤ e ∧ e ≤ 65536) (hf : -65536 ≤ f ∧ f ≤ 65536) (h : dv m e = dv n f) : e = f ∧ m = n := by
  have a := mk_eq h (by omega) (by omega)
  rw [(mk_valid h1).1, (mk_valid h1).2.1, (mk_valid h2).1, (mk_valid h2).2.1] at a
  exact ⟨a.2.1, a.1⟩
theorem rb_3 {M X w : Int} (h : RbH M X w) (hs : mkX (srM M X w false * srM M X w false) (srX M X w false + srX M X w false) = X ∧ mkM (srM M X w false * srM M X w false) (srX M X w false + srX M X w false) = M) :
    decide (srX M X w false = srX M X w true ∧ srM M X w false = srM M X w true) = true := by
  have a := sr_all (up := false) h.1 h.2.1 h.2.2.1 h.2.2.2.1
  have b := sr_all (up := true) h.1 h.2.1 h.2.2.1 h.2.2.2.1
  have s := rb_sq (a := srM M X w false) (b := srX M X w false) (by omega) (by omega)
  have e1 := s.2.2.1
  rw [hs.1, hs.2, rb_lo h] at e1
  have hx := (sq_ex h.1 h.2.2.2.2).2 e1.symm
  have e2 : sqV M X w true = sqV M X w false := by unfold sqV; rw [hx]; rfl
  refine decide_eq_true ⟨?_, ?_⟩
  · rw [a.2.2.1, b.2.2.1, e2]
  · rw [a.2.1, b.2.1, e2]
theorem rb_4 {M X w : Int} (h : RbH M X w) (hs : ¬ (mkX (srM M X w false * srM M X w false) (srX M X w false + srX M X w false) = X ∧ mkM (srM M X w false * srM M X w false) (srX M X w false + srX M X w false) = M)) :
    decide (srX M X w true = nxX M X w ∧ srM M X w true = nxM M X w) = true := by
  have a := sr_all (up := false) h.1 h.2.1 h.2.2.1 h.2.2.2.1
  have b := sr_all (up := true) h.1 h.2.1 h.2.2.1 h.2.2.2.1
  have n := rb_next h
  have s := rb_sq (a := srM M X w false) (b := srX M X w false) (by omega) (by omega)
  have hx : sqX M X w = false := by
    refine Decidable.byContradiction fun q => hs ?_
    have q2 : sqX M X w = true := by simpa using q
    have e1 := (sq_ex h.1 h.2.2.2.2).1 q2
    rw [← rb_lo h, ← s.2.2.1] at e1
    have r1 := vdb_range _ _ s.2.2.2
    exact same_dv s.2.2.2 h.2.2.2.2 (by omega) (by have := h.2.2.1; omega) e1
  have e2 : sqV M X w true = (sqF M X w : Int) + 1 := by unfold sqV; rw [hx]; rfl
  have e3 : dv (srM M X w true) (srX M X w true) = dv (nxM M X w) (nxX M X w) := by rw [b.2.2.2.1, n.2.2, e2]
  have v2 : vdb (nxM M X w) (nxX M X w) = true := vdb_mk
  have := same_dv b.2.2.2.2.2.2.1 v2 (by omega) (by omega) e3
  exact decide_eq_true this
theorem vdb_abs (M X : Int) : vdb (M.natAbs : Int) X = vdb M X := by
  unfold vdb
  rw [Int.natAbs_natCast]
  by_cases h : M = 0
  · rw [if_pos h, if_pos (by omega)]
  · rw [if_neg h, if_neg (by omega)]
end Go.Proofs.YtmbpoibhamlkbaaGreatDoor
