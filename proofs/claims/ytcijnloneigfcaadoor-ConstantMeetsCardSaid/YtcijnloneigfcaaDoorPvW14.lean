/-
  The statements of chapter 13, continued, printed by w14.py. Conditions: as the theorems say.
-/
import Derived.Test.YtcijnloneigfcaaDoorPvW13
set_option linter.unusedVariables false
set_option linter.unusedSimpArgs false
namespace Go.Proofs.YtcijnloneigfcaaDoor
open Go.RowKit
set_option maxRecDepth 100000

theorem pi0 : piLo (0 + 24) / 2 ^ 24 = 3 ∧ -(-(piHi (0 + 24)) / 2 ^ 24) = 4 := ⟨by kernel_rfl, by kernel_rfl⟩
theorem aw_within : decide ((cmpD (piA 0) (piB 0) (mkM 3 0) (mkX 3 0)) ≤ 0 ∧ (cmpD (mkM 4 0) (mkX 4 0) (piC 0) (piD 0)) ≤ 0) = true := by
  have e3 : mkE 3 0 = 0 := mk_fine2 (Nat.le_trans (L_lit (3 : Int).natAbs (by decide)) (by omega)) (by omega)
  have e4 : mkE 4 0 = 0 := mk_fine2 (Nat.le_trans (L_lit (4 : Int).natAbs (by decide)) (by omega)) (by omega)
  unfold piA piB piC piD
  rw [pi0.1, pi0.2, show (-0 : Int) = 0 from rfl, cmpD_mk e3 e3, cmpD_mk e4 e4]
  exact decide_eq_true ⟨by rw [cmpD_same, cmpI_eq rfl]; omega, by rw [cmpD_same, cmpI_eq rfl]; omega⟩

theorem l13_awake : Impl Tryd.prog Amb 4 [] (.bool true) := by
  have q := ckB_spec (ckv_pi (w := 0) (by omega))
  have z0 : L (0 : Int).natAbs = 0 := L_zero
  exact impl_ob hP hAmb Tryd.func4 (by kernel_rfl) (.lit <| .call (.tup [(.agg [(.bool (decide ((mkM ((piLo (0 + 24)) / 2 ^ 24) (-0)) < 0))), (N ((mkM ((piLo (0 + 24)) / 2 ^ 24) (-0)).natAbs)), (.int .i64 (mkX ((piLo (0 + 24)) / 2 ^ 24) (-0))), (.bool (decide ((mkM (-(-(piHi (0 + 24)) / 2 ^ 24)) (-0)) < 0))), (N ((mkM (-(-(piHi (0 + 24)) / 2 ^ 24)) (-0)).natAbs)), (.int .i64 (mkX (-(-(piHi (0 + 24)) / 2 ^ 24)) (-0)))]), (.int .i64 0)]) <| .lits 2 <| .call (.tup [(.agg [(.bool (decide ((0 : Int) < 0))), (N ((0 : Int).natAbs)), (.int .i64 0), (.bool (decide ((0 : Int) < 0))), (N ((0 : Int).natAbs)), (.int .i64 0)]), (.int .i64 1)]) <| .lits 2 <| .call (.agg [(.bool (decide ((mkM 3 0) < 0))), (N ((mkM 3 0).natAbs)), (.int .i64 (mkX 3 0))]) <| .lit <| .call (.agg [(.bool (decide ((mkM 4 0) < 0))), (N ((mkM 4 0).natAbs)), (.int .i64 (mkX 4 0))]) <| .lits 11 <| .call (.bool (tgB (mkM ((piLo (0 + 24)) / 2 ^ 24) (-0)) (mkX ((piLo (0 + 24)) / 2 ^ 24) (-0)) (mkM (-(-(piHi (0 + 24)) / 2 ^ 24)) (-0)) (mkX (-(-(piHi (0 + 24)) / 2 ^ 24)) (-0)) 0)) <| .lit <| .yes <| .lits 5 <| .call (.bool (decide ((cmpD (mkM ((piLo (0 + 24)) / 2 ^ 24) (-0)) (mkX ((piLo (0 + 24)) / 2 ^ 24) (-0)) (mkM 3 0) (mkX 3 0)) ≤ 0 ∧ (cmpD (mkM 4 0) (mkX 4 0) (mkM (-(-(piHi (0 + 24)) / 2 ^ 24)) (-0)) (mkX (-(-(piHi (0 + 24)) / 2 ^ 24)) (-0))) ≤ 0))) <| .lits 2 <| .ret)
    (cast_ob (And.intro True.intro (And.intro (ct_Pi 0 (by omega)) (have f10 := L_abs_neg (piHi (0 + 24)); have f9 := L_abs_neg (-(piHi (0 + 24)) / 2 ^ 24); have f8 := L_abs_shr (-(piHi (0 + 24))) 24; have f7 := L_abs_shr (piLo (0 + 24)) 24; have f6 := mk_facts (-(-(piHi (0 + 24)) / 2 ^ 24)) (-0); have f5 := mk_facts ((piLo (0 + 24)) / 2 ^ 24) (-0); And.intro (ct_PiX (-1) (by omega)) (And.intro (r08_Of 3 (by omega)) (have f4 := (L_i64 (by omega) : L (3 : Int).natAbs ≤ 2); have f3 := mk_facts 3 0; And.intro (r08_Of 4 (by omega)) (have f2 := (L_i64 (by omega) : L (4 : Int).natAbs ≤ 2); have f1 := mk_facts 4 0; And.intro (r13_Tight (mkM ((piLo (0 + 24)) / 2 ^ 24) (-0)) (mkX ((piLo (0 + 24)) / 2 ^ 24) (-0)) (mkM (-(-(piHi (0 + 24)) / 2 ^ 24)) (-0)) (mkX (-(-(piHi (0 + 24)) / 2 ^ 24)) (-0)) 0 (by omega) (by omega) (by omega)) (And.intro (ckT_pi (w := 0) (by omega) : (tgB (mkM ((piLo (0 + 24)) / 2 ^ 24) (-0)) (mkX ((piLo (0 + 24)) / 2 ^ 24) (-0)) (mkM (-(-(piHi (0 + 24)) / 2 ^ 24)) (-0)) (mkX (-(-(piHi (0 + 24)) / 2 ^ 24)) (-0)) 0) = true) (And.intro (r10_Within (mkM 3 0) (mkX 3 0) (mkM 4 0) (mkX 4 0) (mkM ((piLo (0 + 24)) / 2 ^ 24) (-0)) (mkX ((piLo (0 + 24)) / 2 ^ 24) (-0)) (mkM (-(-(piHi (0 + 24)) / 2 ^ 24)) (-0)) (mkX (-(-(piHi (0 + 24)) / 2 ^ 24)) (-0)) (by omega) (by omega) (by omega) (by omega) (by omega) (by omega) (by omega) (by omega)) ((vsub_of (congrArg V.bool aw_within) : vsub (.bool (decide ((cmpD (mkM ((piLo (0 + 24)) / 2 ^ 24) (-0)) (mkX ((piLo (0 + 24)) / 2 ^ 24) (-0)) (mkM 3 0) (mkX 3 0)) ≤ 0 ∧ (cmpD (mkM 4 0) (mkX 4 0) (mkM (-(-(piHi (0 + 24)) / 2 ^ 24)) (-0)) (mkX (-(-(piHi (0 + 24)) / 2 ^ 24)) (-0))) ≤ 0))) (.bool true))))))))))) (by kernel_rfl))

theorem r10_Same0 (m e n f : Int) (c0 : L m.natAbs ≤ 16777216) (c1 : L n.natAbs ≤ 16777216) : Impl Tryd.prog Amb 8 [(.agg [(.bool (decide (m < 0))), (N m.natAbs), (.int .i64 e), (.bool (decide (n < 0))), (N n.natAbs), (.int .i64 f)]), (.agg [(.bool false), .nil, (.int .i64 0), (.bool false), .nil, (.int .i64 0)])] (.bool (decide ((e = 0 ∧ m = 0) ∧ (f = 0 ∧ n = 0)))) :=
  impl_arg (fun w S l h => by
    cases h with | cons h1 h => cases h with | cons h2 h => cases h with | nil => exact .cons h1 (.cons (rd_w0 h2) .nil))
    (r10_Same m e n f 0 0 0 0 c0 c1 (by simp [L_zero]) (by simp [L_zero]))

theorem tg0_no {w : Int} (h : w < 0 ∨ 4224 < w) : tgB 0 0 0 0 w = false := (tg_1 h).symm

end Go.Proofs.YtcijnloneigfcaaDoor
