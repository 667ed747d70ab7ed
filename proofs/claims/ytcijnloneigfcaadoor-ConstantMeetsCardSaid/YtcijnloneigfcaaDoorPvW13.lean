/-
  The statements of chapter 13, printed by w13.py. Conditions: as the theorems say.
-/
import Derived.Test.YtcijnloneigfcaaDoorPvW12
import Derived.Test.YtcijnloneigfcaaDoorPvConst
set_option linter.unusedVariables false
set_option linter.unusedSimpArgs false
namespace Go.Proofs.YtcijnloneigfcaaDoor
open Go.RowKit
set_option maxRecDepth 100000

theorem mill_Mod (v : Int) (n : Int) (c0 : (0 : Int) < n ∧ n ≤ 1000000000) (c1 : (-9223372036854775808 : Int) ≤ v ∧ v ≤ 9223372036854775807) : Impl Tryd.prog Amb 5 [(.int .i64 v), (.int .i64 n)] (.int .i64 (v % n)) := by
  have r0 := wRem_abs (v := v) (n := n) (by omega)
  exact impl_ob hP hAmb Tryd.func5 (by kernel_rfl) (.yes <| .lit <| .both (.lit <| .yes <| .lit <| .ret) (.lit <| .ret))
    (cast_ob (And.intro True.intro (And.intro (iNe_mk (by omega) : (iNe n 0) = true) (And.intro (fun (h1 : (iLt (wRem v n) 0) = true) => have _gh1 := iLt_t h1; And.intro (fits_i64 (by omega) : (fits .i64 ((wRem v n) + n)) = true) ((vsub_of (congrArg (V.int .i64) (mod_neg (by omega) (by omega))) : vsub (.int .i64 ((wRem v n) + n)) (.int .i64 (v % n))))) (fun (h2 : (iLt (wRem v n) 0) = false) => have _gh2 := iLt_f h2; (vsub_of (congrArg (V.int .i64) (mod_pos (by omega) (by omega))) : vsub (.int .i64 (wRem v n)) (.int .i64 (v % n))))))) (by kernel_rfl))

def piA (w : Int) : Int := (mkM ((piLo (w + 24)) / 2 ^ 24) (-w))

def piB (w : Int) : Int := (mkX ((piLo (w + 24)) / 2 ^ 24) (-w))

def piC (w : Int) : Int := (mkM (-(-(piHi (w + 24)) / 2 ^ 24)) (-w))

def piD (w : Int) : Int := (mkX (-(-(piHi (w + 24)) / 2 ^ 24)) (-w))

theorem pi_facts (w : Int) : L (piA w).natAbs ≤ L (piLo (w + 24) / 2 ^ 24).natAbs ∧ (-65536 ≤ piB w ∧ piB w ≤ 65536) ∧ L (piC w).natAbs ≤ L (-(-(piHi (w + 24)) / 2 ^ 24)).natAbs ∧ (-65536 ≤ piD w ∧ piD w ≤ 65536) :=
  have a := mk_facts (piLo (w + 24) / 2 ^ 24) (-w)
  have b := mk_facts (-(-(piHi (w + 24)) / 2 ^ 24)) (-w)
  ⟨a.1, ⟨a.2.1, a.2.2.1⟩, b.1, ⟨b.2.1, b.2.2.1⟩⟩

def eA (w : Int) : Int := (mkM ((eLo (w + 24)) / 2 ^ 24) (-w))

def eB (w : Int) : Int := (mkX ((eLo (w + 24)) / 2 ^ 24) (-w))

def eC (w : Int) : Int := (mkM (-(-(eHi (w + 24)) / 2 ^ 24)) (-w))

def eD (w : Int) : Int := (mkX (-(-(eHi (w + 24)) / 2 ^ 24)) (-w))

theorem e_facts (w : Int) : L (eA w).natAbs ≤ L (eLo (w + 24) / 2 ^ 24).natAbs ∧ (-65536 ≤ eB w ∧ eB w ≤ 65536) ∧ L (eC w).natAbs ≤ L (-(-(eHi (w + 24)) / 2 ^ 24)).natAbs ∧ (-65536 ≤ eD w ∧ eD w ≤ 65536) :=
  have a := mk_facts (eLo (w + 24) / 2 ^ 24) (-w)
  have b := mk_facts (-(-(eHi (w + 24)) / 2 ^ 24)) (-w)
  ⟨a.1, ⟨a.2.1, a.2.2.1⟩, b.1, ⟨b.2.1, b.2.2.1⟩⟩

def lnA (w : Int) : Int := (mkM ((lnLo (w + 24)) / 2 ^ 24) (-w))

def lnB (w : Int) : Int := (mkX ((lnLo (w + 24)) / 2 ^ 24) (-w))

def lnC (w : Int) : Int := (mkM (-(-(lnHi (w + 24)) / 2 ^ 24)) (-w))

def lnD (w : Int) : Int := (mkX (-(-(lnHi (w + 24)) / 2 ^ 24)) (-w))

theorem ln_facts (w : Int) : L (lnA w).natAbs ≤ L (lnLo (w + 24) / 2 ^ 24).natAbs ∧ (-65536 ≤ lnB w ∧ lnB w ≤ 65536) ∧ L (lnC w).natAbs ≤ L (-(-(lnHi (w + 24)) / 2 ^ 24)).natAbs ∧ (-65536 ≤ lnD w ∧ lnD w ≤ 65536) :=
  have a := mk_facts (lnLo (w + 24) / 2 ^ 24) (-w)
  have b := mk_facts (-(-(lnHi (w + 24)) / 2 ^ 24)) (-w)
  ⟨a.1, ⟨a.2.1, a.2.2.1⟩, b.1, ⟨b.2.1, b.2.2.1⟩⟩

theorem l13_three (w : Int) (c0 : (0 : Int) ≤ w ∧ w ≤ 1500) : Impl Tryd.prog Amb 6 [(.int .i64 w)] (.tup [(.agg [(.bool (decide ((piA w) < 0))), (N ((piA w).natAbs)), (.int .i64 (piB w)), (.bool (decide ((piC w) < 0))), (N ((piC w).natAbs)), (.int .i64 (piD w)), (.bool (decide ((eA w) < 0))), (N ((eA w).natAbs)), (.int .i64 (eB w)), (.bool (decide ((eC w) < 0))), (N ((eC w).natAbs)), (.int .i64 (eD w)), (.bool (decide ((lnA w) < 0))), (N ((lnA w).natAbs)), (.int .i64 (lnB w)), (.bool (decide ((lnC w) < 0))), (N ((lnC w).natAbs)), (.int .i64 (lnD w))]), (.agg [(.int .i64 0), (.int .i64 0), (.int .i64 0)])]) := by
  exact impl_ob hP hAmb Tryd.func6 (by kernel_rfl) (.lit <| .call (.tup [(.agg [(.bool (decide ((mkM ((piLo (w + 24)) / 2 ^ 24) (-w)) < 0))), (N ((mkM ((piLo (w + 24)) / 2 ^ 24) (-w)).natAbs)), (.int .i64 (mkX ((piLo (w + 24)) / 2 ^ 24) (-w))), (.bool (decide ((mkM (-(-(piHi (w + 24)) / 2 ^ 24)) (-w)) < 0))), (N ((mkM (-(-(piHi (w + 24)) / 2 ^ 24)) (-w)).natAbs)), (.int .i64 (mkX (-(-(piHi (w + 24)) / 2 ^ 24)) (-w)))]), (.int .i64 0)]) <| .lits 2 <| .call (.tup [(.agg [(.bool (decide ((mkM ((eLo (w + 24)) / 2 ^ 24) (-w)) < 0))), (N ((mkM ((eLo (w + 24)) / 2 ^ 24) (-w)).natAbs)), (.int .i64 (mkX ((eLo (w + 24)) / 2 ^ 24) (-w))), (.bool (decide ((mkM (-(-(eHi (w + 24)) / 2 ^ 24)) (-w)) < 0))), (N ((mkM (-(-(eHi (w + 24)) / 2 ^ 24)) (-w)).natAbs)), (.int .i64 (mkX (-(-(eHi (w + 24)) / 2 ^ 24)) (-w)))]), (.int .i64 0)]) <| .lits 2 <| .call (.tup [(.agg [(.bool (decide ((mkM ((lnLo (w + 24)) / 2 ^ 24) (-w)) < 0))), (N ((mkM ((lnLo (w + 24)) / 2 ^ 24) (-w)).natAbs)), (.int .i64 (mkX ((lnLo (w + 24)) / 2 ^ 24) (-w))), (.bool (decide ((mkM (-(-(lnHi (w + 24)) / 2 ^ 24)) (-w)) < 0))), (N ((mkM (-(-(lnHi (w + 24)) / 2 ^ 24)) (-w)).natAbs)), (.int .i64 (mkX (-(-(lnHi (w + 24)) / 2 ^ 24)) (-w)))]), (.int .i64 0)]) <| .lits 9 <| .ret)
    (cast_ob (And.intro True.intro (And.intro (ct_Pi w (by omega)) (have f18 := L_abs_neg (piHi (w + 24)); have f17 := L_abs_neg (-(piHi (w + 24)) / 2 ^ 24); have f16 := L_abs_shr (-(piHi (w + 24))) 24; have f15 := L_abs_shr (piLo (w + 24)) 24; have f14 := mk_facts (-(-(piHi (w + 24)) / 2 ^ 24)) (-w); have f13 := mk_facts ((piLo (w + 24)) / 2 ^ 24) (-w); And.intro (ct_E w (by omega)) (have f12 := L_abs_neg (eHi (w + 24)); have f11 := L_abs_neg (-(eHi (w + 24)) / 2 ^ 24); have f10 := L_abs_shr (-(eHi (w + 24))) 24; have f9 := L_abs_shr (eLo (w + 24)) 24; have f8 := mk_facts (-(-(eHi (w + 24)) / 2 ^ 24)) (-w); have f7 := mk_facts ((eLo (w + 24)) / 2 ^ 24) (-w); And.intro (ct_Ln2 w (by omega)) (have f6 := L_abs_neg (lnHi (w + 24)); have f5 := L_abs_neg (-(lnHi (w + 24)) / 2 ^ 24); have f4 := L_abs_shr (-(lnHi (w + 24))) 24; have f3 := L_abs_shr (lnLo (w + 24)) 24; have f2 := mk_facts (-(-(lnHi (w + 24)) / 2 ^ 24)) (-w); have f1 := mk_facts ((lnLo (w + 24)) / 2 ^ 24) (-w); (vsub_of (by first | rfl | simp_all) : vsub (.tup [(.agg [(.bool (decide ((mkM ((piLo (w + 24)) / 2 ^ 24) (-w)) < 0))), (N ((mkM ((piLo (w + 24)) / 2 ^ 24) (-w)).natAbs)), (.int .i64 (mkX ((piLo (w + 24)) / 2 ^ 24) (-w))), (.bool (decide ((mkM (-(-(piHi (w + 24)) / 2 ^ 24)) (-w)) < 0))), (N ((mkM (-(-(piHi (w + 24)) / 2 ^ 24)) (-w)).natAbs)), (.int .i64 (mkX (-(-(piHi (w + 24)) / 2 ^ 24)) (-w))), (.bool (decide ((mkM ((eLo (w + 24)) / 2 ^ 24) (-w)) < 0))), (N ((mkM ((eLo (w + 24)) / 2 ^ 24) (-w)).natAbs)), (.int .i64 (mkX ((eLo (w + 24)) / 2 ^ 24) (-w))), (.bool (decide ((mkM (-(-(eHi (w + 24)) / 2 ^ 24)) (-w)) < 0))), (N ((mkM (-(-(eHi (w + 24)) / 2 ^ 24)) (-w)).natAbs)), (.int .i64 (mkX (-(-(eHi (w + 24)) / 2 ^ 24)) (-w))), (.bool (decide ((mkM ((lnLo (w + 24)) / 2 ^ 24) (-w)) < 0))), (N ((mkM ((lnLo (w + 24)) / 2 ^ 24) (-w)).natAbs)), (.int .i64 (mkX ((lnLo (w + 24)) / 2 ^ 24) (-w))), (.bool (decide ((mkM (-(-(lnHi (w + 24)) / 2 ^ 24)) (-w)) < 0))), (N ((mkM (-(-(lnHi (w + 24)) / 2 ^ 24)) (-w)).natAbs)), (.int .i64 (mkX (-(-(lnHi (w + 24)) / 2 ^ 24)) (-w)))]), (.agg [(.int .i64 0), (.int .i64 0), (.int .i64 0)])]) (.tup [(.agg [(.bool (decide ((piA w) < 0))), (N ((piA w).natAbs)), (.int .i64 (piB w)), (.bool (decide ((piC w) < 0))), (N ((piC w).natAbs)), (.int .i64 (piD w)), (.bool (decide ((eA w) < 0))), (N ((eA w).natAbs)), (.int .i64 (eB w)), (.bool (decide ((eC w) < 0))), (N ((eC w).natAbs)), (.int .i64 (eD w)), (.bool (decide ((lnA w) < 0))), (N ((lnA w).natAbs)), (.int .i64 (lnB w)), (.bool (decide ((lnC w) < 0))), (N ((lnC w).natAbs)), (.int .i64 (lnD w))]), (.agg [(.int .i64 0), (.int .i64 0), (.int .i64 0)])]))))))) (by kernel_rfl))

theorem l13_threeX (w : Int) (c0 : w < 0 ∨ 4224 < w) : Impl Tryd.prog Amb 6 [(.int .i64 w)] (.tup [(.agg [(.bool (decide ((0 : Int) < 0))), (N ((0 : Int).natAbs)), (.int .i64 0), (.bool (decide ((0 : Int) < 0))), (N ((0 : Int).natAbs)), (.int .i64 0), (.bool (decide ((0 : Int) < 0))), (N ((0 : Int).natAbs)), (.int .i64 0), (.bool (decide ((0 : Int) < 0))), (N ((0 : Int).natAbs)), (.int .i64 0), (.bool (decide ((0 : Int) < 0))), (N ((0 : Int).natAbs)), (.int .i64 0), (.bool (decide ((0 : Int) < 0))), (N ((0 : Int).natAbs)), (.int .i64 0)]), (.agg [(.int .i64 1), (.int .i64 1), (.int .i64 1)])]) := by
  exact impl_ob hP hAmb Tryd.func6 (by kernel_rfl) (.lit <| .call (.tup [(.agg [(.bool (decide ((0 : Int) < 0))), (N ((0 : Int).natAbs)), (.int .i64 0), (.bool (decide ((0 : Int) < 0))), (N ((0 : Int).natAbs)), (.int .i64 0)]), (.int .i64 1)]) <| .lits 2 <| .call (.tup [(.agg [(.bool (decide ((0 : Int) < 0))), (N ((0 : Int).natAbs)), (.int .i64 0), (.bool (decide ((0 : Int) < 0))), (N ((0 : Int).natAbs)), (.int .i64 0)]), (.int .i64 1)]) <| .lits 2 <| .call (.tup [(.agg [(.bool (decide ((0 : Int) < 0))), (N ((0 : Int).natAbs)), (.int .i64 0), (.bool (decide ((0 : Int) < 0))), (N ((0 : Int).natAbs)), (.int .i64 0)]), (.int .i64 1)]) <| .lits 9 <| .ret)
    (cast_ob (And.intro True.intro (And.intro (ct_PiX w (by omega)) (And.intro (ct_EX w (by omega)) (And.intro (ct_Ln2X w (by omega)) ((vsub_refl _ : vsub (.tup [(.agg [(.bool (decide ((0 : Int) < 0))), (N ((0 : Int).natAbs)), (.int .i64 0), (.bool (decide ((0 : Int) < 0))), (N ((0 : Int).natAbs)), (.int .i64 0), (.bool (decide ((0 : Int) < 0))), (N ((0 : Int).natAbs)), (.int .i64 0), (.bool (decide ((0 : Int) < 0))), (N ((0 : Int).natAbs)), (.int .i64 0), (.bool (decide ((0 : Int) < 0))), (N ((0 : Int).natAbs)), (.int .i64 0), (.bool (decide ((0 : Int) < 0))), (N ((0 : Int).natAbs)), (.int .i64 0)]), (.agg [(.int .i64 1), (.int .i64 1), (.int .i64 1)])]) (.tup [(.agg [(.bool (decide ((0 : Int) < 0))), (N ((0 : Int).natAbs)), (.int .i64 0), (.bool (decide ((0 : Int) < 0))), (N ((0 : Int).natAbs)), (.int .i64 0), (.bool (decide ((0 : Int) < 0))), (N ((0 : Int).natAbs)), (.int .i64 0), (.bool (decide ((0 : Int) < 0))), (N ((0 : Int).natAbs)), (.int .i64 0), (.bool (decide ((0 : Int) < 0))), (N ((0 : Int).natAbs)), (.int .i64 0), (.bool (decide ((0 : Int) < 0))), (N ((0 : Int).natAbs)), (.int .i64 0)]), (.agg [(.int .i64 1), (.int .i64 1), (.int .i64 1)])]))))))) (by kernel_rfl))

def ckB (pl ph rl rh : Int) : Bool := decide (pl ≤ ph) && decide (ph ≤ pl + 2) && decide (rl ≤ ph * 2 ^ 20) && decide (pl * 2 ^ 20 ≤ rh) && decide (pl.natAbs < 2 ^ 640) && decide (ph.natAbs < 2 ^ 640) && decide (rl.natAbs < 2 ^ 640) && decide (rh.natAbs < 2 ^ 640)
theorem L_640 {x : Int} (h : x.natAbs < 2 ^ 640) : L x.natAbs ≤ 20 := L_pow2 h (by decide)
theorem ckB_spec {pl ph rl rh : Int} (h : ckB pl ph rl rh = true) : pl ≤ ph ∧ ph ≤ pl + 2 ∧ rl ≤ ph * 2 ^ 20 ∧ pl * 2 ^ 20 ≤ rh ∧ L pl.natAbs ≤ 20 ∧ L ph.natAbs ≤ 20 ∧ L rl.natAbs ≤ 20 ∧ L rh.natAbs ≤ 20 := by
  unfold ckB at h
  simp only [Bool.and_eq_true, decide_eq_true_eq] at h
  obtain ⟨⟨⟨⟨⟨⟨⟨a, b⟩, c⟩, d⟩, e⟩, f⟩, g⟩, i⟩ := h
  exact ⟨a, b, c, d, L_640 e, L_640 f, L_640 g, L_640 i⟩
theorem all_int {p : Nat → Bool} {n : Nat} (h : (List.range n).all p = true) {k : Int} (hk : 0 ≤ k ∧ k < n) : p k.toNat = true :=
  List.all_eq_true.1 h k.toNat (List.mem_range.2 (by omega))
theorem not_of {b : Bool} (h : b = true) : (!b) = false := by rw [h]; rfl

def ck_pi (w : Int) : Bool := ckB (piLo (w + 24) / 2 ^ 24) (-(-(piHi (w + 24)) / 2 ^ 24)) (((((atanT 5 (w + 40)).1 - 2) * 16) + (-(((atanT 239 (w + 40)).2 + 2) * 4))) / 2 ^ 20) (-(-((((atanT 5 (w + 40)).2 + 2) * 16) + (-(((atanT 239 (w + 40)).1 - 2) * 4))) / 2 ^ 20))
theorem ckall_pi : (List.range 1).all (fun n => ck_pi (n : Int)) = true := by kernel_rfl
theorem ckv_pi {w : Int} (hw : 0 ≤ w ∧ w < 1) : ckB (piLo (w + 24) / 2 ^ 24) (-(-(piHi (w + 24)) / 2 ^ 24)) (((((atanT 5 (w + 40)).1 - 2) * 16) + (-(((atanT 239 (w + 40)).2 + 2) * 4))) / 2 ^ 20) (-(-((((atanT 5 (w + 40)).2 + 2) * 16) + (-(((atanT 239 (w + 40)).1 - 2) * 4))) / 2 ^ 20)) = true := by
  have h := all_int ckall_pi hw
  rw [Int.toNat_of_nonneg hw.1] at h
  exact h
theorem ckT_pi {w : Int} (hw : 0 ≤ w ∧ w < 1) : tgB (piA w) (piB w) (piC w) (piD w) w = true := by
  obtain ⟨a, b, c, d, e, f, _⟩ := ckB_spec (ckv_pi hw)
  exact tight_ok (by omega) a b ⟨by omega, by omega⟩

def ck_e (w : Int) : Bool := ckB (eLo (w + 24) / 2 ^ 24) (-(-(eHi (w + 24)) / 2 ^ 24)) (((eT (w + 40)).1 - 3) / 2 ^ 20) (-(-((eT (w + 40)).2 + 3) / 2 ^ 20))
theorem ckall_e : (List.range 1).all (fun n => ck_e (n : Int)) = true := by kernel_rfl
theorem ckv_e {w : Int} (hw : 0 ≤ w ∧ w < 1) : ckB (eLo (w + 24) / 2 ^ 24) (-(-(eHi (w + 24)) / 2 ^ 24)) (((eT (w + 40)).1 - 3) / 2 ^ 20) (-(-((eT (w + 40)).2 + 3) / 2 ^ 20)) = true := by
  have h := all_int ckall_e hw
  rw [Int.toNat_of_nonneg hw.1] at h
  exact h
theorem ckT_e {w : Int} (hw : 0 ≤ w ∧ w < 1) : tgB (eA w) (eB w) (eC w) (eD w) w = true := by
  obtain ⟨a, b, c, d, e, f, _⟩ := ckB_spec (ckv_e hw)
  exact tight_ok (by omega) a b ⟨by omega, by omega⟩

def ck_ln (w : Int) : Bool := ckB (lnLo (w + 24) / 2 ^ 24) (-(-(lnHi (w + 24)) / 2 ^ 24)) ((((lnT (w + 40)).1 - 2) * 2) / 2 ^ 20) (-(-(((lnT (w + 40)).2 + 2) * 2) / 2 ^ 20))
theorem ckall_ln : (List.range 1).all (fun n => ck_ln (n : Int)) = true := by kernel_rfl
theorem ckv_ln {w : Int} (hw : 0 ≤ w ∧ w < 1) : ckB (lnLo (w + 24) / 2 ^ 24) (-(-(lnHi (w + 24)) / 2 ^ 24)) ((((lnT (w + 40)).1 - 2) * 2) / 2 ^ 20) (-(-(((lnT (w + 40)).2 + 2) * 2) / 2 ^ 20)) = true := by
  have h := all_int ckall_ln hw
  rw [Int.toNat_of_nonneg hw.1] at h
  exact h
theorem ckT_ln {w : Int} (hw : 0 ≤ w ∧ w < 1) : tgB (lnA w) (lnB w) (lnC w) (lnD w) w = true := by
  obtain ⟨a, b, c, d, e, f, _⟩ := ckB_spec (ckv_ln hw)
  exact tight_ok (by omega) a b ⟨by omega, by omega⟩

end Go.Proofs.YtcijnloneigfcaaDoor
