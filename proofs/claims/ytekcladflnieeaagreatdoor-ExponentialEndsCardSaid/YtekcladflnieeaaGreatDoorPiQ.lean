/-
  Lower layers: what functions of the program compute, and plain facts. Conditions: as the theorems say.
-/
import Derived.Test.YtekcladflnieeaaGreatDoorChecked
import Derived.Test.YtekcladflnieeaaGreatDoorRows
import Derived.WalkKit
import Derived.ProofKit
import Derived.OpenShut
import Derived.Deep.DeepHandedRow
import Derived.Lib.LaidTab
import Derived.Lib.SmallJoins
import Derived.ChangeSlices
import Derived.Carry
import Derived.Test.YtekcladflnieeaaGreatDoorCards
import Derived.Test.YtekcladflnieeaaGreatDoorTie
import Derived.Test.YtekcladflnieeaaGreatDoorPiP
set_option linter.unusedVariables false
set_option linter.unusedSimpArgs false
namespace Go.Proofs.YtekcladflnieeaaGreatDoor
open Go.RowKit
set_option maxRecDepth 100000
set_option maxHeartbeats 2000000
def saS (p : Nat → Int) : Nat → Int
  | 0 => p 0
  | j + 1 => saS p j + p (j + 1)
def sqS (a b T : Int) : Nat → Int × Int
  | 0 => (a, b)
  | i + 1 => ((sqS a b T i).1 * (sqS a b T i).1 / T, -(-((sqS a b T i).2 * (sqS a b T i).2) / T))
def fx_exp_0_mk (x1 x2 sc _ : Int) (x : Int) : St := ⟨mkS 63 [(1, (.val (.int .i64 sc))), (2, (.own 0 0)), (4, (.own 1 0)), (5, (.val (.int .i64 x)))], [⟨true, false, [(V.bool (decide (x1 < 0))), (N x1.natAbs), (V.bool (decide (x2 < 0))), (N x2.natAbs)]⟩, ⟨true, false, [(V.bool false), V.nil, (V.bool false), V.nil]⟩]⟩
def fx_exp_0_I (_ _ _ hh : Int) (x : Int) : Prop := 4 ≤ x ∧ x ≤ hh
def fx_exp_0_mu (_ _ _ hh : Int) (x : Int) : Nat := (hh - x).toNat
def fx_exp_0_ex (x1 x2 sc _ : Int) (y : Int) : Ex × St := (.exit 0, ⟨mkS 63 [(1, (.val (.int .i64 sc))), (2, (.own 0 0)), (4, (.own 1 0)), (5, (.val (.int .i64 y)))], [⟨true, false, [(V.bool (decide (x1 < 0))), (N x1.natAbs), (V.bool (decide (x2 < 0))), (N x2.natAbs)]⟩, ⟨true, false, [(V.bool false), V.nil, (V.bool false), V.nil]⟩]⟩)
def fx_exp_0_J (_ _ _ hh : Int) (y : Int) : Prop := y = hh
abbrev fx_exp_0_N (x1 x2 sc hh : Int) := NX (fx_exp_0_mk x1 x2 sc hh) (fx_exp_0_I x1 x2 sc hh) (fx_exp_0_mu x1 x2 sc hh) (fx_exp_0_ex x1 x2 sc hh) (fx_exp_0_J x1 x2 sc hh)
theorem fx_exp_0 (x1 x2 sc hh : Int) (c0 : 0 ≤ sc ∧ sc ≤ 20000)(c1 : 4 ≤ hh ∧ hh ≤ 200)(c2 : ∀ i : Int, 4 ≤ i → i < hh → i * i < sc)(c3 : sc ≤ hh * hh) (x0 : Int) (hI : fx_exp_0_I x1 x2 sc hh x0) : LoopOk Tryz.prog Amb (loopN Tryz.f242 0) (fx_exp_0_mk x1 x2 sc hh x0) (fun e st_ => ∃ y, fx_exp_0_J x1 x2 sc hh y ∧ fx_exp_0_ex x1 x2 sc hh y = (e, st_)) :=
  loop_ob hP hAmb ⟨[1, 2, 4, 5], 2, []⟩ (fx_exp_0_mk x1 x2 sc hh) (fx_exp_0_I x1 x2 sc hh) (fx_exp_0_mu x1 x2 sc hh) (fx_exp_0_ex x1 x2 sc hh) (fx_exp_0_J x1 x2 sc hh) x0 hI (fun i => .lit <| .yes <| .lit <| .both (.lit <| .yes <| .fin2 ⟨[1, 2, 4, 5], 2, []⟩) (.fin2 ⟨[1, 2, 4, 5], 2, []⟩)) (by
    rintro i hI
    have hI : 4 ≤ i ∧ i ≤ hh := hI
    obtain ⟨h1, h2⟩ := hI
    have hq : i < hh → i * i < sc := fun q => c2 i h1 q
    have hm : i * i ≤ 9000000000000 := Int.le_trans (Int.mul_le_mul_of_nonneg_left (show i ≤ 3000000 by omega) oO) oO
    have hm0 : 0 ≤ i * i := Int.mul_nonneg oO oO
    have he : i = hh → sc ≤ i * i := fun q => by rw [q]; exact c3
    exact cast_ob (aI True.intro (aI (fits_i64 oO : (fits .i64 (i * i)) = true) (aI (fun (h101 : (iLt (i * i) sc) = true) => have _gh101 := iLt_t h101; aI (fits_i64 oO : (fits .i64 (i + 1)) = true) (aI tT ((nx_next (i + 1) (show 4 ≤ (i + 1) ∧ (i + 1) ≤ hh from ⟨by omega, by omega⟩) (show (hh - (i + 1)).toNat < (hh - i).toNat by omega) : fx_exp_0_N x1 x2 sc hh i .normal (fx_exp_0_mk x1 x2 sc hh (i + 1)))))) (fun (h102 : (iLt (i * i) sc) = false) => have _gh102 := iLt_f h102; aI tT ((nx_exit 0 ((fx_exp_0_ex x1 x2 sc hh i).2) i (show i = hh from show i = hh by omega) rfl : fx_exp_0_N x1 x2 sc hh i (.exit 0) ((fx_exp_0_ex x1 x2 sc hh i).2))))))) (by kernel_rfl))
def fx_exp_1_mk (sc hh v1 v2 : Int) (_ : Nat) (pp1 pp2 _ _ : Nat → Int) (x : Nat × Int) : St := ⟨mkS 63 [(1, (.val (.int .i64 sc))), (2, (.own 0 0)), (4, (.own 1 0)), (5, (.val (.int .i64 hh))), (6, (.val (.int .i64 ((sc + hh) + 24)))), (7, (.own 2 0)), (8, (.own 3 0)), (9, (.val (.int .u32 x.2)))], [⟨true, false, [(V.bool (decide (v1 < 0))), (N v1.natAbs), (V.bool (decide (v2 < 0))), (N v2.natAbs)]⟩, ⟨true, false, [(V.bool false), V.nil, (V.bool false), V.nil]⟩, ⟨true, false, [(V.bool (decide ((pp1 x.1) < 0))), (N ((pp1 x.1).natAbs)), (V.bool (decide ((pp2 x.1) < 0))), (N ((pp2 x.1).natAbs))]⟩, ⟨true, false, [(V.bool (decide ((saS pp1 x.1) < 0))), (N ((saS pp1 x.1).natAbs)), (V.bool (decide ((saS pp2 x.1) < 0))), (N ((saS pp2 x.1).natAbs))]⟩]⟩
def fx_exp_1_I (_ _ _ _ : Int) (nn : Nat) (_ _ _ _ : Nat → Int) (x : Nat × Int) : Prop := x.1 < nn ∧ x.2 = (x.1 : Int) + 1
def fx_exp_1_mu (_ _ _ _ : Int) (nn : Nat) (_ _ _ _ : Nat → Int) (x : Nat × Int) : Nat := nn - x.1
def fx_exp_1_ex (sc hh v1 v2 : Int) (_ : Nat) (pp1 pp2 _ _ : Nat → Int) (y : Nat) : Ex × St := (.exit 2, ⟨mkS 63 [(1, (.val (.int .i64 sc))), (4, (.own 1 0)), (5, (.val (.int .i64 hh))), (6, (.val (.int .i64 ((sc + hh) + 24)))), (8, (.own 3 0))], [⟨true, false, [(V.bool (decide (v1 < 0))), (N v1.natAbs), (V.bool (decide (v2 < 0))), (N v2.natAbs)]⟩, ⟨true, false, [(V.bool false), V.nil, (V.bool false), V.nil]⟩, ⟨true, false, [(V.bool (decide ((pp1 y) < 0))), (N ((pp1 y).natAbs)), (V.bool (decide ((pp2 y) < 0))), (N ((pp2 y).natAbs))]⟩, ⟨true, false, [(V.bool (decide ((saS pp1 y) < 0))), (N ((saS pp1 y).natAbs)), (V.bool (decide (((saS pp2 y) + (pp2 y)) < 0))), (N (((saS pp2 y) + (pp2 y)).natAbs))]⟩]⟩)
def fx_exp_1_J (_ _ _ _ : Int) (nn : Nat) (_ _ _ _ : Nat → Int) (y : Nat) : Prop := y = nn
abbrev fx_exp_1_N (sc hh v1 v2 : Int) (nn : Nat) (pp1 pp2 mm1 mm2 : Nat → Int) := NX (fx_exp_1_mk sc hh v1 v2 nn pp1 pp2 mm1 mm2) (fx_exp_1_I sc hh v1 v2 nn pp1 pp2 mm1 mm2) (fx_exp_1_mu sc hh v1 v2 nn pp1 pp2 mm1 mm2) (fx_exp_1_ex sc hh v1 v2 nn pp1 pp2 mm1 mm2) (fx_exp_1_J sc hh v1 v2 nn pp1 pp2 mm1 mm2)
theorem fx_exp_1 (sc hh v1 v2 : Int) (nn : Nat) (pp1 pp2 mm1 mm2 : Nat → Int) (c0 : ∀ j, j < nn → Impl Tryz.prog Amb 239 [(.agg [(.bool (decide ((pp1 j) < 0))), (N ((pp1 j).natAbs)), (.bool (decide ((pp2 j) < 0))), (N ((pp2 j).natAbs))]), (.agg [(.bool (decide (v1 < 0))), (N v1.natAbs), (.bool (decide (v2 < 0))), (N v2.natAbs)]), (.int .i64 ((sc + hh) + 24))] (.agg [(.bool (decide ((mm1 j) < 0))), (N ((mm1 j).natAbs)), (.bool (decide ((mm2 j) < 0))), (N ((mm2 j).natAbs))]))(c1 : ∀ (j : Nat) (kk : Int), j < nn → kk = (j : Int) + 1 → Impl Tryz.prog Amb 241 [(.agg [(.bool (decide ((mm1 j) < 0))), (N ((mm1 j).natAbs)), (.bool (decide ((mm2 j) < 0))), (N ((mm2 j).natAbs))]), (.int .u32 kk)] (.agg [(.bool (decide ((pp1 (j + 1)) < 0))), (N ((pp1 (j + 1)).natAbs)), (.bool (decide ((pp2 (j + 1)) < 0))), (N ((pp2 (j + 1)).natAbs))]))(c2 : ∀ j, j < nn → Impl Tryz.prog Amb 173 [(.agg [(.bool (decide ((saS pp1 j) < 0))), (N ((saS pp1 j).natAbs)), (.bool (decide ((saS pp2 j) < 0))), (N ((saS pp2 j).natAbs))]), (.agg [(.bool (decide ((pp1 (j + 1)) < 0))), (N ((pp1 (j + 1)).natAbs)), (.bool (decide ((pp2 (j + 1)) < 0))), (N ((pp2 (j + 1)).natAbs))])] (.agg [(.bool (decide ((saS pp1 (j + 1)) < 0))), (N ((saS pp1 (j + 1)).natAbs)), (.bool (decide ((saS pp2 (j + 1)) < 0))), (N ((saS pp2 (j + 1)).natAbs))]))(c3 : ∀ j, j < nn → Impl Tryz.prog Amb 240 [(.agg [(.bool (decide ((pp1 (j + 1)) < 0))), (N ((pp1 (j + 1)).natAbs)), (.bool (decide ((pp2 (j + 1)) < 0))), (N ((pp2 (j + 1)).natAbs))])] (.bool (decide (nn ≤ j + 1))))(c4 : L (saS pp2 nn).natAbs ≤ 20000 ∧ L (pp2 nn).natAbs ≤ 20000)(c5 : 1 ≤ nn ∧ nn ≤ 10000) (x0 : Nat × Int) (hI : fx_exp_1_I sc hh v1 v2 nn pp1 pp2 mm1 mm2 x0) : LoopOk Tryz.prog Amb (loopN Tryz.f242 1) (fx_exp_1_mk sc hh v1 v2 nn pp1 pp2 mm1 mm2 x0) (fun e st_ => ∃ y, fx_exp_1_J sc hh v1 v2 nn pp1 pp2 mm1 mm2 y ∧ fx_exp_1_ex sc hh v1 v2 nn pp1 pp2 mm1 mm2 y = (e, st_)) :=
  loop_ob hP hAmb ⟨[1, 2, 4, 5, 6, 7, 8, 9], 4, []⟩ (fx_exp_1_mk sc hh v1 v2 nn pp1 pp2 mm1 mm2) (fx_exp_1_I sc hh v1 v2 nn pp1 pp2 mm1 mm2) (fx_exp_1_mu sc hh v1 v2 nn pp1 pp2 mm1 mm2) (fx_exp_1_ex sc hh v1 v2 nn pp1 pp2 mm1 mm2) (fx_exp_1_J sc hh v1 v2 nn pp1 pp2 mm1 mm2) x0 hI (fun (j, kk) => .lits 3 <| .call (.agg [(.bool (decide ((mm1 j) < 0))), (N ((mm1 j).natAbs)), (.bool (decide ((mm2 j) < 0))), (N ((mm2 j).natAbs))]) <| .lit <| .call (.agg [(.bool (decide ((pp1 (j + 1)) < 0))), (N ((pp1 (j + 1)).natAbs)), (.bool (decide ((pp2 (j + 1)) < 0))), (N ((pp2 (j + 1)).natAbs))]) <| .lits 4 <| .call (.agg [(.bool (decide ((saS pp1 (j + 1)) < 0))), (N ((saS pp1 (j + 1)).natAbs)), (.bool (decide ((saS pp2 (j + 1)) < 0))), (N ((saS pp2 (j + 1)).natAbs))]) <| .lits 3 <| .call (.bool (decide (nn ≤ j + 1))) <| .both (.lits 3 <| .call (zV ((saS pp2 (j + 1)) + (pp2 (j + 1)))) <| .lit <| .fin2 ⟨[1, 4, 5, 6, 8], 4, []⟩) (.lit <| .yes <| .fin2 ⟨[1, 2, 4, 5, 6, 7, 8, 9], 4, []⟩)) (by
    rintro ⟨j, kk⟩ hI
    have hI : j < nn ∧ kk = (j : Int) + 1 := hI
    obtain ⟨h1, h2⟩ := hI
    have c5 := fun (q : nn = j + 1) => (show L (saS pp2 (j + 1)).natAbs ≤ 20000 ∧ L (pp2 (j + 1)).natAbs ≤ 20000 from q ▸ c4)
    exact cast_ob (aI True.intro (aI (c0 j h1 ) (aI (c1 j kk h1 h2 ) (aI (c2 j h1 ) (aI (c3 j h1 ) (aI (fun (h101 : (decide (nn ≤ j + 1)) = true) => have _gh101 := of_decide_eq_true h101; aI (int_Add (saS pp2 (j + 1)) (pp2 (j + 1)) (by first | omega | (have := c5 oO; omega)) (by first | omega | (have := c5 oO; omega))) (have f102 := L_abs_add (saS pp2 (j + 1)) (pp2 (j + 1)); aI tT ((nx_exit 2 ((fx_exp_1_ex sc hh v1 v2 nn pp1 pp2 mm1 mm2 (j + 1)).2) (j + 1) (show (j + 1) = nn from show j + 1 = nn by omega) rfl : fx_exp_1_N sc hh v1 v2 nn pp1 pp2 mm1 mm2 (j, kk) (.exit 2) ((fx_exp_1_ex sc hh v1 v2 nn pp1 pp2 mm1 mm2 (j + 1)).2))))) (fun (h103 : (decide (nn ≤ j + 1)) = false) => have _gh103 := of_decide_eq_false h103; aI (fits_u32 (by first | omega | (have := c5 oO; omega)) : (fits .u32 (kk + 1)) = true) (aI tT ((nx_next ((j + 1), (kk + 1)) (show (j + 1) < nn ∧ (kk + 1) = ((j + 1) : Int) + 1 from ⟨by omega, by omega⟩) (show nn - (j + 1) < nn - j by omega) : fx_exp_1_N sc hh v1 v2 nn pp1 pp2 mm1 mm2 (j, kk) .normal (fx_exp_1_mk sc hh v1 v2 nn pp1 pp2 mm1 mm2 ((j + 1), (kk + 1))))))))))))) (by kernel_rfl))
def fx_exp_2_mk (sc hh v1 v2 q1 q2 fa fb : Int) (x : Nat × Int) : St := ⟨mkS 63 [(1, (.val (.int .i64 sc))), (4, (.own 1 0)), (6, (.val (.int .i64 ((sc + hh) + 24)))), (8, (.own 3 0)), (50, (.val (.int .i64 hh))), (51, (.val (.int .i64 x.2)))], [⟨true, false, [(V.bool (decide (v1 < 0))), (N v1.natAbs), (V.bool (decide (v2 < 0))), (N v2.natAbs)]⟩, ⟨true, false, [(V.bool false), V.nil, (V.bool false), V.nil]⟩, ⟨true, false, [(V.bool (decide (q1 < 0))), (N q1.natAbs), (V.bool (decide (q2 < 0))), (N q2.natAbs)]⟩, ⟨true, false, [(V.bool (decide ((sqS fa fb (2 ^ (((sc + hh) + 24)).toNat) x.1).1 < 0))), (N (((sqS fa fb (2 ^ (((sc + hh) + 24)).toNat) x.1).1).natAbs)), (V.bool (decide ((sqS fa fb (2 ^ (((sc + hh) + 24)).toNat) x.1).2 < 0))), (N (((sqS fa fb (2 ^ (((sc + hh) + 24)).toNat) x.1).2).natAbs))]⟩]⟩
def fx_exp_2_I (_ hh _ _ _ _ _ _ : Int) (x : Nat × Int) : Prop := x.2 = (x.1 : Int) ∧ (x.1 : Int) ≤ hh
def fx_exp_2_mu (_ hh _ _ _ _ _ _ : Int) (x : Nat × Int) : Nat := (hh - x.1).toNat
def fx_exp_2_ex (sc hh v1 v2 q1 q2 fa fb : Int) (y : Nat) : Ex × St := (.exit 4, ⟨mkS 63 [(1, (.val (.int .i64 sc))), (4, (.own 1 0)), (6, (.val (.int .i64 ((sc + hh) + 24)))), (8, (.own 3 0))], [⟨true, false, [(V.bool (decide (v1 < 0))), (N v1.natAbs), (V.bool (decide (v2 < 0))), (N v2.natAbs)]⟩, ⟨true, false, [(V.bool false), V.nil, (V.bool false), V.nil]⟩, ⟨true, false, [(V.bool (decide (q1 < 0))), (N q1.natAbs), (V.bool (decide (q2 < 0))), (N q2.natAbs)]⟩, ⟨true, false, [(V.bool (decide ((sqS fa fb (2 ^ (((sc + hh) + 24)).toNat) y).1 < 0))), (N (((sqS fa fb (2 ^ (((sc + hh) + 24)).toNat) y).1).natAbs)), (V.bool (decide ((sqS fa fb (2 ^ (((sc + hh) + 24)).toNat) y).2 < 0))), (N (((sqS fa fb (2 ^ (((sc + hh) + 24)).toNat) y).2).natAbs))]⟩]⟩)
def fx_exp_2_J (_ hh _ _ _ _ _ _ : Int) (y : Nat) : Prop := (y : Int) = hh
abbrev fx_exp_2_N (sc hh v1 v2 q1 q2 fa fb : Int) := NX (fx_exp_2_mk sc hh v1 v2 q1 q2 fa fb) (fx_exp_2_I sc hh v1 v2 q1 q2 fa fb) (fx_exp_2_mu sc hh v1 v2 q1 q2 fa fb) (fx_exp_2_ex sc hh v1 v2 q1 q2 fa fb) (fx_exp_2_J sc hh v1 v2 q1 q2 fa fb)
theorem fx_exp_2 (sc hh v1 v2 q1 q2 fa fb : Int) (c0 : ∀ i : Nat, (i : Int) < hh → Impl Tryz.prog Amb 239 [(.agg [(.bool (decide ((sqS fa fb (2 ^ (((sc + hh) + 24)).toNat) i).1 < 0))), (N (((sqS fa fb (2 ^ (((sc + hh) + 24)).toNat) i).1).natAbs)), (.bool (decide ((sqS fa fb (2 ^ (((sc + hh) + 24)).toNat) i).2 < 0))), (N (((sqS fa fb (2 ^ (((sc + hh) + 24)).toNat) i).2).natAbs))]), (.agg [(.bool (decide ((sqS fa fb (2 ^ (((sc + hh) + 24)).toNat) i).1 < 0))), (N (((sqS fa fb (2 ^ (((sc + hh) + 24)).toNat) i).1).natAbs)), (.bool (decide ((sqS fa fb (2 ^ (((sc + hh) + 24)).toNat) i).2 < 0))), (N (((sqS fa fb (2 ^ (((sc + hh) + 24)).toNat) i).2).natAbs))]), (.int .i64 ((sc + hh) + 24))] (.agg [(.bool (decide ((sqS fa fb (2 ^ (((sc + hh) + 24)).toNat) (i + 1)).1 < 0))), (N (((sqS fa fb (2 ^ (((sc + hh) + 24)).toNat) (i + 1)).1).natAbs)), (.bool (decide ((sqS fa fb (2 ^ (((sc + hh) + 24)).toNat) (i + 1)).2 < 0))), (N (((sqS fa fb (2 ^ (((sc + hh) + 24)).toNat) (i + 1)).2).natAbs))]))(c1 : 4 ≤ hh ∧ hh ≤ 200) (x0 : Nat × Int) (hI : fx_exp_2_I sc hh v1 v2 q1 q2 fa fb x0) : LoopOk Tryz.prog Amb (loopN Tryz.f242 2) (fx_exp_2_mk sc hh v1 v2 q1 q2 fa fb x0) (fun e st_ => ∃ y, fx_exp_2_J sc hh v1 v2 q1 q2 fa fb y ∧ fx_exp_2_ex sc hh v1 v2 q1 q2 fa fb y = (e, st_)) :=
  loop_ob hP hAmb ⟨[1, 4, 6, 8, 50, 51], 4, []⟩ (fx_exp_2_mk sc hh v1 v2 q1 q2 fa fb) (fx_exp_2_I sc hh v1 v2 q1 q2 fa fb) (fx_exp_2_mu sc hh v1 v2 q1 q2 fa fb) (fx_exp_2_ex sc hh v1 v2 q1 q2 fa fb) (fx_exp_2_J sc hh v1 v2 q1 q2 fa fb) x0 hI (fun (i, ii) => .lit <| .both (.lits 3 <| .call (.agg [(.bool (decide ((sqS fa fb (2 ^ (((sc + hh) + 24)).toNat) (i + 1)).1 < 0))), (N (((sqS fa fb (2 ^ (((sc + hh) + 24)).toNat) (i + 1)).1).natAbs)), (.bool (decide ((sqS fa fb (2 ^ (((sc + hh) + 24)).toNat) (i + 1)).2 < 0))), (N (((sqS fa fb (2 ^ (((sc + hh) + 24)).toNat) (i + 1)).2).natAbs))]) <| .lits 2 <| .yes <| .fin2 ⟨[1, 4, 6, 8, 50, 51], 4, []⟩) (.fin2 ⟨[1, 4, 6, 8], 4, []⟩)) (by
    rintro ⟨i, ii⟩ hI
    have hI : ii = (i : Int) ∧ (i : Int) ≤ hh := hI
    obtain ⟨h1, h2⟩ := hI
    exact cast_ob (aI True.intro (aI (fun (h101 : (iLt ii hh) = true) => have _gh101 := iLt_t h101; aI (c0 i oO ) (aI (fits_i64 oO : (fits .i64 (ii + 1)) = true) (aI tT ((nx_next ((i + 1), (ii + 1)) (show (ii + 1) = ((i + 1) : Int) ∧ ((i + 1) : Int) ≤ hh from ⟨by omega, by omega⟩) (show (hh - ((i + 1 : Nat) : Int)).toNat < (hh - i).toNat by omega) : fx_exp_2_N sc hh v1 v2 q1 q2 fa fb (i, ii) .normal (fx_exp_2_mk sc hh v1 v2 q1 q2 fa fb ((i + 1), (ii + 1)))))))) (fun (h102 : (iLt ii hh) = false) => have _gh102 := iLt_f h102; aI tT ((nx_exit 4 ((fx_exp_2_ex sc hh v1 v2 q1 q2 fa fb i).2) i (show (i : Int) = hh from show (i : Int) = hh by omega) rfl : fx_exp_2_N sc hh v1 v2 q1 q2 fa fb (i, ii) (.exit 4) ((fx_exp_2_ex sc hh v1 v2 q1 q2 fa fb i).2)))))) (by kernel_rfl))
theorem fx_exp0 (x1 : Int) (x2 : Int) (sc : Int) (hh : Int) (w1 : Int) (w2 : Int) (v1 : Int) (v2 : Int) (r1 : Int) (r2 : Int) (nn : Nat) (pp1 : Nat → Int) (pp2 : Nat → Int) (mm1 : Nat → Int) (mm2 : Nat → Int) (c0 : 0 ≤ sc ∧ sc ≤ 20000) (c1 : 4 ≤ hh ∧ hh ≤ 200) (c2 : ∀ i : Int, 4 ≤ i → i < hh → i * i < sc) (c3 : sc ≤ hh * hh) (c4 : Impl Tryz.prog Amb 213 [(.agg [(.bool (decide (x1 < 0))), (N x1.natAbs), (.bool (decide (x2 < 0))), (N x2.natAbs)]), (.int .i64 (((sc + hh) + 24) - sc))] (.agg [(.bool (decide (w1 < 0))), (N w1.natAbs), (.bool (decide (w2 < 0))), (N w2.natAbs)])) (c5 : Impl Tryz.prog Amb 111 [(.agg [(.bool (decide (w1 < 0))), (N w1.natAbs), (.bool (decide (w2 < 0))), (N w2.natAbs)]), (.int .i64 hh)] (.agg [(.bool (decide (v1 < 0))), (N v1.natAbs), (.bool (decide (v2 < 0))), (N v2.natAbs)])) (c6 : Impl Tryz.prog Amb 210 [(.int .i64 ((sc + hh) + 24))] (.agg [(.bool (decide ((pp1 0) < 0))), (N ((pp1 0).natAbs)), (.bool (decide ((pp2 0) < 0))), (N ((pp2 0).natAbs))])) (c7 : ∀ j, j < nn → Impl Tryz.prog Amb 239 [(.agg [(.bool (decide ((pp1 j) < 0))), (N ((pp1 j).natAbs)), (.bool (decide ((pp2 j) < 0))), (N ((pp2 j).natAbs))]), (.agg [(.bool (decide (v1 < 0))), (N v1.natAbs), (.bool (decide (v2 < 0))), (N v2.natAbs)]), (.int .i64 ((sc + hh) + 24))] (.agg [(.bool (decide ((mm1 j) < 0))), (N ((mm1 j).natAbs)), (.bool (decide ((mm2 j) < 0))), (N ((mm2 j).natAbs))])) (c8 : ∀ (j : Nat) (kk : Int), j < nn → kk = (j : Int) + 1 → Impl Tryz.prog Amb 241 [(.agg [(.bool (decide ((mm1 j) < 0))), (N ((mm1 j).natAbs)), (.bool (decide ((mm2 j) < 0))), (N ((mm2 j).natAbs))]), (.int .u32 kk)] (.agg [(.bool (decide ((pp1 (j + 1)) < 0))), (N ((pp1 (j + 1)).natAbs)), (.bool (decide ((pp2 (j + 1)) < 0))), (N ((pp2 (j + 1)).natAbs))])) (c9 : ∀ j, j < nn → Impl Tryz.prog Amb 173 [(.agg [(.bool (decide ((saS pp1 j) < 0))), (N ((saS pp1 j).natAbs)), (.bool (decide ((saS pp2 j) < 0))), (N ((saS pp2 j).natAbs))]), (.agg [(.bool (decide ((pp1 (j + 1)) < 0))), (N ((pp1 (j + 1)).natAbs)), (.bool (decide ((pp2 (j + 1)) < 0))), (N ((pp2 (j + 1)).natAbs))])] (.agg [(.bool (decide ((saS pp1 (j + 1)) < 0))), (N ((saS pp1 (j + 1)).natAbs)), (.bool (decide ((saS pp2 (j + 1)) < 0))), (N ((saS pp2 (j + 1)).natAbs))])) (c10 : ∀ j, j < nn → Impl Tryz.prog Amb 240 [(.agg [(.bool (decide ((pp1 (j + 1)) < 0))), (N ((pp1 (j + 1)).natAbs)), (.bool (decide ((pp2 (j + 1)) < 0))), (N ((pp2 (j + 1)).natAbs))])] (.bool (decide (nn ≤ j + 1)))) (c11 : L (saS pp2 nn).natAbs ≤ 20000 ∧ L (pp2 nn).natAbs ≤ 20000) (c12 : 1 ≤ nn ∧ nn ≤ 10000) (c13 : ∀ i : Nat, (i : Int) < hh → Impl Tryz.prog Amb 239 [(.agg [(.bool (decide ((sqS (saS pp1 nn) ((saS pp2 nn) + (pp2 nn)) (2 ^ (((sc + hh) + 24)).toNat) i).1 < 0))), (N (((sqS (saS pp1 nn) ((saS pp2 nn) + (pp2 nn)) (2 ^ (((sc + hh) + 24)).toNat) i).1).natAbs)), (.bool (decide ((sqS (saS pp1 nn) ((saS pp2 nn) + (pp2 nn)) (2 ^ (((sc + hh) + 24)).toNat) i).2 < 0))), (N (((sqS (saS pp1 nn) ((saS pp2 nn) + (pp2 nn)) (2 ^ (((sc + hh) + 24)).toNat) i).2).natAbs))]), (.agg [(.bool (decide ((sqS (saS pp1 nn) ((saS pp2 nn) + (pp2 nn)) (2 ^ (((sc + hh) + 24)).toNat) i).1 < 0))), (N (((sqS (saS pp1 nn) ((saS pp2 nn) + (pp2 nn)) (2 ^ (((sc + hh) + 24)).toNat) i).1).natAbs)), (.bool (decide ((sqS (saS pp1 nn) ((saS pp2 nn) + (pp2 nn)) (2 ^ (((sc + hh) + 24)).toNat) i).2 < 0))), (N (((sqS (saS pp1 nn) ((saS pp2 nn) + (pp2 nn)) (2 ^ (((sc + hh) + 24)).toNat) i).2).natAbs))]), (.int .i64 ((sc + hh) + 24))] (.agg [(.bool (decide ((sqS (saS pp1 nn) ((saS pp2 nn) + (pp2 nn)) (2 ^ (((sc + hh) + 24)).toNat) (i + 1)).1 < 0))), (N (((sqS (saS pp1 nn) ((saS pp2 nn) + (pp2 nn)) (2 ^ (((sc + hh) + 24)).toNat) (i + 1)).1).natAbs)), (.bool (decide ((sqS (saS pp1 nn) ((saS pp2 nn) + (pp2 nn)) (2 ^ (((sc + hh) + 24)).toNat) (i + 1)).2 < 0))), (N (((sqS (saS pp1 nn) ((saS pp2 nn) + (pp2 nn)) (2 ^ (((sc + hh) + 24)).toNat) (i + 1)).2).natAbs))])) (c14 : ∀ i : Nat, (i : Int) = hh → Impl Tryz.prog Amb 111 [(.agg [(.bool (decide ((sqS (saS pp1 nn) ((saS pp2 nn) + (pp2 nn)) (2 ^ (((sc + hh) + 24)).toNat) i).1 < 0))), (N (((sqS (saS pp1 nn) ((saS pp2 nn) + (pp2 nn)) (2 ^ (((sc + hh) + 24)).toNat) i).1).natAbs)), (.bool (decide ((sqS (saS pp1 nn) ((saS pp2 nn) + (pp2 nn)) (2 ^ (((sc + hh) + 24)).toNat) i).2 < 0))), (N (((sqS (saS pp1 nn) ((saS pp2 nn) + (pp2 nn)) (2 ^ (((sc + hh) + 24)).toNat) i).2).natAbs))]), (.int .i64 (((sc + hh) + 24) - sc))] (.agg [(.bool (decide (r1 < 0))), (N r1.natAbs), (.bool (decide (r2 < 0))), (N r2.natAbs)])) : Impl Tryz.prog Amb 242 [(.agg [(.bool (decide (x1 < 0))), (N x1.natAbs), (.bool (decide (x2 < 0))), (N x2.natAbs)]), (.int .i64 sc)] (.agg [(.bool (decide (r1 < 0))), (N r1.natAbs), (.bool (decide (r2 < 0))), (N r2.natAbs)]) := by
  exact impl_ob hP hAmb Tryz.func242 (by kernel_rfl) (.loop ⟨[1, 2, 4, 5], 2, []⟩ ((fx_exp_0_mk x1 x2 sc hh 4)) (Int) (fx_exp_0_ex x1 x2 sc hh) (fx_exp_0_J x1 x2 sc hh) (fun y => .lit <| .yes <| .lit <| .yes <| .lits 2 <| .yes <| .lit <| .call (.agg [(.bool (decide (w1 < 0))), (N w1.natAbs), (.bool (decide (w2 < 0))), (N w2.natAbs)]) <| .lit <| .call (.agg [(.bool (decide (v1 < 0))), (N v1.natAbs), (.bool (decide (v2 < 0))), (N v2.natAbs)]) <| .lits 2 <| .call (.agg [(.bool (decide ((pp1 0) < 0))), (N ((pp1 0).natAbs)), (.bool (decide ((pp2 0) < 0))), (N ((pp2 0).natAbs))]) <| .lits 3 <| .loop ⟨[1, 2, 4, 5, 6, 7, 8, 9], 4, []⟩ ((fx_exp_1_mk sc y v1 v2 nn pp1 pp2 mm1 mm2 (0, 1))) (Nat) (fx_exp_1_ex sc y v1 v2 nn pp1 pp2 mm1 mm2) (fx_exp_1_J sc y v1 v2 nn pp1 pp2 mm1 mm2) (fun z => .loop ⟨[1, 4, 6, 8, 50, 51], 4, []⟩ ((fx_exp_2_mk sc y v1 v2 (pp1 z) (pp2 z) (saS pp1 z) ((saS pp2 z) + (pp2 z)) (0, 0))) (Nat) (fx_exp_2_ex sc y v1 v2 (pp1 z) (pp2 z) (saS pp1 z) ((saS pp2 z) + (pp2 z))) (fx_exp_2_J sc y v1 v2 (pp1 z) (pp2 z) (saS pp1 z) ((saS pp2 z) + (pp2 z))) (fun u => .lits 2 <| .yes <| .lit <| .call (.agg [(.bool (decide (r1 < 0))), (N r1.natAbs), (.bool (decide (r2 < 0))), (N r2.natAbs)]) <| .lits 2 <| .ret))))
    (cast_ob (aI True.intro (aI tT (aI (rfl : (fx_exp_0_mk x1 x2 sc hh 4) = (fx_exp_0_mk x1 x2 sc hh 4)) (aI (fx_exp_0 x1 x2 sc hh c0 c1 c2 c3 4 (show 4 ≤ 4 ∧ 4 ≤ hh from ⟨by omega, by omega⟩)) (fun y (hJ : fx_exp_0_J x1 x2 sc hh y) => have hJ : y = hh := hJ; have hY := hJ; aI (fits_i64 oS : (fits .i64 (sc + y)) = true) (aI (fits_i64 oS : (fits .i64 ((sc + y) + 24)) = true) (aI (fits_i64 oS : (fits .i64 (((sc + y) + 24) - sc)) = true) (aI ((hY ▸ c4) ) (aI ((hY ▸ c5) ) (aI ((hY ▸ c6) ) (aI tT (aI (rfl : (fx_exp_1_mk sc y v1 v2 nn pp1 pp2 mm1 mm2 (0, 1)) = (fx_exp_1_mk sc y v1 v2 nn pp1 pp2 mm1 mm2 (0, 1))) (aI (fx_exp_1 sc y v1 v2 nn pp1 pp2 mm1 mm2 (hY ▸ c7) c8 c9 c10 c11 c12 (0, 1) (show 0 < nn ∧ 1 = (0 : Int) + 1 from ⟨by omega, by omega⟩)) (fun z (hJ : fx_exp_1_J sc y v1 v2 nn pp1 pp2 mm1 mm2 z) => have hJ : z = nn := hJ; have hZ := hJ; aI tT (aI (rfl : (fx_exp_2_mk sc y v1 v2 (pp1 z) (pp2 z) (saS pp1 z) ((saS pp2 z) + (pp2 z)) (0, 0)) = (fx_exp_2_mk sc y v1 v2 (pp1 z) (pp2 z) (saS pp1 z) ((saS pp2 z) + (pp2 z)) (0, 0))) (aI (fx_exp_2 sc y v1 v2 (pp1 z) (pp2 z) (saS pp1 z) ((saS pp2 z) + (pp2 z)) (hZ ▸ hY ▸ c13) (hY ▸ c1) (0, 0) (show 0 = (0 : Int) ∧ (0 : Int) ≤ y from ⟨by omega, by omega⟩)) (fun u (hJ : fx_exp_2_J sc y v1 v2 (pp1 z) (pp2 z) (saS pp1 z) ((saS pp2 z) + (pp2 z)) u) => have hJ : (u : Int) = y := hJ; have hV := hJ; aI (fits_i64 oS : (fits .i64 (((sc + y) + 24) - sc)) = true) (aI ((hZ ▸ (show _ from (hY ▸ (c14 u oO)))) ) ((vsub_refl (.agg [(.bool (decide (r1 < 0))), (N r1.natAbs), (.bool (decide (r2 < 0))), (N r2.natAbs)]))))))))))))))))))))) (by kernel_rfl))
end Go.Proofs.YtekcladflnieeaaGreatDoor

namespace Go.Proofs.YtekcladflnieeaaGreatDoor
open Go.RowKit
set_option maxRecDepth 100000
theorem wrap_neg {x : Int} (h : x < 0) (k : -4294967295 ≤ x) : IntKind.wrap .i64 (IntKind.wrap .u64 ((0 : Int) - (x.natAbs : Int))) = x := by
  rw [wrap_u64]
  have e : ((0 : Int) - (x.natAbs : Int)) % 18446744073709551616 = 18446744073709551616 + x := by omega
  rw [e]
  simp [IntKind.wrap, IntKind.bits, IntKind.signed]
  omega
theorem nat_Uint1 (a : Nat) (c0 : a < 4294967296) : Impl Tryz.prog Amb 224 [(N a)] (.tup [(.int .u64 (a : Int)), (.bool true)]) := by
  have l1 := L_le (n := a) (k := 1) (by rw [Nat.pow_one]; exact c0)
  have e0 := L_len a
  have g0 := gi_nonneg (limbs a) 0
  have g1 := gi_lt (dig_limbs a) 0
  exact impl_ob hP hAmb Tryz.func224 (by kernel_rfl) (.lit <| .call (.int .i64 (L a : Int)) <| .lit <| .both (.lit <| .ret) (.lit <| .both (.yes <| .yes <| .lit <| .yes <| .lit <| .ret) (.lit <| .both (.yes <| .yes <| .lit <| .yes <| .lit <| .yes <| .yes <| .yes <| .lit <| .yes <| .lits 2 <| .ret) (.lit <| .ret))))
    (cast_ob (aI True.intro (aI (nat_sizeN a oO) (aI (fun (h1 : (iEq (L a : Int) 0) = true) => have _gh1 := iEq_t h1; (vsub_of (by rw [show a = 0 from Decidable.byContradiction fun h => by have := L_pos h; omega]; rfl) : vsub (.tup [(.int .u64 0), (.bool true)]) (.tup [(.int .u64 (a : Int)), (.bool true)]))) (fun (h2 : (iEq (L a : Int) 0) = false) => have _gh2 := iEq_f h2; aI (fun (h3 : (iEq (L a : Int) 1) = true) => have _gh3 := iEq_t h3; aI (inB_mk oO : (inB (0 : Int) ((lim a).length)) = true) (aI (ld_L oO : (Nat.blt 0 (lim a).length && isIntK .u32 (nth (lim a) 0 .unk)) = true) (aI (fits_u64 oO : (fits .u64 (gi (limbs a) 0)) = true) ((vsub_of (by rw [gi_one (show L a = 1 by omega)]) : vsub (.tup [(.int .u64 (gi (limbs a) 0)), (.bool true)]) (.tup [(.int .u64 (a : Int)), (.bool true)])))))) (fun (h4 : (iEq (L a : Int) 1) = false) => have _gh4 := iEq_f h4; aI (fun (h5 : (iEq (L a : Int) 2) = true) => have _gh5 := iEq_t h5; aI (inB_mk oO : (inB (1 : Int) ((lim a).length)) = true) (aI (ld_L oO : (Nat.blt 1 (lim a).length && isIntK .u32 (nth (lim a) 1 .unk)) = true) (aI (fits_u64 oO : (fits .u64 (gi (limbs a) 1)) = true) (aI (fits_u64 oO : (fits .u64 ((gi (limbs a) 1) * 2 ^ 32)) = true) (aI (inB_mk oO : (inB (0 : Int) ((lim a).length)) = true) (aI (ld_L oO : (Nat.blt 0 (lim a).length && isIntK .u32 (nth (lim a) 0 .unk)) = true) (aI (fits_u64 oO : (fits .u64 (gi (limbs a) 0)) = true) ((False.elim oO : vsub (.tup [(.int .u64 (wOr .u64 ((gi (limbs a) 1) * 2 ^ 32) (gi (limbs a) 0))), (.bool true)]) (.tup [(.int .u64 (a : Int)), (.bool true)])))))))))) (fun (h6 : (iEq (L a : Int) 2) = false) => have _gh6 := iEq_f h6; (False.elim oO : vsub (.tup [(.int .u64 0), (.bool false)]) (.tup [(.int .u64 (a : Int)), (.bool true)])))))))) (by kernel_rfl))
theorem int_Int1 (x : Int) (c0 : -4294967295 ≤ x ∧ x ≤ 4294967295) : Impl Tryz.prog Amb 171 [(zV x)] (.tup [(.int .i64 x), (.bool true)]) := by
  have wz := wrap_neg (x := x)
  exact impl_ob hP hAmb Tryz.func171 (by kernel_rfl) (.lits 2 <| .call (.tup [(.int .u64 (x.natAbs : Int)), (.bool true)]) <| .lits 4 <| .both (.lits 3 <| .yes <| .lit <| .yes <| .lit <| .ret) (.lits 4 <| .both (.lits 3 <| .yes <| .lit <| .no <| .lit <| .no <| .lit <| .ret) (.lits 4 <| .ret)))
    (cast_ob (aI True.intro (aI (nat_Uint1 x.natAbs oO) (aI (fun (h1 : (!(decide (x < 0))) = true) => have _gh1 := of_decide_eq_false (notb_t h1); aI (iLt_mk oO : (iLt (x.natAbs : Int) 9223372036854775808) = true) (aI (fits_i64 oO : (fits .i64 (x.natAbs : Int)) = true) ((vsub_of (by rw [show (x.natAbs : Int) = x by omega]) : vsub (.tup [(.int .i64 (x.natAbs : Int)), (.bool true)]) (.tup [(.int .i64 x), (.bool true)]))))) (fun (h2 : (!(decide (x < 0))) = false) => have _gh2 := of_decide_eq_true (notb_f h2); aI (fun (h3 : (decide (x < 0)) = true) => have _gh3 := of_decide_eq_true h3; aI (iLe_mk oO : (iLe (x.natAbs : Int) 9223372036854775808) = true) ((vsub_of (by rw [wz oO oO]) : vsub (.tup [(.int .i64 (IntKind.wrap .i64 (IntKind.wrap .u64 ((0 : Int) - (x.natAbs : Int))))), (.bool true)]) (.tup [(.int .i64 x), (.bool true)])))) (fun (h4 : (decide (x < 0)) = false) => have _gh4 := of_decide_eq_false h4; (False.elim oO : vsub (.tup [(.int .i64 0), (.bool false)]) (.tup [(.int .i64 x), (.bool true)]))))))) (by kernel_rfl))
theorem fx_Nearest (a : Int) (b : Int) (c : Int) (d : Int) (c0 : L (a).natAbs ≤ 3000) (c1 : L (b).natAbs ≤ 3000) (c2 : L (c).natAbs ≤ 3000) (c3 : L (d).natAbs ≤ 3000) (c4 : 0 < c + d) (c5 : -4294967295 ≤ (Int.fdiv (((a + b) * 2 ^ 1) + (c + d)) ((c + d) * 2 ^ 1)) ∧ (Int.fdiv (((a + b) * 2 ^ 1) + (c + d)) ((c + d) * 2 ^ 1)) ≤ 4294967295) : Impl Tryz.prog Amb 104 [(.agg [(.bool (decide (a < 0))), (N a.natAbs), (.bool (decide (b < 0))), (N b.natAbs)]), (.agg [(.bool (decide (c < 0))), (N c.natAbs), (.bool (decide (d < 0))), (N d.natAbs)])] (.int .i64 (Int.fdiv (((a + b) * 2 ^ 1) + (c + d)) ((c + d) * 2 ^ 1))) := by
  exact impl_ob hP hAmb Tryz.func104 (by kernel_rfl) (.lits 3 <| .call (zV (a + b)) <| .lits 3 <| .call (zV (c + d)) <| .lits 2 <| .call (zV ((a + b) * 2 ^ 1)) <| .lits 2 <| .call (zV (((a + b) * 2 ^ 1) + (c + d))) <| .lits 2 <| .call (zV ((c + d) * 2 ^ 1)) <| .lit <| .call (.tup [(zV (Int.fdiv (((a + b) * 2 ^ 1) + (c + d)) ((c + d) * 2 ^ 1))), (zV ((((a + b) * 2 ^ 1) + (c + d)) - (Int.fdiv (((a + b) * 2 ^ 1) + (c + d)) ((c + d) * 2 ^ 1)) * ((c + d) * 2 ^ 1))), (.bool true)]) <| .lits 2 <| .call (.tup [(.int .i64 (Int.fdiv (((a + b) * 2 ^ 1) + (c + d)) ((c + d) * 2 ^ 1))), (.bool true)]) <| .lit <| .ret)
    (cast_ob (aI True.intro (aI (int_Add a b oO oO) (have f7 := L_abs_add a b; aI (int_Add c d oO oO) (have f6 := L_abs_add c d; aI (int_Shl (a + b) 1 oO oO) (have f5 := L_abs_shl (a + b) 1; aI (int_Add ((a + b) * 2 ^ 1) (c + d) oO oO) (have f4 := L_abs_add ((a + b) * 2 ^ 1) (c + d); aI (int_Shl (c + d) 1 oO oO) (have f3 := L_abs_shl (c + d) 1; aI (int_DivMod (((a + b) * 2 ^ 1) + (c + d)) ((c + d) * 2 ^ 1) oO oO oO) (have f2 := L_rm (((a + b) * 2 ^ 1) + (c + d)) ((c + d) * 2 ^ 1); have f1 := L_fdiv (((a + b) * 2 ^ 1) + (c + d)) ((c + d) * 2 ^ 1); aI (int_Int1 (Int.fdiv (((a + b) * 2 ^ 1) + (c + d)) ((c + d) * 2 ^ 1)) oO) ((vsub_refl (.int .i64 (Int.fdiv (((a + b) * 2 ^ 1) + (c + d)) ((c + d) * 2 ^ 1))))))))))))) (by kernel_rfl))
end Go.Proofs.YtekcladflnieeaaGreatDoor

namespace Go.Proofs.YtekcladflnieeaaGreatDoor
open Go.RowKit
set_option maxRecDepth 100000
theorem gt_dec (x : Int) : iGt x 0 = decide (0 < x) := rfl
theorem fx_Exp_aw (q1 : Int) (q2 : Int) (u1 : Int) (u2 : Int) (t1 : Int) (t2 : Int) (s1 : Int) (s2 : Int) (x1 : Int) (x2 : Int) (y1 : Int) (y2 : Int) (r1 : Int) (r2 : Int) (c0 : Impl Tryz.prog Amb 105 [(yV (0 : Int) 0), (.int .i64 32)] (.agg [(.bool (decide ((0 : Int) < 0))), (N ((0 : Int).natAbs)), (.bool (decide ((0 : Int) < 0))), (N ((0 : Int).natAbs))])) (c1 : Impl Tryz.prog Amb 106 [(.int .i64 32)] (.agg [(.bool (decide (q1 < 0))), (N q1.natAbs), (.bool (decide (q2 < 0))), (N q2.natAbs)])) (c2 : Impl Tryz.prog Amb 104 [(.agg [(.bool (decide ((0 : Int) < 0))), (N ((0 : Int).natAbs)), (.bool (decide ((0 : Int) < 0))), (N ((0 : Int).natAbs))]), (.agg [(.bool (decide (q1 < 0))), (N q1.natAbs), (.bool (decide (q2 < 0))), (N q2.natAbs)])] (.int .i64 0)) (c3 : Impl Tryz.prog Amb 105 [(yV (0 : Int) 0), (.int .i64 67)] (.agg [(.bool (decide ((0 : Int) < 0))), (N ((0 : Int).natAbs)), (.bool (decide ((0 : Int) < 0))), (N ((0 : Int).natAbs))])) (c4 : Impl Tryz.prog Amb 106 [(.int .i64 67)] (.agg [(.bool (decide (u1 < 0))), (N u1.natAbs), (.bool (decide (u2 < 0))), (N u2.natAbs)])) (c5 : Impl Tryz.prog Amb 110 [(.agg [(.bool (decide (u1 < 0))), (N u1.natAbs), (.bool (decide (u2 < 0))), (N u2.natAbs)]), (.int .i64 (-1))] (.agg [(.bool (decide (t1 < 0))), (N t1.natAbs), (.bool (decide (t2 < 0))), (N t2.natAbs)])) (c6 : Impl Tryz.prog Amb 109 [(.agg [(.bool (decide ((0 : Int) < 0))), (N ((0 : Int).natAbs)), (.bool (decide ((0 : Int) < 0))), (N ((0 : Int).natAbs))]), (.agg [(.bool (decide (t1 < 0))), (N t1.natAbs), (.bool (decide (t2 < 0))), (N t2.natAbs)])] (.agg [(.bool (decide (s1 < 0))), (N s1.natAbs), (.bool (decide (s2 < 0))), (N s2.natAbs)])) (c7 : Impl Tryz.prog Amb 111 [(.agg [(.bool (decide (s1 < 0))), (N s1.natAbs), (.bool (decide (s2 < 0))), (N s2.natAbs)]), (.int .i64 16)] (.agg [(.bool (decide (x1 < 0))), (N x1.natAbs), (.bool (decide (x2 < 0))), (N x2.natAbs)])) (c8 : Impl Tryz.prog Amb 242 [(.agg [(.bool (decide (x1 < 0))), (N x1.natAbs), (.bool (decide (x2 < 0))), (N x2.natAbs)]), (.int .i64 51)] (.agg [(.bool (decide (y1 < 0))), (N y1.natAbs), (.bool (decide (y2 < 0))), (N y2.natAbs)])) (c9 : Impl Tryz.prog Amb 111 [(.agg [(.bool (decide (y1 < 0))), (N y1.natAbs), (.bool (decide (y2 < 0))), (N y2.natAbs)]), (.int .i64 25)] (.agg [(.bool (decide (r1 < 0))), (N r1.natAbs), (.bool (decide (r2 < 0))), (N r2.natAbs)])) : Impl Tryz.prog Amb 217 [(yV (0 : Int) 0), (.int .i64 27)] (.agg [(.bool (decide (r1 < 0))), (N r1.natAbs), (.bool (decide (r2 < 0))), (N r2.natAbs)]) := by
  exact impl_ob hP hAmb Tryz.func217 (by kernel_rfl) (.lits 2 <| .call (.agg [(.bool (decide ((0 : Int) < 0))), (N ((0 : Int).natAbs)), (.bool (decide ((0 : Int) < 0))), (N ((0 : Int).natAbs))]) <| .lit <| .call (.agg [(.bool (decide (q1 < 0))), (N q1.natAbs), (.bool (decide (q2 < 0))), (N q2.natAbs)]) <| .lit <| .call (.int .i64 0) <| .lit <| .yes <| .lits 2 <| .yes <| .lit <| .yes <| .lits 2 <| .yes <| .lit <| .call (.agg [(.bool (decide ((0 : Int) < 0))), (N ((0 : Int).natAbs)), (.bool (decide ((0 : Int) < 0))), (N ((0 : Int).natAbs))]) <| .lit <| .yes <| .lit <| .call (.agg [(.bool (decide (u1 < 0))), (N u1.natAbs), (.bool (decide (u2 < 0))), (N u2.natAbs)]) <| .lit <| .call (.agg [(.bool (decide (t1 < 0))), (N t1.natAbs), (.bool (decide (t2 < 0))), (N t2.natAbs)]) <| .lit <| .call (.agg [(.bool (decide (s1 < 0))), (N s1.natAbs), (.bool (decide (s2 < 0))), (N s2.natAbs)]) <| .lit <| .call (.agg [(.bool (decide (x1 < 0))), (N x1.natAbs), (.bool (decide (x2 < 0))), (N x2.natAbs)]) <| .lits 3 <| .call (.agg [(.bool (decide (y1 < 0))), (N y1.natAbs), (.bool (decide (y2 < 0))), (N y2.natAbs)]) <| .lits 3 <| .yes <| .lit <| .yes <| .lit <| .call (.agg [(.bool (decide (r1 < 0))), (N r1.natAbs), (.bool (decide (r2 < 0))), (N r2.natAbs)]) <| .lits 2 <| .ret)
    (cast_ob (aI True.intro (aI (c0 ) (aI (c1 ) (aI (c2 ) (aI tT (aI tT (aI tT (aI tT (aI (c3 ) (aI tT (aI (c4 ) (aI (c5 ) (aI (c6 ) (aI (c7 ) (aI (c8 ) (aI tT (aI tT (aI (c9 ) ((vsub_refl (.agg [(.bool (decide (r1 < 0))), (N r1.natAbs), (.bool (decide (r2 < 0))), (N r2.natAbs)]))))))))))))))))))))) (by kernel_rfl))
theorem ex_at (m : Int) (ee : Int) (ss : Int) (lo : Int) (hi : Int) (c0 : Impl Tryz.prog Amb 217 [(yV m ee), (.int .i64 ss)] (.agg [(.bool (decide (lo < 0))), (N lo.natAbs), (.bool (decide (hi < 0))), (N hi.natAbs)])) : Impl Tryz.prog Amb 158 [(yV m ee), (.int .i64 ss)] (.agg [(.bool (decide (lo < 0))), (N lo.natAbs), (.bool (decide (hi < 0))), (N hi.natAbs)]) := by
  exact impl_ob hP hAmb Tryz.func158 (by kernel_rfl) (.lits 2 <| .call (.agg [(.bool (decide (lo < 0))), (N lo.natAbs), (.bool (decide (hi < 0))), (N hi.natAbs)]) <| .lits 2 <| .ret)
    (cast_ob (aI True.intro (aI (c0 ) ((vsub_refl (.agg [(.bool (decide (lo < 0))), (N lo.natAbs), (.bool (decide (hi < 0))), (N hi.natAbs)]))))) (by kernel_rfl))
theorem ex_beyond (m : Int) (ee : Int) (n : Int) (c0 : L (m).natAbs ≤ 8000) (c1 : -65536 ≤ ee ∧ ee ≤ 65536) (c2 : -9223372036854775808 ≤ n ∧ n ≤ 9223372036854775807) : Impl Tryz.prog Amb 94 [(yV m ee), (.int .i64 n)] (.bool (decide (0 < (cmpD m ee (mkM n 0) (mkX n 0))))) := by
  have of1 := of_fit (n := n) oO
  exact impl_ob hP hAmb Tryz.func94 (by kernel_rfl) (.lits 2 <| .call (yV (mkM n 0) (mkX n 0)) <| .lit <| .call (.int .i64 (cmpD m ee (mkM n 0) (mkX n 0))) <| .lits 2 <| .ret)
    (cast_ob (aI True.intro (aI (dy_Of n oO) (have f3 := (L_i64 oO : L (n : Int).natAbs ≤ 2); have f2 := mk_facts n 0; aI (dy_Cmp m ee (mkM n 0) (mkX n 0) oO oO oO oO) (have f1 := cmpD_range m ee (mkM n 0) (mkX n 0); (vsub_of (congrArg V.bool (gt_dec _)) : vsub (.bool (iGt (cmpD m ee (mkM n 0) (mkX n 0)) 0)) (.bool (decide (0 < (cmpD m ee (mkM n 0) (mkX n 0)))))))))) (by kernel_rfl))
def exM (o v1 v2 T : Int) : Nat → Int × Int
  | 0 => (o, o)
  | j + 1 => (ptLo ((exM o v1 v2 T j).1 * v1 / T) ((j : Int) + 1), ptHi (-(-((exM o v1 v2 T j).2 * v2) / T)) ((j : Int) + 1))
def exOk (o v1 v2 T : Int) (nn : Nat) : Bool := (List.range (nn + 1)).all fun j =>
  decide ((exM o v1 v2 T j).1.natAbs < 2 ^ 500) && decide ((exM o v1 v2 T j).2.natAbs < 2 ^ 500) && decide ((saS (fun i => (exM o v1 v2 T i).1) j).natAbs < 2 ^ 500) && decide ((saS (fun i => (exM o v1 v2 T i).2) j).natAbs < 2 ^ 500) &&
  decide (((exM o v1 v2 T j).1 * v1 / T).natAbs < 2 ^ 500) && decide ((-(-((exM o v1 v2 T j).2 * v2) / T)).natAbs < 2 ^ 500) && (decide (j = 0) || (decide ((exM o v1 v2 T j).2.natAbs < 8) == decide (nn ≤ j)))
def sqOk (a b T : Int) (h : Nat) : Bool := (List.range (h + 1)).all fun i => decide ((sqS a b T i).1.natAbs < 2 ^ 500) && decide ((sqS a b T i).2.natAbs < 2 ^ 500)
theorem L500 {x : Int} (h : x.natAbs < 2 ^ 500) : L x.natAbs ≤ 16 := L_pow2 h oO
theorem fx_expG (x1 x2 sc hh w1 w2 v1 v2 fa fb : Int) (nn : Nat) (h0 : 0 ≤ sc ∧ sc ≤ 10000) (h1 : 4 ≤ hh ∧ hh ≤ 200) (h2 : ∀ i : Int, 4 ≤ i → i < hh → i * i < sc) (h3 : sc ≤ hh * hh) (hn : 1 ≤ nn ∧ nn ≤ 10000)
    (lx1 : L x1.natAbs ≤ 2000) (lx2 : L x2.natAbs ≤ 2000) (ew1 : w1 = x1 * 2 ^ (((sc + hh) + 24) - sc).toNat) (ew2 : w2 = x2 * 2 ^ (((sc + hh) + 24) - sc).toNat) (ev1 : v1 = w1 / 2 ^ hh.toNat) (ev2 : v2 = -(-w2 / 2 ^ hh.toNat)) (lv1 : L v1.natAbs ≤ 2000) (lv2 : L v2.natAbs ≤ 2000)
    (ok : exOk ((1 : Int) * 2 ^ ((sc + hh) + 24).toNat) v1 v2 (2 ^ ((sc + hh) + 24).toNat) nn = true) (efa : fa = saS (fun i => (exM ((1 : Int) * 2 ^ ((sc + hh) + 24).toNat) v1 v2 (2 ^ ((sc + hh) + 24).toNat) i).1) nn) (efb : fb = saS (fun i => (exM ((1 : Int) * 2 ^ ((sc + hh) + 24).toNat) v1 v2 (2 ^ ((sc + hh) + 24).toNat) i).2) nn + (exM ((1 : Int) * 2 ^ ((sc + hh) + 24).toNat) v1 v2 (2 ^ ((sc + hh) + 24).toNat) nn).2)
    (sq : sqOk fa fb (2 ^ ((sc + hh) + 24).toNat) hh.toNat = true) :
    Impl Tryz.prog Amb 242 [(.agg [(.bool (decide (x1 < 0))), (N x1.natAbs), (.bool (decide (x2 < 0))), (N x2.natAbs)]), (.int .i64 sc)] (.agg [(.bool (decide (((sqS fa fb (2 ^ ((sc + hh) + 24).toNat) hh.toNat).1 / 2 ^ (((sc + hh) + 24) - sc).toNat) < 0))), (N (((sqS fa fb (2 ^ ((sc + hh) + 24).toNat) hh.toNat).1 / 2 ^ (((sc + hh) + 24) - sc).toNat).natAbs)), (.bool (decide ((-(-(sqS fa fb (2 ^ ((sc + hh) + 24).toNat) hh.toNat).2 / 2 ^ (((sc + hh) + 24) - sc).toNat)) < 0))), (N ((-(-(sqS fa fb (2 ^ ((sc + hh) + 24).toNat) hh.toNat).2 / 2 ^ (((sc + hh) + 24) - sc).toNat)).natAbs))]) := by
  have ok := List.all_eq_true.1 ok
  have sq := List.all_eq_true.1 sq
  have ok : ∀ j, j ≤ nn → _ := fun j hj => ok j (List.mem_range.2 oO)
  have sq : ∀ j, j ≤ hh.toNat → _ := fun j hj => sq j (List.mem_range.2 oO)
  simp only [Bool.and_eq_true, Bool.or_eq_true, decide_eq_true_eq, beq_iff_eq] at ok sq
  have lw1 := L_abs_shl x1 (((sc + hh) + 24) - sc).toNat
  have lw2 := L_abs_shl x2 (((sc + hh) + 24) - sc).toNat
  have hT := fx_Twice x1 x2 (((sc + hh) + 24) - sc) oO oO oO
  rw [← ew1] at hT lw1
  rw [← ew2] at hT lw2
  have hH := fx_Half w1 w2 hh oO oO oO
  rw [← ev1, ← ev2] at hH
  have hO := fx_One ((sc + hh) + 24) oO
  have pN := (ok nn (Nat.le_refl _))
  have l2 := L500 pN.1.1.1.2
  have l3 := L500 pN.1.1.1.1.1.2
  subst efa; subst efb
  refine fx_exp0 x1 x2 sc hh w1 w2 v1 v2 _ _ nn (fun i => (exM ((1 : Int) * 2 ^ ((sc + hh) + 24).toNat) v1 v2 (2 ^ ((sc + hh) + 24).toNat) i).1) (fun i => (exM ((1 : Int) * 2 ^ ((sc + hh) + 24).toNat) v1 v2 (2 ^ ((sc + hh) + 24).toNat) i).2) (fun i => (exM ((1 : Int) * 2 ^ ((sc + hh) + 24).toNat) v1 v2 (2 ^ ((sc + hh) + 24).toNat) i).1 * v1 / (2 ^ ((sc + hh) + 24).toNat)) (fun i => -(-((exM ((1 : Int) * 2 ^ ((sc + hh) + 24).toNat) v1 v2 (2 ^ ((sc + hh) + 24).toNat) i).2 * v2) / (2 ^ ((sc + hh) + 24).toNat))) oO h1 h2 h3 hT hH hO ?_ ?_ ?_ ?_ ⟨by omega, by omega⟩ hn ?_ ?_
  · intro j hj
    have a := ok j oO
    exact fx_Mul _ _ v1 v2 ((sc + hh) + 24) (Nat.le_trans (L500 a.1.1.1.1.1.1) oO) (Nat.le_trans (L500 a.1.1.1.1.1.2) oO) oO oO oO
  · intro j kk hj hk
    subst hk
    have a := ok j oO
    exact fx_Part _ _ ((j : Int) + 1) (Nat.le_trans (L500 a.1.1.2) oO) (Nat.le_trans (L500 a.1.2) oO) oO
  · intro j hj
    have a := ok j oO
    have b := ok (j + 1) oO
    exact fx_Add _ _ _ _ (Nat.le_trans (L500 a.1.1.1.1.2) oO) (Nat.le_trans (L500 a.1.1.1.2) oO) (Nat.le_trans (L500 b.1.1.1.1.1.1) oO) (Nat.le_trans (L500 b.1.1.1.1.1.2) oO)
  · intro j hj
    have b := ok (j + 1) oO
    have c := b.2.resolve_left oO
    exact impl_eq (congrArg V.bool c) (fx_Tiny _ _ (Nat.le_trans (L500 b.1.1.1.1.1.2) oO))
  · intro i hi
    have a := sq i oO
    exact fx_Mul _ _ _ _ ((sc + hh) + 24) (Nat.le_trans (L500 a.1) oO) (Nat.le_trans (L500 a.2) oO) (Nat.le_trans (L500 a.1) oO) (Nat.le_trans (L500 a.2) oO) oO
  · intro i hi
    have e : i = hh.toNat := by omega
    subst e
    have a := sq hh.toNat (Nat.le_refl _)
    exact fx_Half _ _ (((sc + hh) + 24) - sc) (Nat.le_trans (L500 a.1) oO) (Nat.le_trans (L500 a.2) oO) oO
end Go.Proofs.YtekcladflnieeaaGreatDoor

namespace Go.Proofs.YtekcladflnieeaaGreatDoor
open Go.RowKit
set_option maxRecDepth 100000
set_option maxHeartbeats 2000000
def fx_SettleB_0_mk (fk : Nat) (u1 : V) (_ _ w : Int) (x : Int) : St := ⟨mkS 27 [(0, (.val (.int .i64 w))), (1, (.val (.bnd fk [u1]))), (4, (.own 0 0)), (5, (.val (.int .i64 24)))], [⟨true, false, [(V.bool false), V.nil, (V.bool false), V.nil]⟩]⟩
def fx_SettleB_0_I (_ : Nat) (_ : V) (_ _ _ : Int) (x : Int) : Prop := x = x
def fx_SettleB_0_mu (_ : Nat) (_ : V) (_ _ _ : Int) (x : Int) : Nat := 0
def fx_SettleB_0_ex (_ : Nat) (_ : V) (ka kb _ : Int) (y : Int) : Ex × St := (.ret, ⟨mkS 27 [(4, (.own 0 0))], [⟨true, false, [(V.bool (decide ((ka / 2 ^ 24) < 0))), (N ((ka / 2 ^ 24).natAbs)), (V.bool (decide ((-(-kb / 2 ^ 24)) < 0))), (N ((-(-kb / 2 ^ 24)).natAbs))]⟩]⟩)
def fx_SettleB_0_J (_ : Nat) (_ : V) (_ _ _ : Int) (y : Int) : Prop := y = y
theorem fx_SettleB_0 (fk : Nat) (u1 : V) (ka kb w : Int) (c0 : Impl Tryz.prog Amb fk [u1, (.int .i64 (w + 24))] (.agg [(.bool (decide (ka < 0))), (N ka.natAbs), (.bool (decide (kb < 0))), (N kb.natAbs)]))(c1 : L ka.natAbs ≤ 8192 ∧ L kb.natAbs ≤ 8192)(c2 : nbits (kb - ka).natAbs ≤ 24)(c3 : (0 : Int) ≤ w ∧ w ≤ 5000) (x0 : Int) (hI : fx_SettleB_0_I fk u1 ka kb w x0) : LoopOk Tryz.prog Amb (loopN Tryz.f107 0) (fx_SettleB_0_mk fk u1 ka kb w x0) (fun e st_ => ∃ y, fx_SettleB_0_J fk u1 ka kb w y ∧ fx_SettleB_0_ex fk u1 ka kb w y = (e, st_)) :=
  loop_ob hP hAmb ⟨[0, 1, 4, 5], 1, []⟩ (fx_SettleB_0_mk fk u1 ka kb w) (fx_SettleB_0_I fk u1 ka kb w) (fx_SettleB_0_mu fk u1 ka kb w) (fx_SettleB_0_ex fk u1 ka kb w) (fx_SettleB_0_J fk u1 ka kb w) x0 hI (fun j => .lit <| .yes <| .lit <| .call (.agg [(.bool (decide (ka < 0))), (N ka.natAbs), (.bool (decide (kb < 0))), (N kb.natAbs)]) <| .lits 3 <| .call (zV (kb - ka)) <| .lits 2 <| .call (.int .i64 (nbits ((kb - ka).natAbs) : Int)) <| .lit <| .yes <| .lits 5 <| .call (.agg [(.bool (decide ((ka / 2 ^ 24) < 0))), (N ((ka / 2 ^ 24).natAbs)), (.bool (decide ((-(-kb / 2 ^ 24)) < 0))), (N ((-(-kb / 2 ^ 24)).natAbs))]) <| .lit <| .fin3 ⟨[4], [0]⟩) (by
    rintro j hI
    have hI : j = j := hI
    have h1 := hI
    exact cast_ob (aI True.intro (aI (fits_i64 oS : (fits .i64 (w + 24)) = true) (aI (c0 ) (aI (fx_Width ka kb oS oS) (have f106 := L_abs_sub kb ka; aI (nat_Bits ((kb - ka).natAbs) oS) (have f105 := nbits_L ((kb - ka).natAbs); aI (iLe_mk oO : (iLe (nbits ((kb - ka).natAbs) : Int) 24) = true) (aI (fx_Half ka kb 24 oS oS oS) (have f104 := L_abs_neg (-kb / 2 ^ 24); have f103 := L_abs_shr (-kb) 24; have f102 := L_abs_neg kb; have f101 := L_abs_shr ka 24; aI tT ((nx_ret ((fx_SettleB_0_ex fk u1 ka kb w j).2) j (show j = j from rfl) rfl : NX (fx_SettleB_0_mk fk u1 ka kb w) (fx_SettleB_0_I fk u1 ka kb w) (fx_SettleB_0_mu fk u1 ka kb w) (fx_SettleB_0_ex fk u1 ka kb w) (fx_SettleB_0_J fk u1 ka kb w) j .ret ((fx_SettleB_0_ex fk u1 ka kb w j).2))))))))))) (by kernel_rfl))
theorem fx_SettleB (fk : Nat) (u1 : V) (ka : Int) (kb : Int) (w : Int) (c0 : Impl Tryz.prog Amb fk [u1, (.int .i64 (w + 24))] (.agg [(.bool (decide (ka < 0))), (N ka.natAbs), (.bool (decide (kb < 0))), (N kb.natAbs)])) (c1 : L ka.natAbs ≤ 8192 ∧ L kb.natAbs ≤ 8192) (c2 : nbits (kb - ka).natAbs ≤ 24) (c3 : (0 : Int) ≤ w ∧ w ≤ 5000) : Impl Tryz.prog Amb 107 [(.int .i64 w), (.bnd fk [u1])] (.agg [(.bool (decide ((ka / 2 ^ 24) < 0))), (N ((ka / 2 ^ 24).natAbs)), (.bool (decide ((-(-kb / 2 ^ 24)) < 0))), (N ((-(-kb / 2 ^ 24)).natAbs))]) := by
  exact impl_ob hP hAmb Tryz.func107 (by kernel_rfl) (.loop ⟨[0, 1, 4, 5], 1, []⟩ ((fx_SettleB_0_mk fk u1 ka kb w (0 : Int))) (Int) (fx_SettleB_0_ex fk u1 ka kb w) (fx_SettleB_0_J fk u1 ka kb w) (fun y => .lit <| .ret))
    (cast_ob (aI True.intro (aI tT (aI (rfl : (fx_SettleB_0_mk fk u1 ka kb w (0 : Int)) = (fx_SettleB_0_mk fk u1 ka kb w (0 : Int))) (aI (fx_SettleB_0 fk u1 ka kb w c0 c1 c2 c3 (0 : Int) (show (0 : Int) = (0 : Int) from rfl)) (fun y (hJ : fx_SettleB_0_J fk u1 ka kb w y) => have hJ : y = y := hJ; (vsub_refl (.agg [(.bool (decide ((ka / 2 ^ 24) < 0))), (N ((ka / 2 ^ 24).natAbs)), (.bool (decide ((-(-kb / 2 ^ 24)) < 0))), (N ((-(-kb / 2 ^ 24)).natAbs))]))))))) (by kernel_rfl))
theorem ex_value0 (m : Int) (ee : Int) (w : Int) (lo : Int) (hi : Int) (c0 : L (m).natAbs ≤ 8000) (c1 : -4096 ≤ w ∧ w ≤ 4096) (c2 : Impl Tryz.prog Amb 94 [(yV (-m) ee), (.int .i64 (w + 1))] (.bool false)) (c3 : Impl Tryz.prog Amb 107 [(.int .i64 w), (.bnd 158 [(yV m ee)])] (.agg [(.bool (decide (lo < 0))), (N lo.natAbs), (.bool (decide (hi < 0))), (N hi.natAbs)])) : Impl Tryz.prog Amb 95 [(yV m ee), (.int .i64 w)] (.agg [(.bool (decide (lo < 0))), (N lo.natAbs), (.bool (decide (hi < 0))), (N hi.natAbs)]) := by
  exact impl_ob hP hAmb Tryz.func95 (by kernel_rfl) (.lits 2 <| .call (yV (-m) ee) <| .lit <| .yes <| .lit <| .call (.bool false) <| .lits 4 <| .call (.agg [(.bool (decide (lo < 0))), (N lo.natAbs), (.bool (decide (hi < 0))), (N hi.natAbs)]) <| .lits 2 <| .ret)
    (cast_ob (aI True.intro (aI (dy_Neg m ee oS) (have f1 := L_abs_neg m; aI (fits_i64 oS : (fits .i64 (w + 1)) = true) (aI (c2 ) (aI (c3 ) ((vsub_refl (.agg [(.bool (decide (lo < 0))), (N lo.natAbs), (.bool (decide (hi < 0))), (N hi.natAbs)])))))))) (by kernel_rfl))
theorem ex_Exp0 (m : Int) (ee : Int) (n : Int) (f : Int) (w : Int) (l1 : Int) (h1 : Int) (l2 : Int) (h2 : Int) (a1 : Int) (a2 : Int) (b1 : Int) (b2 : Int) (c0 : 0 ≤ w ∧ w ≤ 4096) (c1 : Impl Tryz.prog Amb 94 [(yV n f), (.int .i64 1000)] (.bool false)) (c2 : Impl Tryz.prog Amb 95 [(yV m ee), (.int .i64 w)] (.agg [(.bool (decide (l1 < 0))), (N l1.natAbs), (.bool (decide (h1 < 0))), (N h1.natAbs)])) (c3 : Impl Tryz.prog Amb 95 [(yV n f), (.int .i64 w)] (.agg [(.bool (decide (l2 < 0))), (N l2.natAbs), (.bool (decide (h2 < 0))), (N h2.natAbs)])) (c4 : Impl Tryz.prog Amb 78 [(zV l1), (.int .i64 ((0 : Int) - w))] (.tup [(yV a1 a2), (.int .i64 0)])) (c5 : Impl Tryz.prog Amb 78 [(zV h2), (.int .i64 ((0 : Int) - w))] (.tup [(yV b1 b2), (.int .i64 0)])) : Impl Tryz.prog Amb 31 [(wV m ee n f), (.int .i64 w)] (.tup [(wV a1 a2 b1 b2), (.int .i64 0)]) := by
  exact impl_ob hP hAmb Tryz.func31 (by kernel_rfl) (.lit <| .no <| .lits 3 <| .no <| .lits 2 <| .call (.bool false) <| .lits 3 <| .call (.agg [(.bool (decide (l1 < 0))), (N l1.natAbs), (.bool (decide (h1 < 0))), (N h1.natAbs)]) <| .lits 2 <| .yes <| .lit <| .call (.tup [(yV a1 a2), (.int .i64 0)]) <| .lits 3 <| .call (.agg [(.bool (decide (l2 < 0))), (N l2.natAbs), (.bool (decide (h2 < 0))), (N h2.natAbs)]) <| .lits 2 <| .yes <| .lit <| .call (.tup [(yV b1 b2), (.int .i64 0)]) <| .lits 12 <| .ret)
    (cast_ob (aI True.intro (aI (iLt_mkF oS : (iLt w 0) = false) (aI (iGt_mkF oS : (iGt w 4096) = false) (aI (c1 ) (aI (c2 ) (aI (fits_i64 oS : (fits .i64 ((0 : Int) - w)) = true) (aI (c4 ) (aI (c3 ) (aI (fits_i64 oS : (fits .i64 ((0 : Int) - w)) = true) (aI (c5 ) ((vsub_refl (.tup [(wV a1 a2 b1 b2), (.int .i64 0)]))))))))))))) (by kernel_rfl))
theorem ex_ExpA (m : Int) (ee : Int) (n : Int) (f : Int) (w : Int) (c0 : (-9223372036854775808 : Int) ≤ w ∧ w ≤ 9223372036854775807) (c1 : w < 0 ∨ 4096 < w) : Impl Tryz.prog Amb 31 [(wV m ee n f), (.int .i64 w)] (e0T 1) := by
  exact impl_ob hP hAmb Tryz.func31 (by kernel_rfl) (.lit <| .both (.lits 6 <| .ret) (.lits 3 <| .yes <| .lits 3 <| .ret))
    (cast_ob (aI True.intro (aI (fun (h1 : (iLt w 0) = true) => have _gh1 := iLt_t h1; (vsub_refl (e0T 1))) (fun (h2 : (iLt w 0) = false) => have _gh2 := iLt_f h2; aI (iGt_mk oO : (iGt w 4096) = true) ((vsub_refl (e0T 1)))))) (by kernel_rfl))
theorem ex_ExpL (m : Int) (ee : Int) (n : Int) (f : Int) (w : Int) (c0 : 0 ≤ w ∧ w ≤ 4096) (c1 : Impl Tryz.prog Amb 94 [(yV n f), (.int .i64 1000)] (.bool true)) : Impl Tryz.prog Amb 31 [(wV m ee n f), (.int .i64 w)] (e0T 3) := by
  exact impl_ob hP hAmb Tryz.func31 (by kernel_rfl) (.lit <| .no <| .lits 3 <| .no <| .lits 2 <| .call (.bool true) <| .lits 4 <| .ret)
    (cast_ob (aI True.intro (aI (iLt_mkF oS : (iLt w 0) = false) (aI (iGt_mkF oS : (iGt w 4096) = false) (aI (c1 ) ((vsub_refl (e0T 3))))))) (by kernel_rfl))
theorem l14_awake0 (a1 : Int) (a2 : Int) (b1 : Int) (b2 : Int) (m : Int) (ee : Int) (qq : Rat) (c0 : Impl Tryz.prog Amb 53 [(.int .i64 0), (.int .i64 0)] (wV (0 : Int) 0 (0 : Int) 0)) (c1 : Impl Tryz.prog Amb 31 [(wV (0 : Int) 0 (0 : Int) 0), (.int .i64 3)] (.tup [(wV a1 a2 b1 b2), (.int .i64 0)])) (c2 : Impl Tryz.prog Amb 53 [(.int .i64 2000), (.int .i64 2000)] (wV m ee m ee)) (c3 : Impl Tryz.prog Amb 31 [(wV m ee m ee), (.int .i64 3)] (e0T 3)) (c4 : Impl Tryz.prog Amb 58 [(.int .i64 1)] (.agg [(.bool (decide (qq.num < 0))), (N qq.num.natAbs), (N qq.den)])) (c5 : Impl Tryz.prog Amb 57 [(wV a1 a2 b1 b2), (.agg [(.bool (decide (qq.num < 0))), (N qq.num.natAbs), (N qq.den)])] (.bool true)) : Impl Tryz.prog Amb 29 [] (.bool true) := by
  exact impl_ob hP hAmb Tryz.func29 (by kernel_rfl) (.lit <| .call (wV (0 : Int) 0 (0 : Int) 0) <| .lit <| .call (.tup [(wV a1 a2 b1 b2), (.int .i64 0)]) <| .lits 2 <| .call (wV m ee m ee) <| .lit <| .call (e0T 3) <| .lits 10 <| .call (.agg [(.bool (decide (qq.num < 0))), (N qq.num.natAbs), (N qq.den)]) <| .lits 2 <| .call (.bool true) <| .lits 2 <| .ret)
    (cast_ob (aI True.intro (aI (c0 ) (aI (c1 ) (aI (c2 ) (aI (c3 ) (aI (c4 ) (aI (c5 ) ((vsub_refl (.bool true)))))))))) (by kernel_rfl))
theorem l14_of (a : Int) (b : Int) (c0 : (-9223372036854775808 : Int) ≤ a ∧ a ≤ 9223372036854775807) (c1 : (-9223372036854775808 : Int) ≤ b ∧ b ≤ 9223372036854775807) : Impl Tryz.prog Amb 53 [(.int .i64 a), (.int .i64 b)] (wV (mkM a 0) (mkX a 0) (mkM b 0) (mkX b 0)) := by
  exact impl_ob hP hAmb Tryz.func53 (by kernel_rfl) (.lit <| .call (yV (mkM a 0) (mkX a 0)) <| .lit <| .call (yV (mkM b 0) (mkX b 0)) <| .lits 3 <| .ret)
    (cast_ob (aI True.intro (aI (r08_Of a oO) (have f4 := (L_i64 oO : L (a : Int).natAbs ≤ 2); have f3 := mk_facts a 0; aI (r08_Of b oO) (have f2 := (L_i64 oO : L (b : Int).natAbs ≤ 2); have f1 := mk_facts b 0; (vsub_refl (wV (mkM a 0) (mkX a 0) (mkM b 0) (mkX b 0))))))) (by kernel_rfl))
end Go.Proofs.YtekcladflnieeaaGreatDoor

namespace Go.Proofs.YtekcladflnieeaaGreatDoor
open Go.RowKit
set_option maxRecDepth 100000
def ivM (b : Bool) (l : List Nat) (e : Int) (c : Bool) (r : List Nat) (f n k : Int) : Int := (swM (mkM (rawI b l n) (e % (2 * k + 1) - k)) (mkX (rawI b l n) (e % (2 * k + 1) - k)) (mkM (rawI c r n) (f % (2 * k + 1) - k)) (mkX (rawI c r n) (f % (2 * k + 1) - k)))
def ivX (b : Bool) (l : List Nat) (e : Int) (c : Bool) (r : List Nat) (f n k : Int) : Int := (swX (mkM (rawI b l n) (e % (2 * k + 1) - k)) (mkX (rawI b l n) (e % (2 * k + 1) - k)) (mkM (rawI c r n) (f % (2 * k + 1) - k)) (mkX (rawI c r n) (f % (2 * k + 1) - k)))
def ivN (b : Bool) (l : List Nat) (e : Int) (c : Bool) (r : List Nat) (f n k : Int) : Int := (swN (mkM (rawI b l n) (e % (2 * k + 1) - k)) (mkX (rawI b l n) (e % (2 * k + 1) - k)) (mkM (rawI c r n) (f % (2 * k + 1) - k)) (mkX (rawI c r n) (f % (2 * k + 1) - k)))
def ivF (b : Bool) (l : List Nat) (e : Int) (c : Bool) (r : List Nat) (f n k : Int) : Int := (swF (mkM (rawI b l n) (e % (2 * k + 1) - k)) (mkX (rawI b l n) (e % (2 * k + 1) - k)) (mkM (rawI c r n) (f % (2 * k + 1) - k)) (mkX (rawI c r n) (f % (2 * k + 1) - k)))
theorem iv_fit {b : Bool} {l : List Nat} {e : Int} {c : Bool} {r : List Nat} {f n k : Int} (hl : Dig l) (hr : Dig r) (hn : 0 ≤ n ∧ n ≤ 800) (hk : 0 ≤ k ∧ k ≤ 20000) : ((L (ivM b l e c r f n k).natAbs ≤ n ∧ -k ≤ (ivX b l e c r f n k) ∧ (ivX b l e c r f n k) ≤ k + 32 * n) ∧ (L (ivN b l e c r f n k).natAbs ≤ n ∧ -k ≤ (ivF b l e c r f n k) ∧ (ivF b l e c r f n k) ≤ k + 32 * n)) ∧ vdb (ivM b l e c r f n k) (ivX b l e c r f n k) = true ∧ vdb (ivN b l e c r f n k) (ivF b l e c r f n k) = true ∧ dv (ivM b l e c r f n k) (ivX b l e c r f n k) ≤ dv (ivN b l e c r f n k) (ivF b l e c r f n k) := by
  have h := rawI_fit (b := b) (c := c) (e := e) (f := f) hl hr hn hk rfl rfl rfl rfl
  exact ⟨⟨h.1, h.2.1⟩, h.2.2⟩
theorem mill_Iv (b : Bool) (l : List Nat) (e : Int) (c : Bool) (r : List Nat) (f n k : Int) (c0 : Dig l) (c1 : l.length ≤ 9223372036854775807) (c2 : Dig r) (c3 : r.length ≤ 9223372036854775807) (c4 : (-9223372036854775808 : Int) ≤ e ∧ e ≤ 9223372036854775807) (c5 : (-9223372036854775808 : Int) ≤ f ∧ f ≤ 9223372036854775807) (c6 : (0 : Int) ≤ n ∧ n ≤ 800) (c7 : (0 : Int) ≤ k ∧ k ≤ 20000) : Impl Tryz.prog Amb 23 [(.agg [(.bool b), (.sl 1 (U l)), (.int .i64 e), (.bool c), (.sl 1 (U r)), (.int .i64 f)]), (.int .i64 n), (.int .i64 k)] (.tup [(wV (ivM b l e c r f n k) (ivX b l e c r f n k) (ivN b l e c r f n k) (ivF b l e c r f n k)), (.bool (decide ((l.length : Int) ≤ n ∧ (r.length : Int) ≤ n)))]) :=
  mill_Interval b l e c r f n k c0 c1 c2 c3 c4 c5 c6 c7
theorem r10_Has (m : Int) (e : Int) (n : Int) (f : Int) (r : Rat) (c0 : L (m).natAbs ≤ 9000) (c1 : L (n).natAbs ≤ 9000) (c2 : (-65536 : Int) ≤ e ∧ e ≤ 65536) (c3 : (-65536 : Int) ≤ f ∧ f ≤ 65536) (c4 : vdb m e = true) (c5 : vdb n f = true) (c6 : L r.num.natAbs ≤ 6000) (c7 : L r.den ≤ 6000) : Impl Tryz.prog Amb 57 [(wV m e n f), (.agg [(.bool (decide (r.num < 0))), (N r.num.natAbs), (N r.den)])] (.bool (decide (cmpQ (dv m e) r ≤ 0 ∧ cmpQ r (dv n f) ≤ 0))) := by
  exact impl_ob hP hAmb Tryz.func57 (by kernel_rfl) (.lits 2 <| .call (.agg [(.bool (decide ((dv m e).num < 0))), (N (((dv m e).num).natAbs)), (N ((dv m e).den))]) <| .lits 2 <| .call (.int .i64 (cmpQ (dv m e) r)) <| .lit <| .both (.lits 6 <| .call (.agg [(.bool (decide ((dv n f).num < 0))), (N (((dv n f).num).natAbs)), (N ((dv n f).den))]) <| .lits 2 <| .call (.int .i64 (cmpQ r (dv n f))) <| .lits 4 <| .ret) (.lits 7 <| .ret))
    (cast_ob (aI True.intro (aI (r08_Rat m e oA oA oA) (have f6 := (dv_L ‹vdb m e = true› oA : L (dv m e).num.natAbs ≤ L (m).natAbs + 2050 ∧ L (dv m e).den ≤ 2050); aI (r07_Cmp (dv m e) r oA oA oA oA) (have f5 := cmpQ_range (dv m e) r; aI (fun (h1 : (iLe (cmpQ (dv m e) r) 0) = true) => have _gh1 := iLe_t h1; aI (r08_Rat n f oA oA oA) (have f3 := (dv_L ‹vdb n f = true› oA : L (dv n f).num.natAbs ≤ L (n).natAbs + 2050 ∧ L (dv n f).den ≤ 2050); aI (r07_Cmp r (dv n f) oA oA oA oA) (have f2 := cmpQ_range r (dv n f); (vsub_of (congrArg V.bool (has_1 oO)) : vsub (.bool (iLe (cmpQ r (dv n f)) 0)) (.bool (decide (cmpQ (dv m e) r ≤ 0 ∧ cmpQ r (dv n f) ≤ 0))))))) (fun (h4 : (iLe (cmpQ (dv m e) r) 0) = false) => have _gh4 := iLe_f h4; (vsub_of (congrArg V.bool ((decide_eq_false oO).symm)) : vsub (.bool false) (.bool (decide (cmpQ (dv m e) r ≤ 0 ∧ cmpQ r (dv n f) ≤ 0))))))))) (by kernel_rfl))
end Go.Proofs.YtekcladflnieeaaGreatDoor

namespace Go.Proofs.YtekcladflnieeaaGreatDoor
open Go.RowKit
set_option maxRecDepth 100000
set_option maxHeartbeats 2000000
theorem flr0 {s : Int} (h : 0 ≤ s) : flr (dv 0 0) s = 0 ∧ cei (dv 0 0) s = 0 := by
  have z := of_ge (m := 0) (e := 0) (s := s) oO
  rw [Int.zero_mul] at z
  exact ⟨z.1.symm, z.2.symm⟩
theorem of0 (s : Int) (h : 0 ≤ s ∧ s ≤ 20000) : Impl Tryz.prog Amb 105 [(yV (0 : Int) 0), (.int .i64 s)] (.agg [(.bool (decide ((0 : Int) < 0))), (N ((0 : Int).natAbs)), (.bool (decide ((0 : Int) < 0))), (N ((0 : Int).natAbs))]) := by
  have a := fx_Of 0 0 s (by simp [L_zero]) oO h
  rw [(flr0 h.1).1, (flr0 h.1).2] at a
  exact a
theorem expo_aw : Impl Tryz.prog Amb 242 [(.agg [(.bool (decide ((1560828692041339 : Int) < 0))), (N ((1560828692041339 : Int).natAbs)), (.bool (decide ((1560828692041340 : Int) < 0))), (N ((1560828692041340 : Int).natAbs))]), (.int .i64 51)] (.agg [(.bool (decide ((4503599627370494 : Int) < 0))), (N ((4503599627370494 : Int).natAbs)), (.bool (decide ((4503599627370497 : Int) < 0))), (N ((4503599627370497 : Int).natAbs))]) :=
  impl_eq (by kernel_rfl) (fx_expG 1560828692041339 1560828692041340 51 8 6703708186976006485049344 6703708186976010780016640 26186360105375025332224 26186360105375042109440 9697628400215167260647547 9697628400215167277470259 8 oO oO (by intro i a b; rcases (show i = 4 ∨ i = 5 ∨ i = 6 ∨ i = 7 by omega) with rfl | rfl | rfl | rfl <;> decide) (by decide) oO
    (Nat.le_trans (L500 (of_decide_eq_true (by kernel_rfl))) oO) (Nat.le_trans (L500 (of_decide_eq_true (by kernel_rfl))) oO) (by kernel_rfl) (by kernel_rfl) (by kernel_rfl) (by kernel_rfl) (Nat.le_trans (L500 (of_decide_eq_true (by kernel_rfl))) oO) (Nat.le_trans (L500 (of_decide_eq_true (by kernel_rfl))) oO)
    (by kernel_rfl) (by kernel_rfl) (by kernel_rfl) (by kernel_rfl))
theorem L_c {x : Int} (h : x.natAbs < 2 ^ 500) : L x.natAbs ≤ 3000 := Nat.le_trans (L500 h) oO
theorem exp_aw : Impl Tryz.prog Amb 217 [(yV (0 : Int) 0), (.int .i64 27)] (.agg [(.bool (decide ((134217727 : Int) < 0))), (N ((134217727 : Int).natAbs)), (.bool (decide ((134217729 : Int) < 0))), (N ((134217729 : Int).natAbs))]) := by
  have n0 : (Int.fdiv (((0 + 0) * 2 ^ 1) + ((lnLo 32) + (lnHi 32))) (((lnLo 32) + (lnHi 32)) * 2 ^ 1)) = 0 := by kernel_rfl
  have hN := fx_Nearest 0 0 (lnLo 32) (lnHi 32) (by simp [L_zero]) (by simp [L_zero]) (L_c (of_decide_eq_true (by kernel_rfl))) (L_c (of_decide_eq_true (by kernel_rfl))) (of_decide_eq_true (by kernel_rfl)) (by rw [n0]; omega)
  rw [n0] at hN
  exact fx_Exp_aw (lnLo 32) (lnHi 32) (lnLo 67) (lnHi 67) (tmLo (lnLo 67) (lnHi 67) (-1)) (tmHi (lnLo 67) (lnHi 67) (-1)) _ _ 1560828692041339 1560828692041340 4503599627370494 4503599627370497 134217727 134217729 (of0 32 oO) (fx_Ln2 32 oO) hN (of0 67 oO) (fx_Ln2 67 oO)
    (fx_TimesA (lnLo 67) (lnHi 67) (-1) (Nat.le_trans (L_c (of_decide_eq_true (by kernel_rfl))) oO) (Nat.le_trans (L_c (of_decide_eq_true (by kernel_rfl))) oO) oO)
    (fx_Sub 0 0 (tmLo (lnLo 67) (lnHi 67) (-1)) (tmHi (lnLo 67) (lnHi 67) (-1)) (by simp [L_zero]) (by simp [L_zero]) (Nat.le_trans (L_c (of_decide_eq_true (by kernel_rfl))) oO) (Nat.le_trans (L_c (of_decide_eq_true (by kernel_rfl))) oO))
    (impl_eq (by kernel_rfl) (fx_Half (0 + -(tmHi (lnLo 67) (lnHi 67) (-1))) (0 + -(tmLo (lnLo 67) (lnHi 67) (-1))) 16 (Nat.le_trans (L_c (of_decide_eq_true (by kernel_rfl))) oO) (Nat.le_trans (L_c (of_decide_eq_true (by kernel_rfl))) oO) oO))
    expo_aw (impl_eq (by kernel_rfl) (fx_Half 4503599627370494 4503599627370497 25 (Nat.le_trans (L_c (of_decide_eq_true (by kernel_rfl))) oO) (Nat.le_trans (L_c (of_decide_eq_true (by kernel_rfl))) oO) oO))
theorem value_aw : Impl Tryz.prog Amb 95 [(yV (0 : Int) 0), (.int .i64 3)] (.agg [(.bool (decide ((7 : Int) < 0))), (N ((7 : Int).natAbs)), (.bool (decide ((9 : Int) < 0))), (N ((9 : Int).natAbs))]) :=
  ex_value0 0 0 3 7 9 (by simp [L_zero]) oO (impl_eq (by kernel_rfl) (ex_beyond (-0) 0 (3 + 1) (by simp [L_zero]) oO oO))
    (impl_eq (by kernel_rfl) (fx_SettleB 158 (yV (0 : Int) 0) 134217727 134217729 3 (ex_at 0 0 (3 + 24) 134217727 134217729 exp_aw) ⟨Nat.le_trans (L_c (of_decide_eq_true (by kernel_rfl))) oO, Nat.le_trans (L_c (of_decide_eq_true (by kernel_rfl))) oO⟩ (of_decide_eq_true (by kernel_rfl)) oO))
theorem l14_awake : Impl Tryz.prog Amb 29 [] (.bool true) := by
  have one := r07_Of 1 oO
  have hE : Impl Tryz.prog Amb 31 [(wV (0 : Int) 0 (0 : Int) 0), (.int .i64 3)] (.tup [(wV (mkM 7 (0 - 3)) (mkX 7 (0 - 3)) (mkM 9 (0 - 3)) (mkX 9 (0 - 3))), (.int .i64 0)]) :=
    ex_Exp0 0 0 0 0 3 7 9 7 9 _ _ _ _ oO (impl_eq (by kernel_rfl) (ex_beyond 0 0 1000 (by simp [L_zero]) oO oO)) value_aw value_aw
      (impl_eq (by kernel_rfl) (dy_Make 7 (0 - 3) (Nat.le_trans (L_c (of_decide_eq_true (by kernel_rfl))) oO) oO)) (impl_eq (by kernel_rfl) (dy_Make 9 (0 - 3) (Nat.le_trans (L_c (of_decide_eq_true (by kernel_rfl))) oO) oO))
  have f2 := of_fit (n := 2000) oO
  exact l14_awake0 _ _ _ _ (mkM 2000 0) (mkX 2000 0) _ (impl_eq (by kernel_rfl) (l14_of 0 0 oO oO)) hE (l14_of 2000 2000 oO oO)
    (ex_ExpL _ _ _ _ 3 oO (impl_eq (by kernel_rfl) (ex_beyond (mkM 2000 0) (mkX 2000 0) 1000 oO oO oO))) one
    (impl_eq (by kernel_rfl) (r10_Has (mkM 7 (0 - 3)) (mkX 7 (0 - 3)) (mkM 9 (0 - 3)) (mkX 9 (0 - 3)) ((1 : Int) : Rat) (Nat.le_trans (L_c (of_decide_eq_true (by kernel_rfl))) oO) (Nat.le_trans (L_c (of_decide_eq_true (by kernel_rfl))) oO) (of_decide_eq_true (by kernel_rfl)) (of_decide_eq_true (by kernel_rfl)) (by kernel_rfl) (by kernel_rfl) (Nat.le_trans (q_ofL (n := 1) oO).1 oO) (Nat.le_trans (q_ofL (n := 1) oO).2 oO)))
end Go.Proofs.YtekcladflnieeaaGreatDoor


namespace Go.Proofs.YtekcladflnieeaaGreatDoor
open Go.RowKit
set_option maxRecDepth 100000
set_option maxHeartbeats 2000000
def shx (m e : Int) (j : Nat) : Int := if m = 0 then 0 else e - 20 * (j : Int)
theorem l14_argF (b1 : Bool) (l1 : List Nat) (e1 : Int) (b2 : Bool) (l2 : List Nat) (e2 : Int) (fa : Int) (m : Int) (ee : Int) (n : Int) (f : Int) (c0 : Impl Tryz.prog Amb 23 [(.agg [(.bool b1), (.sl 1 (U l1)), (.int .i64 e1), (.bool b2), (.sl 1 (U l2)), (.int .i64 e2)]), (.int .i64 2), (.int .i64 40)] (.tup [(wV m ee n f), (.bool false)])) : Impl Tryz.prog Amb 30 [(.agg [(.bool b1), (.sl 1 (U l1)), (.int .i64 e1), (.bool b2), (.sl 1 (U l2)), (.int .i64 e2)]), (.int .i64 fa)] (.tup [(wV m ee n f), (.bool false)]) := by
  exact impl_ob hP hAmb Tryz.func30 (by kernel_rfl) (.lits 2 <| .call (.tup [(wV m ee n f), (.bool false)]) <| .lits 6 <| .ret)
    (cast_ob (aI True.intro (aI (c0 ) ((vsub_refl (.tup [(wV m ee n f), (.bool false)]))))) (by kernel_rfl))
def l14_arg_0_mk (b1 : Bool) (l1 : List Nat) (e1 : Int) (b2 : Bool) (l2 : List Nat) (e2 : Int) (fa m ee n f : Int) (_ : Nat) (x : Nat) : St := ⟨mkS 43 [(1, (.val (.int .i64 fa))), (4, (.own 1 0)), (6, (.own 2 0))], [⟨true, false, [(V.bool b1), (V.sl 1 (U l1)), (V.int .i64 e1), (V.bool b2), (V.sl 1 (U l2)), (V.int .i64 e2)]⟩, ⟨true, false, [(V.bool false), V.nil, (V.int .i64 0), (V.bool false), V.nil, (V.int .i64 0)]⟩, ⟨true, false, [(V.bool (decide (m < 0))), (N m.natAbs), (V.int .i64 (shx m ee x)), (V.bool (decide (n < 0))), (N n.natAbs), (V.int .i64 (shx n f x))]⟩]⟩
def l14_arg_0_I (_ : Bool) (_ : List Nat) (_ : Int) (_ : Bool) (_ : List Nat) (_ : Int) (_ _ _ _ _ : Int) (nn : Nat) (x : Nat) : Prop := x ≤ nn
def l14_arg_0_mu (_ : Bool) (_ : List Nat) (_ : Int) (_ : Bool) (_ : List Nat) (_ : Int) (_ _ _ _ _ : Int) (nn : Nat) (x : Nat) : Nat := nn - x
def l14_arg_0_ex (b1 : Bool) (l1 : List Nat) (e1 : Int) (b2 : Bool) (l2 : List Nat) (e2 : Int) (_ m ee n f : Int) (_ : Nat) (y : Nat) : Ex × St := (.exit 0, ⟨mkS 43 [(4, (.own 1 0)), (6, (.own 2 0))], [⟨true, false, [(V.bool b1), (V.sl 1 (U l1)), (V.int .i64 e1), (V.bool b2), (V.sl 1 (U l2)), (V.int .i64 e2)]⟩, ⟨true, false, [(V.bool false), V.nil, (V.int .i64 0), (V.bool false), V.nil, (V.int .i64 0)]⟩, ⟨true, false, [(V.bool (decide (m < 0))), (N m.natAbs), (V.int .i64 (shx m ee y)), (V.bool (decide (n < 0))), (N n.natAbs), (V.int .i64 (shx n f y))]⟩]⟩)
def l14_arg_0_J (_ : Bool) (_ : List Nat) (_ : Int) (_ : Bool) (_ : List Nat) (_ : Int) (_ _ _ _ _ : Int) (nn : Nat) (y : Nat) : Prop := y = nn
abbrev l14_arg_0_N (b1 : Bool) (l1 : List Nat) (e1 : Int) (b2 : Bool) (l2 : List Nat) (e2 : Int) (fa m ee n f : Int) (nn : Nat) := NX (l14_arg_0_mk b1 l1 e1 b2 l2 e2 fa m ee n f nn) (l14_arg_0_I b1 l1 e1 b2 l2 e2 fa m ee n f nn) (l14_arg_0_mu b1 l1 e1 b2 l2 e2 fa m ee n f nn) (l14_arg_0_ex b1 l1 e1 b2 l2 e2 fa m ee n f nn) (l14_arg_0_J b1 l1 e1 b2 l2 e2 fa m ee n f nn)
theorem l14_arg_0 (b1 : Bool) (l1 : List Nat) (e1 : Int) (b2 : Bool) (l2 : List Nat) (e2 : Int) (fa m ee n f : Int) (nn : Nat) (c0 : nn ≤ 100)(c1 : ∀ j, j ≤ nn → (j = nn ↔ (topD m (shx m ee j)) ≤ fa ∧ (topD n (shx n f j)) ≤ fa))(c2 : ∀ j, j ≤ nn → Impl Tryz.prog Amb 37 [(yV m (shx m ee j))] (.int .i64 (topD m (shx m ee j))))(c3 : ∀ j, j ≤ nn → Impl Tryz.prog Amb 37 [(yV n (shx n f j))] (.int .i64 (topD n (shx n f j))))(c4 : ∀ j, j < nn → Impl Tryz.prog Amb 22 [(yV m (shx m ee j)), (.int .i64 (-20))] (.tup [(yV m (shx m ee (j + 1))), (.int .i64 0)]))(c5 : ∀ j, j < nn → Impl Tryz.prog Amb 22 [(yV n (shx n f j)), (.int .i64 (-20))] (.tup [(yV n (shx n f (j + 1))), (.int .i64 0)])) (x0 : Nat) (hI : l14_arg_0_I b1 l1 e1 b2 l2 e2 fa m ee n f nn x0) : LoopOk Tryz.prog Amb (loopN Tryz.f30 0) (l14_arg_0_mk b1 l1 e1 b2 l2 e2 fa m ee n f nn x0) (fun e st_ => ∃ y, l14_arg_0_J b1 l1 e1 b2 l2 e2 fa m ee n f nn y ∧ l14_arg_0_ex b1 l1 e1 b2 l2 e2 fa m ee n f nn y = (e, st_)) :=
  loop_ob hP hAmb ⟨[1, 4, 6], 3, []⟩ (l14_arg_0_mk b1 l1 e1 b2 l2 e2 fa m ee n f nn) (l14_arg_0_I b1 l1 e1 b2 l2 e2 fa m ee n f nn) (l14_arg_0_mu b1 l1 e1 b2 l2 e2 fa m ee n f nn) (l14_arg_0_ex b1 l1 e1 b2 l2 e2 fa m ee n f nn) (l14_arg_0_J b1 l1 e1 b2 l2 e2 fa m ee n f nn) x0 hI (fun j => .lits 2 <| .call (.int .i64 (topD m (shx m ee j))) <| .lit <| .both (.lits 8 <| .call (.tup [(yV m (shx m ee (j + 1))), (.int .i64 0)]) <| .lits 3 <| .call (.tup [(yV n (shx n f (j + 1))), (.int .i64 0)]) <| .lit <| .fin2 ⟨[1, 4, 6], 3, []⟩) (.lits 4 <| .call (.int .i64 (topD n (shx n f j))) <| .lits 4 <| .both (.lits 2 <| .call (.tup [(yV m (shx m ee (j + 1))), (.int .i64 0)]) <| .lits 3 <| .call (.tup [(yV n (shx n f (j + 1))), (.int .i64 0)]) <| .lit <| .fin2 ⟨[1, 4, 6], 3, []⟩) (.fin2 ⟨[4, 6], 3, []⟩))) (by
    rintro j hI
    have hI : j ≤ nn := hI
    have h1 := hI
    have q := c1 j h1
    exact cast_ob (aI True.intro (aI (c2 j h1 ) (aI (fun (h101 : (iGt (topD m (shx m ee j)) fa) = true) => have _gh101 := iGt_t h101; aI (c4 j oO ) (aI (c5 j oO ) (aI tT ((nx_next (j + 1) (show (j + 1) ≤ nn from show j + 1 ≤ nn by omega) (show nn - (j + 1) < nn - j by omega) : l14_arg_0_N b1 l1 e1 b2 l2 e2 fa m ee n f nn j .normal (l14_arg_0_mk b1 l1 e1 b2 l2 e2 fa m ee n f nn (j + 1))))))) (fun (h102 : (iGt (topD m (shx m ee j)) fa) = false) => have _gh102 := iGt_f h102; aI (c3 j h1 ) (aI (fun (h103 : (iGt (topD n (shx n f j)) fa) = true) => have _gh103 := iGt_t h103; aI (c4 j oO ) (aI (c5 j oO ) (aI tT ((nx_next (j + 1) (show (j + 1) ≤ nn from show j + 1 ≤ nn by omega) (show nn - (j + 1) < nn - j by omega) : l14_arg_0_N b1 l1 e1 b2 l2 e2 fa m ee n f nn j .normal (l14_arg_0_mk b1 l1 e1 b2 l2 e2 fa m ee n f nn (j + 1))))))) (fun (h104 : (iGt (topD n (shx n f j)) fa) = false) => have _gh104 := iGt_f h104; aI tT ((nx_exit 0 ((l14_arg_0_ex b1 l1 e1 b2 l2 e2 fa m ee n f nn j).2) j (show j = nn from show j = nn by omega) rfl : l14_arg_0_N b1 l1 e1 b2 l2 e2 fa m ee n f nn j (.exit 0) ((l14_arg_0_ex b1 l1 e1 b2 l2 e2 fa m ee n f nn j).2))))))))) (by kernel_rfl))
theorem l14_argT (b1 : Bool) (l1 : List Nat) (e1 : Int) (b2 : Bool) (l2 : List Nat) (e2 : Int) (fa : Int) (m : Int) (ee : Int) (n : Int) (f : Int) (nn : Nat) (c0 : Impl Tryz.prog Amb 23 [(.agg [(.bool b1), (.sl 1 (U l1)), (.int .i64 e1), (.bool b2), (.sl 1 (U l2)), (.int .i64 e2)]), (.int .i64 2), (.int .i64 40)] (.tup [(wV m (shx m ee 0) n (shx n f 0)), (.bool true)])) (c1 : nn ≤ 100) (c2 : ∀ j, j ≤ nn → (j = nn ↔ (topD m (shx m ee j)) ≤ fa ∧ (topD n (shx n f j)) ≤ fa)) (c3 : ∀ j, j ≤ nn → Impl Tryz.prog Amb 37 [(yV m (shx m ee j))] (.int .i64 (topD m (shx m ee j)))) (c4 : ∀ j, j ≤ nn → Impl Tryz.prog Amb 37 [(yV n (shx n f j))] (.int .i64 (topD n (shx n f j)))) (c5 : ∀ j, j < nn → Impl Tryz.prog Amb 22 [(yV m (shx m ee j)), (.int .i64 (-20))] (.tup [(yV m (shx m ee (j + 1))), (.int .i64 0)])) (c6 : ∀ j, j < nn → Impl Tryz.prog Amb 22 [(yV n (shx n f j)), (.int .i64 (-20))] (.tup [(yV n (shx n f (j + 1))), (.int .i64 0)])) : Impl Tryz.prog Amb 30 [(.agg [(.bool b1), (.sl 1 (U l1)), (.int .i64 e1), (.bool b2), (.sl 1 (U l2)), (.int .i64 e2)]), (.int .i64 fa)] (.tup [(wV m (shx m ee nn) n (shx n f nn)), (.bool true)]) := by
  exact impl_ob hP hAmb Tryz.func30 (by kernel_rfl) (.lits 2 <| .call (.tup [(wV m (shx m ee 0) n (shx n f 0)), (.bool true)]) <| .lits 3 <| .loop ⟨[1, 4, 6], 3, []⟩ ((l14_arg_0_mk b1 l1 e1 b2 l2 e2 fa m ee n f nn 0)) (Nat) (l14_arg_0_ex b1 l1 e1 b2 l2 e2 fa m ee n f nn) (l14_arg_0_J b1 l1 e1 b2 l2 e2 fa m ee n f nn) (fun y => .lits 3 <| .ret))
    (cast_ob (aI True.intro (aI (c0 ) (aI tT (aI (rfl : (l14_arg_0_mk b1 l1 e1 b2 l2 e2 fa m ee n f nn 0) = (l14_arg_0_mk b1 l1 e1 b2 l2 e2 fa m ee n f nn 0)) (aI (l14_arg_0 b1 l1 e1 b2 l2 e2 fa m ee n f nn c1 c2 c3 c4 c5 c6 0 (show 0 ≤ nn from Nat.zero_le _)) (fun y (hJ : l14_arg_0_J b1 l1 e1 b2 l2 e2 fa m ee n f nn y) => have hJ : y = nn := hJ; (by rw [show y = nn from hJ]; exact vsub_refl _ : vsub (.tup [(wV m (shx m ee y) n (shx n f y)), (.bool true)]) (.tup [(wV m (shx m ee nn) n (shx n f nn)), (.bool true)])))))))) (by kernel_rfl))
theorem l14_EndsF (b1 : Bool) (l1 : List Nat) (e1 : Int) (b2 : Bool) (l2 : List Nat) (e2 : Int) (kk : Int) (w : Int) (m : Int) (ee : Int) (n : Int) (f : Int) (u1 : Int) (u2 : Int) (v1 : Int) (v2 : Int) (s1 : Int) (s2 : Int) (h1 : Int) (h2 : Int) (p : Int) (q : Int) (c0 : Impl Tryz.prog Amb 29 [] (.bool true)) (c1 : (-9223372036854775808 : Int) ≤ kk ∧ kk ≤ 9223372036854775807) (c2 : (-9223372036854775808 : Int) ≤ w ∧ w ≤ 9223372036854775807) (c3 : Impl Tryz.prog Amb 30 [(.agg [(.bool b1), (.sl 1 (U l1)), (.int .i64 e1), (.bool b2), (.sl 1 (U l2)), (.int .i64 e2)]), (.int .i64 8)] (.tup [(wV m ee n f), (.bool false)])) : Impl Tryz.prog Amb 8 [(.agg [(.bool b1), (.sl 1 (U l1)), (.int .i64 e1), (.bool b2), (.sl 1 (U l2)), (.int .i64 e2)]), (.int .i64 kk), (.int .i64 w)] (.bool true) := by
  exact impl_ob hP hAmb Tryz.func8 (by kernel_rfl) (.lit <| .call (.bool true) <| .lits 4 <| .call (.tup [(wV m ee n f), (.bool false)]) <| .lits 4 <| .ret)
    (cast_ob (aI True.intro (aI (c0 ) (aI (c3 ) ((vsub_refl (.bool true)))))) (by kernel_rfl))
theorem l14_EndsT (b1 : Bool) (l1 : List Nat) (e1 : Int) (b2 : Bool) (l2 : List Nat) (e2 : Int) (kk : Int) (w : Int) (m : Int) (ee : Int) (n : Int) (f : Int) (u1 : Int) (u2 : Int) (v1 : Int) (v2 : Int) (s1 : Int) (s2 : Int) (h1 : Int) (h2 : Int) (p : Int) (q : Int) (c0 : Impl Tryz.prog Amb 29 [] (.bool true)) (c1 : (-9223372036854775808 : Int) ≤ kk ∧ kk ≤ 9223372036854775807) (c2 : (-9223372036854775808 : Int) ≤ w ∧ w ≤ 9223372036854775807) (c3 : Impl Tryz.prog Amb 30 [(.agg [(.bool b1), (.sl 1 (U l1)), (.int .i64 e1), (.bool b2), (.sl 1 (U l2)), (.int .i64 e2)]), (.int .i64 8)] (.tup [(wV m ee n f), (.bool true)])) (c4 : Impl Tryz.prog Amb 31 [(wV m ee n f), (.int .i64 ((-1) - (w % 5)))] (.tup [(.agg [(.bool false), .nil, (.int .i64 0), (.bool false), .nil, (.int .i64 0)]), (.int .i64 1)])) (c5 : Impl Tryz.prog Amb 31 [(wV m ee n f), (.int .i64 ((4097 : Int) + (w % 5)))] (.tup [(.agg [(.bool false), .nil, (.int .i64 0), (.bool false), .nil, (.int .i64 0)]), (.int .i64 1)])) (c6 : Impl Tryz.prog Amb 34 [(.int .i64 1)] (yV u1 u2)) (c7 : Impl Tryz.prog Amb 33 [(zV u1), (.int .i64 ((0 : Int) - (kk % 60)))] (.tup [(yV v1 v2), (.int .i64 p)])) (c8 : Impl Tryz.prog Amb 34 [(.int .i64 1000)] (yV s1 s2)) (c9 : Impl Tryz.prog Amb 35 [(yV s1 s2), (yV v1 v2)] (.tup [(yV h1 h2), (.int .i64 q)])) (c10 : Impl Tryz.prog Amb 31 [(wV m ee h1 h2), (.int .i64 (w % 40))] (.tup [(.agg [(.bool false), .nil, (.int .i64 0), (.bool false), .nil, (.int .i64 0)]), (.int .i64 3)])) (c11 : Impl Tryz.prog Amb 36 [(.agg [(.bool false), .nil, (.int .i64 0), (.bool false), .nil, (.int .i64 0)]), (.agg [(.bool false), .nil, (.int .i64 0), (.bool false), .nil, (.int .i64 0)])] (.bool true)) : Impl Tryz.prog Amb 8 [(.agg [(.bool b1), (.sl 1 (U l1)), (.int .i64 e1), (.bool b2), (.sl 1 (U l2)), (.int .i64 e2)]), (.int .i64 kk), (.int .i64 w)] (.bool true) := by
  exact impl_ob hP hAmb Tryz.func8 (by kernel_rfl) (.lit <| .call (.bool true) <| .lits 4 <| .call (.tup [(wV m ee n f), (.bool true)]) <| .lits 5 <| .call (.int .i64 (w % 5)) <| .lit <| .yes <| .lit <| .call (.tup [(.agg [(.bool false), .nil, (.int .i64 0), (.bool false), .nil, (.int .i64 0)]), (.int .i64 1)]) <| .lits 2 <| .call (.int .i64 (w % 5)) <| .lit <| .yes <| .lit <| .call (.tup [(.agg [(.bool false), .nil, (.int .i64 0), (.bool false), .nil, (.int .i64 0)]), (.int .i64 1)]) <| .lit <| .call (yV u1 u2) <| .lits 2 <| .call (.int .i64 (kk % 60)) <| .lit <| .yes <| .lit <| .call (.tup [(yV v1 v2), (.int .i64 p)]) <| .lits 2 <| .call (yV s1 s2) <| .lits 2 <| .call (.tup [(yV h1 h2), (.int .i64 q)]) <| .lits 4 <| .call (.int .i64 (w % 40)) <| .lit <| .call (.tup [(.agg [(.bool false), .nil, (.int .i64 0), (.bool false), .nil, (.int .i64 0)]), (.int .i64 3)]) <| .lits 15 <| .call (.bool true) <| .lits 2 <| .ret)
    (cast_ob (aI True.intro (aI (c0 ) (aI (c3 ) (aI (mill_Mod w 5 oS oS) (have f8 := Int.emod_lt_of_pos w (show (0 : Int) < 5 by first | omega | assumption); have f7 := Int.emod_nonneg w (show (5 : Int) ≠ 0 by first | omega | assumption); aI (fits_i64 oS : (fits .i64 ((-1) - (w % 5))) = true) (aI (c4 ) (aI (mill_Mod w 5 oS oS) (have f6 := Int.emod_lt_of_pos w (show (0 : Int) < 5 by first | omega | assumption); have f5 := Int.emod_nonneg w (show (5 : Int) ≠ 0 by first | omega | assumption); aI (fits_i64 oS : (fits .i64 ((4097 : Int) + (w % 5))) = true) (aI (c5 ) (aI (c6 ) (aI (mill_Mod kk 60 oS oS) (have f4 := Int.emod_lt_of_pos kk (show (0 : Int) < 60 by first | omega | assumption); have f3 := Int.emod_nonneg kk (show (60 : Int) ≠ 0 by first | omega | assumption); aI (fits_i64 oS : (fits .i64 ((0 : Int) - (kk % 60))) = true) (aI (c7 ) (aI (c8 ) (aI (c9 ) (aI (mill_Mod w 40 oS oS) (have f2 := Int.emod_lt_of_pos w (show (0 : Int) < 40 by first | omega | assumption); have f1 := Int.emod_nonneg w (show (40 : Int) ≠ 0 by first | omega | assumption); aI (c10 ) (aI (c11 ) ((vsub_refl (.bool true))))))))))))))))))))) (by kernel_rfl))
end Go.Proofs.YtekcladflnieeaaGreatDoor

namespace Go.Proofs.YtekcladflnieeaaGreatDoor
open Go.RowKit
set_option maxRecDepth 100000
set_option maxHeartbeats 2000000
theorem shx_fit {m e : Int} (hm : L m.natAbs ≤ 2) (he : -40 ≤ e ∧ e ≤ 104) {j : Nat} (hj : j ≤ 20) : -440 ≤ shx m e j ∧ shx m e j ≤ 104 := by
  unfold shx; split <;> omega
theorem shx_step {m e : Int} (hv : vdb m e = true) (hm : L m.natAbs ≤ 2) (he : -40 ≤ e ∧ e ≤ 104) {j : Nat} (hj : j ≤ 20) : Impl Tryz.prog Amb 22 [(yV m (shx m e j)), (.int .i64 (-20))] (.tup [(yV m (shx m e (j + 1))), (.int .i64 0)]) := by
  have f := shx_fit hm he hj
  have h := r08_Shift m (shx m e j) (-20) oO oO oO
  have key : mkM m (shx m e j + -20) = m ∧ mkX m (shx m e j + -20) = shx m e (j + 1) ∧ mkE m (shx m e j + -20) = 0 := by
    by_cases hz : m = 0
    · subst hz
      have := mk_r2 (m := 0) (e := shx 0 e j + -20) oO rfl
      exact ⟨this.1, this.2.1, this.2.2⟩
    · have s : shx m e j + -20 = shx m e (j + 1) := by unfold shx; rw [if_neg hz, if_neg hz]; omega
      rw [s]
      refine mk_valid ?_
      rcases vdb_iff.1 hv with q | q
      · exact absurd q.1 hz
      · exact vdb_iff.2 (.inr ⟨hz, q.2.1, by omega, by omega, q.2.2.2.2⟩)
  rw [key.1, key.2.1, key.2.2] at h
  exact h
theorem shx_zero {m e : Int} (hv : vdb m e = true) : shx m e 0 = e := by
  unfold shx
  split
  · rename_i h
    rcases vdb_iff.1 hv with q | q
    · exact q.2.symm
    · exact absurd h q.1
  · omega
theorem top_down {m e : Int} (hm : L m.natAbs ≤ 2) (he : -40 ≤ e ∧ e ≤ 104) : topD m (shx m e 20) ≤ 0 := by
  by_cases hz : m = 0
  · subst hz
    unfold topD
    rw [if_pos rfl]; omega
  · have s : shx m e 20 = e - 400 := by unfold shx; rw [if_neg hz]; omega
    rw [s]
    have r := topD_range m (e - 400)
    omega
theorem arg_rounds {m ee n f fa : Int} (hm : L m.natAbs ≤ 2) (hn : L n.natAbs ≤ 2) (he : -40 ≤ ee ∧ ee ≤ 104) (hf : -40 ≤ f ∧ f ≤ 104) (hfa : 0 ≤ fa) :
    ∃ nn, nn ≤ 20 ∧ ∀ j, j ≤ nn → (j = nn ↔ topD m (shx m ee j) ≤ fa ∧ topD n (shx n f j) ≤ fa) := by
  have t1 := top_down (m := m) hm he
  have t2 := top_down (m := n) hn hf
  obtain ⟨nn, h1, h2, h3⟩ := least (P := fun j => topD m (shx m ee j) ≤ fa ∧ topD n (shx n f j) ≤ fa) (n := 20) ⟨by omega, by omega⟩
  refine ⟨nn, h1, fun j hj => ⟨fun q => by rw [q]; exact h2, fun q => ?_⟩⟩
  exact Decidable.byContradiction fun hn => h3 j oO q
theorem l14_argE (b1 : Bool) (l1 : List Nat) (e1 : Int) (b2 : Bool) (l2 : List Nat) (e2 : Int) (fa : Int) (c0 : Dig l1) (c1 : l1.length ≤ 9223372036854775807) (c2 : (-9223372036854775808 : Int) ≤ e1 ∧ e1 ≤ 9223372036854775807) (c3 : Dig l2) (c4 : l2.length ≤ 9223372036854775807) (c5 : (-9223372036854775808 : Int) ≤ e2 ∧ e2 ≤ 9223372036854775807) (hfa : 0 ≤ fa ∧ fa ≤ 100) : ∃ (m ee n f : Int) (ok : Bool), Impl Tryz.prog Amb 30 [(.agg [(.bool b1), (.sl 1 (U l1)), (.int .i64 e1), (.bool b2), (.sl 1 (U l2)), (.int .i64 e2)]), (.int .i64 fa)] (.tup [(wV m ee n f), (.bool ok)]) ∧ L m.natAbs ≤ 2 ∧ L n.natAbs ≤ 2 ∧ (-440 ≤ ee ∧ ee ≤ 104) ∧ (-440 ≤ f ∧ f ≤ 104) := by
  have fa' := iv_fit (b := b1) (e := e1) (c := b2) (f := e2) (n := 2) (k := 40) c0 c3 oO oO
  have hi := mill_Iv b1 l1 e1 b2 l2 e2 2 40 c0 c1 c3 c4 c2 c5 oO oO
  generalize (ivM b1 l1 e1 b2 l2 e2 2 40) = m at fa' hi
  generalize (ivX b1 l1 e1 b2 l2 e2 2 40) = ee at fa' hi
  generalize (ivN b1 l1 e1 b2 l2 e2 2 40) = n at fa' hi
  generalize (ivF b1 l1 e1 b2 l2 e2 2 40) = f at fa' hi
  by_cases hok : ((l1.length : Int) ≤ 2 ∧ (l2.length : Int) ≤ 2)
  · rw [decide_eq_true hok] at hi
    obtain ⟨nn, hn, ht⟩ := arg_rounds (m := m) (n := n) (ee := ee) (f := f) (fa := fa) oO oO oO oO oO
    have s1 := fun j (hj : j ≤ 20) => shx_fit (m := m) (e := ee) (j := j) oO oO hj
    have s2 := fun j (hj : j ≤ 20) => shx_fit (m := n) (e := f) (j := j) oO oO hj
    refine ⟨m, shx m ee nn, n, shx n f nn, true, l14_argT b1 l1 e1 b2 l2 e2 fa m ee n f nn ?_ oO ht ?_ ?_ ?_ ?_, by omega, by omega, s1 nn hn, s2 nn hn⟩
    · rw [shx_zero fa'.2.1, shx_zero fa'.2.2.1]; exact hi
    · intro j hj; have := s1 j oO; exact r08_Top m _ oO oO
    · intro j hj; have := s2 j oO; exact r08_Top n _ oO oO
    · intro j hj; exact shx_step fa'.2.1 oO oO oO
    · intro j hj; exact shx_step fa'.2.2.1 oO oO oO
  · rw [decide_eq_false hok] at hi
    exact ⟨m, ee, n, f, false, l14_argF b1 l1 e1 b2 l2 e2 fa m ee n f hi, by omega, by omega, by omega, by omega⟩
theorem same0 : Impl Tryz.prog Amb 36 [(.agg [(.bool false), .nil, (.int .i64 0), (.bool false), .nil, (.int .i64 0)]), (.agg [(.bool false), .nil, (.int .i64 0), (.bool false), .nil, (.int .i64 0)])] (.bool true) :=
  impl_arg (fun w S l h => by
    cases h with | cons h1 h => cases h with | cons h2 h => cases h with | nil => exact .cons (rd_w0 h1) (.cons (rd_w0 h2) .nil))
    (impl_eq (congrArg V.bool (by decide)) (r10_Same 0 0 0 0 0 0 0 0 (by simp [L_zero]) (by simp [L_zero]) (by simp [L_zero]) (by simp [L_zero])))
theorem over_max {k : Int} (hk : 0 ≤ k ∧ k < 60) : ∃ u1 u2 v1 v2 s1 s2 h1 h2 p q : Int, Impl Tryz.prog Amb 34 [(.int .i64 1)] (yV u1 u2) ∧ Impl Tryz.prog Amb 33 [(zV u1), (.int .i64 ((0 : Int) - k))] (.tup [(yV v1 v2), (.int .i64 p)]) ∧ Impl Tryz.prog Amb 34 [(.int .i64 1000)] (yV s1 s2) ∧ Impl Tryz.prog Amb 35 [(yV s1 s2), (yV v1 v2)] (.tup [(yV h1 h2), (.int .i64 q)]) ∧
    Impl Tryz.prog Amb 94 [(yV h1 h2), (.int .i64 1000)] (.bool true) := by
  have f1 := of_fit (n := 1) oO
  have fk := of_fit (n := 1000) oO
  have one : mkM 1 0 = 1 := by kernel_rfl
  have z1 := L_lit 1 (by decide)
  have z2 : L (1 : Int).natAbs ≤ 1 := z1
  have mf := mk_fit (m := 1) (e := 0 - k) (by show L 1 ≤ 900; omega) oO
  have i1 := iMin_range (0 - k) 0
  have i2 : iMax (0 - k) 0 ≤ 0 := by unfold iMax; split <;> omega
  have hM := r08_Make 1 (0 - k) (by show L 1 ≤ 32768; omega) oO
  have l1 : L (mkM 1 (0 - k)).natAbs ≤ 1 := by have : L (1 : Int).natAbs = L 1 := rfl; omega
  have hA := r08_Add (mkM 1000 0) (mkX 1000 0) (mkM 1 (0 - k)) (mkX 1 (0 - k)) oO oO oO oO
  have m1 := iMin_range (mkX 1000 0) (mkX 1 (0 - k))
  have sl := adS_L (m := mkM 1000 0) (e := mkX 1000 0) (n := mkM 1 (0 - k)) (f := mkX 1 (0 - k)) (a := 2) (c := 6) oO oO oO oO
  have sf := mk_fit (m := adS (mkM 1000 0) (mkX 1000 0) (mkM 1 (0 - k)) (mkX 1 (0 - k))) (e := iMin (mkX 1000 0) (mkX 1 (0 - k))) oO oO
  have j1 := iMin_range (iMin (mkX 1000 0) (mkX 1 (0 - k))) 0
  have j2 : iMax (iMin (mkX 1000 0) (mkX 1 (0 - k))) 0 ≤ 64 := by unfold iMax; split <;> omega
  have hB := ex_beyond (mkM (adS (mkM 1000 0) (mkX 1000 0) (mkM 1 (0 - k)) (mkX 1 (0 - k))) (iMin (mkX 1000 0) (mkX 1 (0 - k)))) (mkX (adS (mkM 1000 0) (mkX 1000 0) (mkM 1 (0 - k)) (mkX 1 (0 - k))) (iMin (mkX 1000 0) (mkX 1 (0 - k)))) 1000 oO oO oO
  have hO := r08_Of 1 oO
  refine ⟨_, _, _, _, _, _, _, _, _, _, hO, by rw [one]; exact hM, r08_Of 1000 oO, hA, impl_eq (congrArg V.bool (decide_eq_true (cmpD_pos.2 ?_))) hB⟩
  rw [sf.2.2.2.2.2, dv_ad, mf.2.2.2.2.2]
  have : 0 < dv 1 (0 - k) := dv_pos.2 (by decide)
  grind
theorem l14_ExponentialEnds (b1 : Bool) (l1 : List Nat) (e1 : Int) (b2 : Bool) (l2 : List Nat) (e2 : Int) (kk w : Int) (c0 : Dig l1) (c1 : l1.length ≤ 9223372036854775807) (c2 : (-9223372036854775808 : Int) ≤ e1 ∧ e1 ≤ 9223372036854775807) (c3 : Dig l2) (c4 : l2.length ≤ 9223372036854775807) (c5 : (-9223372036854775808 : Int) ≤ e2 ∧ e2 ≤ 9223372036854775807) (c6 : (-9223372036854775808 : Int) ≤ kk ∧ kk ≤ 9223372036854775807) (c7 : (-9223372036854775808 : Int) ≤ w ∧ w ≤ 9223372036854775807) : Impl Tryz.prog Amb 8 [(.agg [(.bool b1), (.sl 1 (U l1)), (.int .i64 e1), (.bool b2), (.sl 1 (U l2)), (.int .i64 e2)]), .int .i64 kk, .int .i64 w] (.bool true) := by
  have w5 := Int.emod_nonneg w (show (5 : Int) ≠ 0 by omega)
  have w6 := Int.emod_lt_of_pos w (show (0 : Int) < 5 by omega)
  have w7 := Int.emod_nonneg w (show (40 : Int) ≠ 0 by omega)
  have w8 := Int.emod_lt_of_pos w (show (0 : Int) < 40 by omega)
  have k1 := Int.emod_nonneg kk (show (60 : Int) ≠ 0 by omega)
  have k2 := Int.emod_lt_of_pos kk (show (0 : Int) < 60 by omega)
  obtain ⟨m, ee, n, f, ok, hA, lm, lnn, _⟩ := l14_argE b1 l1 e1 b2 l2 e2 8 c0 c1 c2 c3 c4 c5 oO
  cases ok with
  | false => exact l14_EndsF b1 l1 e1 b2 l2 e2 kk w m ee n f 0 0 0 0 0 0 0 0 0 0 l14_awake c6 c7 hA
  | true =>
    obtain ⟨u1, u2, v1, v2, s1, s2, h1, h2, p, q, a1, a2, a3, a4, a5⟩ := over_max (k := kk % 60) oO
    exact l14_EndsT b1 l1 e1 b2 l2 e2 kk w m ee n f u1 u2 v1 v2 s1 s2 h1 h2 p q l14_awake c6 c7 hA (ex_ExpA m ee n f _ oO oO) (ex_ExpA m ee n f _ oO oO) a1 a2 a3 a4 (ex_ExpL m ee h1 h2 _ oO a5) same0
end Go.Proofs.YtekcladflnieeaaGreatDoor

namespace Go.Proofs.YtekcladflnieeaaGreatDoor
open Go.ChangeShapes Go.WideShapes Go.ChangeAt Go.RowKit
theorem ownNone : ownKnob Tryz.prog.godebug = none := by kernel_rfl
theorem gTab : Tryz.prog.globalNamed "math/bits.deBruijn32tab" = some 0 := by kernel_rfl
theorem gTabType : (Tryz.prog.globals[0]?).map (·.type) = some 173 := by kernel_rfl
theorem cellsTab : Tryz.prog.cellsOf 173 = 32 := by kernel_rfl
theorem cellsU8 : Tryz.prog.cellsOf 5 = 1 := by kernel_rfl
theorem amb_of {W : World} (h : laidMetH Tryz.prog [("math/bits.deBruijn32tab", Rows.laid_math_bits_deBruijn32tab)] W) : Amb W := by
  have t : Lib.TabIs Tryz.prog W "math/bits.deBruijn32tab" .u8 tab32 := Lib.tabIs_of_head (rest := []) gTab gTabType Tryz.underlying173 Tryz.underlying5 cellsU8 cellsTab h
  intro i v hi
  have hlt : i < tab32.length := by
    rcases Nat.lt_or_ge i tab32.length with q | q
    · exact q
    · rw [List.getElem?_eq_none q] at hi; cases hi
  have h1 := t.cell gTab i hlt
  rw [List.getD_eq_getElem?_getD, hi] at h1
  exact h1
theorem int_wf {n : Int} (h : (Lit.int .i64 n).wf = true) : (-9223372036854775808 : Int) ≤ n ∧ n ≤ 9223372036854775807 := by
  simp only [Lit.wf, Bool.and_eq_true, decide_eq_true_eq] at h
  simp [IntKind.min, IntKind.max, IntKind.signed, IntKind.bits] at h
  omega
noncomputable def laidWorld (os : Os) : World :=
  { World.holding Tryz.prog os ⟨#[], #[], []⟩ with heap := (World.holding Tryz.prog os ⟨#[], #[], []⟩).heap.modify 0 fun
      | .cells _ t frozen => .cells (tab32.map (Value.int .u8)).toArray t frozen
      | o => o }
theorem post_of_below {H : Type} {enc : TypeId × Value → H} {P : Program} {f : Func} {s : ChangeSpec} {apart fresh handsOn again : Bool} {W W' : World} {args : Array Value} {v : Value} {ds gs : List (DataW H)} {before pa pv : List MemPlace}
    (hW : DataW.Whole enc P f.params.toList s.vars apart W args.toList ds gs before)
    (hres : ∀ (b : Nat) (sp : Nat → Bool) (hd : Bool), DataW.TrodAll enc P W' b sp hd f.resultTypes.toList (v.resultList f.resultTypes.size) (s.fn H (ds ++ gs)).results [])
    (hargs : ∀ sp : Nat → Bool, (∀ p ∈ before, sp p.block = true) → DataW.TrodAll enc P W' 0 sp true f.params.toList args.toList (s.fn H (ds ++ gs)).args pa)
    (hvars : ∀ sp : Nat → Bool, (∀ p ∈ before, sp p.block = true) → DataW.TrodVars enc P W' sp s.vars (s.fn H (ds ++ gs)).vars pv)
    (hps : before = pa ++ pv) (hb : Below W.heap.size W W')
    (hok : ∀ (j : Nat) (t : TypeId) (r : Value), f.resultTypes[j]? = some t → (v.resultList f.resultTypes.size)[j]? = some r → Value.okWide P W' .any 0 t r) : s.post enc P f apart fresh handsOn again W args v W' := by
  have lt := hW.lt
  have old : ∀ p ∈ before, (fun b => decide (b < W.heap.size)) p.block = true := fun p hp => decide_eq_true (lt p hp)
  subst hps
  refine ⟨ds, gs, pa ++ pv, [], pa, pv, hW, hres _ _ _, hargs _ old, hvars _ old, hb.frame _, fun _ => ?_⟩
  obtain ⟨_, _, _, _, _, hz, hn⟩ := hW
  have h1 := trodAll_append (hargs (fun _ => true) fun _ _ => rfl) (hres 0 (fun _ => true) true)
  refine ⟨hok, _, _, _, ⟨_, pv, h1, hvars _ fun _ _ => rfl, rfl, fun b off hp => ?_, fun ha => ?_⟩, fun p hp _ => ?_⟩
  · have hp' : MemPlace.cell b off ∈ pa ++ pv := by simpa using hp
    rw [hb.frozen (lt _ hp')]
    exact hz b off hp'
  · simpa using hn ha
  · simpa using hp
end Go.Proofs.YtekcladflnieeaaGreatDoor

namespace Go.Proofs.YtekcladflnieeaaGreatDoor
open Go.ChangeShapes Go.WideShapes Go.ChangeAt Go.RowKit
set_option maxRecDepth 100000
variable {H : Type} {enc : TypeId × Value → H} {W : World} {sp : Nat → Bool} {held : Bool}
theorem laidOut : laidOutB Tryz.prog = true := by kernel_rfl
theorem cellsU32 : Tryz.prog.cellsOf 124 = 1 := by kernel_rfl
theorem cellsSl : Tryz.prog.cellsOf 22 = 1 := by kernel_rfl
theorem cellsBool : Tryz.prog.cellsOf 4 = 1 := by kernel_rfl
theorem cellsInt : Tryz.prog.cellsOf 3 = 1 := by kernel_rfl
theorem cellsZ : Tryz.prog.cellsOf 24 = 2 := by kernel_rfl
theorem cellsY : Tryz.prog.cellsOf 26 = 3 := by kernel_rfl
theorem cellsW : Tryz.prog.cellsOf 28 = 6 := by kernel_rfl
theorem rdl_U (S : Nat → Prop) : ∀ l : List Nat, RdL W S (l.map fun (d : Nat) => Value.int .u32 (d : Int)) (U l)
  | [] => .nil
  | _ :: l => .cons .int (rdl_U S l)
theorem wf_u32 {n : Int} (h : (Lit.int .u32 n).wf = true) : 0 ≤ n ∧ n < 4294967296 := by
  simp only [Lit.wf, Bool.and_eq_true, decide_eq_true_eq] at h
  simp [IntKind.min, IntKind.max, IntKind.signed, IntKind.bits] at h
  omega
theorem open_slice32 {n : Nat} {c : Value} {x : DataW H × List MemPlace} {b0 : Nat} (h : DataW.trod enc Tryz.prog W 0 sp held n 22 [c] = some x) (hok : Cell.okWide Tryz.prog W .any b0 22 c) :
    ∃ l : List Nat, Dig l ∧ l.length ≤ maxLen ∧ Rd W (fun _ => True) c (.sl 1 (U l)) := by
  rcases open_ints Tryz.underlying22 Tryz.underlying124 cellsU32 h with ⟨hc, _⟩ | ⟨a, len, cap, zs, hc, _, hl, hm, hz, _, hcell, hwf⟩
  · obtain rfl : c = .slice none 0 0 := by simpa using hc
    exact ⟨[], (fun d hd => by cases hd), Nat.zero_le _, .nilsl⟩
  · obtain rfl : c = .slice (some a) len cap := by simpa using hc
    have hlen : len ≤ zs.length := by rw [hz]; split <;> omega
    simp only [Cell.okWide, Cell.ok, Tryz.underlying22, World.has] at hok
    obtain ⟨_, _, _, hs, row, cells, hsh, _⟩ := hok
    obtain ⟨ab, ao, spot⟩ := a
    simp only at hs hsh
    subst hs
    have hb : ab < W.heap.size := by
      unfold World.shape? at hsh
      split at hsh
      · rename_i q; exact (Array.getElem?_eq_some_iff.1 q).1
      · cases hsh
    refine ⟨(zs.take len).map Int.toNat, ?_, ?_, ?_⟩
    · intro d hd
      obtain ⟨z, hz', rfl⟩ := List.mem_map.1 hd
      have := wf_u32 (hwf z (List.mem_of_mem_take hz'))
      show z.toNat < 4294967296
      omega
    · simp; omega
    · refine .sl (vals := ((zs.take len).map Int.toNat).map fun (d : Nat) => Value.int .u32 (d : Int)) trivial hb hl (by simp [U]; omega) (rdl_U _ _) ?_
      intro i v hv
      simp only [List.getElem?_map, Option.map_eq_some_iff] at hv
      obtain ⟨d, ⟨z, hz', rfl⟩, rfl⟩ := hv
      have hi : i < len := by
        rcases Nat.lt_or_ge i len with q | q
        · exact q
        · rw [List.getElem?_eq_none (by simp; omega)] at hz'; cases hz'
      rw [List.getElem?_take, if_pos hi] at hz'
      have h1 := hcell i (by omega)
      rw [List.getD_eq_getElem?_getD, hz'] at h1
      have h2 := wf_u32 (hwf z (List.mem_of_getElem? hz'))
      have h3 : ((z.toNat : Nat) : Int) = z := Int.toNat_of_nonneg h2.1
      simp only [Option.getD_some] at h1
      rw [h3]
      have h4 : (Addr.mk ab ao none).add i = ⟨ab, ao + i, none⟩ := by
        unfold Addr.add; split
        · rename_i q; subst q; rfl
        · rfl
      rw [h4] at h1
      exact h1
theorem open_Z {n : Nat} {c0 c1 : Value} {x : DataW H × List MemPlace} {b0 : Nat} (h : DataW.trod enc Tryz.prog W 0 sp held n 24 [c0, c1] = some x) (hok : Cell.okWide Tryz.prog W .any b0 22 c1) :
    ∃ (b : Bool) (l : List Nat), Dig l ∧ l.length ≤ maxLen ∧ RdL W (fun _ => True) [c0, c1] [.bool b, .sl 1 (U l)] := by
  obtain ⟨y0, y1, m, _, _, h0, h1⟩ := trod_struct2 Tryz.underlying24 h
  have k0 : DataW.trod enc Tryz.prog W 0 sp held m 4 [c0] = some y0 := by simpa [cellsBool] using h0
  have k1 : DataW.trod enc Tryz.prog W 0 sp held m 22 [c1] = some y1 := by simpa [cellsSl] using h1
  obtain ⟨b, hb, _⟩ := DataW.trod_bool Tryz.underlying4 k0
  obtain rfl : c0 = .bool b := by simpa using hb
  obtain ⟨l, d, e, r⟩ := open_slice32 k1 hok
  exact ⟨b, l, d, e, .cons .bool (.cons r .nil)⟩
theorem open_Y {n : Nat} {c0 c1 c2 : Value} {x : DataW H × List MemPlace} {b0 : Nat} (h : DataW.trod enc Tryz.prog W 0 sp held n 26 [c0, c1, c2] = some x) (hok : Cell.okWide Tryz.prog W .any b0 22 c1) :
    ∃ (b : Bool) (l : List Nat) (e : Int), Dig l ∧ l.length ≤ maxLen ∧ ((-9223372036854775808 : Int) ≤ e ∧ e ≤ 9223372036854775807) ∧ RdL W (fun _ => True) [c0, c1, c2] [.bool b, .sl 1 (U l), .int .i64 e] := by
  obtain ⟨y0, y1, m, _, _, h0, h1⟩ := trod_struct2 Tryz.underlying26 h
  have k0 : DataW.trod enc Tryz.prog W 0 sp held m 24 [c0, c1] = some y0 := by simpa [cellsZ] using h0
  have k1 : DataW.trod enc Tryz.prog W 0 sp held m 3 [c2] = some y1 := by simpa [cellsInt] using h1
  obtain ⟨b, l, d, e, r⟩ := open_Z k0 hok
  obtain ⟨z, hz, _, hw⟩ := DataW.trod_int Tryz.underlying3 k1
  obtain rfl : c2 = .int .i64 z := by simpa using hz
  cases r with | cons r0 r => cases r with | cons r1 r => cases r with | nil =>
    exact ⟨b, l, z, d, e, int_wf hw, .cons r0 (.cons r1 (.cons .int .nil))⟩
theorem array6 {α : Type} {cs : Array α} (h : cs.size = 6) : ∃ c0 c1 c2 c3 c4 c5, cs = #[c0, c1, c2, c3, c4, c5] := by
  obtain ⟨l⟩ := cs
  match l, h with
  | [c0, c1, c2, c3, c4, c5], _ => exact ⟨c0, c1, c2, c3, c4, c5, rfl⟩
theorem open_W {v : Value} {d : DataW H} {p : List MemPlace} {b0 : Nat} (hv : Value.okWide Tryz.prog W .any b0 28 v) (h : DataW.Trod enc Tryz.prog W 0 sp held 28 v d p) :
    ∃ (b : Bool) (l : List Nat) (e : Int) (c : Bool) (r : List Nat) (f : Int), (Dig l ∧ l.length ≤ maxLen ∧ ((-9223372036854775808 : Int) ≤ e ∧ e ≤ 9223372036854775807)) ∧ (Dig r ∧ r.length ≤ maxLen ∧ ((-9223372036854775808 : Int) ≤ f ∧ f ≤ 9223372036854775807)) ∧
      Rd W (fun _ => True) v (.agg [.bool b, .sl 1 (U l), .int .i64 e, .bool c, .sl 1 (U r), .int .i64 f]) := by
  simp only [Value.okWide, Tryz.underlying28] at hv
  obtain ⟨cs, rfl, hsz, ts, hts, _, hrow⟩ := hv
  have e0 : Tryz.prog.cellTypes Tryz.prog.depth 28 = some [4, 22, 3, 4, 22, 3] := by kernel_rfl
  rw [e0] at hts
  obtain rfl := Option.some.inj hts
  obtain ⟨c0, c1, c2, c3, c4, c5, rfl⟩ := array6 (hsz.trans cellsW)
  obtain ⟨u1, q1, ok1⟩ := hrow 1 c1 rfl
  obtain rfl : 22 = u1 := by simpa using q1
  obtain ⟨u4, q4, ok4⟩ := hrow 4 c4 rfl
  obtain rfl : 22 = u4 := by simpa using q4
  obtain ⟨n, hn⟩ := h
  obtain ⟨y0, y1, m, _, _, h0, h1⟩ := trod_struct2 Tryz.underlying28 hn
  have k0 : DataW.trod enc Tryz.prog W 0 sp held m 26 [c0, c1, c2] = some y0 := by simpa [cellsY, Value.cells] using h0
  have k1 : DataW.trod enc Tryz.prog W 0 sp held m 26 [c3, c4, c5] = some y1 := by simpa [cellsY, Value.cells] using h1
  obtain ⟨b, l, e, d1, d2, d3, r1⟩ := open_Y k0 ok1
  obtain ⟨c, r, f, f1, f2, f3, r2⟩ := open_Y k1 ok4
  refine ⟨b, l, e, c, r, f, ⟨d1, d2, d3⟩, ⟨f1, f2, f3⟩, ?_⟩
  cases r1 with | cons a0 r1 => cases r1 with | cons a1 r1 => cases r1 with | cons a2 r1 => cases r1 with | nil =>
  cases r2 with | cons b0 r2 => cases r2 with | cons b1 r2 => cases r2 with | cons b2 r2 => cases r2 with | nil =>
    exact .agg (.cons a0 (.cons a1 (.cons a2 (.cons b0 (.cons b1 (.cons b2 .nil))))))
end Go.Proofs.YtekcladflnieeaaGreatDoor

namespace Go.Proofs.YtekcladflnieeaaGreatDoor.exponentialEnds
open Go.ChangeShapes Go.WideShapes Go.ChangeAt Go.RowKit
set_option maxRecDepth 100000 in
theorem contract (H : Type) (enc : TypeId × Value → H) (W : World) (base : Nat) (args : Array Value) (ds gs : List (DataW H)) (before : List MemPlace)
    (hval : ∀ (j : Nat) t v, Tryz.f8.params[j]? = some t → args[j]? = some v → Value.okWide Tryz.prog W .any base t v)
    (hW : DataW.Whole enc Tryz.prog Tryz.f8.params.toList Rows.exponentialEndsSpec.vars false W args.toList ds gs before) (hL : laidMetH Tryz.prog Rows.exponentialEndsRow.laid W) :
    Calls Tryz.prog 8 args W fun e W' => ∃ v, e = .returned v ∧ Rows.exponentialEndsSpec.post enc Tryz.prog Tryz.f8 false true false false W args v W' := by
  have hW' := hW
  obtain ⟨p, q, hA0, hV, rfl, hfz, hnd⟩ := hW
  have hA : DataW.TrodAll enc Tryz.prog W 0 (fun _ => true) true Tryz.f8.params.toList args.toList ds p := hA0
  rw [Tryz.params8] at hA hval
  obtain ⟨v0, vs0, d0, ds0, p0, q0, hargs0, rfl, rfl, h0, r0⟩ := trodAll_cons hA
  obtain ⟨v1, vs1, d1, ds1, p1, q1, hargs1, rfl, rfl, h1, r1⟩ := trodAll_cons r0
  obtain ⟨v2, vs2, d2, ds2, p2, q2, hargs2, rfl, rfl, h2, r2⟩ := trodAll_cons r1
  obtain ⟨rfl, rfl, rfl⟩ := trodAll_nil r2
  obtain rfl : args = #[v0, v1, v2] := by cases args; simp_all
  obtain ⟨rfl, rfl⟩ := trodVars_none hV
  obtain ⟨b0, l0, e0, c0, s0, f0, ⟨a0, a0', a0''⟩, ⟨z0, z0', z0''⟩, t0⟩ := open_W (hval 0 28 v0 rfl rfl) h0
  have m0 : l0.length ≤ 9223372036854775807 := a0'
  have n0 : s0.length ≤ 9223372036854775807 := z0'
  have k1 := h1
  obtain ⟨x1, rfl, rfl, rfl, w1⟩ := open_int Tryz.underlying3 (hval 1 3 v1 rfl rfl) h1
  have b1 := int_wf w1
  have k2 := h2
  obtain ⟨x2, rfl, rfl, rfl, w2⟩ := open_int Tryz.underlying3 (hval 2 3 v2 rfl rfl) h2
  have b2 := int_wf w2
  clear hA0
  have hlt := hW'.lt
  have hI := l14_ExponentialEnds b0 l0 e0 c0 s0 f0 x1 x2 a0 m0 a0'' z0 n0 z0'' b1 b2
  have hC := hI.2 W (fun _ => True) [v0, .int .i64 x1, .int .i64 x2] (amb_of hL) (fun _ _ => trivial) (.cons t0 (.cons .int (.cons .int (.nil))))
  refine hC.mono fun e W' hh => ?_
  obtain ⟨v, rfl, hv, hb⟩ := hh
  have hv := hv.bool_inv
  subst hv
  exact ⟨_, rfl, post_of_below (pa := (p0 ++ ([] ++ ([] ++ [])))) (pv := []) hW' (fun _ _ _ => trodAll_cons_mk (shut_bool Tryz.underlying4 _) trodAll_mk0) (fun sp hsp => (trodAll_cons_mk (WideElems.Trod_stays laidOut (by kernel_rfl) (of_decide_eq_true (by kernel_rfl)) h0 (fun x hx => hb.same (hlt x (by simp [hx]))) (fun x hx => hsp x (by simp [hx]))) (trodAll_cons_mk (shut_int Tryz.underlying3 w1) (trodAll_cons_mk (shut_int Tryz.underlying3 w2) trodAll_mk0)))) (fun _ _ => rfl) rfl
    hb (ok_one (by kernel_rfl) rfl (okWide_bool_mk Tryz.underlying4 _))⟩
theorem laid_met (os : Os) : laidMet Tryz.prog Rows.exponentialEndsRow.laid ((laidWorld os).forCall (fun _ _ => 0) ⟨#[], #[.agg #[.bool false, .slice none 0 0, .int .i64 0, .bool false, .slice none 0 0, .int .i64 0], .int .i64 0, .int .i64 0], []⟩).memory :=
  laidMet_of_run' 64 (by kernel_rfl) (by kernel_rfl)
theorem reads (os : Os) {H : Type} (enc : TypeId × Value → H) : ∃ places, DataW.whole enc Tryz.prog ((laidWorld os).forCall (fun _ _ => 0) ⟨#[], #[.agg #[.bool false, .slice none 0 0, .int .i64 0, .bool false, .slice none 0 0, .int .i64 0], .int .i64 0, .int .i64 0], []⟩).memory Tryz.f8.params.toList Rows.exponentialEndsSpec.vars false #[Value.agg #[.bool false, .slice none 0 0, .int .i64 0, .bool false, .slice none 0 0, .int .i64 0], Value.int .i64 0, Value.int .i64 0].toList 64 = some ([.agg [.agg [.agg [.lit (.bool false), .nil], .lit (.int .i64 0)], .agg [.agg [.lit (.bool false), .nil], .lit (.int .i64 0)]], .lit (.int .i64 0), .lit (.int .i64 0)], [], places) :=
  ⟨[], by kernel_rfl⟩
set_option maxRecDepth 100000 in
theorem lifted (os : Os) (started : os.Started) (H : Type) (enc : TypeId × Value → H) (F : Stop.Interp) :
    ReturnsInHanded {} Tryz.checked os 8 .any ((OpenSpec.ofChange Rows.exponentialEndsSpec).preRow enc Tryz.prog Tryz.f8 Rows.exponentialEndsRow.domain false Rows.exponentialEndsRow.laid) (((OpenSpec.ofChange Rows.exponentialEndsSpec).at F).post enc Tryz.prog Tryz.f8 false true false false) := by
  obtain ⟨places, hx⟩ := reads os enc
  refine returnsInHanded_of_row (C := Tryz.checked) (s := OpenSpec.ofChange Rows.exponentialEndsSpec) ownNone started (by kernel_rfl) Tryz.func8
    (witness_row_at (enc := enc) (C := Tryz.checked) false (laidWorld os) #[.agg #[.bool false, .slice none 0 0, .int .i64 0, .bool false, .slice none 0 0, .int .i64 0], .int .i64 0, .int .i64 0] rfl (by kernel_rfl) (by kernel_rfl) (by kernel_rfl)
      (OpenSpec.preRow_of_cond 64 hx (by kernel_rfl) (fun k hk => by cases hk) (by kernel_rfl) (laid_met os))) ?_
  intro W base args ds gs before hval hW _ _ _ hL _ _
  exact contract H enc W base args ds gs before hval hW hL
end Go.Proofs.YtekcladflnieeaaGreatDoor.exponentialEnds
