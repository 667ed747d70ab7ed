/-
  Lower layers: what functions of the program compute, and plain facts. Conditions: as the theorems say.
-/
import Derived.Test.YtekcladflnieeaaGreatDoorPjQ
set_option linter.unusedVariables false
set_option linter.unusedSimpArgs false
namespace Go.Proofs.YtekcladflnieeaaGreatDoor
open Go.RowKit
set_option maxRecDepth 100000
set_option maxHeartbeats 2000000
def saS (p : Nat → Int) : Nat → Int
  | 0 => p 0
  | j + 1 => saS p j + p (j + 1)
def sqS (a b T : Int) : Nat → Int × Int
  | 0 => (a, b)
  | i + 1 => ((sqS a b T i).1 * (sqS a b T i).1 / T, -(-((sqS a b T i).2 * (sqS a b T i).2) / T))
def fx_exp_0_mk (x1 x2 sc _ : Int) (x : Int) : St := ⟨mkS 63 [(1, (.val (.int .i64 sc))), (2, (.own 0 0)), (4, (.own 1 0)), (5, (.val (.int .i64 x)))], [⟨true, false, [(V.bool (decide (x1 < 0))), (N x1.natAbs), (V.bool (decide (x2 < 0))), (N x2.natAbs)]⟩, ⟨true, false, [(V.bool false), V.nil, (V.bool false), V.nil]⟩]⟩
def fx_exp_0_I (_ _ _ hh : Int) (x : Int) : Prop := 4 ≤ x ∧ x ≤ hh
def fx_exp_0_mu (_ _ _ hh : Int) (x : Int) : Nat := (hh - x).toNat
def fx_exp_0_ex (x1 x2 sc _ : Int) (y : Int) : Ex × St := (.exit 0, ⟨mkS 63 [(1, (.val (.int .i64 sc))), (2, (.own 0 0)), (4, (.own 1 0)), (5, (.val (.int .i64 y)))], [⟨true, false, [(V.bool (decide (x1 < 0))), (N x1.natAbs), (V.bool (decide (x2 < 0))), (N x2.natAbs)]⟩, ⟨true, false, [(V.bool false), V.nil, (V.bool false), V.nil]⟩]⟩)
def fx_exp_0_J (_ _ _ hh : Int) (y : Int) : Prop := y = hh
abbrev fx_exp_0_N (x1 x2 sc hh : Int) := NX (fx_exp_0_mk x1 x2 sc hh) (fx_exp_0_I x1 x2 sc hh) (fx_exp_0_mu x1 x2 sc hh) (fx_exp_0_ex x1 x2 sc hh) (fx_exp_0_J x1 x2 sc hh)
theorem fx_exp_0 (x1 x2 sc hh : Int) (c0 : 0 ≤ sc ∧ sc ≤ 20000)(c1 : 4 ≤ hh ∧ hh ≤ 200)(c2 : ∀ i : Int, 4 ≤ i → i < hh → i * i < sc)(c3 : sc ≤ hh * hh) (x0 : Int) (hI : fx_exp_0_I x1 x2 sc hh x0) : LoopOk Tryz.prog Amb (loopN Tryz.f242 0) (fx_exp_0_mk x1 x2 sc hh x0) (fun e st_ => ∃ y, fx_exp_0_J x1 x2 sc hh y ∧ fx_exp_0_ex x1 x2 sc hh y = (e, st_)) :=
  loop_ob hP hAmb ⟨[1, 2, 4, 5], 2, []⟩ (fx_exp_0_mk x1 x2 sc hh) (fx_exp_0_I x1 x2 sc hh) (fx_exp_0_mu x1 x2 sc hh) (fx_exp_0_ex x1 x2 sc hh) (fx_exp_0_J x1 x2 sc hh) x0 hI (fun i => .lit <| .yes <| .lit <| .both (.lit <| .yes <| .fin2 ⟨[1, 2, 4, 5], 2, []⟩) (.fin2 ⟨[1, 2, 4, 5], 2, []⟩)) (by
    rintro i hI
    have hI : 4 ≤ i ∧ i ≤ hh := hI
    obtain ⟨h1, h2⟩ := hI
    have hq : i < hh → i * i < sc := fun q => c2 i h1 q
    have hm : i * i ≤ 9000000000000 := Int.le_trans (Int.mul_le_mul_of_nonneg_left (show i ≤ 3000000 by omega) oO) oO
    have hm0 : 0 ≤ i * i := Int.mul_nonneg oO oO
    have he : i = hh → sc ≤ i * i := fun q => by rw [q]; exact c3
    exact cast_ob (aI True.intro (aI (fits_i64 oO : (fits .i64 (i * i)) = true) (aI (fun (h101 : (iLt (i * i) sc) = true) => have _gh101 := iLt_t h101; aI (fits_i64 oO : (fits .i64 (i + 1)) = true) (aI tT ((nx_next (i + 1) (show 4 ≤ (i + 1) ∧ (i + 1) ≤ hh from ⟨by omega, by omega⟩) (show (hh - (i + 1)).toNat < (hh - i).toNat by omega) : fx_exp_0_N x1 x2 sc hh i .normal (fx_exp_0_mk x1 x2 sc hh (i + 1)))))) (fun (h102 : (iLt (i * i) sc) = false) => have _gh102 := iLt_f h102; aI tT ((nx_exit 0 ((fx_exp_0_ex x1 x2 sc hh i).2) i (show i = hh from show i = hh by omega) rfl : fx_exp_0_N x1 x2 sc hh i (.exit 0) ((fx_exp_0_ex x1 x2 sc hh i).2))))))) (by kernel_rfl))
def fx_exp_1_mk (sc hh v1 v2 : Int) (_ : Nat) (pp1 pp2 _ _ : Nat → Int) (x : Nat × Int) : St := ⟨mkS 63 [(1, (.val (.int .i64 sc))), (2, (.own 0 0)), (4, (.own 1 0)), (5, (.val (.int .i64 hh))), (6, (.val (.int .i64 ((sc + hh) + 24)))), (7, (.own 2 0)), (8, (.own 3 0)), (9, (.val (.int .u32 x.2)))], [⟨true, false, [(V.bool (decide (v1 < 0))), (N v1.natAbs), (V.bool (decide (v2 < 0))), (N v2.natAbs)]⟩, ⟨true, false, [(V.bool false), V.nil, (V.bool false), V.nil]⟩, ⟨true, false, [(V.bool (decide ((pp1 x.1) < 0))), (N ((pp1 x.1).natAbs)), (V.bool (decide ((pp2 x.1) < 0))), (N ((pp2 x.1).natAbs))]⟩, ⟨true, false, [(V.bool (decide ((saS pp1 x.1) < 0))), (N ((saS pp1 x.1).natAbs)), (V.bool (decide ((saS pp2 x.1) < 0))), (N ((saS pp2 x.1).natAbs))]⟩]⟩
def fx_exp_1_I (_ _ _ _ : Int) (nn : Nat) (_ _ _ _ : Nat → Int) (x : Nat × Int) : Prop := x.1 < nn ∧ x.2 = (x.1 : Int) + 1
def fx_exp_1_mu (_ _ _ _ : Int) (nn : Nat) (_ _ _ _ : Nat → Int) (x : Nat × Int) : Nat := nn - x.1
def fx_exp_1_ex (sc hh v1 v2 : Int) (_ : Nat) (pp1 pp2 _ _ : Nat → Int) (y : Nat) : Ex × St := (.exit 2, ⟨mkS 63 [(1, (.val (.int .i64 sc))), (4, (.own 1 0)), (5, (.val (.int .i64 hh))), (6, (.val (.int .i64 ((sc + hh) + 24)))), (8, (.own 3 0))], [⟨true, false, [(V.bool (decide (v1 < 0))), (N v1.natAbs), (V.bool (decide (v2 < 0))), (N v2.natAbs)]⟩, ⟨true, false, [(V.bool false), V.nil, (V.bool false), V.nil]⟩, ⟨true, false, [(V.bool (decide ((pp1 y) < 0))), (N ((pp1 y).natAbs)), (V.bool (decide ((pp2 y) < 0))), (N ((pp2 y).natAbs))]⟩, ⟨true, false, [(V.bool (decide ((saS pp1 y) < 0))), (N ((saS pp1 y).natAbs)), (V.bool (decide (((saS pp2 y) + (pp2 y)) < 0))), (N (((saS pp2 y) + (pp2 y)).natAbs))]⟩]⟩)
def fx_exp_1_J (_ _ _ _ : Int) (nn : Nat) (_ _ _ _ : Nat → Int) (y : Nat) : Prop := y = nn
abbrev fx_exp_1_N (sc hh v1 v2 : Int) (nn : Nat) (pp1 pp2 mm1 mm2 : Nat → Int) := NX (fx_exp_1_mk sc hh v1 v2 nn pp1 pp2 mm1 mm2) (fx_exp_1_I sc hh v1 v2 nn pp1 pp2 mm1 mm2) (fx_exp_1_mu sc hh v1 v2 nn pp1 pp2 mm1 mm2) (fx_exp_1_ex sc hh v1 v2 nn pp1 pp2 mm1 mm2) (fx_exp_1_J sc hh v1 v2 nn pp1 pp2 mm1 mm2)
theorem fx_exp_1 (sc hh v1 v2 : Int) (nn : Nat) (pp1 pp2 mm1 mm2 : Nat → Int) (c0 : ∀ j, j < nn → Impl Tryz.prog Amb 239 [(.agg [(.bool (decide ((pp1 j) < 0))), (N ((pp1 j).natAbs)), (.bool (decide ((pp2 j) < 0))), (N ((pp2 j).natAbs))]), (.agg [(.bool (decide (v1 < 0))), (N v1.natAbs), (.bool (decide (v2 < 0))), (N v2.natAbs)]), (.int .i64 ((sc + hh) + 24))] (.agg [(.bool (decide ((mm1 j) < 0))), (N ((mm1 j).natAbs)), (.bool (decide ((mm2 j) < 0))), (N ((mm2 j).natAbs))]))(c1 : ∀ (j : Nat) (kk : Int), j < nn → kk = (j : Int) + 1 → Impl Tryz.prog Amb 241 [(.agg [(.bool (decide ((mm1 j) < 0))), (N ((mm1 j).natAbs)), (.bool (decide ((mm2 j) < 0))), (N ((mm2 j).natAbs))]), (.int .u32 kk)] (.agg [(.bool (decide ((pp1 (j + 1)) < 0))), (N ((pp1 (j + 1)).natAbs)), (.bool (decide ((pp2 (j + 1)) < 0))), (N ((pp2 (j + 1)).natAbs))]))(c2 : ∀ j, j < nn → Impl Tryz.prog Amb 173 [(.agg [(.bool (decide ((saS pp1 j) < 0))), (N ((saS pp1 j).natAbs)), (.bool (decide ((saS pp2 j) < 0))), (N ((saS pp2 j).natAbs))]), (.agg [(.bool (decide ((pp1 (j + 1)) < 0))), (N ((pp1 (j + 1)).natAbs)), (.bool (decide ((pp2 (j + 1)) < 0))), (N ((pp2 (j + 1)).natAbs))])] (.agg [(.bool (decide ((saS pp1 (j + 1)) < 0))), (N ((saS pp1 (j + 1)).natAbs)), (.bool (decide ((saS pp2 (j + 1)) < 0))), (N ((saS pp2 (j + 1)).natAbs))]))(c3 : ∀ j, j < nn → Impl Tryz.prog Amb 240 [(.agg [(.bool (decide ((pp1 (j + 1)) < 0))), (N ((pp1 (j + 1)).natAbs)), (.bool (decide ((pp2 (j + 1)) < 0))), (N ((pp2 (j + 1)).natAbs))])] (.bool (decide (nn ≤ j + 1))))(c4 : L (saS pp2 nn).natAbs ≤ 20000 ∧ L (pp2 nn).natAbs ≤ 20000)(c5 : 1 ≤ nn ∧ nn ≤ 10000) (x0 : Nat × Int) (hI : fx_exp_1_I sc hh v1 v2 nn pp1 pp2 mm1 mm2 x0) : LoopOk Tryz.prog Amb (loopN Tryz.f242 1) (fx_exp_1_mk sc hh v1 v2 nn pp1 pp2 mm1 mm2 x0) (fun e st_ => ∃ y, fx_exp_1_J sc hh v1 v2 nn pp1 pp2 mm1 mm2 y ∧ fx_exp_1_ex sc hh v1 v2 nn pp1 pp2 mm1 mm2 y = (e, st_)) :=
  loop_ob hP hAmb ⟨[1, 2, 4, 5, 6, 7, 8, 9], 4, []⟩ (fx_exp_1_mk sc hh v1 v2 nn pp1 pp2 mm1 mm2) (fx_exp_1_I sc hh v1 v2 nn pp1 pp2 mm1 mm2) (fx_exp_1_mu sc hh v1 v2 nn pp1 pp2 mm1 mm2) (fx_exp_1_ex sc hh v1 v2 nn pp1 pp2 mm1 mm2) (fx_exp_1_J sc hh v1 v2 nn pp1 pp2 mm1 mm2) x0 hI (fun (j, kk) => .lits 3 <| .call (.agg [(.bool (decide ((mm1 j) < 0))), (N ((mm1 j).natAbs)), (.bool (decide ((mm2 j) < 0))), (N ((mm2 j).natAbs))]) <| .lit <| .call (.agg [(.bool (decide ((pp1 (j + 1)) < 0))), (N ((pp1 (j + 1)).natAbs)), (.bool (decide ((pp2 (j + 1)) < 0))), (N ((pp2 (j + 1)).natAbs))]) <| .lits 4 <| .call (.agg [(.bool (decide ((saS pp1 (j + 1)) < 0))), (N ((saS pp1 (j + 1)).natAbs)), (.bool (decide ((saS pp2 (j + 1)) < 0))), (N ((saS pp2 (j + 1)).natAbs))]) <| .lits 3 <| .call (.bool (decide (nn ≤ j + 1))) <| .both (.lits 3 <| .call (zV ((saS pp2 (j + 1)) + (pp2 (j + 1)))) <| .lit <| .fin2 ⟨[1, 4, 5, 6, 8], 4, []⟩) (.lit <| .yes <| .fin2 ⟨[1, 2, 4, 5, 6, 7, 8, 9], 4, []⟩)) (by
    rintro ⟨j, kk⟩ hI
    have hI : j < nn ∧ kk = (j : Int) + 1 := hI
    obtain ⟨h1, h2⟩ := hI
    have c5 := fun (q : nn = j + 1) => (show L (saS pp2 (j + 1)).natAbs ≤ 20000 ∧ L (pp2 (j + 1)).natAbs ≤ 20000 from q ▸ c4)
    exact cast_ob (aI True.intro (aI (c0 j h1 ) (aI (c1 j kk h1 h2 ) (aI (c2 j h1 ) (aI (c3 j h1 ) (aI (fun (h101 : (decide (nn ≤ j + 1)) = true) => have _gh101 := of_decide_eq_true h101; aI (int_Add (saS pp2 (j + 1)) (pp2 (j + 1)) (by first | omega | (have := c5 oO; omega)) (by first | omega | (have := c5 oO; omega))) (have f102 := L_abs_add (saS pp2 (j + 1)) (pp2 (j + 1)); aI tT ((nx_exit 2 ((fx_exp_1_ex sc hh v1 v2 nn pp1 pp2 mm1 mm2 (j + 1)).2) (j + 1) (show (j + 1) = nn from show j + 1 = nn by omega) rfl : fx_exp_1_N sc hh v1 v2 nn pp1 pp2 mm1 mm2 (j, kk) (.exit 2) ((fx_exp_1_ex sc hh v1 v2 nn pp1 pp2 mm1 mm2 (j + 1)).2))))) (fun (h103 : (decide (nn ≤ j + 1)) = false) => have _gh103 := of_decide_eq_false h103; aI (fits_u32 (by first | omega | (have := c5 oO; omega)) : (fits .u32 (kk + 1)) = true) (aI tT ((nx_next ((j + 1), (kk + 1)) (show (j + 1) < nn ∧ (kk + 1) = ((j + 1) : Int) + 1 from ⟨by omega, by omega⟩) (show nn - (j + 1) < nn - j by omega) : fx_exp_1_N sc hh v1 v2 nn pp1 pp2 mm1 mm2 (j, kk) .normal (fx_exp_1_mk sc hh v1 v2 nn pp1 pp2 mm1 mm2 ((j + 1), (kk + 1))))))))))))) (by kernel_rfl))
def fx_exp_2_mk (sc hh v1 v2 q1 q2 fa fb : Int) (x : Nat × Int) : St := ⟨mkS 63 [(1, (.val (.int .i64 sc))), (4, (.own 1 0)), (6, (.val (.int .i64 ((sc + hh) + 24)))), (8, (.own 3 0)), (50, (.val (.int .i64 hh))), (51, (.val (.int .i64 x.2)))], [⟨true, false, [(V.bool (decide (v1 < 0))), (N v1.natAbs), (V.bool (decide (v2 < 0))), (N v2.natAbs)]⟩, ⟨true, false, [(V.bool false), V.nil, (V.bool false), V.nil]⟩, ⟨true, false, [(V.bool (decide (q1 < 0))), (N q1.natAbs), (V.bool (decide (q2 < 0))), (N q2.natAbs)]⟩, ⟨true, false, [(V.bool (decide ((sqS fa fb (2 ^ (((sc + hh) + 24)).toNat) x.1).1 < 0))), (N (((sqS fa fb (2 ^ (((sc + hh) + 24)).toNat) x.1).1).natAbs)), (V.bool (decide ((sqS fa fb (2 ^ (((sc + hh) + 24)).toNat) x.1).2 < 0))), (N (((sqS fa fb (2 ^ (((sc + hh) + 24)).toNat) x.1).2).natAbs))]⟩]⟩
def fx_exp_2_I (_ hh _ _ _ _ _ _ : Int) (x : Nat × Int) : Prop := x.2 = (x.1 : Int) ∧ (x.1 : Int) ≤ hh
def fx_exp_2_mu (_ hh _ _ _ _ _ _ : Int) (x : Nat × Int) : Nat := (hh - x.1).toNat
def fx_exp_2_ex (sc hh v1 v2 q1 q2 fa fb : Int) (y : Nat) : Ex × St := (.exit 4, ⟨mkS 63 [(1, (.val (.int .i64 sc))), (4, (.own 1 0)), (6, (.val (.int .i64 ((sc + hh) + 24)))), (8, (.own 3 0))], [⟨true, false, [(V.bool (decide (v1 < 0))), (N v1.natAbs), (V.bool (decide (v2 < 0))), (N v2.natAbs)]⟩, ⟨true, false, [(V.bool false), V.nil, (V.bool false), V.nil]⟩, ⟨true, false, [(V.bool (decide (q1 < 0))), (N q1.natAbs), (V.bool (decide (q2 < 0))), (N q2.natAbs)]⟩, ⟨true, false, [(V.bool (decide ((sqS fa fb (2 ^ (((sc + hh) + 24)).toNat) y).1 < 0))), (N (((sqS fa fb (2 ^ (((sc + hh) + 24)).toNat) y).1).natAbs)), (V.bool (decide ((sqS fa fb (2 ^ (((sc + hh) + 24)).toNat) y).2 < 0))), (N (((sqS fa fb (2 ^ (((sc + hh) + 24)).toNat) y).2).natAbs))]⟩]⟩)
def fx_exp_2_J (_ hh _ _ _ _ _ _ : Int) (y : Nat) : Prop := (y : Int) = hh
abbrev fx_exp_2_N (sc hh v1 v2 q1 q2 fa fb : Int) := NX (fx_exp_2_mk sc hh v1 v2 q1 q2 fa fb) (fx_exp_2_I sc hh v1 v2 q1 q2 fa fb) (fx_exp_2_mu sc hh v1 v2 q1 q2 fa fb) (fx_exp_2_ex sc hh v1 v2 q1 q2 fa fb) (fx_exp_2_J sc hh v1 v2 q1 q2 fa fb)
theorem fx_exp_2 (sc hh v1 v2 q1 q2 fa fb : Int) (c0 : ∀ i : Nat, (i : Int) < hh → Impl Tryz.prog Amb 239 [(.agg [(.bool (decide ((sqS fa fb (2 ^ (((sc + hh) + 24)).toNat) i).1 < 0))), (N (((sqS fa fb (2 ^ (((sc + hh) + 24)).toNat) i).1).natAbs)), (.bool (decide ((sqS fa fb (2 ^ (((sc + hh) + 24)).toNat) i).2 < 0))), (N (((sqS fa fb (2 ^ (((sc + hh) + 24)).toNat) i).2).natAbs))]), (.agg [(.bool (decide ((sqS fa fb (2 ^ (((sc + hh) + 24)).toNat) i).1 < 0))), (N (((sqS fa fb (2 ^ (((sc + hh) + 24)).toNat) i).1).natAbs)), (.bool (decide ((sqS fa fb (2 ^ (((sc + hh) + 24)).toNat) i).2 < 0))), (N (((sqS fa fb (2 ^ (((sc + hh) + 24)).toNat) i).2).natAbs))]), (.int .i64 ((sc + hh) + 24))] (.agg [(.bool (decide ((sqS fa fb (2 ^ (((sc + hh) + 24)).toNat) (i + 1)).1 < 0))), (N (((sqS fa fb (2 ^ (((sc + hh) + 24)).toNat) (i + 1)).1).natAbs)), (.bool (decide ((sqS fa fb (2 ^ (((sc + hh) + 24)).toNat) (i + 1)).2 < 0))), (N (((sqS fa fb (2 ^ (((sc + hh) + 24)).toNat) (i + 1)).2).natAbs))]))(c1 : 4 ≤ hh ∧ hh ≤ 200) (x0 : Nat × Int) (hI : fx_exp_2_I sc hh v1 v2 q1 q2 fa fb x0) : LoopOk Tryz.prog Amb (loopN Tryz.f242 2) (fx_exp_2_mk sc hh v1 v2 q1 q2 fa fb x0) (fun e st_ => ∃ y, fx_exp_2_J sc hh v1 v2 q1 q2 fa fb y ∧ fx_exp_2_ex sc hh v1 v2 q1 q2 fa fb y = (e, st_)) :=
  loop_ob hP hAmb ⟨[1, 4, 6, 8, 50, 51], 4, []⟩ (fx_exp_2_mk sc hh v1 v2 q1 q2 fa fb) (fx_exp_2_I sc hh v1 v2 q1 q2 fa fb) (fx_exp_2_mu sc hh v1 v2 q1 q2 fa fb) (fx_exp_2_ex sc hh v1 v2 q1 q2 fa fb) (fx_exp_2_J sc hh v1 v2 q1 q2 fa fb) x0 hI (fun (i, ii) => .lit <| .both (.lits 3 <| .call (.agg [(.bool (decide ((sqS fa fb (2 ^ (((sc + hh) + 24)).toNat) (i + 1)).1 < 0))), (N (((sqS fa fb (2 ^ (((sc + hh) + 24)).toNat) (i + 1)).1).natAbs)), (.bool (decide ((sqS fa fb (2 ^ (((sc + hh) + 24)).toNat) (i + 1)).2 < 0))), (N (((sqS fa fb (2 ^ (((sc + hh) + 24)).toNat) (i + 1)).2).natAbs))]) <| .lits 2 <| .yes <| .fin2 ⟨[1, 4, 6, 8, 50, 51], 4, []⟩) (.fin2 ⟨[1, 4, 6, 8], 4, []⟩)) (by
    rintro ⟨i, ii⟩ hI
    have hI : ii = (i : Int) ∧ (i : Int) ≤ hh := hI
    obtain ⟨h1, h2⟩ := hI
    exact cast_ob (aI True.intro (aI (fun (h101 : (iLt ii hh) = true) => have _gh101 := iLt_t h101; aI (c0 i oO ) (aI (fits_i64 oO : (fits .i64 (ii + 1)) = true) (aI tT ((nx_next ((i + 1), (ii + 1)) (show (ii + 1) = ((i + 1) : Int) ∧ ((i + 1) : Int) ≤ hh from ⟨by omega, by omega⟩) (show (hh - ((i + 1 : Nat) : Int)).toNat < (hh - i).toNat by omega) : fx_exp_2_N sc hh v1 v2 q1 q2 fa fb (i, ii) .normal (fx_exp_2_mk sc hh v1 v2 q1 q2 fa fb ((i + 1), (ii + 1)))))))) (fun (h102 : (iLt ii hh) = false) => have _gh102 := iLt_f h102; aI tT ((nx_exit 4 ((fx_exp_2_ex sc hh v1 v2 q1 q2 fa fb i).2) i (show (i : Int) = hh from show (i : Int) = hh by omega) rfl : fx_exp_2_N sc hh v1 v2 q1 q2 fa fb (i, ii) (.exit 4) ((fx_exp_2_ex sc hh v1 v2 q1 q2 fa fb i).2)))))) (by kernel_rfl))
theorem fx_exp0 (x1 : Int) (x2 : Int) (sc : Int) (hh : Int) (w1 : Int) (w2 : Int) (v1 : Int) (v2 : Int) (r1 : Int) (r2 : Int) (nn : Nat) (pp1 : Nat → Int) (pp2 : Nat → Int) (mm1 : Nat → Int) (mm2 : Nat → Int) (c0 : 0 ≤ sc ∧ sc ≤ 20000) (c1 : 4 ≤ hh ∧ hh ≤ 200) (c2 : ∀ i : Int, 4 ≤ i → i < hh → i * i < sc) (c3 : sc ≤ hh * hh) (c4 : Impl Tryz.prog Amb 213 [(.agg [(.bool (decide (x1 < 0))), (N x1.natAbs), (.bool (decide (x2 < 0))), (N x2.natAbs)]), (.int .i64 (((sc + hh) + 24) - sc))] (.agg [(.bool (decide (w1 < 0))), (N w1.natAbs), (.bool (decide (w2 < 0))), (N w2.natAbs)])) (c5 : Impl Tryz.prog Amb 111 [(.agg [(.bool (decide (w1 < 0))), (N w1.natAbs), (.bool (decide (w2 < 0))), (N w2.natAbs)]), (.int .i64 hh)] (.agg [(.bool (decide (v1 < 0))), (N v1.natAbs), (.bool (decide (v2 < 0))), (N v2.natAbs)])) (c6 : Impl Tryz.prog Amb 210 [(.int .i64 ((sc + hh) + 24))] (.agg [(.bool (decide ((pp1 0) < 0))), (N ((pp1 0).natAbs)), (.bool (decide ((pp2 0) < 0))), (N ((pp2 0).natAbs))])) (c7 : ∀ j, j < nn → Impl Tryz.prog Amb 239 [(.agg [(.bool (decide ((pp1 j) < 0))), (N ((pp1 j).natAbs)), (.bool (decide ((pp2 j) < 0))), (N ((pp2 j).natAbs))]), (.agg [(.bool (decide (v1 < 0))), (N v1.natAbs), (.bool (decide (v2 < 0))), (N v2.natAbs)]), (.int .i64 ((sc + hh) + 24))] (.agg [(.bool (decide ((mm1 j) < 0))), (N ((mm1 j).natAbs)), (.bool (decide ((mm2 j) < 0))), (N ((mm2 j).natAbs))])) (c8 : ∀ (j : Nat) (kk : Int), j < nn → kk = (j : Int) + 1 → Impl Tryz.prog Amb 241 [(.agg [(.bool (decide ((mm1 j) < 0))), (N ((mm1 j).natAbs)), (.bool (decide ((mm2 j) < 0))), (N ((mm2 j).natAbs))]), (.int .u32 kk)] (.agg [(.bool (decide ((pp1 (j + 1)) < 0))), (N ((pp1 (j + 1)).natAbs)), (.bool (decide ((pp2 (j + 1)) < 0))), (N ((pp2 (j + 1)).natAbs))])) (c9 : ∀ j, j < nn → Impl Tryz.prog Amb 173 [(.agg [(.bool (decide ((saS pp1 j) < 0))), (N ((saS pp1 j).natAbs)), (.bool (decide ((saS pp2 j) < 0))), (N ((saS pp2 j).natAbs))]), (.agg [(.bool (decide ((pp1 (j + 1)) < 0))), (N ((pp1 (j + 1)).natAbs)), (.bool (decide ((pp2 (j + 1)) < 0))), (N ((pp2 (j + 1)).natAbs))])] (.agg [(.bool (decide ((saS pp1 (j + 1)) < 0))), (N ((saS pp1 (j + 1)).natAbs)), (.bool (decide ((saS pp2 (j + 1)) < 0))), (N ((saS pp2 (j + 1)).natAbs))])) (c10 : ∀ j, j < nn → Impl Tryz.prog Amb 240 [(.agg [(.bool (decide ((pp1 (j + 1)) < 0))), (N ((pp1 (j + 1)).natAbs)), (.bool (decide ((pp2 (j + 1)) < 0))), (N ((pp2 (j + 1)).natAbs))])] (.bool (decide (nn ≤ j + 1)))) (c11 : L (saS pp2 nn).natAbs ≤ 20000 ∧ L (pp2 nn).natAbs ≤ 20000) (c12 : 1 ≤ nn ∧ nn ≤ 10000) (c13 : ∀ i : Nat, (i : Int) < hh → Impl Tryz.prog Amb 239 [(.agg [(.bool (decide ((sqS (saS pp1 nn) ((saS pp2 nn) + (pp2 nn)) (2 ^ (((sc + hh) + 24)).toNat) i).1 < 0))), (N (((sqS (saS pp1 nn) ((saS pp2 nn) + (pp2 nn)) (2 ^ (((sc + hh) + 24)).toNat) i).1).natAbs)), (.bool (decide ((sqS (saS pp1 nn) ((saS pp2 nn) + (pp2 nn)) (2 ^ (((sc + hh) + 24)).toNat) i).2 < 0))), (N (((sqS (saS pp1 nn) ((saS pp2 nn) + (pp2 nn)) (2 ^ (((sc + hh) + 24)).toNat) i).2).natAbs))]), (.agg [(.bool (decide ((sqS (saS pp1 nn) ((saS pp2 nn) + (pp2 nn)) (2 ^ (((sc + hh) + 24)).toNat) i).1 < 0))), (N (((sqS (saS pp1 nn) ((saS pp2 nn) + (pp2 nn)) (2 ^ (((sc + hh) + 24)).toNat) i).1).natAbs)), (.bool (decide ((sqS (saS pp1 nn) ((saS pp2 nn) + (pp2 nn)) (2 ^ (((sc + hh) + 24)).toNat) i).2 < 0))), (N (((sqS (saS pp1 nn) ((saS pp2 nn) + (pp2 nn)) (2 ^ (((sc + hh) + 24)).toNat) i).2).natAbs))]), (.int .i64 ((sc + hh) + 24))] (.agg [(.bool (decide ((sqS (saS pp1 nn) ((saS pp2 nn) + (pp2 nn)) (2 ^ (((sc + hh) + 24)).toNat) (i + 1)).1 < 0))), (N (((sqS (saS pp1 nn) ((saS pp2 nn) + (pp2 nn)) (2 ^ (((sc + hh) + 24)).toNat) (i + 1)).1).natAbs)), (.bool (decide ((sqS (saS pp1 nn) ((saS pp2 nn) + (pp2 nn)) (2 ^ (((sc + hh) + 24)).toNat) (i + 1)).2 < 0))), (N (((sqS (saS pp1 nn) ((saS pp2 nn) + (pp2 nn)) (2 ^ (((sc + hh) + 24)).toNat) (i + 1)).2).natAbs))])) (c14 : ∀ i : Nat, (i : Int) = hh → Impl Tryz.prog Amb 111 [(.agg [(.bool (decide ((sqS (saS pp1 nn) ((saS pp2 nn) + (pp2 nn)) (2 ^ (((sc + hh) + 24)).toNat) i).1 < 0))), (N (((sqS (saS pp1 nn) ((saS pp2 nn) + (pp2 nn)) (2 ^ (((sc + hh) + 24)).toNat) i).1).natAbs)), (.bool (decide ((sqS (saS pp1 nn) ((saS pp2 nn) + (pp2 nn)) (2 ^ (((sc + hh) + 24)).toNat) i).2 < 0))), (N (((sqS (saS pp1 nn) ((saS pp2 nn) + (pp2 nn)) (2 ^ (((sc + hh) + 24)).toNat) i).2).natAbs))]), (.int .i64 (((sc + hh) + 24) - sc))] (.agg [(.bool (decide (r1 < 0))), (N r1.natAbs), (.bool (decide (r2 < 0))), (N r2.natAbs)])) : Impl Tryz.prog Amb 242 [(.agg [(.bool (decide (x1 < 0))), (N x1.natAbs), (.bool (decide (x2 < 0))), (N x2.natAbs)]), (.int .i64 sc)] (.agg [(.bool (decide (r1 < 0))), (N r1.natAbs), (.bool (decide (r2 < 0))), (N r2.natAbs)]) := by
  exact impl_ob hP hAmb Tryz.func242 (by kernel_rfl) (.loop ⟨[1, 2, 4, 5], 2, []⟩ ((fx_exp_0_mk x1 x2 sc hh 4)) (Int) (fx_exp_0_ex x1 x2 sc hh) (fx_exp_0_J x1 x2 sc hh) (fun y => .lit <| .yes <| .lit <| .yes <| .lits 2 <| .yes <| .lit <| .call (.agg [(.bool (decide (w1 < 0))), (N w1.natAbs), (.bool (decide (w2 < 0))), (N w2.natAbs)]) <| .lit <| .call (.agg [(.bool (decide (v1 < 0))), (N v1.natAbs), (.bool (decide (v2 < 0))), (N v2.natAbs)]) <| .lits 2 <| .call (.agg [(.bool (decide ((pp1 0) < 0))), (N ((pp1 0).natAbs)), (.bool (decide ((pp2 0) < 0))), (N ((pp2 0).natAbs))]) <| .lits 3 <| .loop ⟨[1, 2, 4, 5, 6, 7, 8, 9], 4, []⟩ ((fx_exp_1_mk sc y v1 v2 nn pp1 pp2 mm1 mm2 (0, 1))) (Nat) (fx_exp_1_ex sc y v1 v2 nn pp1 pp2 mm1 mm2) (fx_exp_1_J sc y v1 v2 nn pp1 pp2 mm1 mm2) (fun z => .loop ⟨[1, 4, 6, 8, 50, 51], 4, []⟩ ((fx_exp_2_mk sc y v1 v2 (pp1 z) (pp2 z) (saS pp1 z) ((saS pp2 z) + (pp2 z)) (0, 0))) (Nat) (fx_exp_2_ex sc y v1 v2 (pp1 z) (pp2 z) (saS pp1 z) ((saS pp2 z) + (pp2 z))) (fx_exp_2_J sc y v1 v2 (pp1 z) (pp2 z) (saS pp1 z) ((saS pp2 z) + (pp2 z))) (fun u => .lits 2 <| .yes <| .lit <| .call (.agg [(.bool (decide (r1 < 0))), (N r1.natAbs), (.bool (decide (r2 < 0))), (N r2.natAbs)]) <| .lits 2 <| .ret))))
    (cast_ob (aI True.intro (aI tT (aI (rfl : (fx_exp_0_mk x1 x2 sc hh 4) = (fx_exp_0_mk x1 x2 sc hh 4)) (aI (fx_exp_0 x1 x2 sc hh c0 c1 c2 c3 4 (show 4 ≤ 4 ∧ 4 ≤ hh from ⟨by omega, by omega⟩)) (fun y (hJ : fx_exp_0_J x1 x2 sc hh y) => have hJ : y = hh := hJ; have hY := hJ; aI (fits_i64 oS : (fits .i64 (sc + y)) = true) (aI (fits_i64 oS : (fits .i64 ((sc + y) + 24)) = true) (aI (fits_i64 oS : (fits .i64 (((sc + y) + 24) - sc)) = true) (aI ((hY ▸ c4) ) (aI ((hY ▸ c5) ) (aI ((hY ▸ c6) ) (aI tT (aI (rfl : (fx_exp_1_mk sc y v1 v2 nn pp1 pp2 mm1 mm2 (0, 1)) = (fx_exp_1_mk sc y v1 v2 nn pp1 pp2 mm1 mm2 (0, 1))) (aI (fx_exp_1 sc y v1 v2 nn pp1 pp2 mm1 mm2 (hY ▸ c7) c8 c9 c10 c11 c12 (0, 1) (show 0 < nn ∧ 1 = (0 : Int) + 1 from ⟨by omega, by omega⟩)) (fun z (hJ : fx_exp_1_J sc y v1 v2 nn pp1 pp2 mm1 mm2 z) => have hJ : z = nn := hJ; have hZ := hJ; aI tT (aI (rfl : (fx_exp_2_mk sc y v1 v2 (pp1 z) (pp2 z) (saS pp1 z) ((saS pp2 z) + (pp2 z)) (0, 0)) = (fx_exp_2_mk sc y v1 v2 (pp1 z) (pp2 z) (saS pp1 z) ((saS pp2 z) + (pp2 z)) (0, 0))) (aI (fx_exp_2 sc y v1 v2 (pp1 z) (pp2 z) (saS pp1 z) ((saS pp2 z) + (pp2 z)) (hZ ▸ hY ▸ c13) (hY ▸ c1) (0, 0) (show 0 = (0 : Int) ∧ (0 : Int) ≤ y from ⟨by omega, by omega⟩)) (fun u (hJ : fx_exp_2_J sc y v1 v2 (pp1 z) (pp2 z) (saS pp1 z) ((saS pp2 z) + (pp2 z)) u) => have hJ : (u : Int) = y := hJ; have hV := hJ; aI (fits_i64 oS : (fits .i64 (((sc + y) + 24) - sc)) = true) (aI ((hZ ▸ (show _ from (hY ▸ (c14 u oO)))) ) ((vsub_refl (.agg [(.bool (decide (r1 < 0))), (N r1.natAbs), (.bool (decide (r2 < 0))), (N r2.natAbs)]))))))))))))))))))))) (by kernel_rfl))
end Go.Proofs.YtekcladflnieeaaGreatDoor

namespace Go.Proofs.YtekcladflnieeaaGreatDoor
open Go.RowKit
set_option maxRecDepth 100000
theorem wrap_neg {x : Int} (h : x < 0) (k : -4294967295 ≤ x) : IntKind.wrap .i64 (IntKind.wrap .u64 ((0 : Int) - (x.natAbs : Int))) = x := by
  rw [wrap_u64]
  have e : ((0 : Int) - (x.natAbs : Int)) % 18446744073709551616 = 18446744073709551616 + x := by omega
  rw [e]
  simp [IntKind.wrap, IntKind.bits, IntKind.signed]
  omega
theorem nat_Uint1 (a : Nat) (c0 : a < 4294967296) : Impl Tryz.prog Amb 224 [(N a)] (.tup [(.int .u64 (a : Int)), (.bool true)]) := by
  have l1 := L_le (n := a) (k := 1) (by rw [Nat.pow_one]; exact c0)
  have e0 := L_len a
  have g0 := gi_nonneg (limbs a) 0
  have g1 := gi_lt (dig_limbs a) 0
  exact impl_ob hP hAmb Tryz.func224 (by kernel_rfl) (.lit <| .call (.int .i64 (L a : Int)) <| .lit <| .both (.lit <| .ret) (.lit <| .both (.yes <| .yes <| .lit <| .yes <| .lit <| .ret) (.lit <| .both (.yes <| .yes <| .lit <| .yes <| .lit <| .yes <| .yes <| .yes <| .lit <| .yes <| .lits 2 <| .ret) (.lit <| .ret))))
    (cast_ob (aI True.intro (aI (nat_sizeN a oO) (aI (fun (h1 : (iEq (L a : Int) 0) = true) => have _gh1 := iEq_t h1; (vsub_of (by rw [show a = 0 from Decidable.byContradiction fun h => by have := L_pos h; omega]; rfl) : vsub (.tup [(.int .u64 0), (.bool true)]) (.tup [(.int .u64 (a : Int)), (.bool true)]))) (fun (h2 : (iEq (L a : Int) 0) = false) => have _gh2 := iEq_f h2; aI (fun (h3 : (iEq (L a : Int) 1) = true) => have _gh3 := iEq_t h3; aI (inB_mk oO : (inB (0 : Int) ((lim a).length)) = true) (aI (ld_L oO : (Nat.blt 0 (lim a).length && isIntK .u32 (nth (lim a) 0 .unk)) = true) (aI (fits_u64 oO : (fits .u64 (gi (limbs a) 0)) = true) ((vsub_of (by rw [gi_one (show L a = 1 by omega)]) : vsub (.tup [(.int .u64 (gi (limbs a) 0)), (.bool true)]) (.tup [(.int .u64 (a : Int)), (.bool true)])))))) (fun (h4 : (iEq (L a : Int) 1) = false) => have _gh4 := iEq_f h4; aI (fun (h5 : (iEq (L a : Int) 2) = true) => have _gh5 := iEq_t h5; aI (inB_mk oO : (inB (1 : Int) ((lim a).length)) = true) (aI (ld_L oO : (Nat.blt 1 (lim a).length && isIntK .u32 (nth (lim a) 1 .unk)) = true) (aI (fits_u64 oO : (fits .u64 (gi (limbs a) 1)) = true) (aI (fits_u64 oO : (fits .u64 ((gi (limbs a) 1) * 2 ^ 32)) = true) (aI (inB_mk oO : (inB (0 : Int) ((lim a).length)) = true) (aI (ld_L oO : (Nat.blt 0 (lim a).length && isIntK .u32 (nth (lim a) 0 .unk)) = true) (aI (fits_u64 oO : (fits .u64 (gi (limbs a) 0)) = true) ((False.elim oO : vsub (.tup [(.int .u64 (wOr .u64 ((gi (limbs a) 1) * 2 ^ 32) (gi (limbs a) 0))), (.bool true)]) (.tup [(.int .u64 (a : Int)), (.bool true)])))))))))) (fun (h6 : (iEq (L a : Int) 2) = false) => have _gh6 := iEq_f h6; (False.elim oO : vsub (.tup [(.int .u64 0), (.bool false)]) (.tup [(.int .u64 (a : Int)), (.bool true)])))))))) (by kernel_rfl))
theorem int_Int1 (x : Int) (c0 : -4294967295 ≤ x ∧ x ≤ 4294967295) : Impl Tryz.prog Amb 171 [(zV x)] (.tup [(.int .i64 x), (.bool true)]) := by
  have wz := wrap_neg (x := x)
  exact impl_ob hP hAmb Tryz.func171 (by kernel_rfl) (.lits 2 <| .call (.tup [(.int .u64 (x.natAbs : Int)), (.bool true)]) <| .lits 4 <| .both (.lits 3 <| .yes <| .lit <| .yes <| .lit <| .ret) (.lits 4 <| .both (.lits 3 <| .yes <| .lit <| .no <| .lit <| .no <| .lit <| .ret) (.lits 4 <| .ret)))
    (cast_ob (aI True.intro (aI (nat_Uint1 x.natAbs oO) (aI (fun (h1 : (!(decide (x < 0))) = true) => have _gh1 := of_decide_eq_false (notb_t h1); aI (iLt_mk oO : (iLt (x.natAbs : Int) 9223372036854775808) = true) (aI (fits_i64 oO : (fits .i64 (x.natAbs : Int)) = true) ((vsub_of (by rw [show (x.natAbs : Int) = x by omega]) : vsub (.tup [(.int .i64 (x.natAbs : Int)), (.bool true)]) (.tup [(.int .i64 x), (.bool true)]))))) (fun (h2 : (!(decide (x < 0))) = false) => have _gh2 := of_decide_eq_true (notb_f h2); aI (fun (h3 : (decide (x < 0)) = true) => have _gh3 := of_decide_eq_true h3; aI (iLe_mk oO : (iLe (x.natAbs : Int) 9223372036854775808) = true) ((vsub_of (by rw [wz oO oO]) : vsub (.tup [(.int .i64 (IntKind.wrap .i64 (IntKind.wrap .u64 ((0 : Int) - (x.natAbs : Int))))), (.bool true)]) (.tup [(.int .i64 x), (.bool true)])))) (fun (h4 : (decide (x < 0)) = false) => have _gh4 := of_decide_eq_false h4; (False.elim oO : vsub (.tup [(.int .i64 0), (.bool false)]) (.tup [(.int .i64 x), (.bool true)]))))))) (by kernel_rfl))
theorem fx_Nearest (a : Int) (b : Int) (c : Int) (d : Int) (c0 : L (a).natAbs ≤ 3000) (c1 : L (b).natAbs ≤ 3000) (c2 : L (c).natAbs ≤ 3000) (c3 : L (d).natAbs ≤ 3000) (c4 : 0 < c + d) (c5 : -4294967295 ≤ (Int.fdiv (((a + b) * 2 ^ 1) + (c + d)) ((c + d) * 2 ^ 1)) ∧ (Int.fdiv (((a + b) * 2 ^ 1) + (c + d)) ((c + d) * 2 ^ 1)) ≤ 4294967295) : Impl Tryz.prog Amb 104 [(.agg [(.bool (decide (a < 0))), (N a.natAbs), (.bool (decide (b < 0))), (N b.natAbs)]), (.agg [(.bool (decide (c < 0))), (N c.natAbs), (.bool (decide (d < 0))), (N d.natAbs)])] (.int .i64 (Int.fdiv (((a + b) * 2 ^ 1) + (c + d)) ((c + d) * 2 ^ 1))) := by
  exact impl_ob hP hAmb Tryz.func104 (by kernel_rfl) (.lits 3 <| .call (zV (a + b)) <| .lits 3 <| .call (zV (c + d)) <| .lits 2 <| .call (zV ((a + b) * 2 ^ 1)) <| .lits 2 <| .call (zV (((a + b) * 2 ^ 1) + (c + d))) <| .lits 2 <| .call (zV ((c + d) * 2 ^ 1)) <| .lit <| .call (.tup [(zV (Int.fdiv (((a + b) * 2 ^ 1) + (c + d)) ((c + d) * 2 ^ 1))), (zV ((((a + b) * 2 ^ 1) + (c + d)) - (Int.fdiv (((a + b) * 2 ^ 1) + (c + d)) ((c + d) * 2 ^ 1)) * ((c + d) * 2 ^ 1))), (.bool true)]) <| .lits 2 <| .call (.tup [(.int .i64 (Int.fdiv (((a + b) * 2 ^ 1) + (c + d)) ((c + d) * 2 ^ 1))), (.bool true)]) <| .lit <| .ret)
    (cast_ob (aI True.intro (aI (int_Add a b oO oO) (have f7 := L_abs_add a b; aI (int_Add c d oO oO) (have f6 := L_abs_add c d; aI (int_Shl (a + b) 1 oO oO) (have f5 := L_abs_shl (a + b) 1; aI (int_Add ((a + b) * 2 ^ 1) (c + d) oO oO) (have f4 := L_abs_add ((a + b) * 2 ^ 1) (c + d); aI (int_Shl (c + d) 1 oO oO) (have f3 := L_abs_shl (c + d) 1; aI (int_DivMod (((a + b) * 2 ^ 1) + (c + d)) ((c + d) * 2 ^ 1) oO oO oO) (have f2 := L_rm (((a + b) * 2 ^ 1) + (c + d)) ((c + d) * 2 ^ 1); have f1 := L_fdiv (((a + b) * 2 ^ 1) + (c + d)) ((c + d) * 2 ^ 1); aI (int_Int1 (Int.fdiv (((a + b) * 2 ^ 1) + (c + d)) ((c + d) * 2 ^ 1)) oO) ((vsub_refl (.int .i64 (Int.fdiv (((a + b) * 2 ^ 1) + (c + d)) ((c + d) * 2 ^ 1))))))))))))) (by kernel_rfl))
end Go.Proofs.YtekcladflnieeaaGreatDoor

namespace Go.Proofs.YtekcladflnieeaaGreatDoor
open Go.RowKit
set_option maxRecDepth 100000
theorem gt_dec (x : Int) : iGt x 0 = decide (0 < x) := rfl
theorem fx_Exp_aw (q1 : Int) (q2 : Int) (u1 : Int) (u2 : Int) (t1 : Int) (t2 : Int) (s1 : Int) (s2 : Int) (x1 : Int) (x2 : Int) (y1 : Int) (y2 : Int) (r1 : Int) (r2 : Int) (c0 : Impl Tryz.prog Amb 105 [(yV (0 : Int) 0), (.int .i64 32)] (.agg [(.bool (decide ((0 : Int) < 0))), (N ((0 : Int).natAbs)), (.bool (decide ((0 : Int) < 0))), (N ((0 : Int).natAbs))])) (c1 : Impl Tryz.prog Amb 106 [(.int .i64 32)] (.agg [(.bool (decide (q1 < 0))), (N q1.natAbs), (.bool (decide (q2 < 0))), (N q2.natAbs)])) (c2 : Impl Tryz.prog Amb 104 [(.agg [(.bool (decide ((0 : Int) < 0))), (N ((0 : Int).natAbs)), (.bool (decide ((0 : Int) < 0))), (N ((0 : Int).natAbs))]), (.agg [(.bool (decide (q1 < 0))), (N q1.natAbs), (.bool (decide (q2 < 0))), (N q2.natAbs)])] (.int .i64 0)) (c3 : Impl Tryz.prog Amb 105 [(yV (0 : Int) 0), (.int .i64 67)] (.agg [(.bool (decide ((0 : Int) < 0))), (N ((0 : Int).natAbs)), (.bool (decide ((0 : Int) < 0))), (N ((0 : Int).natAbs))])) (c4 : Impl Tryz.prog Amb 106 [(.int .i64 67)] (.agg [(.bool (decide (u1 < 0))), (N u1.natAbs), (.bool (decide (u2 < 0))), (N u2.natAbs)])) (c5 : Impl Tryz.prog Amb 110 [(.agg [(.bool (decide (u1 < 0))), (N u1.natAbs), (.bool (decide (u2 < 0))), (N u2.natAbs)]), (.int .i64 (-1))] (.agg [(.bool (decide (t1 < 0))), (N t1.natAbs), (.bool (decide (t2 < 0))), (N t2.natAbs)])) (c6 : Impl Tryz.prog Amb 109 [(.agg [(.bool (decide ((0 : Int) < 0))), (N ((0 : Int).natAbs)), (.bool (decide ((0 : Int) < 0))), (N ((0 : Int).natAbs))]), (.agg [(.bool (decide (t1 < 0))), (N t1.natAbs), (.bool (decide (t2 < 0))), (N t2.natAbs)])] (.agg [(.bool (decide (s1 < 0))), (N s1.natAbs), (.bool (decide (s2 < 0))), (N s2.natAbs)])) (c7 : Impl Tryz.prog Amb 111 [(.agg [(.bool (decide (s1 < 0))), (N s1.natAbs), (.bool (decide (s2 < 0))), (N s2.natAbs)]), (.int .i64 16)] (.agg [(.bool (decide (x1 < 0))), (N x1.natAbs), (.bool (decide (x2 < 0))), (N x2.natAbs)])) (c8 : Impl Tryz.prog Amb 242 [(.agg [(.bool (decide (x1 < 0))), (N x1.natAbs), (.bool (decide (x2 < 0))), (N x2.natAbs)]), (.int .i64 51)] (.agg [(.bool (decide (y1 < 0))), (N y1.natAbs), (.bool (decide (y2 < 0))), (N y2.natAbs)])) (c9 : Impl Tryz.prog Amb 111 [(.agg [(.bool (decide (y1 < 0))), (N y1.natAbs), (.bool (decide (y2 < 0))), (N y2.natAbs)]), (.int .i64 25)] (.agg [(.bool (decide (r1 < 0))), (N r1.natAbs), (.bool (decide (r2 < 0))), (N r2.natAbs)])) : Impl Tryz.prog Amb 217 [(yV (0 : Int) 0), (.int .i64 27)] (.agg [(.bool (decide (r1 < 0))), (N r1.natAbs), (.bool (decide (r2 < 0))), (N r2.natAbs)]) := by
  exact impl_ob hP hAmb Tryz.func217 (by kernel_rfl) (.lits 2 <| .call (.agg [(.bool (decide ((0 : Int) < 0))), (N ((0 : Int).natAbs)), (.bool (decide ((0 : Int) < 0))), (N ((0 : Int).natAbs))]) <| .lit <| .call (.agg [(.bool (decide (q1 < 0))), (N q1.natAbs), (.bool (decide (q2 < 0))), (N q2.natAbs)]) <| .lit <| .call (.int .i64 0) <| .lit <| .yes <| .lits 2 <| .yes <| .lit <| .yes <| .lits 2 <| .yes <| .lit <| .call (.agg [(.bool (decide ((0 : Int) < 0))), (N ((0 : Int).natAbs)), (.bool (decide ((0 : Int) < 0))), (N ((0 : Int).natAbs))]) <| .lit <| .yes <| .lit <| .call (.agg [(.bool (decide (u1 < 0))), (N u1.natAbs), (.bool (decide (u2 < 0))), (N u2.natAbs)]) <| .lit <| .call (.agg [(.bool (decide (t1 < 0))), (N t1.natAbs), (.bool (decide (t2 < 0))), (N t2.natAbs)]) <| .lit <| .call (.agg [(.bool (decide (s1 < 0))), (N s1.natAbs), (.bool (decide (s2 < 0))), (N s2.natAbs)]) <| .lit <| .call (.agg [(.bool (decide (x1 < 0))), (N x1.natAbs), (.bool (decide (x2 < 0))), (N x2.natAbs)]) <| .lits 3 <| .call (.agg [(.bool (decide (y1 < 0))), (N y1.natAbs), (.bool (decide (y2 < 0))), (N y2.natAbs)]) <| .lits 3 <| .yes <| .lit <| .yes <| .lit <| .call (.agg [(.bool (decide (r1 < 0))), (N r1.natAbs), (.bool (decide (r2 < 0))), (N r2.natAbs)]) <| .lits 2 <| .ret)
    (cast_ob (aI True.intro (aI (c0 ) (aI (c1 ) (aI (c2 ) (aI tT (aI tT (aI tT (aI tT (aI (c3 ) (aI tT (aI (c4 ) (aI (c5 ) (aI (c6 ) (aI (c7 ) (aI (c8 ) (aI tT (aI tT (aI (c9 ) ((vsub_refl (.agg [(.bool (decide (r1 < 0))), (N r1.natAbs), (.bool (decide (r2 < 0))), (N r2.natAbs)]))))))))))))))))))))) (by kernel_rfl))
theorem ex_at (m : Int) (ee : Int) (ss : Int) (lo : Int) (hi : Int) (c0 : Impl Tryz.prog Amb 217 [(yV m ee), (.int .i64 ss)] (.agg [(.bool (decide (lo < 0))), (N lo.natAbs), (.bool (decide (hi < 0))), (N hi.natAbs)])) : Impl Tryz.prog Amb 158 [(yV m ee), (.int .i64 ss)] (.agg [(.bool (decide (lo < 0))), (N lo.natAbs), (.bool (decide (hi < 0))), (N hi.natAbs)]) := by
  exact impl_ob hP hAmb Tryz.func158 (by kernel_rfl) (.lits 2 <| .call (.agg [(.bool (decide (lo < 0))), (N lo.natAbs), (.bool (decide (hi < 0))), (N hi.natAbs)]) <| .lits 2 <| .ret)
    (cast_ob (aI True.intro (aI (c0 ) ((vsub_refl (.agg [(.bool (decide (lo < 0))), (N lo.natAbs), (.bool (decide (hi < 0))), (N hi.natAbs)]))))) (by kernel_rfl))
theorem ex_beyond (m : Int) (ee : Int) (n : Int) (c0 : L (m).natAbs ≤ 8000) (c1 : -65536 ≤ ee ∧ ee ≤ 65536) (c2 : -9223372036854775808 ≤ n ∧ n ≤ 9223372036854775807) : Impl Tryz.prog Amb 94 [(yV m ee), (.int .i64 n)] (.bool (decide (0 < (cmpD m ee (mkM n 0) (mkX n 0))))) := by
  have of1 := of_fit (n := n) oO
  exact impl_ob hP hAmb Tryz.func94 (by kernel_rfl) (.lits 2 <| .call (yV (mkM n 0) (mkX n 0)) <| .lit <| .call (.int .i64 (cmpD m ee (mkM n 0) (mkX n 0))) <| .lits 2 <| .ret)
    (cast_ob (aI True.intro (aI (dy_Of n oO) (have f3 := (L_i64 oO : L (n : Int).natAbs ≤ 2); have f2 := mk_facts n 0; aI (dy_Cmp m ee (mkM n 0) (mkX n 0) oO oO oO oO) (have f1 := cmpD_range m ee (mkM n 0) (mkX n 0); (vsub_of (congrArg V.bool (gt_dec _)) : vsub (.bool (iGt (cmpD m ee (mkM n 0) (mkX n 0)) 0)) (.bool (decide (0 < (cmpD m ee (mkM n 0) (mkX n 0)))))))))) (by kernel_rfl))
def exM (o v1 v2 T : Int) : Nat → Int × Int
  | 0 => (o, o)
  | j + 1 => (ptLo ((exM o v1 v2 T j).1 * v1 / T) ((j : Int) + 1), ptHi (-(-((exM o v1 v2 T j).2 * v2) / T)) ((j : Int) + 1))
def exOk (o v1 v2 T : Int) (nn : Nat) : Bool := (List.range (nn + 1)).all fun j =>
  decide ((exM o v1 v2 T j).1.natAbs < 2 ^ 500) && decide ((exM o v1 v2 T j).2.natAbs < 2 ^ 500) && decide ((saS (fun i => (exM o v1 v2 T i).1) j).natAbs < 2 ^ 500) && decide ((saS (fun i => (exM o v1 v2 T i).2) j).natAbs < 2 ^ 500) &&
  decide (((exM o v1 v2 T j).1 * v1 / T).natAbs < 2 ^ 500) && decide ((-(-((exM o v1 v2 T j).2 * v2) / T)).natAbs < 2 ^ 500) && (decide (j = 0) || (decide ((exM o v1 v2 T j).2.natAbs < 8) == decide (nn ≤ j)))
def sqOk (a b T : Int) (h : Nat) : Bool := (List.range (h + 1)).all fun i => decide ((sqS a b T i).1.natAbs < 2 ^ 500) && decide ((sqS a b T i).2.natAbs < 2 ^ 500)
theorem L500 {x : Int} (h : x.natAbs < 2 ^ 500) : L x.natAbs ≤ 16 := L_pow2 h oO
theorem fx_expG (x1 x2 sc hh w1 w2 v1 v2 fa fb : Int) (nn : Nat) (h0 : 0 ≤ sc ∧ sc ≤ 10000) (h1 : 4 ≤ hh ∧ hh ≤ 200) (h2 : ∀ i : Int, 4 ≤ i → i < hh → i * i < sc) (h3 : sc ≤ hh * hh) (hn : 1 ≤ nn ∧ nn ≤ 10000)
    (lx1 : L x1.natAbs ≤ 2000) (lx2 : L x2.natAbs ≤ 2000) (ew1 : w1 = x1 * 2 ^ (((sc + hh) + 24) - sc).toNat) (ew2 : w2 = x2 * 2 ^ (((sc + hh) + 24) - sc).toNat) (ev1 : v1 = w1 / 2 ^ hh.toNat) (ev2 : v2 = -(-w2 / 2 ^ hh.toNat)) (lv1 : L v1.natAbs ≤ 2000) (lv2 : L v2.natAbs ≤ 2000)
    (ok : exOk ((1 : Int) * 2 ^ ((sc + hh) + 24).toNat) v1 v2 (2 ^ ((sc + hh) + 24).toNat) nn = true) (efa : fa = saS (fun i => (exM ((1 : Int) * 2 ^ ((sc + hh) + 24).toNat) v1 v2 (2 ^ ((sc + hh) + 24).toNat) i).1) nn) (efb : fb = saS (fun i => (exM ((1 : Int) * 2 ^ ((sc + hh) + 24).toNat) v1 v2 (2 ^ ((sc + hh) + 24).toNat) i).2) nn + (exM ((1 : Int) * 2 ^ ((sc + hh) + 24).toNat) v1 v2 (2 ^ ((sc + hh) + 24).toNat) nn).2)
    (sq : sqOk fa fb (2 ^ ((sc + hh) + 24).toNat) hh.toNat = true) :
    Impl Tryz.prog Amb 242 [(.agg [(.bool (decide (x1 < 0))), (N x1.natAbs), (.bool (decide (x2 < 0))), (N x2.natAbs)]), (.int .i64 sc)] (.agg [(.bool (decide (((sqS fa fb (2 ^ ((sc + hh) + 24).toNat) hh.toNat).1 / 2 ^ (((sc + hh) + 24) - sc).toNat) < 0))), (N (((sqS fa fb (2 ^ ((sc + hh) + 24).toNat) hh.toNat).1 / 2 ^ (((sc + hh) + 24) - sc).toNat).natAbs)), (.bool (decide ((-(-(sqS fa fb (2 ^ ((sc + hh) + 24).toNat) hh.toNat).2 / 2 ^ (((sc + hh) + 24) - sc).toNat)) < 0))), (N ((-(-(sqS fa fb (2 ^ ((sc + hh) + 24).toNat) hh.toNat).2 / 2 ^ (((sc + hh) + 24) - sc).toNat)).natAbs))]) := by
  have ok := List.all_eq_true.1 ok
  have sq := List.all_eq_true.1 sq
  have ok : ∀ j, j ≤ nn → _ := fun j hj => ok j (List.mem_range.2 oO)
  have sq : ∀ j, j ≤ hh.toNat → _ := fun j hj => sq j (List.mem_range.2 oO)
  simp only [Bool.and_eq_true, Bool.or_eq_true, decide_eq_true_eq, beq_iff_eq] at ok sq
  have lw1 := L_abs_shl x1 (((sc + hh) + 24) - sc).toNat
  have lw2 := L_abs_shl x2 (((sc + hh) + 24) - sc).toNat
  have hT := fx_Twice x1 x2 (((sc + hh) + 24) - sc) oO oO oO
  rw [← ew1] at hT lw1
  rw [← ew2] at hT lw2
  have hH := fx_Half w1 w2 hh oO oO oO
  rw [← ev1, ← ev2] at hH
  have hO := fx_One ((sc + hh) + 24) oO
  have pN := (ok nn (Nat.le_refl _))
  have l2 := L500 pN.1.1.1.2
  have l3 := L500 pN.1.1.1.1.1.2
  subst efa; subst efb
  refine fx_exp0 x1 x2 sc hh w1 w2 v1 v2 _ _ nn (fun i => (exM ((1 : Int) * 2 ^ ((sc + hh) + 24).toNat) v1 v2 (2 ^ ((sc + hh) + 24).toNat) i).1) (fun i => (exM ((1 : Int) * 2 ^ ((sc + hh) + 24).toNat) v1 v2 (2 ^ ((sc + hh) + 24).toNat) i).2) (fun i => (exM ((1 : Int) * 2 ^ ((sc + hh) + 24).toNat) v1 v2 (2 ^ ((sc + hh) + 24).toNat) i).1 * v1 / (2 ^ ((sc + hh) + 24).toNat)) (fun i => -(-((exM ((1 : Int) * 2 ^ ((sc + hh) + 24).toNat) v1 v2 (2 ^ ((sc + hh) + 24).toNat) i).2 * v2) / (2 ^ ((sc + hh) + 24).toNat))) oO h1 h2 h3 hT hH hO ?_ ?_ ?_ ?_ ⟨by omega, by omega⟩ hn ?_ ?_
  · intro j hj
    have a := ok j oO
    exact fx_Mul _ _ v1 v2 ((sc + hh) + 24) (Nat.le_trans (L500 a.1.1.1.1.1.1) oO) (Nat.le_trans (L500 a.1.1.1.1.1.2) oO) oO oO oO
  · intro j kk hj hk
    subst hk
    have a := ok j oO
    exact fx_Part _ _ ((j : Int) + 1) (Nat.le_trans (L500 a.1.1.2) oO) (Nat.le_trans (L500 a.1.2) oO) oO
  · intro j hj
    have a := ok j oO
    have b := ok (j + 1) oO
    exact fx_Add _ _ _ _ (Nat.le_trans (L500 a.1.1.1.1.2) oO) (Nat.le_trans (L500 a.1.1.1.2) oO) (Nat.le_trans (L500 b.1.1.1.1.1.1) oO) (Nat.le_trans (L500 b.1.1.1.1.1.2) oO)
  · intro j hj
    have b := ok (j + 1) oO
    have c := b.2.resolve_left oO
    exact impl_eq (congrArg V.bool c) (fx_Tiny _ _ (Nat.le_trans (L500 b.1.1.1.1.1.2) oO))
  · intro i hi
    have a := sq i oO
    exact fx_Mul _ _ _ _ ((sc + hh) + 24) (Nat.le_trans (L500 a.1) oO) (Nat.le_trans (L500 a.2) oO) (Nat.le_trans (L500 a.1) oO) (Nat.le_trans (L500 a.2) oO) oO
  · intro i hi
    have e : i = hh.toNat := by omega
    subst e
    have a := sq hh.toNat (Nat.le_refl _)
    exact fx_Half _ _ (((sc + hh) + 24) - sc) (Nat.le_trans (L500 a.1) oO) (Nat.le_trans (L500 a.2) oO) oO
end Go.Proofs.YtekcladflnieeaaGreatDoor

namespace Go.Proofs.YtekcladflnieeaaGreatDoor
open Go.RowKit
set_option maxRecDepth 100000
set_option maxHeartbeats 2000000
def fx_SettleB_0_mk (fk : Nat) (u1 : V) (_ _ w : Int) (x : Int) : St := ⟨mkS 27 [(0, (.val (.int .i64 w))), (1, (.val (.bnd fk [u1]))), (4, (.own 0 0)), (5, (.val (.int .i64 24)))], [⟨true, false, [(V.bool false), V.nil, (V.bool false), V.nil]⟩]⟩
def fx_SettleB_0_I (_ : Nat) (_ : V) (_ _ _ : Int) (x : Int) : Prop := x = x
def fx_SettleB_0_mu (_ : Nat) (_ : V) (_ _ _ : Int) (x : Int) : Nat := 0
def fx_SettleB_0_ex (_ : Nat) (_ : V) (ka kb _ : Int) (y : Int) : Ex × St := (.ret, ⟨mkS 27 [(4, (.own 0 0))], [⟨true, false, [(V.bool (decide ((ka / 2 ^ 24) < 0))), (N ((ka / 2 ^ 24).natAbs)), (V.bool (decide ((-(-kb / 2 ^ 24)) < 0))), (N ((-(-kb / 2 ^ 24)).natAbs))]⟩]⟩)
def fx_SettleB_0_J (_ : Nat) (_ : V) (_ _ _ : Int) (y : Int) : Prop := y = y
theorem fx_SettleB_0 (fk : Nat) (u1 : V) (ka kb w : Int) (c0 : Impl Tryz.prog Amb fk [u1, (.int .i64 (w + 24))] (.agg [(.bool (decide (ka < 0))), (N ka.natAbs), (.bool (decide (kb < 0))), (N kb.natAbs)]))(c1 : L ka.natAbs ≤ 8192 ∧ L kb.natAbs ≤ 8192)(c2 : nbits (kb - ka).natAbs ≤ 24)(c3 : (0 : Int) ≤ w ∧ w ≤ 5000) (x0 : Int) (hI : fx_SettleB_0_I fk u1 ka kb w x0) : LoopOk Tryz.prog Amb (loopN Tryz.f107 0) (fx_SettleB_0_mk fk u1 ka kb w x0) (fun e st_ => ∃ y, fx_SettleB_0_J fk u1 ka kb w y ∧ fx_SettleB_0_ex fk u1 ka kb w y = (e, st_)) :=
  loop_ob hP hAmb ⟨[0, 1, 4, 5], 1, []⟩ (fx_SettleB_0_mk fk u1 ka kb w) (fx_SettleB_0_I fk u1 ka kb w) (fx_SettleB_0_mu fk u1 ka kb w) (fx_SettleB_0_ex fk u1 ka kb w) (fx_SettleB_0_J fk u1 ka kb w) x0 hI (fun j => .lit <| .yes <| .lit <| .call (.agg [(.bool (decide (ka < 0))), (N ka.natAbs), (.bool (decide (kb < 0))), (N kb.natAbs)]) <| .lits 3 <| .call (zV (kb - ka)) <| .lits 2 <| .call (.int .i64 (nbits ((kb - ka).natAbs) : Int)) <| .lit <| .yes <| .lits 5 <| .call (.agg [(.bool (decide ((ka / 2 ^ 24) < 0))), (N ((ka / 2 ^ 24).natAbs)), (.bool (decide ((-(-kb / 2 ^ 24)) < 0))), (N ((-(-kb / 2 ^ 24)).natAbs))]) <| .lit <| .fin3 ⟨[4], [0]⟩) (by
    rintro j hI
    have hI : j = j := hI
    have h1 := hI
    exact cast_ob (aI True.intro (aI (fits_i64 oS : (fits .i64 (w + 24)) = true) (aI (c0 ) (aI (fx_Width ka kb oS oS) (have f106 := L_abs_sub kb ka; aI (nat_Bits ((kb - ka).natAbs) oS) (have f105 := nbits_L ((kb - ka).natAbs); aI (iLe_mk oO : (iLe (nbits ((kb - ka).natAbs) : Int) 24) = true) (aI (fx_Half ka kb 24 oS oS oS) (have f104 := L_abs_neg (-kb / 2 ^ 24); have f103 := L_abs_shr (-kb) 24; have f102 := L_abs_neg kb; have f101 := L_abs_shr ka 24; aI tT ((nx_ret ((fx_SettleB_0_ex fk u1 ka kb w j).2) j (show j = j from rfl) rfl : NX (fx_SettleB_0_mk fk u1 ka kb w) (fx_SettleB_0_I fk u1 ka kb w) (fx_SettleB_0_mu fk u1 ka kb w) (fx_SettleB_0_ex fk u1 ka kb w) (fx_SettleB_0_J fk u1 ka kb w) j .ret ((fx_SettleB_0_ex fk u1 ka kb w j).2))))))))))) (by kernel_rfl))
theorem fx_SettleB (fk : Nat) (u1 : V) (ka : Int) (kb : Int) (w : Int) (c0 : Impl Tryz.prog Amb fk [u1, (.int .i64 (w + 24))] (.agg [(.bool (decide (ka < 0))), (N ka.natAbs), (.bool (decide (kb < 0))), (N kb.natAbs)])) (c1 : L ka.natAbs ≤ 8192 ∧ L kb.natAbs ≤ 8192) (c2 : nbits (kb - ka).natAbs ≤ 24) (c3 : (0 : Int) ≤ w ∧ w ≤ 5000) : Impl Tryz.prog Amb 107 [(.int .i64 w), (.bnd fk [u1])] (.agg [(.bool (decide ((ka / 2 ^ 24) < 0))), (N ((ka / 2 ^ 24).natAbs)), (.bool (decide ((-(-kb / 2 ^ 24)) < 0))), (N ((-(-kb / 2 ^ 24)).natAbs))]) := by
  exact impl_ob hP hAmb Tryz.func107 (by kernel_rfl) (.loop ⟨[0, 1, 4, 5], 1, []⟩ ((fx_SettleB_0_mk fk u1 ka kb w (0 : Int))) (Int) (fx_SettleB_0_ex fk u1 ka kb w) (fx_SettleB_0_J fk u1 ka kb w) (fun y => .lit <| .ret))
    (cast_ob (aI True.intro (aI tT (aI (rfl : (fx_SettleB_0_mk fk u1 ka kb w (0 : Int)) = (fx_SettleB_0_mk fk u1 ka kb w (0 : Int))) (aI (fx_SettleB_0 fk u1 ka kb w c0 c1 c2 c3 (0 : Int) (show (0 : Int) = (0 : Int) from rfl)) (fun y (hJ : fx_SettleB_0_J fk u1 ka kb w y) => have hJ : y = y := hJ; (vsub_refl (.agg [(.bool (decide ((ka / 2 ^ 24) < 0))), (N ((ka / 2 ^ 24).natAbs)), (.bool (decide ((-(-kb / 2 ^ 24)) < 0))), (N ((-(-kb / 2 ^ 24)).natAbs))]))))))) (by kernel_rfl))
theorem ex_value0 (m : Int) (ee : Int) (w : Int) (lo : Int) (hi : Int) (c0 : L (m).natAbs ≤ 8000) (c1 : -4096 ≤ w ∧ w ≤ 4096) (c2 : Impl Tryz.prog Amb 94 [(yV (-m) ee), (.int .i64 (w + 1))] (.bool false)) (c3 : Impl Tryz.prog Amb 107 [(.int .i64 w), (.bnd 158 [(yV m ee)])] (.agg [(.bool (decide (lo < 0))), (N lo.natAbs), (.bool (decide (hi < 0))), (N hi.natAbs)])) : Impl Tryz.prog Amb 95 [(yV m ee), (.int .i64 w)] (.agg [(.bool (decide (lo < 0))), (N lo.natAbs), (.bool (decide (hi < 0))), (N hi.natAbs)]) := by
  exact impl_ob hP hAmb Tryz.func95 (by kernel_rfl) (.lits 2 <| .call (yV (-m) ee) <| .lit <| .yes <| .lit <| .call (.bool false) <| .lits 4 <| .call (.agg [(.bool (decide (lo < 0))), (N lo.natAbs), (.bool (decide (hi < 0))), (N hi.natAbs)]) <| .lits 2 <| .ret)
    (cast_ob (aI True.intro (aI (dy_Neg m ee oS) (have f1 := L_abs_neg m; aI (fits_i64 oS : (fits .i64 (w + 1)) = true) (aI (c2 ) (aI (c3 ) ((vsub_refl (.agg [(.bool (decide (lo < 0))), (N lo.natAbs), (.bool (decide (hi < 0))), (N hi.natAbs)])))))))) (by kernel_rfl))
theorem ex_Exp0 (m : Int) (ee : Int) (n : Int) (f : Int) (w : Int) (l1 : Int) (h1 : Int) (l2 : Int) (h2 : Int) (a1 : Int) (a2 : Int) (b1 : Int) (b2 : Int) (c0 : 0 ≤ w ∧ w ≤ 4096) (c1 : Impl Tryz.prog Amb 94 [(yV n f), (.int .i64 1000)] (.bool false)) (c2 : Impl Tryz.prog Amb 95 [(yV m ee), (.int .i64 w)] (.agg [(.bool (decide (l1 < 0))), (N l1.natAbs), (.bool (decide (h1 < 0))), (N h1.natAbs)])) (c3 : Impl Tryz.prog Amb 95 [(yV n f), (.int .i64 w)] (.agg [(.bool (decide (l2 < 0))), (N l2.natAbs), (.bool (decide (h2 < 0))), (N h2.natAbs)])) (c4 : Impl Tryz.prog Amb 78 [(zV l1), (.int .i64 ((0 : Int) - w))] (.tup [(yV a1 a2), (.int .i64 0)])) (c5 : Impl Tryz.prog Amb 78 [(zV h2), (.int .i64 ((0 : Int) - w))] (.tup [(yV b1 b2), (.int .i64 0)])) : Impl Tryz.prog Amb 31 [(wV m ee n f), (.int .i64 w)] (.tup [(wV a1 a2 b1 b2), (.int .i64 0)]) := by
  exact impl_ob hP hAmb Tryz.func31 (by kernel_rfl) (.lit <| .no <| .lits 3 <| .no <| .lits 2 <| .call (.bool false) <| .lits 3 <| .call (.agg [(.bool (decide (l1 < 0))), (N l1.natAbs), (.bool (decide (h1 < 0))), (N h1.natAbs)]) <| .lits 2 <| .yes <| .lit <| .call (.tup [(yV a1 a2), (.int .i64 0)]) <| .lits 3 <| .call (.agg [(.bool (decide (l2 < 0))), (N l2.natAbs), (.bool (decide (h2 < 0))), (N h2.natAbs)]) <| .lits 2 <| .yes <| .lit <| .call (.tup [(yV b1 b2), (.int .i64 0)]) <| .lits 12 <| .ret)
    (cast_ob (aI True.intro (aI (iLt_mkF oS : (iLt w 0) = false) (aI (iGt_mkF oS : (iGt w 4096) = false) (aI (c1 ) (aI (c2 ) (aI (fits_i64 oS : (fits .i64 ((0 : Int) - w)) = true) (aI (c4 ) (aI (c3 ) (aI (fits_i64 oS : (fits .i64 ((0 : Int) - w)) = true) (aI (c5 ) ((vsub_refl (.tup [(wV a1 a2 b1 b2), (.int .i64 0)]))))))))))))) (by kernel_rfl))
theorem ex_ExpL (m : Int) (ee : Int) (n : Int) (f : Int) (w : Int) (c0 : 0 ≤ w ∧ w ≤ 4096) (c1 : Impl Tryz.prog Amb 94 [(yV n f), (.int .i64 1000)] (.bool true)) : Impl Tryz.prog Amb 31 [(wV m ee n f), (.int .i64 w)] (e0T 3) := by
  exact impl_ob hP hAmb Tryz.func31 (by kernel_rfl) (.lit <| .no <| .lits 3 <| .no <| .lits 2 <| .call (.bool true) <| .lits 4 <| .ret)
    (cast_ob (aI True.intro (aI (iLt_mkF oS : (iLt w 0) = false) (aI (iGt_mkF oS : (iGt w 4096) = false) (aI (c1 ) ((vsub_refl (e0T 3))))))) (by kernel_rfl))
theorem ex_clo (m : Int) (ee : Int) (k : Int) (ss : Int) (p1 : Int) (p2 : Int) (q1 : Int) (q2 : Int) (t1 : Int) (t2 : Int) (s1 : Int) (s2 : Int) (r1 : Int) (r2 : Int) (c0 : 0 ≤ ss ∧ ss ≤ 10000) (c1 : Impl Tryz.prog Amb 105 [(yV m ee), (.int .i64 (ss + 16))] (.agg [(.bool (decide (p1 < 0))), (N p1.natAbs), (.bool (decide (p2 < 0))), (N p2.natAbs)])) (c2 : Impl Tryz.prog Amb 106 [(.int .i64 (ss + 16))] (.agg [(.bool (decide (q1 < 0))), (N q1.natAbs), (.bool (decide (q2 < 0))), (N q2.natAbs)])) (c3 : Impl Tryz.prog Amb 110 [(.agg [(.bool (decide (q1 < 0))), (N q1.natAbs), (.bool (decide (q2 < 0))), (N q2.natAbs)]), (.int .i64 k)] (.agg [(.bool (decide (t1 < 0))), (N t1.natAbs), (.bool (decide (t2 < 0))), (N t2.natAbs)])) (c4 : Impl Tryz.prog Amb 109 [(.agg [(.bool (decide (p1 < 0))), (N p1.natAbs), (.bool (decide (p2 < 0))), (N p2.natAbs)]), (.agg [(.bool (decide (t1 < 0))), (N t1.natAbs), (.bool (decide (t2 < 0))), (N t2.natAbs)])] (.agg [(.bool (decide (s1 < 0))), (N s1.natAbs), (.bool (decide (s2 < 0))), (N s2.natAbs)])) (c5 : Impl Tryz.prog Amb 111 [(.agg [(.bool (decide (s1 < 0))), (N s1.natAbs), (.bool (decide (s2 < 0))), (N s2.natAbs)]), (.int .i64 16)] (.agg [(.bool (decide (r1 < 0))), (N r1.natAbs), (.bool (decide (r2 < 0))), (N r2.natAbs)])) : Impl Tryz.prog Amb 108 [(.int .i64 ss), (.pt [(V.bool (decide (m < 0))), (N m.natAbs), (V.int .i64 ee)] 0), (.pt [(V.int .i64 k)] 0)] (.agg [(.bool (decide (r1 < 0))), (N r1.natAbs), (.bool (decide (r2 < 0))), (N r2.natAbs)]) := by
  exact impl_ob hP hAmb Tryz.func108 (by kernel_rfl) (.lit <| .yes <| .lits 2 <| .call (.agg [(.bool (decide (p1 < 0))), (N p1.natAbs), (.bool (decide (p2 < 0))), (N p2.natAbs)]) <| .lit <| .call (.agg [(.bool (decide (q1 < 0))), (N q1.natAbs), (.bool (decide (q2 < 0))), (N q2.natAbs)]) <| .lits 2 <| .call (.agg [(.bool (decide (t1 < 0))), (N t1.natAbs), (.bool (decide (t2 < 0))), (N t2.natAbs)]) <| .lit <| .call (.agg [(.bool (decide (s1 < 0))), (N s1.natAbs), (.bool (decide (s2 < 0))), (N s2.natAbs)]) <| .lit <| .call (.agg [(.bool (decide (r1 < 0))), (N r1.natAbs), (.bool (decide (r2 < 0))), (N r2.natAbs)]) <| .lits 2 <| .ret)
    (cast_ob (aI True.intro (aI (fits_i64 oS : (fits .i64 (ss + 16)) = true) (aI (c1 ) (aI (c2 ) (aI (c3 ) (aI (c4 ) (aI (c5 ) ((vsub_refl (.agg [(.bool (decide (r1 < 0))), (N r1.natAbs), (.bool (decide (r2 < 0))), (N r2.natAbs)])))))))))) (by kernel_rfl))
theorem ex_Red0 (m : Int) (ee : Int) (w : Int) (k : Int) (p1 : Int) (p2 : Int) (q1 : Int) (q2 : Int) (r1 : Int) (r2 : Int) (a1 : Int) (a2 : Int) (b1 : Int) (b2 : Int) (c0 : 12 ≤ w ∧ w ≤ 4096) (c1 : L (m).natAbs ≤ 8000) (c2 : Impl Tryz.prog Amb 94 [(yV m ee), (.int .i64 1000)] (.bool false)) (c3 : Impl Tryz.prog Amb 94 [(yV (-m) ee), (.int .i64 1000)] (.bool false)) (c4 : Impl Tryz.prog Amb 105 [(yV m ee), (.int .i64 64)] (.agg [(.bool (decide (p1 < 0))), (N p1.natAbs), (.bool (decide (p2 < 0))), (N p2.natAbs)])) (c5 : Impl Tryz.prog Amb 106 [(.int .i64 64)] (.agg [(.bool (decide (q1 < 0))), (N q1.natAbs), (.bool (decide (q2 < 0))), (N q2.natAbs)])) (c6 : Impl Tryz.prog Amb 104 [(.agg [(.bool (decide (p1 < 0))), (N p1.natAbs), (.bool (decide (p2 < 0))), (N p2.natAbs)]), (.agg [(.bool (decide (q1 < 0))), (N q1.natAbs), (.bool (decide (q2 < 0))), (N q2.natAbs)])] (.int .i64 k)) (c7 : Impl Tryz.prog Amb 107 [(.int .i64 w), (.clos 108 [(.pt [(V.bool (decide (m < 0))), (N m.natAbs), (V.int .i64 ee)] 0), (.pt [(V.int .i64 k)] 0)])] (.agg [(.bool (decide (r1 < 0))), (N r1.natAbs), (.bool (decide (r2 < 0))), (N r2.natAbs)])) (c8 : Impl Tryz.prog Amb 78 [(zV r1), (.int .i64 ((0 : Int) - w))] (.tup [(yV a1 a2), (.int .i64 0)])) (c9 : Impl Tryz.prog Amb 78 [(zV r2), (.int .i64 ((0 : Int) - w))] (.tup [(yV b1 b2), (.int .i64 0)])) : Impl Tryz.prog Amb 38 [(yV m ee), (.int .i64 w)] (.tup [(.int .i64 k), (wV a1 a2 b1 b2), (.int .i64 0)]) := by
  exact impl_ob hP hAmb Tryz.func38 (by kernel_rfl) (.lit <| .no <| .lits 3 <| .no <| .lits 3 <| .call (.bool false) <| .lits 5 <| .call (yV (-m) ee) <| .lits 2 <| .call (.bool false) <| .lits 4 <| .call (.agg [(.bool (decide (p1 < 0))), (N p1.natAbs), (.bool (decide (p2 < 0))), (N p2.natAbs)]) <| .lit <| .call (.agg [(.bool (decide (q1 < 0))), (N q1.natAbs), (.bool (decide (q2 < 0))), (N q2.natAbs)]) <| .lit <| .call (.int .i64 k) <| .lits 2 <| .call (.agg [(.bool (decide (r1 < 0))), (N r1.natAbs), (.bool (decide (r2 < 0))), (N r2.natAbs)]) <| .lits 3 <| .yes <| .lit <| .call (.tup [(yV a1 a2), (.int .i64 0)]) <| .lits 3 <| .yes <| .lit <| .call (.tup [(yV b1 b2), (.int .i64 0)]) <| .lits 13 <| .ret)
    (cast_ob (aI True.intro (aI (iLt_mkF oS : (iLt w 12) = false) (aI (iGt_mkF oS : (iGt w 4096) = false) (aI (c2 ) (aI (dy_Neg m ee oS) (have f1 := L_abs_neg m; aI (c3 ) (aI (c4 ) (aI (c5 ) (aI (c6 ) (aI (c7 ) (aI (fits_i64 oS : (fits .i64 ((0 : Int) - w)) = true) (aI (c8 ) (aI (fits_i64 oS : (fits .i64 ((0 : Int) - w)) = true) (aI (c9 ) ((vsub_refl (.tup [(.int .i64 k), (wV a1 a2 b1 b2), (.int .i64 0)]))))))))))))))))) (by kernel_rfl))
theorem ex_RedA (m : Int) (ee : Int) (w : Int) (c0 : (-9223372036854775808 : Int) ≤ w ∧ w ≤ 9223372036854775807) (c1 : w < 12) : Impl Tryz.prog Amb 38 [(yV m ee), (.int .i64 w)] (.tup [(.int .i64 0), (.agg [(.bool false), .nil, (.int .i64 0), (.bool false), .nil, (.int .i64 0)]), (.int .i64 1)]) := by
  exact impl_ob hP hAmb Tryz.func38 (by kernel_rfl) (.lit <| .yes <| .lits 13 <| .ret)
    (cast_ob (aI True.intro (aI (iLt_mk oO : (iLt w 12) = true) ((vsub_refl (.tup [(.int .i64 0), (.agg [(.bool false), .nil, (.int .i64 0), (.bool false), .nil, (.int .i64 0)]), (.int .i64 1)]))))) (by kernel_rfl))
theorem ex_RedL (m : Int) (ee : Int) (w : Int) (c0 : 12 ≤ w ∧ w ≤ 4096) (c1 : Impl Tryz.prog Amb 94 [(yV m ee), (.int .i64 1000)] (.bool true)) : Impl Tryz.prog Amb 38 [(yV m ee), (.int .i64 w)] (.tup [(.int .i64 0), (.agg [(.bool false), .nil, (.int .i64 0), (.bool false), .nil, (.int .i64 0)]), (.int .i64 1)]) := by
  exact impl_ob hP hAmb Tryz.func38 (by kernel_rfl) (.lit <| .no <| .lits 3 <| .no <| .lits 3 <| .call (.bool true) <| .lits 9 <| .ret)
    (cast_ob (aI True.intro (aI (iLt_mkF oS : (iLt w 12) = false) (aI (iGt_mkF oS : (iGt w 4096) = false) (aI (c1 ) ((vsub_refl (.tup [(.int .i64 0), (.agg [(.bool false), .nil, (.int .i64 0), (.bool false), .nil, (.int .i64 0)]), (.int .i64 1)]))))))) (by kernel_rfl))
theorem l14_awake0 (a1 : Int) (a2 : Int) (b1 : Int) (b2 : Int) (m : Int) (ee : Int) (qq : Rat) (c0 : Impl Tryz.prog Amb 53 [(.int .i64 0), (.int .i64 0)] (wV (0 : Int) 0 (0 : Int) 0)) (c1 : Impl Tryz.prog Amb 31 [(wV (0 : Int) 0 (0 : Int) 0), (.int .i64 3)] (.tup [(wV a1 a2 b1 b2), (.int .i64 0)])) (c2 : Impl Tryz.prog Amb 53 [(.int .i64 2000), (.int .i64 2000)] (wV m ee m ee)) (c3 : Impl Tryz.prog Amb 31 [(wV m ee m ee), (.int .i64 3)] (e0T 3)) (c4 : Impl Tryz.prog Amb 58 [(.int .i64 1)] (.agg [(.bool (decide (qq.num < 0))), (N qq.num.natAbs), (N qq.den)])) (c5 : Impl Tryz.prog Amb 57 [(wV a1 a2 b1 b2), (.agg [(.bool (decide (qq.num < 0))), (N qq.num.natAbs), (N qq.den)])] (.bool true)) : Impl Tryz.prog Amb 29 [] (.bool true) := by
  exact impl_ob hP hAmb Tryz.func29 (by kernel_rfl) (.lit <| .call (wV (0 : Int) 0 (0 : Int) 0) <| .lit <| .call (.tup [(wV a1 a2 b1 b2), (.int .i64 0)]) <| .lits 2 <| .call (wV m ee m ee) <| .lit <| .call (e0T 3) <| .lits 10 <| .call (.agg [(.bool (decide (qq.num < 0))), (N qq.num.natAbs), (N qq.den)]) <| .lits 2 <| .call (.bool true) <| .lits 2 <| .ret)
    (cast_ob (aI True.intro (aI (c0 ) (aI (c1 ) (aI (c2 ) (aI (c3 ) (aI (c4 ) (aI (c5 ) ((vsub_refl (.bool true)))))))))) (by kernel_rfl))
theorem l14_of (a : Int) (b : Int) (c0 : (-9223372036854775808 : Int) ≤ a ∧ a ≤ 9223372036854775807) (c1 : (-9223372036854775808 : Int) ≤ b ∧ b ≤ 9223372036854775807) : Impl Tryz.prog Amb 53 [(.int .i64 a), (.int .i64 b)] (wV (mkM a 0) (mkX a 0) (mkM b 0) (mkX b 0)) := by
  exact impl_ob hP hAmb Tryz.func53 (by kernel_rfl) (.lit <| .call (yV (mkM a 0) (mkX a 0)) <| .lit <| .call (yV (mkM b 0) (mkX b 0)) <| .lits 3 <| .ret)
    (cast_ob (aI True.intro (aI (r08_Of a oO) (have f4 := (L_i64 oO : L (a : Int).natAbs ≤ 2); have f3 := mk_facts a 0; aI (r08_Of b oO) (have f2 := (L_i64 oO : L (b : Int).natAbs ≤ 2); have f1 := mk_facts b 0; (vsub_refl (wV (mkM a 0) (mkX a 0) (mkM b 0) (mkX b 0))))))) (by kernel_rfl))
end Go.Proofs.YtekcladflnieeaaGreatDoor

namespace Go.Proofs.YtekcladflnieeaaGreatDoor
open Go.RowKit
set_option maxRecDepth 100000
theorem r10_Has (m : Int) (e : Int) (n : Int) (f : Int) (r : Rat) (c0 : L (m).natAbs ≤ 9000) (c1 : L (n).natAbs ≤ 9000) (c2 : (-65536 : Int) ≤ e ∧ e ≤ 65536) (c3 : (-65536 : Int) ≤ f ∧ f ≤ 65536) (c4 : vdb m e = true) (c5 : vdb n f = true) (c6 : L r.num.natAbs ≤ 6000) (c7 : L r.den ≤ 6000) : Impl Tryz.prog Amb 57 [(wV m e n f), (.agg [(.bool (decide (r.num < 0))), (N r.num.natAbs), (N r.den)])] (.bool (decide (cmpQ (dv m e) r ≤ 0 ∧ cmpQ r (dv n f) ≤ 0))) := by
  exact impl_ob hP hAmb Tryz.func57 (by kernel_rfl) (.lits 2 <| .call (.agg [(.bool (decide ((dv m e).num < 0))), (N (((dv m e).num).natAbs)), (N ((dv m e).den))]) <| .lits 2 <| .call (.int .i64 (cmpQ (dv m e) r)) <| .lit <| .both (.lits 6 <| .call (.agg [(.bool (decide ((dv n f).num < 0))), (N (((dv n f).num).natAbs)), (N ((dv n f).den))]) <| .lits 2 <| .call (.int .i64 (cmpQ r (dv n f))) <| .lits 4 <| .ret) (.lits 7 <| .ret))
    (cast_ob (aI True.intro (aI (r08_Rat m e oA oA oA) (have f6 := (dv_L ‹vdb m e = true› oA : L (dv m e).num.natAbs ≤ L (m).natAbs + 2050 ∧ L (dv m e).den ≤ 2050); aI (r07_Cmp (dv m e) r oA oA oA oA) (have f5 := cmpQ_range (dv m e) r; aI (fun (h1 : (iLe (cmpQ (dv m e) r) 0) = true) => have _gh1 := iLe_t h1; aI (r08_Rat n f oA oA oA) (have f3 := (dv_L ‹vdb n f = true› oA : L (dv n f).num.natAbs ≤ L (n).natAbs + 2050 ∧ L (dv n f).den ≤ 2050); aI (r07_Cmp r (dv n f) oA oA oA oA) (have f2 := cmpQ_range r (dv n f); (vsub_of (congrArg V.bool (has_1 oO)) : vsub (.bool (iLe (cmpQ r (dv n f)) 0)) (.bool (decide (cmpQ (dv m e) r ≤ 0 ∧ cmpQ r (dv n f) ≤ 0))))))) (fun (h4 : (iLe (cmpQ (dv m e) r) 0) = false) => have _gh4 := iLe_f h4; (vsub_of (congrArg V.bool ((decide_eq_false oO).symm)) : vsub (.bool false) (.bool (decide (cmpQ (dv m e) r ≤ 0 ∧ cmpQ r (dv n f) ≤ 0))))))))) (by kernel_rfl))
end Go.Proofs.YtekcladflnieeaaGreatDoor

namespace Go.Proofs.YtekcladflnieeaaGreatDoor
open Go.RowKit
set_option maxRecDepth 100000
set_option maxHeartbeats 2000000
theorem flr0 {s : Int} (h : 0 ≤ s) : flr (dv 0 0) s = 0 ∧ cei (dv 0 0) s = 0 := by
  have z := of_ge (m := 0) (e := 0) (s := s) oO
  rw [Int.zero_mul] at z
  exact ⟨z.1.symm, z.2.symm⟩
theorem of0 (s : Int) (h : 0 ≤ s ∧ s ≤ 20000) : Impl Tryz.prog Amb 105 [(yV (0 : Int) 0), (.int .i64 s)] (.agg [(.bool (decide ((0 : Int) < 0))), (N ((0 : Int).natAbs)), (.bool (decide ((0 : Int) < 0))), (N ((0 : Int).natAbs))]) := by
  have a := fx_Of 0 0 s (by simp [L_zero]) oO h
  rw [(flr0 h.1).1, (flr0 h.1).2] at a
  exact a
theorem expo_aw : Impl Tryz.prog Amb 242 [(.agg [(.bool (decide ((1560828692041339 : Int) < 0))), (N ((1560828692041339 : Int).natAbs)), (.bool (decide ((1560828692041340 : Int) < 0))), (N ((1560828692041340 : Int).natAbs))]), (.int .i64 51)] (.agg [(.bool (decide ((4503599627370494 : Int) < 0))), (N ((4503599627370494 : Int).natAbs)), (.bool (decide ((4503599627370497 : Int) < 0))), (N ((4503599627370497 : Int).natAbs))]) :=
  impl_eq (by kernel_rfl) (fx_expG 1560828692041339 1560828692041340 51 8 6703708186976006485049344 6703708186976010780016640 26186360105375025332224 26186360105375042109440 9697628400215167260647547 9697628400215167277470259 8 oO oO (by intro i a b; rcases (show i = 4 ∨ i = 5 ∨ i = 6 ∨ i = 7 by omega) with rfl | rfl | rfl | rfl <;> decide) (by decide) oO
    (Nat.le_trans (L500 (of_decide_eq_true (by kernel_rfl))) oO) (Nat.le_trans (L500 (of_decide_eq_true (by kernel_rfl))) oO) (by kernel_rfl) (by kernel_rfl) (by kernel_rfl) (by kernel_rfl) (Nat.le_trans (L500 (of_decide_eq_true (by kernel_rfl))) oO) (Nat.le_trans (L500 (of_decide_eq_true (by kernel_rfl))) oO)
    (by kernel_rfl) (by kernel_rfl) (by kernel_rfl) (by kernel_rfl))
theorem L_c {x : Int} (h : x.natAbs < 2 ^ 500) : L x.natAbs ≤ 3000 := Nat.le_trans (L500 h) oO
theorem exp_aw : Impl Tryz.prog Amb 217 [(yV (0 : Int) 0), (.int .i64 27)] (.agg [(.bool (decide ((134217727 : Int) < 0))), (N ((134217727 : Int).natAbs)), (.bool (decide ((134217729 : Int) < 0))), (N ((134217729 : Int).natAbs))]) := by
  have n0 : (Int.fdiv (((0 + 0) * 2 ^ 1) + ((lnLo 32) + (lnHi 32))) (((lnLo 32) + (lnHi 32)) * 2 ^ 1)) = 0 := by kernel_rfl
  have hN := fx_Nearest 0 0 (lnLo 32) (lnHi 32) (by simp [L_zero]) (by simp [L_zero]) (L_c (of_decide_eq_true (by kernel_rfl))) (L_c (of_decide_eq_true (by kernel_rfl))) (of_decide_eq_true (by kernel_rfl)) (by rw [n0]; omega)
  rw [n0] at hN
  exact fx_Exp_aw (lnLo 32) (lnHi 32) (lnLo 67) (lnHi 67) (tmLo (lnLo 67) (lnHi 67) (-1)) (tmHi (lnLo 67) (lnHi 67) (-1)) _ _ 1560828692041339 1560828692041340 4503599627370494 4503599627370497 134217727 134217729 (of0 32 oO) (fx_Ln2 32 oO) hN (of0 67 oO) (fx_Ln2 67 oO)
    (fx_TimesA (lnLo 67) (lnHi 67) (-1) (Nat.le_trans (L_c (of_decide_eq_true (by kernel_rfl))) oO) (Nat.le_trans (L_c (of_decide_eq_true (by kernel_rfl))) oO) oO)
    (fx_Sub 0 0 (tmLo (lnLo 67) (lnHi 67) (-1)) (tmHi (lnLo 67) (lnHi 67) (-1)) (by simp [L_zero]) (by simp [L_zero]) (Nat.le_trans (L_c (of_decide_eq_true (by kernel_rfl))) oO) (Nat.le_trans (L_c (of_decide_eq_true (by kernel_rfl))) oO))
    (impl_eq (by kernel_rfl) (fx_Half (0 + -(tmHi (lnLo 67) (lnHi 67) (-1))) (0 + -(tmLo (lnLo 67) (lnHi 67) (-1))) 16 (Nat.le_trans (L_c (of_decide_eq_true (by kernel_rfl))) oO) (Nat.le_trans (L_c (of_decide_eq_true (by kernel_rfl))) oO) oO))
    expo_aw (impl_eq (by kernel_rfl) (fx_Half 4503599627370494 4503599627370497 25 (Nat.le_trans (L_c (of_decide_eq_true (by kernel_rfl))) oO) (Nat.le_trans (L_c (of_decide_eq_true (by kernel_rfl))) oO) oO))
theorem value_aw : Impl Tryz.prog Amb 95 [(yV (0 : Int) 0), (.int .i64 3)] (.agg [(.bool (decide ((7 : Int) < 0))), (N ((7 : Int).natAbs)), (.bool (decide ((9 : Int) < 0))), (N ((9 : Int).natAbs))]) :=
  ex_value0 0 0 3 7 9 (by simp [L_zero]) oO (impl_eq (by kernel_rfl) (ex_beyond (-0) 0 (3 + 1) (by simp [L_zero]) oO oO))
    (impl_eq (by kernel_rfl) (fx_SettleB 158 (yV (0 : Int) 0) 134217727 134217729 3 (ex_at 0 0 (3 + 24) 134217727 134217729 exp_aw) ⟨Nat.le_trans (L_c (of_decide_eq_true (by kernel_rfl))) oO, Nat.le_trans (L_c (of_decide_eq_true (by kernel_rfl))) oO⟩ (of_decide_eq_true (by kernel_rfl)) oO))
theorem l14_awake : Impl Tryz.prog Amb 29 [] (.bool true) := by
  have one := r07_Of 1 oO
  have hE : Impl Tryz.prog Amb 31 [(wV (0 : Int) 0 (0 : Int) 0), (.int .i64 3)] (.tup [(wV (mkM 7 (0 - 3)) (mkX 7 (0 - 3)) (mkM 9 (0 - 3)) (mkX 9 (0 - 3))), (.int .i64 0)]) :=
    ex_Exp0 0 0 0 0 3 7 9 7 9 _ _ _ _ oO (impl_eq (by kernel_rfl) (ex_beyond 0 0 1000 (by simp [L_zero]) oO oO)) value_aw value_aw
      (impl_eq (by kernel_rfl) (dy_Make 7 (0 - 3) (Nat.le_trans (L_c (of_decide_eq_true (by kernel_rfl))) oO) oO)) (impl_eq (by kernel_rfl) (dy_Make 9 (0 - 3) (Nat.le_trans (L_c (of_decide_eq_true (by kernel_rfl))) oO) oO))
  have f2 := of_fit (n := 2000) oO
  exact l14_awake0 _ _ _ _ (mkM 2000 0) (mkX 2000 0) _ (impl_eq (by kernel_rfl) (l14_of 0 0 oO oO)) hE (l14_of 2000 2000 oO oO)
    (ex_ExpL _ _ _ _ 3 oO (impl_eq (by kernel_rfl) (ex_beyond (mkM 2000 0) (mkX 2000 0) 1000 oO oO oO))) one
    (impl_eq (by kernel_rfl) (r10_Has (mkM 7 (0 - 3)) (mkX 7 (0 - 3)) (mkM 9 (0 - 3)) (mkX 9 (0 - 3)) ((1 : Int) : Rat) (Nat.le_trans (L_c (of_decide_eq_true (by kernel_rfl))) oO) (Nat.le_trans (L_c (of_decide_eq_true (by kernel_rfl))) oO) (of_decide_eq_true (by kernel_rfl)) (of_decide_eq_true (by kernel_rfl)) (by kernel_rfl) (by kernel_rfl) (Nat.le_trans (q_ofL (n := 1) oO).1 oO) (Nat.le_trans (q_ofL (n := 1) oO).2 oO)))
end Go.Proofs.YtekcladflnieeaaGreatDoor

namespace Go.Proofs.YtekcladflnieeaaGreatDoor
theorem mk_fine3 {m e : Int} (h : L m.natAbs ≤ 100) (he : -62000 ≤ e ∧ e ≤ 62000) : mkE m e = 0 := by
  by_cases hm : m = 0
  · exact (mk_r2 (by omega) hm).2.2
  · refine (mk_r4 (by omega) hm ?_).2.2
    rw [vdb_iff]
    have h1 := L_dm m
    have h2 := nbits_L (dm m).natAbs
    have h3 := tz_L m.natAbs
    have h4 := dm_odd hm
    unfold de
    exact .inr ⟨dm_ne hm, by omega, by omega, by omega, h4⟩
end Go.Proofs.YtekcladflnieeaaGreatDoor

namespace Go.Proofs.YtekcladflnieeaaGreatDoor
open Go.RowKit
set_option maxRecDepth 100000
set_option maxHeartbeats 2000000
def shx (m e : Int) (j : Nat) : Int := if m = 0 then 0 else e - 20 * (j : Int)
end Go.Proofs.YtekcladflnieeaaGreatDoor

namespace Go.Proofs.YtekcladflnieeaaGreatDoor
open Go.RowKit
set_option maxRecDepth 100000
set_option maxHeartbeats 2000000
theorem shx_zero {m e : Int} (hv : vdb m e = true) : shx m e 0 = e := by
  unfold shx
  split
  · rename_i h
    rcases vdb_iff.1 hv with q | q
    · exact q.2.symm
    · exact absurd h q.1
  · omega
end Go.Proofs.YtekcladflnieeaaGreatDoor

namespace Go.Proofs.YtekcladflnieeaaGreatDoor
open Go.RowKit
set_option maxRecDepth 100000
set_option maxHeartbeats 2000000
theorem l14_RedF (b1 : Bool) (l1 : List Nat) (e1 : Int) (w : Int) (m : Int) (ee : Int) (c0 : Impl Tryz.prog Amb 29 [] (.bool true)) (c1 : Impl Tryz.prog Amb 25 [(.agg [(.bool b1), (.sl 1 (U l1)), (.int .i64 e1)]), (.int .i64 2), (.int .i64 60)] (.tup [(yV m ee), (.bool false)])) : Impl Tryz.prog Amb 9 [(.agg [(.bool b1), (.sl 1 (U l1)), (.int .i64 e1)]), (.int .i64 w)] (.bool true) := by
  exact impl_ob hP hAmb Tryz.func9 (by kernel_rfl) (.lit <| .call (.bool true) <| .lits 4 <| .call (.tup [(yV m ee), (.bool false)]) <| .lits 4 <| .ret)
    (cast_ob (aI True.intro (aI (c0 ) (aI (c1 ) ((vsub_refl (.bool true)))))) (by kernel_rfl))
def l14_red_0_mk (b1 : Bool) (l1 : List Nat) (e1 m ee w : Int) (_ : Nat) (x : Nat) : St := ⟨mkS 160 [(1, (.val (.int .i64 w))), (5, (.own 1 0))], [⟨true, false, [(V.bool b1), (V.sl 1 (U l1)), (V.int .i64 e1)]⟩, ⟨true, false, [(V.bool (decide (m < 0))), (N m.natAbs), (V.int .i64 (shx m ee x))]⟩]⟩
def l14_red_0_I (_ : Bool) (_ : List Nat) (_ _ _ _ : Int) (nn : Nat) (x : Nat) : Prop := x ≤ nn
def l14_red_0_mu (_ : Bool) (_ : List Nat) (_ _ _ _ : Int) (nn : Nat) (x : Nat) : Nat := nn - x
def l14_red_0_ex (b1 : Bool) (l1 : List Nat) (e1 m ee w : Int) (_ : Nat) (y : Nat) : Ex × St := (.exit 0, ⟨mkS 160 [(1, (.val (.int .i64 w))), (5, (.own 1 0))], [⟨true, false, [(V.bool b1), (V.sl 1 (U l1)), (V.int .i64 e1)]⟩, ⟨true, false, [(V.bool (decide (m < 0))), (N m.natAbs), (V.int .i64 (shx m ee y))]⟩]⟩)
def l14_red_0_J (_ : Bool) (_ : List Nat) (_ _ _ _ : Int) (nn : Nat) (y : Nat) : Prop := y = nn
abbrev l14_red_0_N (b1 : Bool) (l1 : List Nat) (e1 m ee w : Int) (nn : Nat) := NX (l14_red_0_mk b1 l1 e1 m ee w nn) (l14_red_0_I b1 l1 e1 m ee w nn) (l14_red_0_mu b1 l1 e1 m ee w nn) (l14_red_0_ex b1 l1 e1 m ee w nn) (l14_red_0_J b1 l1 e1 m ee w nn)
theorem l14_red_0 (b1 : Bool) (l1 : List Nat) (e1 m ee w : Int) (nn : Nat) (c0 : nn ≤ 100)(c1 : ∀ j, j ≤ nn → (j = nn ↔ (topD m (shx m ee j)) ≤ 9))(c2 : ∀ j, j ≤ nn → Impl Tryz.prog Amb 37 [(yV m (shx m ee j))] (.int .i64 (topD m (shx m ee j))))(c3 : ∀ j, j < nn → Impl Tryz.prog Amb 22 [(yV m (shx m ee j)), (.int .i64 (-20))] (.tup [(yV m (shx m ee (j + 1))), (.int .i64 0)])) (x0 : Nat) (hI : l14_red_0_I b1 l1 e1 m ee w nn x0) : LoopOk Tryz.prog Amb (loopN Tryz.f9 0) (l14_red_0_mk b1 l1 e1 m ee w nn x0) (fun e st_ => ∃ y, l14_red_0_J b1 l1 e1 m ee w nn y ∧ l14_red_0_ex b1 l1 e1 m ee w nn y = (e, st_)) :=
  loop_ob hP hAmb ⟨[1, 5], 2, []⟩ (l14_red_0_mk b1 l1 e1 m ee w nn) (l14_red_0_I b1 l1 e1 m ee w nn) (l14_red_0_mu b1 l1 e1 m ee w nn) (l14_red_0_ex b1 l1 e1 m ee w nn) (l14_red_0_J b1 l1 e1 m ee w nn) x0 hI (fun j => .lits 2 <| .call (.int .i64 (topD m (shx m ee j))) <| .lit <| .both (.lits 2 <| .call (.tup [(yV m (shx m ee (j + 1))), (.int .i64 0)]) <| .lit <| .fin2 ⟨[1, 5], 2, []⟩) (.fin2 ⟨[1, 5], 2, []⟩)) (by
    rintro j hI
    have hI : j ≤ nn := hI
    have h1 := hI
    have q := c1 j h1
    exact cast_ob (aI True.intro (aI (c2 j h1 ) (aI (fun (h101 : (iGt (topD m (shx m ee j)) 9) = true) => have _gh101 := iGt_t h101; aI (c3 j oO ) (aI tT ((nx_next (j + 1) (show (j + 1) ≤ nn from show j + 1 ≤ nn by omega) (show nn - (j + 1) < nn - j by omega) : l14_red_0_N b1 l1 e1 m ee w nn j .normal (l14_red_0_mk b1 l1 e1 m ee w nn (j + 1)))))) (fun (h102 : (iGt (topD m (shx m ee j)) 9) = false) => have _gh102 := iGt_f h102; aI tT ((nx_exit 0 ((l14_red_0_ex b1 l1 e1 m ee w nn j).2) j (show j = nn from show j = nn by omega) rfl : l14_red_0_N b1 l1 e1 m ee w nn j (.exit 0) ((l14_red_0_ex b1 l1 e1 m ee w nn j).2))))))) (by kernel_rfl))
theorem l14_RedP (b1 : Bool) (l1 : List Nat) (e1 : Int) (m : Int) (ee : Int) (w : Int) (k : Int) (ra : Int) (rb : Int) (rc : Int) (rd : Int) (ha : Int) (hb : Int) (fa : Int) (fb : Int) (wa : Int) (wb : Int) (k1 : Int) (na : Int) (nb : Int) (xa : Int) (xb : Int) (n1 : Int) (n2 : Int) (t1 : Int) (t2 : Int) (s1 : Int) (s2 : Int) (ua : Int) (ub : Int) (oa : Int) (ob : Int) (oc : Int) (od : Int) (nn : Nat) (c0 : Impl Tryz.prog Amb 29 [] (.bool true)) (c1 : Impl Tryz.prog Amb 25 [(.agg [(.bool b1), (.sl 1 (U l1)), (.int .i64 e1)]), (.int .i64 2), (.int .i64 60)] (.tup [(yV m (shx m ee 0)), (.bool true)])) (c2 : (-9223372036854775808 : Int) ≤ w ∧ w ≤ 9223372036854775807) (c3 : nn ≤ 100) (c4 : ∀ j, j ≤ nn → (j = nn ↔ (topD m (shx m ee j)) ≤ 9)) (c5 : ∀ j, j ≤ nn → Impl Tryz.prog Amb 37 [(yV m (shx m ee j))] (.int .i64 (topD m (shx m ee j)))) (c6 : ∀ j, j < nn → Impl Tryz.prog Amb 22 [(yV m (shx m ee j)), (.int .i64 (-20))] (.tup [(yV m (shx m ee (j + 1))), (.int .i64 0)])) (c7 : Impl Tryz.prog Amb 38 [(yV m (shx m ee nn)), (.int .i64 ((12 : Int) + (w % 120)))] (.tup [(.int .i64 k), (wV ra rb rc rd), (.int .i64 0)])) (c8 : Impl Tryz.prog Amb 39 [(wV ra rb rc rd)] (.bool true)) (c9 : Impl Tryz.prog Amb 40 [(yV ra rb), (.int .i64 ((12 : Int) + (w % 120)))] (.bool true)) (c10 : Impl Tryz.prog Amb 40 [(yV rc rd), (.int .i64 ((12 : Int) + (w % 120)))] (.bool true)) (c11 : Impl Tryz.prog Amb 41 [(.int .i64 1)] (.tup [(yV ha hb), (.int .i64 0)])) (c12 : Impl Tryz.prog Amb 41 [(.int .i64 (((12 : Int) + (w % 120)) - 2))] (.tup [(yV fa fb), (.int .i64 0)])) (c13 : Impl Tryz.prog Amb 42 [(wV ra rb rc rd)] (.tup [(yV wa wb), (.int .i64 0)])) (c14 : Impl Tryz.prog Amb 43 [(yV wa wb), (yV fa fb)] (.int .i64 k1)) (c15 : Impl Tryz.prog Amb 45 [(yV ha hb)] (yV na nb)) (c16 : Impl Tryz.prog Amb 44 [(wV ra rb rc rd), (wV na nb ha hb)] (.bool true)) (c17 : Impl Tryz.prog Amb 46 [(yV m (shx m ee nn)), (.int .i64 (((12 : Int) + (w % 120)) + 40))] (.agg [(.bool (decide (xa < 0))), (N xa.natAbs), (.bool (decide (xb < 0))), (N xb.natAbs)])) (c18 : Impl Tryz.prog Amb 49 [(.int .i64 (((12 : Int) + (w % 120)) + 40))] (.agg [(.bool (decide (n1 < 0))), (N n1.natAbs), (.bool (decide (n2 < 0))), (N n2.natAbs)])) (c19 : Impl Tryz.prog Amb 48 [(.agg [(.bool (decide (n1 < 0))), (N n1.natAbs), (.bool (decide (n2 < 0))), (N n2.natAbs)]), (.int .i64 k)] (.agg [(.bool (decide (t1 < 0))), (N t1.natAbs), (.bool (decide (t2 < 0))), (N t2.natAbs)])) (c20 : Impl Tryz.prog Amb 47 [(.agg [(.bool (decide (xa < 0))), (N xa.natAbs), (.bool (decide (xb < 0))), (N xb.natAbs)]), (.agg [(.bool (decide (t1 < 0))), (N t1.natAbs), (.bool (decide (t2 < 0))), (N t2.natAbs)])] (.agg [(.bool (decide (s1 < 0))), (N s1.natAbs), (.bool (decide (s2 < 0))), (N s2.natAbs)])) (c21 : Impl Tryz.prog Amb 38 [(yV m (shx m ee nn)), (.int .i64 11)] (.tup [(.int .i64 0), (.agg [(.bool false), .nil, (.int .i64 0), (.bool false), .nil, (.int .i64 0)]), (.int .i64 1)])) (c22 : Impl Tryz.prog Amb 34 [(.int .i64 1001)] (yV ua ub)) (c23 : Impl Tryz.prog Amb 38 [(yV ua ub), (.int .i64 ((12 : Int) + (w % 120)))] (.tup [(.int .i64 0), (.agg [(.bool false), .nil, (.int .i64 0), (.bool false), .nil, (.int .i64 0)]), (.int .i64 1)])) (c24 : Impl Tryz.prog Amb 52 [(.agg [(.bool (decide (s1 < 0))), (N s1.natAbs), (.bool (decide (s2 < 0))), (N s2.natAbs)]), (.int .i64 (((12 : Int) + (w % 120)) + 40)), (.int .i64 (((12 : Int) + (w % 120)) + 20))] (wV oa ob oc od)) (c25 : Impl Tryz.prog Amb 51 [(wV ra rb rc rd), (wV oa ob oc od)] (.bool true)) (c26 : -2000 ≤ k ∧ k ≤ 2000) (c27 : 0 ≤ k) (c28 : k1 ≤ 0) : Impl Tryz.prog Amb 9 [(.agg [(.bool b1), (.sl 1 (U l1)), (.int .i64 e1)]), (.int .i64 w)] (.bool true) := by
  exact impl_ob hP hAmb Tryz.func9 (by kernel_rfl) (.lit <| .call (.bool true) <| .lits 4 <| .call (.tup [(yV m (shx m ee 0)), (.bool true)]) <| .lits 3 <| .loop ⟨[1, 5], 2, []⟩ ((l14_red_0_mk b1 l1 e1 m ee w nn 0)) (Nat) (l14_red_0_ex b1 l1 e1 m ee w nn) (l14_red_0_J b1 l1 e1 m ee w nn) (fun y => .lit <| .call (.int .i64 (w % 120)) <| .lit <| .yes <| .lits 2 <| .call (.tup [(.int .i64 k), (wV ra rb rc rd), (.int .i64 0)]) <| .lits 6 <| .call (.bool true) <| .lits 9 <| .call (.bool true) <| .lits 9 <| .call (.bool true) <| .lits 7 <| .no <| .lits 3 <| .no <| .lit <| .call (.tup [(yV ha hb), (.int .i64 0)]) <| .lits 2 <| .yes <| .lit <| .call (.tup [(yV fa fb), (.int .i64 0)]) <| .lits 3 <| .call (.tup [(yV wa wb), (.int .i64 0)]) <| .lits 8 <| .call (.int .i64 k1) <| .lits 3 <| .no <| .lits 5 <| .call (yV na nb) <| .lits 6 <| .call (.bool true) <| .lits 5 <| .yes <| .lits 2 <| .call (.agg [(.bool (decide (xa < 0))), (N xa.natAbs), (.bool (decide (xb < 0))), (N xb.natAbs)]) <| .lits 2 <| .yes <| .lits 2 <| .call (.agg [(.bool (decide (n1 < 0))), (N n1.natAbs), (.bool (decide (n2 < 0))), (N n2.natAbs)]) <| .lit <| .call (.agg [(.bool (decide (t1 < 0))), (N t1.natAbs), (.bool (decide (t2 < 0))), (N t2.natAbs)]) <| .lit <| .call (.agg [(.bool (decide (s1 < 0))), (N s1.natAbs), (.bool (decide (s2 < 0))), (N s2.natAbs)]) <| .lits 3 <| .call (.tup [(.int .i64 0), (.agg [(.bool false), .nil, (.int .i64 0), (.bool false), .nil, (.int .i64 0)]), (.int .i64 1)]) <| .lits 2 <| .call (yV ua ub) <| .lit <| .call (.tup [(.int .i64 0), (.agg [(.bool false), .nil, (.int .i64 0), (.bool false), .nil, (.int .i64 0)]), (.int .i64 1)]) <| .lits 4 <| .yes <| .lit <| .call (wV oa ob oc od) <| .lit <| .call (.bool true) <| .lits 9 <| .ret))
    (cast_ob (aI True.intro (aI (c0 ) (aI (c1 ) (aI tT (aI (rfl : (l14_red_0_mk b1 l1 e1 m ee w nn 0) = (l14_red_0_mk b1 l1 e1 m ee w nn 0)) (aI (l14_red_0 b1 l1 e1 m ee w nn c3 c4 c5 c6 0 (show 0 ≤ nn from Nat.zero_le _)) (fun y (hJ : l14_red_0_J b1 l1 e1 m ee w nn y) => have hJ : y = nn := hJ; have hY := hJ; aI (mill_Mod w 120 oS oS) (have f2 := Int.emod_lt_of_pos w (show (0 : Int) < 120 by first | omega | assumption); have f1 := Int.emod_nonneg w (show (120 : Int) ≠ 0 by first | omega | assumption); aI (fits_i64 oS : (fits .i64 ((12 : Int) + (w % 120))) = true) (aI ((hY ▸ c7) ) (aI (c8 ) (aI (c9 ) (aI (c10 ) (aI (iLt_mkF oS : (iLt k (-2000)) = false) (aI (iGt_mkF oS : (iGt k 2000) = false) (aI (c11 ) (aI (fits_i64 oS : (fits .i64 (((12 : Int) + (w % 120)) - 2)) = true) (aI (c12 ) (aI (c13 ) (aI (c14 ) (aI (iGt_mkF oS : (iGt k1 0) = false) (aI (c15 ) (aI (c16 ) (aI (fits_i64 oS : (fits .i64 (((12 : Int) + (w % 120)) + 40)) = true) (aI ((hY ▸ c17) ) (aI (iGe_mk oO : (iGe k 0) = true) (aI (c18 ) (aI (c19 ) (aI (c20 ) (aI ((hY ▸ c21) ) (aI (c22 ) (aI (c23 ) (aI (fits_i64 oS : (fits .i64 (((12 : Int) + (w % 120)) + 20)) = true) (aI (c24 ) (aI (c25 ) ((vsub_refl (.bool true))))))))))))))))))))))))))))))))))))) (by kernel_rfl))
theorem l14_RedN (b1 : Bool) (l1 : List Nat) (e1 : Int) (m : Int) (ee : Int) (w : Int) (k : Int) (ra : Int) (rb : Int) (rc : Int) (rd : Int) (ha : Int) (hb : Int) (fa : Int) (fb : Int) (wa : Int) (wb : Int) (k1 : Int) (na : Int) (nb : Int) (xa : Int) (xb : Int) (n1 : Int) (n2 : Int) (t1 : Int) (t2 : Int) (s1 : Int) (s2 : Int) (ua : Int) (ub : Int) (oa : Int) (ob : Int) (oc : Int) (od : Int) (nn : Nat) (c0 : Impl Tryz.prog Amb 29 [] (.bool true)) (c1 : Impl Tryz.prog Amb 25 [(.agg [(.bool b1), (.sl 1 (U l1)), (.int .i64 e1)]), (.int .i64 2), (.int .i64 60)] (.tup [(yV m (shx m ee 0)), (.bool true)])) (c2 : (-9223372036854775808 : Int) ≤ w ∧ w ≤ 9223372036854775807) (c3 : nn ≤ 100) (c4 : ∀ j, j ≤ nn → (j = nn ↔ (topD m (shx m ee j)) ≤ 9)) (c5 : ∀ j, j ≤ nn → Impl Tryz.prog Amb 37 [(yV m (shx m ee j))] (.int .i64 (topD m (shx m ee j)))) (c6 : ∀ j, j < nn → Impl Tryz.prog Amb 22 [(yV m (shx m ee j)), (.int .i64 (-20))] (.tup [(yV m (shx m ee (j + 1))), (.int .i64 0)])) (c7 : Impl Tryz.prog Amb 38 [(yV m (shx m ee nn)), (.int .i64 ((12 : Int) + (w % 120)))] (.tup [(.int .i64 k), (wV ra rb rc rd), (.int .i64 0)])) (c8 : Impl Tryz.prog Amb 39 [(wV ra rb rc rd)] (.bool true)) (c9 : Impl Tryz.prog Amb 40 [(yV ra rb), (.int .i64 ((12 : Int) + (w % 120)))] (.bool true)) (c10 : Impl Tryz.prog Amb 40 [(yV rc rd), (.int .i64 ((12 : Int) + (w % 120)))] (.bool true)) (c11 : Impl Tryz.prog Amb 41 [(.int .i64 1)] (.tup [(yV ha hb), (.int .i64 0)])) (c12 : Impl Tryz.prog Amb 41 [(.int .i64 (((12 : Int) + (w % 120)) - 2))] (.tup [(yV fa fb), (.int .i64 0)])) (c13 : Impl Tryz.prog Amb 42 [(wV ra rb rc rd)] (.tup [(yV wa wb), (.int .i64 0)])) (c14 : Impl Tryz.prog Amb 43 [(yV wa wb), (yV fa fb)] (.int .i64 k1)) (c15 : Impl Tryz.prog Amb 45 [(yV ha hb)] (yV na nb)) (c16 : Impl Tryz.prog Amb 44 [(wV ra rb rc rd), (wV na nb ha hb)] (.bool true)) (c17 : Impl Tryz.prog Amb 46 [(yV m (shx m ee nn)), (.int .i64 (((12 : Int) + (w % 120)) + 40))] (.agg [(.bool (decide (xa < 0))), (N xa.natAbs), (.bool (decide (xb < 0))), (N xb.natAbs)])) (c18 : Impl Tryz.prog Amb 49 [(.int .i64 (((12 : Int) + (w % 120)) + 40))] (.agg [(.bool (decide (n1 < 0))), (N n1.natAbs), (.bool (decide (n2 < 0))), (N n2.natAbs)])) (c19 : Impl Tryz.prog Amb 48 [(.agg [(.bool (decide (n1 < 0))), (N n1.natAbs), (.bool (decide (n2 < 0))), (N n2.natAbs)]), (.int .i64 ((0 : Int) - k))] (.agg [(.bool (decide (t1 < 0))), (N t1.natAbs), (.bool (decide (t2 < 0))), (N t2.natAbs)])) (c20 : Impl Tryz.prog Amb 50 [(.agg [(.bool (decide (xa < 0))), (N xa.natAbs), (.bool (decide (xb < 0))), (N xb.natAbs)]), (.agg [(.bool (decide (t1 < 0))), (N t1.natAbs), (.bool (decide (t2 < 0))), (N t2.natAbs)])] (.agg [(.bool (decide (s1 < 0))), (N s1.natAbs), (.bool (decide (s2 < 0))), (N s2.natAbs)])) (c21 : Impl Tryz.prog Amb 38 [(yV m (shx m ee nn)), (.int .i64 11)] (.tup [(.int .i64 0), (.agg [(.bool false), .nil, (.int .i64 0), (.bool false), .nil, (.int .i64 0)]), (.int .i64 1)])) (c22 : Impl Tryz.prog Amb 34 [(.int .i64 1001)] (yV ua ub)) (c23 : Impl Tryz.prog Amb 38 [(yV ua ub), (.int .i64 ((12 : Int) + (w % 120)))] (.tup [(.int .i64 0), (.agg [(.bool false), .nil, (.int .i64 0), (.bool false), .nil, (.int .i64 0)]), (.int .i64 1)])) (c24 : Impl Tryz.prog Amb 52 [(.agg [(.bool (decide (s1 < 0))), (N s1.natAbs), (.bool (decide (s2 < 0))), (N s2.natAbs)]), (.int .i64 (((12 : Int) + (w % 120)) + 40)), (.int .i64 (((12 : Int) + (w % 120)) + 20))] (wV oa ob oc od)) (c25 : Impl Tryz.prog Amb 51 [(wV ra rb rc rd), (wV oa ob oc od)] (.bool true)) (c26 : -2000 ≤ k ∧ k ≤ 2000) (c27 : k < 0) (c28 : k1 ≤ 0) : Impl Tryz.prog Amb 9 [(.agg [(.bool b1), (.sl 1 (U l1)), (.int .i64 e1)]), (.int .i64 w)] (.bool true) := by
  exact impl_ob hP hAmb Tryz.func9 (by kernel_rfl) (.lit <| .call (.bool true) <| .lits 4 <| .call (.tup [(yV m (shx m ee 0)), (.bool true)]) <| .lits 3 <| .loop ⟨[1, 5], 2, []⟩ ((l14_red_0_mk b1 l1 e1 m ee w nn 0)) (Nat) (l14_red_0_ex b1 l1 e1 m ee w nn) (l14_red_0_J b1 l1 e1 m ee w nn) (fun y => .lit <| .call (.int .i64 (w % 120)) <| .lit <| .yes <| .lits 2 <| .call (.tup [(.int .i64 k), (wV ra rb rc rd), (.int .i64 0)]) <| .lits 6 <| .call (.bool true) <| .lits 9 <| .call (.bool true) <| .lits 9 <| .call (.bool true) <| .lits 7 <| .no <| .lits 3 <| .no <| .lit <| .call (.tup [(yV ha hb), (.int .i64 0)]) <| .lits 2 <| .yes <| .lit <| .call (.tup [(yV fa fb), (.int .i64 0)]) <| .lits 3 <| .call (.tup [(yV wa wb), (.int .i64 0)]) <| .lits 8 <| .call (.int .i64 k1) <| .lits 3 <| .no <| .lits 5 <| .call (yV na nb) <| .lits 6 <| .call (.bool true) <| .lits 5 <| .yes <| .lits 2 <| .call (.agg [(.bool (decide (xa < 0))), (N xa.natAbs), (.bool (decide (xb < 0))), (N xb.natAbs)]) <| .lits 2 <| .no <| .lits 2 <| .call (.agg [(.bool (decide (n1 < 0))), (N n1.natAbs), (.bool (decide (n2 < 0))), (N n2.natAbs)]) <| .lit <| .yes <| .lit <| .call (.agg [(.bool (decide (t1 < 0))), (N t1.natAbs), (.bool (decide (t2 < 0))), (N t2.natAbs)]) <| .lit <| .call (.agg [(.bool (decide (s1 < 0))), (N s1.natAbs), (.bool (decide (s2 < 0))), (N s2.natAbs)]) <| .lits 3 <| .call (.tup [(.int .i64 0), (.agg [(.bool false), .nil, (.int .i64 0), (.bool false), .nil, (.int .i64 0)]), (.int .i64 1)]) <| .lits 2 <| .call (yV ua ub) <| .lit <| .call (.tup [(.int .i64 0), (.agg [(.bool false), .nil, (.int .i64 0), (.bool false), .nil, (.int .i64 0)]), (.int .i64 1)]) <| .lits 4 <| .yes <| .lit <| .call (wV oa ob oc od) <| .lit <| .call (.bool true) <| .lits 9 <| .ret))
    (cast_ob (aI True.intro (aI (c0 ) (aI (c1 ) (aI tT (aI (rfl : (l14_red_0_mk b1 l1 e1 m ee w nn 0) = (l14_red_0_mk b1 l1 e1 m ee w nn 0)) (aI (l14_red_0 b1 l1 e1 m ee w nn c3 c4 c5 c6 0 (show 0 ≤ nn from Nat.zero_le _)) (fun y (hJ : l14_red_0_J b1 l1 e1 m ee w nn y) => have hJ : y = nn := hJ; have hY := hJ; aI (mill_Mod w 120 oS oS) (have f2 := Int.emod_lt_of_pos w (show (0 : Int) < 120 by first | omega | assumption); have f1 := Int.emod_nonneg w (show (120 : Int) ≠ 0 by first | omega | assumption); aI (fits_i64 oS : (fits .i64 ((12 : Int) + (w % 120))) = true) (aI ((hY ▸ c7) ) (aI (c8 ) (aI (c9 ) (aI (c10 ) (aI (iLt_mkF oS : (iLt k (-2000)) = false) (aI (iGt_mkF oS : (iGt k 2000) = false) (aI (c11 ) (aI (fits_i64 oS : (fits .i64 (((12 : Int) + (w % 120)) - 2)) = true) (aI (c12 ) (aI (c13 ) (aI (c14 ) (aI (iGt_mkF oS : (iGt k1 0) = false) (aI (c15 ) (aI (c16 ) (aI (fits_i64 oS : (fits .i64 (((12 : Int) + (w % 120)) + 40)) = true) (aI ((hY ▸ c17) ) (aI (iGe_mkF oO : (iGe k 0) = false) (aI (c18 ) (aI (fits_i64 oS : (fits .i64 ((0 : Int) - k)) = true) (aI (c19 ) (aI (c20 ) (aI ((hY ▸ c21) ) (aI (c22 ) (aI (c23 ) (aI (fits_i64 oS : (fits .i64 (((12 : Int) + (w % 120)) + 20)) = true) (aI (c24 ) (aI (c25 ) ((vsub_refl (.bool true)))))))))))))))))))))))))))))))))))))) (by kernel_rfl))
end Go.Proofs.YtekcladflnieeaaGreatDoor

namespace Go.Proofs.YtekcladflnieeaaGreatDoor
open Go.RowKit
set_option maxRecDepth 100000
theorem cln_all : (List.range 400).all (fun t => decide (lnLo (t : Int) * 2 ^ (430 - t) ≤ ptLn) && decide (ptLn ≤ lnHi (t : Int) * 2 ^ (430 - t))) = true := by kernel_rfl
theorem cln_at {t : Nat} (ht : t < 400) : ((lnLo (t : Int) : Int) : Rat) ≤ cLn * ((2 ^ t : Int) : Rat) ∧ cLn * ((2 ^ t : Int) : Rat) ≤ ((lnHi (t : Int) : Int) : Rat) := by
  have h := List.all_eq_true.1 cln_all t (List.mem_range.2 ht)
  simp only [Bool.and_eq_true, decide_eq_true_eq] at h
  exact ⟨(cl_sc oO).1 h.1, (cl_sc oO).2 h.2⟩
theorem ln_le (s : Int) : lnLo s ≤ lnHi s := by
  have a := (arcT_pos 26 false s)
  have b := (arcT_pos 4801 false s)
  have c := (arcT_pos 8749 false s)
  unfold lnLo lnHi
  omega
end Go.Proofs.YtekcladflnieeaaGreatDoor


namespace Go.Proofs.YtekcladflnieeaaGreatDoor
open Go.RowKit
set_option maxRecDepth 100000
set_option maxHeartbeats 400000
def rlLo (v : Int) : Int := ((lnT v).1 - 2) * 2
def rlHi (v : Int) : Int := ((lnT v).2 + 2) * 2
theorem rln_all : (List.range 400).all (fun t => decide (t < 24) || (decide (0 ≤ rlLo (t : Int)) && decide (rlLo (t : Int) * 2 ^ (430 - t) ≤ ptLn) && decide (ptLn ≤ rlHi (t : Int) * 2 ^ (430 - t)) && decide (rlHi (t : Int) ≤ 8 * 2 ^ t))) = true := by kernel_rfl
theorem rln_at {t : Nat} (ht : t < 400) (h24 : 24 ≤ t) : (((rlLo (t : Int) : Int) : Rat) ≤ cLn * ((2 ^ t : Int) : Rat) ∧ cLn * ((2 ^ t : Int) : Rat) ≤ ((rlHi (t : Int) : Int) : Rat)) ∧ 0 ≤ rlLo (t : Int) ∧ rlHi (t : Int) ≤ 8 * 2 ^ t := by
  have h := List.all_eq_true.1 rln_all t (List.mem_range.2 ht)
  simp only [Bool.or_eq_true, Bool.and_eq_true, decide_eq_true_eq] at h
  have h := h.resolve_left oO
  exact ⟨⟨(cl_sc oO).1 h.1.1.2, (cl_sc oO).2 h.1.2⟩, h.1.1.1, h.2⟩
theorem abs_big {x : Int} {t c : Nat} (h : x.natAbs ≤ c * 2 ^ t) (hc : c ≤ 2 ^ 20) (ht : t ≤ 2000) : L x.natAbs ≤ 70 := by
  refine L_pow2 (n := t + 21) ?_ oO
  have e : (2 : Nat) ^ (t + 21) = 2 * (2 ^ 20 * 2 ^ t) := by rw [Nat.pow_add]; omega
  have p := Nat.mul_le_mul_right (2 ^ t) hc
  have := Nat.pow_pos (n := t) (show 0 < 2 by omega)
  omega
end Go.Proofs.YtekcladflnieeaaGreatDoor

namespace Go.Proofs.YtekcladflnieeaaGreatDoor
open Go.RowKit
set_option maxRecDepth 100000
set_option maxHeartbeats 2000000
theorem near_k {d c : Rat} {p1 p2 q1 q2 k : Int} (hp1 : (p1 : Rat) ≤ d * 18446744073709551616) (hp2 : d * 18446744073709551616 ≤ (p2 : Rat)) (hp : p2 ≤ p1 + 1) (hq1 : (q1 : Rat) ≤ c * 18446744073709551616) (hq2 : c * 18446744073709551616 ≤ (q2 : Rat)) (hq : q2 - q1 < 16777216) (b1 : 12786308000000000000 ≤ q1) (b2 : q2 ≤ 12786309000000000000)
    (hk : k = Int.fdiv (((p1 + p2) * 2 ^ 1) + (q1 + q2)) ((q1 + q2) * 2 ^ 1)) (d1 : -512 ≤ d) (d2 : d ≤ 512) : (-1000 ≤ k ∧ k ≤ 1000) ∧ -36 ≤ 100 * (d - (k : Rat) * c) ∧ 100 * (d - (k : Rat) * c) ≤ 36 := by
  have q12 : q1 ≤ q2 := Rat.intCast_le_intCast.1 (Rat.le_trans hq1 hq2)
  have P1 : -512 * 18446744073709551616 ≤ p2 := by
    refine Rat.intCast_le_intCast.1 ?_
    rw [Rat.intCast_mul]
    show (-512 : Rat) * 18446744073709551616 ≤ p2
    grind
  have P2 : p1 ≤ 512 * 18446744073709551616 := by
    refine Rat.intCast_le_intCast.1 ?_
    rw [Rat.intCast_mul]
    show (p1 : Rat) ≤ 512 * 18446744073709551616
    grind
  rw [Int.fdiv_eq_ediv_of_nonneg _ oO] at hk
  have f1 := Int.ediv_mul_le (((p1 + p2) * 2 ^ 1) + (q1 + q2)) (show (q1 + q2) * 2 ^ 1 ≠ 0 by omega)
  have f2 := Int.lt_ediv_add_one_mul_self (((p1 + p2) * 2 ^ 1) + (q1 + q2)) (show 0 < (q1 + q2) * 2 ^ 1 by omega)
  rw [← hk] at f1 f2
  rw [show (2 : Int) ^ 1 = 2 from rfl] at f1 f2
  have K1 : k ≤ 1000 := by
    refine Decidable.byContradiction fun hn => ?_
    have m := Int.mul_le_mul_of_nonneg_right (show 1001 ≤ k by omega) (show 0 ≤ (q1 + q2) * 2 by omega)
    omega
  have K2 : -1000 ≤ k := by
    refine Decidable.byContradiction fun hn => ?_
    have m := Int.mul_le_mul_of_nonneg_right (show k + 1 ≤ -1000 by omega) (show 0 ≤ (q1 + q2) * 2 by omega)
    omega
  refine ⟨⟨K2, K1⟩, ?_⟩
  have g1 : ((k * ((q1 + q2) * 2) : Int) : Rat) ≤ (((p1 + p2) * 2 + (q1 + q2) : Int) : Rat) := Rat.intCast_le_intCast.2 f1
  have g2 : (((p1 + p2) * 2 + (q1 + q2) : Int) : Rat) ≤ (((k + 1) * ((q1 + q2) * 2) : Int) : Rat) := Rat.intCast_le_intCast.2 (Int.le_of_lt f2)
  simp only [Rat.intCast_mul, Rat.intCast_add, show ((2 : Int) : Rat) = 2 from rfl, show ((1 : Int) : Rat) = 1 from rfl] at g1 g2
  have hpR : (p2 : Rat) ≤ (p1 : Rat) + 1 := by
    have : (p2 : Rat) ≤ ((p1 + 1 : Int) : Rat) := Rat.intCast_le_intCast.2 hp
    rw [Rat.intCast_add] at this; exact this
  have hqR : (q2 : Rat) ≤ (q1 : Rat) + 16777216 := by
    have : (q2 : Rat) ≤ ((q1 + 16777216 : Int) : Rat) := Rat.intCast_le_intCast.2 oO
    rw [Rat.intCast_add] at this; exact this
  have b2R : (q2 : Rat) ≤ 12786309000000000000 := by
    have : (q2 : Rat) ≤ ((12786309000000000000 : Int) : Rat) := Rat.intCast_le_intCast.2 b2
    exact this
  have b1R : (12786308000000000000 : Rat) ≤ (q1 : Rat) := by
    have : ((12786308000000000000 : Int) : Rat) ≤ (q1 : Rat) := Rat.intCast_le_intCast.2 b1
    exact this
  have k1R : (k : Rat) ≤ 1000 := by
    have : (k : Rat) ≤ ((1000 : Int) : Rat) := Rat.intCast_le_intCast.2 K1
    exact this
  have k2R : (-1000 : Rat) ≤ (k : Rat) := by
    have : ((-1000 : Int) : Rat) ≤ (k : Rat) := Rat.intCast_le_intCast.2 K2
    exact this
  generalize (k : Rat) = K at *
  generalize (p1 : Rat) = p at *
  generalize (p2 : Rat) = p' at *
  generalize (q1 : Rat) = q at *
  generalize (q2 : Rat) = q' at *
  clear f1 f2 hk b1 b2 K1 K2 P1 P2
  rcases (Rat.le_total : 0 ≤ K ∨ K ≤ 0) with hK | hK
  · have m1 := Rat.mul_le_mul_of_nonneg_left hq1 hK
    have m2 := Rat.mul_le_mul_of_nonneg_left hq2 hK
    have m3 := Rat.mul_le_mul_of_nonneg_left hqR hK
    constructor <;> grind
  · have m1 := Rat.mul_le_mul_of_nonneg_left hq1 (show 0 ≤ -K by grind)
    have m2 := Rat.mul_le_mul_of_nonneg_left hq2 (show 0 ≤ -K by grind)
    have m3 := Rat.mul_le_mul_of_nonneg_left hqR (show 0 ≤ -K by grind)
    constructor <;> grind
theorem ln64 : lnLo 64 = 12786308645202654970 ∧ lnHi 64 = 12786308645202656194 := ⟨by kernel_rfl, by kernel_rfl⟩
theorem red_clo (m ee k ss : Int) (hs : 0 ≤ ss ∧ ss ≤ 380) (hm : L (m).natAbs ≤ 2) (he : -440 ≤ ee ∧ ee ≤ 104) (hk : -1000 ≤ k ∧ k ≤ 1000) :
    ∃ r1 r2 : Int, Impl Tryz.prog Amb 108 [(.int .i64 ss), (.pt [(V.bool (decide (m < 0))), (N m.natAbs), (V.int .i64 ee)] 0), (.pt [(V.int .i64 k)] 0)] (.agg [(.bool (decide (r1 < 0))), (N r1.natAbs), (.bool (decide (r2 < 0))), (N r2.natAbs)]) ∧ r1 ≤ r2 ∧ r2 - r1 < 16777216 ∧ L r1.natAbs ≤ 500 ∧ L r2.natAbs ≤ 500 ∧ (r1 : Rat) ≤ (dv m ee - (k : Rat) * cLn) * ((2 ^ ss.toNat : Int) : Rat) ∧ (dv m ee - (k : Rat) * cLn) * ((2 ^ ss.toNat : Int) : Rat) ≤ (r2 : Rat) := by
  obtain ⟨t, ht⟩ : ∃ t : Nat, (t : Int) = ss + 16 := ⟨(ss + 16).toNat, by omega⟩
  have hO := fx_Of m ee (ss + 16) oO oO oO
  have lf := flr_LD m ee (ss + 16)
  have sc1 := flr_sc (dv m ee) t
  have sc2 := cei_sc (dv m ee) t
  have fc := flr_cei1 (dv m ee) t
  have cl := cln_at (t := t) oO
  rw [ht] at sc1 sc2 fc cl
  have b := ln_ok (s := ss + 16) oO
  have bl := ln_le (ss + 16)
  have bw : lnHi (ss + 16) - lnLo (ss + 16) < 16777216 := by
    have := nbits_lt (lnHi (ss + 16) - lnLo (ss + 16)).natAbs
    have p := Nat.pow_le_pow_right (n := 2) oO b.2.2
    omega
  have hL := fx_Ln2 (ss + 16) oO
  have hL : Impl Tryz.prog Amb 106 [(.int .i64 (ss + 16))] (.agg [(.bool (decide ((lnLo (ss + 16)) < 0))), (N ((lnLo (ss + 16)).natAbs)), (.bool (decide ((lnHi (ss + 16)) < 0))), (N ((lnHi (ss + 16)).natAbs))]) := hL
  generalize lnLo (ss + 16) = q1 at *
  generalize lnHi (ss + 16) = q2 at *
  generalize flr (dv m ee) (ss + 16) = p1 at *
  generalize cei (dv m ee) (ss + 16) = p2 at *
  have m1 := L_abs_mul q1 k
  have m2 := L_abs_mul q2 k
  have lk := L_i64 (n := k) oO
  have hT := fx_TimesA q1 q2 k oO oO oO
  have te := tm_enc (k := k) cl.1 cl.2
  have tw := tm_w (W := 1000) bl oO bw
  have tL : L (tmLo q1 q2 k).natAbs ≤ 430 ∧ L (tmHi q1 q2 k).natAbs ≤ 430 := by unfold tmLo tmHi; split <;> omega
  generalize tmLo q1 q2 k = t1 at *
  generalize tmHi q1 q2 k = t2 at *
  have n1 := L_abs_neg t1
  have n2 := L_abs_neg t2
  have a1 := L_abs_add p1 (-t2)
  have a2 := L_abs_add p2 (-t1)
  have hS := fx_Sub p1 p2 t1 t2 oO oO oO oO
  have hH := fx_Half (p1 + -t2) (p2 + -t1) 16 oO oO oO
  have o1 := L_abs_shr (p1 + -t2) 16
  have o2 := L_abs_neg (p2 + -t1)
  have o3 := L_abs_shr (-(p2 + -t1)) 16
  have o4 := L_abs_neg (-(p2 + -t1) / 2 ^ 16)
  have hw := half_w (a := p1 + -t2) (b := p2 + -t1) (W := 300000) (n := 16) oO
  have he := half_enc (a := p1 + -t2) (b := p2 + -t1) (X := dv m ee - (k : Rat) * cLn) (t := t) (s := ss.toNat) (n := 16) oO (by rw [Rat.intCast_add, Rat.intCast_neg]; grind) (by rw [Rat.intCast_add, Rat.intCast_neg]; grind)
  refine ⟨_, _, ex_clo m ee k ss p1 p2 q1 q2 t1 t2 _ _ _ _ oO hO hL hT hS hH, ?_, ?_, ?_, ?_, he.1, he.2⟩
  · exact Rat.intCast_le_intCast.1 (Rat.le_trans he.1 he.2)
  · have h16 : (16 : Int).toNat = 16 := rfl
    rw [h16]; omega
  · have h16 : (16 : Int).toNat = 16 := rfl
    rw [h16]; omega
  · have h16 : (16 : Int).toNat = 16 := rfl
    rw [h16]; omega
end Go.Proofs.YtekcladflnieeaaGreatDoor

namespace Go.Proofs.YtekcladflnieeaaGreatDoor
open Go.RowKit
set_option maxRecDepth 100000
set_option maxHeartbeats 2000000
theorem shx60_fit {m e : Int} (he : -60 ≤ e ∧ e ≤ 130) {j : Nat} (hj : j ≤ 10) : -260 ≤ shx m e j ∧ shx m e j ≤ 130 := by
  unfold shx; split <;> omega
theorem shx60_step {m e : Int} (hv : vdb m e = true) (hm : L m.natAbs ≤ 2) (he : -60 ≤ e ∧ e ≤ 130) {j : Nat} (hj : j < 10) : Impl Tryz.prog Amb 22 [(yV m (shx m e j)), (.int .i64 (-20))] (.tup [(yV m (shx m e (j + 1))), (.int .i64 0)]) := by
  have f := shx60_fit (m := m) he (j := j) oO
  have h := r08_Shift m (shx m e j) (-20) oO oO oO
  have key : mkM m (shx m e j + -20) = m ∧ mkX m (shx m e j + -20) = shx m e (j + 1) ∧ mkE m (shx m e j + -20) = 0 := by
    by_cases hz : m = 0
    · subst hz
      have := mk_r2 (m := 0) (e := shx 0 e j + -20) oO rfl
      exact ⟨this.1, this.2.1, this.2.2⟩
    · have s : shx m e j + -20 = shx m e (j + 1) := by unfold shx; rw [if_neg hz, if_neg hz]; omega
      rw [s]
      have f' := shx60_fit (m := m) he (j := j + 1) oO
      refine mk_valid ?_
      rcases vdb_iff.1 hv with q | q
      · exact absurd q.1 hz
      · exact vdb_iff.2 (.inr ⟨hz, q.2.1, by omega, by omega, q.2.2.2.2⟩)
  rw [key.1, key.2.1, key.2.2] at h
  exact h
theorem shx60_v {m e : Int} (hv : vdb m e = true) (he : -60 ≤ e ∧ e ≤ 130) {j : Nat} (hj : j ≤ 10) : vdb m (shx m e j) = true := by
  have f := shx60_fit (m := m) he hj
  by_cases hz : m = 0
  · subst hz
    unfold shx
    rw [if_pos rfl]
    simp [vdb]
  · rcases vdb_iff.1 hv with q | q
    · exact absurd q.1 hz
    · exact vdb_iff.2 (.inr ⟨hz, q.2.1, by omega, by omega, q.2.2.2.2⟩)
theorem top60 {m e : Int} (hm : L m.natAbs ≤ 2) (he : -60 ≤ e ∧ e ≤ 130) : topD m (shx m e 10) ≤ 9 := by
  by_cases hz : m = 0
  · subst hz
    unfold topD
    rw [if_pos rfl]; omega
  · have s : shx m e 10 = e - 200 := by unfold shx; rw [if_neg hz]; omega
    rw [s]
    have r := topD_range m (e - 200)
    omega
theorem red_rounds {m e : Int} (hm : L m.natAbs ≤ 2) (he : -60 ≤ e ∧ e ≤ 130) : ∃ nn, nn ≤ 10 ∧ ∀ j, j ≤ nn → (j = nn ↔ topD m (shx m e j) ≤ 9) := by
  obtain ⟨nn, h1, h2, h3⟩ := least (P := fun j => topD m (shx m e j) ≤ 9) (n := 10) (top60 hm he)
  refine ⟨nn, h1, fun j hj => ⟨fun q => by rw [q]; exact h2, fun q => ?_⟩⟩
  exact Decidable.byContradiction fun hn => h3 j oO q
theorem dv512 {m e : Int} (h : topD m e ≤ 9) : -512 ≤ dv m e ∧ dv m e ≤ 512 := by
  by_cases hz : m = 0
  · rw [hz, dv_zero]; constructor <;> decide
  · have t := (dv_top (e := e) hz).1
    have u : dv 1 (topD m e) ≤ dv 1 9 := by
      rw [dv_at (m := 1) (e := 9) h, dv_le]
      have := two_pos (9 - topD m e).toNat
      omega
    have v : dv 1 9 = 512 := by
      rw [dv_at (m := 1) (e := 9) (c := 0) oO, dv_int]; rfl
    by_cases hp : 0 ≤ m
    · rw [Int.natAbs_of_nonneg hp] at t
      have : 0 ≤ dv m e := by rw [← dv_zero e, dv_le]; exact hp
      constructor <;> grind
    · rw [show (m.natAbs : Int) = -m by omega, dv_neg] at t
      have : dv m e ≤ 0 := by rw [← dv_zero e, dv_le]; omega
      constructor <;> grind
theorem e64 : ((2 ^ 64 : Int) : Rat) = 18446744073709551616 := by rw [show (2 : Int) ^ 64 = 18446744073709551616 from by kernel_rfl]; rfl
theorem bey_no {m x : Int} (hm : L m.natAbs ≤ 2) (he : -440 ≤ x ∧ x ≤ 130) (h : dv m x ≤ 512) : Impl Tryz.prog Amb 94 [(yV m x), (.int .i64 1000)] (.bool false) := by
  refine impl_eq (congrArg V.bool (decide_eq_false fun q => ?_)) (ex_beyond m x 1000 oO oO oO)
  have q := cmpD_pos.1 q
  rw [(of_fit (n := 1000) oO).2.2.2.2.2] at q
  have : (1000 : Rat) < dv m x := q
  grind
theorem red_size {X P : Rat} {A B p : Int} (hP : P = (p : Rat)) (hp : 4096 ≤ p) (h1 : (A : Rat) ≤ X * P) (h2 : X * P ≤ (B : Rat)) (hw : B - A ≤ 2) (x1 : -36 ≤ 100 * X) (x2 : 100 * X ≤ 36) : (2 * A ≤ p ∧ -p ≤ 2 * A) ∧ (2 * B ≤ p ∧ -p ≤ 2 * B) := by
  have p0 : (0 : Rat) ≤ P := by rw [hP]; exact Rat.intCast_nonneg.2 oO
  have m1 := Rat.mul_le_mul_of_nonneg_right x1 p0
  have m2 := Rat.mul_le_mul_of_nonneg_right x2 p0
  have a : 100 * A ≤ 36 * p := by
    refine Rat.intCast_le_intCast.1 ?_
    rw [Rat.intCast_mul, Rat.intCast_mul, ← hP]
    show (100 : Rat) * A ≤ 36 * P
    grind
  have b : -36 * p ≤ 100 * B := by
    refine Rat.intCast_le_intCast.1 ?_
    rw [Rat.intCast_mul, Rat.intCast_mul, ← hP]
    show (-36 : Rat) * P ≤ 100 * B
    grind
  omega
theorem red_val (m x w : Int) (hw : 12 ≤ w ∧ w ≤ 140) (hm : L m.natAbs ≤ 2) (hx : -440 ≤ x ∧ x ≤ 104) (d1 : -512 ≤ dv m x) (d2 : dv m x ≤ 512) :
    ∃ k A B : Int, Impl Tryz.prog Amb 38 [(yV m x), (.int .i64 w)] (.tup [(.int .i64 k), (.agg [(.bool (decide (mkM A (-w) < 0))), (N ((mkM A (-w)).natAbs)), (.int .i64 (mkX A (-w))), (.bool (decide (mkM B (-w) < 0))), (N ((mkM B (-w)).natAbs)), (.int .i64 (mkX B (-w)))]), (.int .i64 0)]) ∧ (-1000 ≤ k ∧ k ≤ 1000) ∧ B - A ≤ 2 ∧ (L A.natAbs ≤ 600 ∧ L B.natAbs ≤ 600) ∧ ((A : Rat) ≤ (dv m x - (k : Rat) * cLn) * ((2 ^ w.toNat : Int) : Rat) ∧ (dv m x - (k : Rat) * cLn) * ((2 ^ w.toNat : Int) : Rat) ≤ (B : Rat)) ∧ (-36 ≤ 100 * (dv m x - (k : Rat) * cLn) ∧ 100 * (dv m x - (k : Rat) * cLn) ≤ 36) := by
  have hO := fx_Of m x 64 oO oO oO
  have hN : Impl Tryz.prog Amb 106 [(.int .i64 64)] (.agg [(.bool (decide ((lnLo 64) < 0))), (N ((lnLo 64).natAbs)), (.bool (decide ((lnHi 64) < 0))), (N ((lnHi 64).natAbs))]) := fx_Ln2 64 oO
  have lf := flr_LD m x 64
  have sc1 := (flr_sc (dv m x) 64).1
  have sc2 := (cei_sc (dv m x) 64).1
  have fc := (flr_cei1 (dv m x) 64).1
  have cl := cln_at (t := 64) oO
  have b := ln_ok (s := 64) oO
  rw [e64] at sc1 sc2 cl
  have l64 := ln64
  have sc1 : ((flr (dv m x) 64 : Int) : Rat) ≤ dv m x * 18446744073709551616 := sc1
  have sc2 : dv m x * 18446744073709551616 ≤ ((cei (dv m x) 64 : Int) : Rat) := sc2
  have fc : cei (dv m x) 64 ≤ flr (dv m x) 64 + 1 := fc
  have cl : ((lnLo 64 : Int) : Rat) ≤ cLn * 18446744073709551616 ∧ cLn * 18446744073709551616 ≤ ((lnHi 64 : Int) : Rat) := cl
  generalize flr (dv m x) 64 = p1 at *
  generalize cei (dv m x) 64 = p2 at *
  generalize lnLo 64 = q1 at *
  generalize lnHi 64 = q2 at *
  have nk := near_k (k := Int.fdiv (((p1 + p2) * 2 ^ 1) + (q1 + q2)) ((q1 + q2) * 2 ^ 1)) sc1 sc2 fc cl.1 cl.2 oO oO oO rfl d1 d2
  have NE := fx_Nearest p1 p2 q1 q2 oO oO oO oO oO oO
  generalize Int.fdiv (((p1 + p2) * 2 ^ 1) + (q1 + q2)) ((q1 + q2) * 2 ^ 1) = k at nk NE
  clear sc1 sc2 fc cl b l64 lf
  obtain ⟨r1, r2, hC, r12, rw_, Lr1, Lr2, re1, re2⟩ := red_clo m x k (w + 24) oO hm hx nk.1
  have hT := fx_Settle2 108 _ _ r1 r2 w hC oO (nbits_of_lt oO) oO
  have hw2 := half_w (a := r1) (b := r2) (W := 1) (n := 24) oO
  have he := half_enc (a := r1) (b := r2) (X := dv m x - (k : Rat) * cLn) (t := (w + 24).toNat) (s := w.toNat) (n := 24) oO re1 re2
  have o8 := L_abs_shr r1 24
  have o9 := L_abs_neg r2
  have o10 := L_abs_shr (-r2) 24
  have o11 := L_abs_neg (-r2 / 2 ^ 24)
  generalize r1 / 2 ^ 24 = A at *
  generalize -(-r2 / 2 ^ 24) = B at *
  have mA := dy_Make A (0 - w) oO oO
  have mB := dy_Make B (0 - w) oO oO
  rw [Int.zero_sub, mk_fine2 (m := A) (e := -w) oO oO] at mA
  rw [Int.zero_sub, mk_fine2 (m := B) (e := -w) oO oO] at mB
  have n1 := L_abs_neg m
  have dn := dv_neg m x
  exact ⟨k, A, B, ex_Red0 m x w k p1 p2 q1 q2 A B _ _ _ _ oO oO (bey_no hm oO d2) (bey_no oO oO (by rw [dn]; grind)) hO hN NE hT (by rw [Int.zero_sub]; exact mA) (by rw [Int.zero_sub]; exact mB), nk.1, hw2, by omega, he, nk.2⟩
end Go.Proofs.YtekcladflnieeaaGreatDoor
