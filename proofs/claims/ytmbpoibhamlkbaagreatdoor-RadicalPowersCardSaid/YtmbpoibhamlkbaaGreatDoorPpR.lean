/-
  Lower layers: what functions of the program compute, and plain facts. Conditions: as the theorems say.
-/
import Derived.Test.YtmbpoibhamlkbaaGreatDoorPpQ
set_option linter.unusedVariables false
set_option linter.unusedSimpArgs false
namespace Go.Proofs.YtmbpoibhamlkbaaGreatDoor
open Go.RowKit
set_option maxRecDepth 100000
set_option maxHeartbeats 2000000
theorem rad_works (w : Int) (c0 : (-9223372036854775808 : Int) ≤ w ∧ w ≤ 9223372036854775807) : Impl Tryz.prog Amb 97 [(.int .i64 w)] (.bool (decide (0 ≤ w ∧ w ≤ 4096))) := by
  exact impl_ob hP hAmb Tryz.func97 (by kernel_rfl) (.lit <| .both (.lits 4 <| .ret) (.lits 3 <| .ret))
    (cast_ob (aI True.intro (aI (fun (h1 : (iGe w 0) = true) => have _gh1 := iGe_t h1; (vsub_of (congrArg V.bool (by first | exact work_1 oO | exact work_2 oO)) : vsub (.bool (iLe w 4096)) (.bool (decide (0 ≤ w ∧ w ≤ 4096))))) (fun (h2 : (iGe w 0) = false) => have _gh2 := iGe_f h2; (vsub_of (congrArg V.bool (by first | exact work_1 oO | exact work_2 oO)) : vsub (.bool false) (.bool (decide (0 ≤ w ∧ w ≤ 4096))))))) (by kernel_rfl))
theorem rad_sqrt (m : Int) (e : Int) (w : Int) (c0 : L (m).natAbs ≤ 60) (c1 : (-5000 : Int) ≤ e ∧ e ≤ 5000) (c2 : vdb m e = true) (c3 : (0 : Int) ≤ w ∧ w ≤ 4096) (c4 : 0 ≤ m) : Impl Tryz.prog Amb 152 [(yV m e), (.int .i64 w)] (.tup [(N (sqF m e w)), (.bool (sqX m e w))]) := by
  exact impl_ob hP hAmb Tryz.func152 (by kernel_rfl) (.lits 2 <| .yes <| .lit <| .yes <| .lit <| .both (.lits 2 <| .call (N (m.natAbs * 2 ^ ((e + ((2 : Int) * w))).toNat)) <| .lit <| .call (.tup [(N (rt (m.natAbs * 2 ^ ((e + ((2 : Int) * w))).toNat))), (N ((m.natAbs * 2 ^ ((e + ((2 : Int) * w))).toNat) - rt (m.natAbs * 2 ^ ((e + ((2 : Int) * w))).toNat) * rt (m.natAbs * 2 ^ ((e + ((2 : Int) * w))).toNat)))]) <| .lits 2 <| .ret) (.lits 2 <| .yes <| .lit <| .call (N (m.natAbs / 2 ^ (((0 : Int) - (e + ((2 : Int) * w)))).toNat)) <| .lit <| .call (.tup [(N (rt (m.natAbs / 2 ^ (((0 : Int) - (e + ((2 : Int) * w)))).toNat))), (N ((m.natAbs / 2 ^ (((0 : Int) - (e + ((2 : Int) * w)))).toNat) - rt (m.natAbs / 2 ^ (((0 : Int) - (e + ((2 : Int) * w)))).toNat) * rt (m.natAbs / 2 ^ (((0 : Int) - (e + ((2 : Int) * w)))).toNat)))]) <| .lit <| .both (.lits 6 <| .yes <| .lits 2 <| .call (N (m.natAbs % 2 ^ (((0 : Int) - (e + ((2 : Int) * w)))).toNat)) <| .lits 5 <| .ret) (.lits 9 <| .ret)))
    (cast_ob (aI True.intro (aI (fits_i64 oS : (fits .i64 ((2 : Int) * w)) = true) (aI (fits_i64 oS : (fits .i64 (e + ((2 : Int) * w))) = true) (aI (fun (h1 : (iGe (e + ((2 : Int) * w)) 0) = true) => have _gh1 := iGe_t h1; aI (nat_Shl m.natAbs (e + ((2 : Int) * w)) oS oS) (have f4 := L_shl m.natAbs ((e + ((2 : Int) * w))).toNat; aI (root_Sqrt (m.natAbs * 2 ^ ((e + ((2 : Int) * w))).toNat) oS) (have f3 := L_sub (m.natAbs * 2 ^ ((e + ((2 : Int) * w))).toNat) (rt (m.natAbs * 2 ^ ((e + ((2 : Int) * w))).toNat) * rt (m.natAbs * 2 ^ ((e + ((2 : Int) * w))).toNat)); have f2 := rt_L (m.natAbs * 2 ^ ((e + ((2 : Int) * w))).toNat); (vsub_tup2 (vsub_of (congrArg N (by unfold sqF; rw [sq_p c4 oO]))) (vsub_of (congrArg V.bool (sqX_p c4 oO (sq_p c4 oO)))) : vsub (.tup [(N (rt (m.natAbs * 2 ^ ((e + ((2 : Int) * w))).toNat))), (.bool (iEq ((lim ((m.natAbs * 2 ^ ((e + ((2 : Int) * w))).toNat) - rt (m.natAbs * 2 ^ ((e + ((2 : Int) * w))).toNat) * rt (m.natAbs * 2 ^ ((e + ((2 : Int) * w))).toNat))).length : Int) 0))]) (.tup [(N (sqF m e w)), (.bool (sqX m e w))]))))) (fun (h5 : (iGe (e + ((2 : Int) * w)) 0) = false) => have _gh5 := iGe_f h5; aI (fits_i64 oS : (fits .i64 ((0 : Int) - (e + ((2 : Int) * w)))) = true) (aI (nat_Shr m.natAbs ((0 : Int) - (e + ((2 : Int) * w))) oS oS) (have f11 := L_div m.natAbs (2 ^ (((0 : Int) - (e + ((2 : Int) * w)))).toNat); aI (root_Sqrt (m.natAbs / 2 ^ (((0 : Int) - (e + ((2 : Int) * w)))).toNat) oS) (have f10 := L_sub (m.natAbs / 2 ^ (((0 : Int) - (e + ((2 : Int) * w)))).toNat) (rt (m.natAbs / 2 ^ (((0 : Int) - (e + ((2 : Int) * w)))).toNat) * rt (m.natAbs / 2 ^ (((0 : Int) - (e + ((2 : Int) * w)))).toNat)); have f9 := rt_L (m.natAbs / 2 ^ (((0 : Int) - (e + ((2 : Int) * w)))).toNat); aI (fun (h6 : (iEq ((lim ((m.natAbs / 2 ^ (((0 : Int) - (e + ((2 : Int) * w)))).toNat) - rt (m.natAbs / 2 ^ (((0 : Int) - (e + ((2 : Int) * w)))).toNat) * rt (m.natAbs / 2 ^ (((0 : Int) - (e + ((2 : Int) * w)))).toNat))).length : Int) 0) = true) => have _gh6 := iEq_t h6; aI (fits_i64 oS : (fits .i64 ((0 : Int) - (e + ((2 : Int) * w)))) = true) (aI (nat_Low m.natAbs ((0 : Int) - (e + ((2 : Int) * w))) oS oS) (have f7 := L_mod m.natAbs (2 ^ (((0 : Int) - (e + ((2 : Int) * w)))).toNat); (vsub_tup2 (vsub_of (congrArg N (by unfold sqF; rw [sq_n c4 oO]))) (vsub_of (congrArg V.bool (sqX_n c4 c2 oO (sq_n c4 oO) oO))) : vsub (.tup [(N (rt (m.natAbs / 2 ^ (((0 : Int) - (e + ((2 : Int) * w)))).toNat))), (.bool (iEq ((lim (m.natAbs % 2 ^ (((0 : Int) - (e + ((2 : Int) * w)))).toNat)).length : Int) 0))]) (.tup [(N (sqF m e w)), (.bool (sqX m e w))]))))) (fun (h8 : (iEq ((lim ((m.natAbs / 2 ^ (((0 : Int) - (e + ((2 : Int) * w)))).toNat) - rt (m.natAbs / 2 ^ (((0 : Int) - (e + ((2 : Int) * w)))).toNat) * rt (m.natAbs / 2 ^ (((0 : Int) - (e + ((2 : Int) * w)))).toNat))).length : Int) 0) = false) => have _gh8 := iEq_f h8; (vsub_tup2 (vsub_of (congrArg N (by unfold sqF; rw [sq_n c4 oO]))) (vsub_of (congrArg V.bool (sqX_no (sq_n c4 oO) oO))) : vsub (.tup [(N (rt (m.natAbs / 2 ^ (((0 : Int) - (e + ((2 : Int) * w)))).toNat))), (.bool false)]) (.tup [(N (sqF m e w)), (.bool (sqX m e w))]))))))))))) (by kernel_rfl))
theorem rad_rounded (m : Int) (e : Int) (w : Int) (up : Bool) (c0 : L (m).natAbs ≤ 60) (c1 : (-5000 : Int) ≤ e ∧ e ≤ 5000) (c2 : vdb m e = true) (c3 : (-9223372036854775808 : Int) ≤ w ∧ w ≤ 9223372036854775807) : Impl Tryz.prog Amb 100 [(yV m e), (.int .i64 w), (.bool up)] (srT m e w up) := by
  have ez : (0 : Int) - w = -w := Int.zero_sub w
  have s0 := sign_range m
  have zl : L (0 : Int).natAbs = 0 := L_zero
  have z1 : L 1 ≤ 1 := L_le (by decide)
  exact impl_ob hP hAmb Tryz.func100 (by kernel_rfl) (.lit <| .call (.bool (decide (0 ≤ w ∧ w ≤ 4096))) <| .lit <| .both (.lits 3 <| .ret) (.lits 2 <| .call (.int .i64 ((m).sign)) <| .lit <| .both (.lits 3 <| .ret) (.lits 2 <| .call (.tup [(N (sqF m e w)), (.bool (sqX m e w))]) <| .both (.lits 3 <| .both (.lit <| .call (N 1) <| .lit <| .call (N ((sqF m e w) + 1)) <| .lit <| .call (zV (sgn false ((sqF m e w) + 1))) <| .lit <| .yes <| .lit <| .call (mkT (sgn false ((sqF m e w) + 1)) ((0 : Int) - w)) <| .lits 2 <| .ret) (.lit <| .call (zV (sgn false (sqF m e w))) <| .lit <| .yes <| .lit <| .call (mkT (sgn false (sqF m e w)) ((0 : Int) - w)) <| .lits 2 <| .ret)) (.lits 4 <| .call (zV (sgn false (sqF m e w))) <| .lit <| .yes <| .lit <| .call (mkT (sgn false (sqF m e w)) ((0 : Int) - w)) <| .lits 2 <| .ret))))
    (cast_ob (aI True.intro (aI (rad_works w oS) (aI (fun (h1 : (!(decide (0 ≤ w ∧ w ≤ 4096))) = true) => have _gh1 := of_decide_eq_false (notb_t h1); (Y_zero (sr_1 oO) : vsub (.tup [(.agg [(.bool false), .nil, (.int .i64 0)]), (.int .i64 1)]) (srT m e w up))) (fun (h2 : (!(decide (0 ≤ w ∧ w ≤ 4096))) = false) => have _gh2 := of_decide_eq_true (notb_f h2); aI (dy_Sign m e oS) (have f17 := sign_range m; aI (fun (h3 : (iLt ((m).sign) 0) = true) => have _gh3 := iLt_t h3; (Y_zero (sr_2 oO oO) : vsub (.tup [(.agg [(.bool false), .nil, (.int .i64 0)]), (.int .i64 4)]) (srT m e w up))) (fun (h4 : (iLt ((m).sign) 0) = false) => have _gh4 := iLt_f h4; aI (rad_sqrt m e w oS oS oS oS oS) (have f16 := sq_L (m := m) (e := e) (w := w) oS oS oS; aI (fun (h5 : up = true) => aI (fun (h6 : (!(sqX m e w)) = true) => aI (nat_Of 1 oS) (aI (nat_Add (sqF m e w) 1 oS oS) (have f9 := L_add (sqF m e w) 1; aI (int_Nat false ((sqF m e w) + 1) oS) (have f8 := L_sgn false ((sqF m e w) + 1); aI (fits_i64 oS : (fits .i64 ((0 : Int) - w)) = true) (aI (dy_Make (sgn false ((sqF m e w) + 1)) ((0 : Int) - w) oS oS) (have f7 := mk_facts (sgn false ((sqF m e w) + 1)) ((0 : Int) - w); (Y_of (sr_y oO oO (sqV_up rfl (by simp_all)) ez) : vsub (mkT (sgn false ((sqF m e w) + 1)) ((0 : Int) - w)) (srT m e w up)))))))) (fun (h10 : (!(sqX m e w)) = false) => aI (int_Nat false (sqF m e w) oS) (have f12 := L_sgn false (sqF m e w); aI (fits_i64 oS : (fits .i64 ((0 : Int) - w)) = true) (aI (dy_Make (sgn false (sqF m e w)) ((0 : Int) - w) oS oS) (have f11 := mk_facts (sgn false (sqF m e w)) ((0 : Int) - w); (Y_of (sr_y oO oO (sqV_no rfl (by simp_all)) ez) : vsub (mkT (sgn false (sqF m e w)) ((0 : Int) - w)) (srT m e w up))))))) (fun (h13 : up = false) => aI (int_Nat false (sqF m e w) oS) (have f15 := L_sgn false (sqF m e w); aI (fits_i64 oS : (fits .i64 ((0 : Int) - w)) = true) (aI (dy_Make (sgn false (sqF m e w)) ((0 : Int) - w) oS oS) (have f14 := mk_facts (sgn false (sqF m e w)) ((0 : Int) - w); (Y_of (sr_y oO oO (sqV_no rfl (by simp_all)) ez) : vsub (mkT (sgn false (sqF m e w)) ((0 : Int) - w)) (srT m e w up))))))))))))) (by kernel_rfl))
theorem rad_SqrtFloor (m : Int) (e : Int) (w : Int) (c0 : L (m).natAbs ≤ 60) (c1 : (-5000 : Int) ≤ e ∧ e ≤ 5000) (c2 : vdb m e = true) (c3 : (-9223372036854775808 : Int) ≤ w ∧ w ≤ 9223372036854775807) : Impl Tryz.prog Amb 34 [(yV m e), (.int .i64 w)] (srT m e w false) := by
  exact impl_ob hP hAmb Tryz.func34 (by kernel_rfl) (.lits 2 <| .call (srT m e w false) <| .lits 2 <| .ret)
    (cast_ob (aI True.intro (aI (rad_rounded m e w false oS oS oS oS) (have f1 := sr_facts m e w false; (vsub_refl (srT m e w false))))) (by kernel_rfl))
theorem rad_SqrtCeil (m : Int) (e : Int) (w : Int) (c0 : L (m).natAbs ≤ 60) (c1 : (-5000 : Int) ≤ e ∧ e ≤ 5000) (c2 : vdb m e = true) (c3 : (-9223372036854775808 : Int) ≤ w ∧ w ≤ 9223372036854775807) : Impl Tryz.prog Amb 35 [(yV m e), (.int .i64 w)] (srT m e w true) := by
  exact impl_ob hP hAmb Tryz.func35 (by kernel_rfl) (.lits 2 <| .call (srT m e w true) <| .lits 2 <| .ret)
    (cast_ob (aI True.intro (aI (rad_rounded m e w true oS oS oS oS) (have f1 := sr_facts m e w true; (vsub_refl (srT m e w true))))) (by kernel_rfl))
theorem rad_small (m : Int) (e : Int) (n : Int) (f : Int) (a : Int) (b : Int) (c0 : L (m).natAbs ≤ 8192) (c1 : (-65536 : Int) ≤ e ∧ e ≤ 65536) (c2 : L (n).natAbs ≤ 8192) (c3 : (-65536 : Int) ≤ f ∧ f ≤ 65536) : Impl Tryz.prog Amb 99 [(yV m e), (yV n f), (.int .i64 a), (.int .i64 b)] (ecT m e n f a b) := by
  exact impl_ob hP hAmb Tryz.func99 (by kernel_rfl) (.lits 5 <| .both (.lits 10 <| .ret) (.lits 3 <| .both (.lits 7 <| .ret) (.lits 3 <| .call (.bool (smB m e n f)) <| .lits 3 <| .both (.lits 3 <| .ret) (.lits 3 <| .ret))))
    (cast_ob (aI True.intro (aI (fun (h1 : (iNe a 0) = true) => have _gh1 := iNe_t h1; (W_ec0 (by first | exact not_smB (by assumption) | omega) : vsub (e0T 3) (ecT m e n f a b))) (fun (h2 : (iNe a 0) = false) => have _gh2 := iNe_f h2; aI (fun (h3 : (iNe b 0) = true) => have _gh3 := iNe_t h3; (W_ec0 (by first | exact not_smB (by assumption) | omega) : vsub (e0T 3) (ecT m e n f a b))) (fun (h4 : (iNe b 0) = false) => have _gh4 := iNe_f h4; aI (ar_Small m e n f oA oA oA oA) (aI (fun (h5 : (!(smB m e n f)) = true) => (W_ec0 (by first | exact not_smB (by assumption) | omega) : vsub (e0T 3) (ecT m e n f a b))) (fun (h6 : (!(smB m e n f)) = false) => (W_ec1 (is_smB oO oO (by assumption)) : vsub (.tup [(wV m e n f), (.int .i64 0)]) (ecT m e n f a b)))))))) (by kernel_rfl))
theorem rad_Sqrt (m : Int) (e : Int) (n : Int) (f : Int) (w : Int) (c0 : L (m).natAbs ≤ 60) (c1 : (-5000 : Int) ≤ e ∧ e ≤ 5000) (c2 : vdb m e = true) (c3 : L (n).natAbs ≤ 60) (c4 : (-5000 : Int) ≤ f ∧ f ≤ 5000) (c5 : vdb n f = true) (c6 : (-9223372036854775808 : Int) ≤ w ∧ w ≤ 9223372036854775807) : Impl Tryz.prog Amb 32 [(wV m e n f), (.int .i64 w)] (stT m e n f w) := by
  have ez : (0 : Int) - w = -w := Int.zero_sub w
  have s0 := sign_range m
  have zl : L (0 : Int).natAbs = 0 := L_zero
  have z1 : L 1 ≤ 1 := L_le (by decide)
  have s1 := sign_range n
  have q0 := fun h : 0 ≤ w ∧ w ≤ 4096 => sqV_L (up := false) c0 c1 h
  have q1 := fun h : 0 ≤ w ∧ w ≤ 4096 => sqV_L (up := true) c3 c4 h
  exact impl_ob hP hAmb Tryz.func32 (by kernel_rfl) (.lit <| .call (.bool (decide (0 ≤ w ∧ w ≤ 4096))) <| .lit <| .both (.lits 3 <| .ret) (.lits 2 <| .call (.int .i64 ((n).sign)) <| .lit <| .both (.lits 3 <| .ret) (.lits 2 <| .call (.int .i64 ((m).sign)) <| .lit <| .both (.lits 3 <| .ret) (.lits 2 <| .call (srT m e w false) <| .lits 3 <| .call (srT n f w true) <| .lits 4 <| .call (ecT (srM m e w false) (srX m e w false) (srM n f w true) (srX n f w true) (srE m e w false) (srE n f w true)) <| .lits 2 <| .ret))))
    (cast_ob (aI True.intro (aI (rad_works w (by first | omega | assumption | (have := q0 oO; have := q1 oO; omega))) (aI (fun (h1 : (!(decide (0 ≤ w ∧ w ≤ 4096))) = true) => have _gh1 := of_decide_eq_false (notb_t h1); (st_bad oO (st_1 oO) : vsub (e0T 1) (stT m e n f w))) (fun (h2 : (!(decide (0 ≤ w ∧ w ≤ 4096))) = false) => have _gh2 := of_decide_eq_true (notb_f h2); aI (dy_Sign n f (by first | omega | assumption | (have := q0 oO; have := q1 oO; omega))) (have f10 := sign_range n; aI (fun (h3 : (iLt ((n).sign) 0) = true) => have _gh3 := iLt_t h3; (st_bad oO (st_4 oO oO) : vsub (e0T 4) (stT m e n f w))) (fun (h4 : (iLt ((n).sign) 0) = false) => have _gh4 := iLt_f h4; aI (dy_Sign m e (by first | omega | assumption | (have := q0 oO; have := q1 oO; omega))) (have f9 := sign_range m; aI (fun (h5 : (iLt ((m).sign) 0) = true) => have _gh5 := iLt_t h5; (st_bad oO (st_5 oO oO oO) : vsub (e0T 5) (stT m e n f w))) (fun (h6 : (iLt ((m).sign) 0) = false) => have _gh6 := iLt_f h6; aI (rad_SqrtFloor m e w (by first | omega | assumption | (have := q0 oO; have := q1 oO; omega)) (by first | omega | assumption | (have := q0 oO; have := q1 oO; omega)) (by first | omega | assumption | (have := q0 oO; have := q1 oO; omega)) (by first | omega | assumption | (have := q0 oO; have := q1 oO; omega))) (have f8 := sr_facts m e w false; aI (rad_SqrtCeil n f w (by first | omega | assumption | (have := q0 oO; have := q1 oO; omega)) (by first | omega | assumption | (have := q0 oO; have := q1 oO; omega)) (by first | omega | assumption | (have := q0 oO; have := q1 oO; omega)) (by first | omega | assumption | (have := q0 oO; have := q1 oO; omega))) (have f7 := sr_facts n f w true; aI (rad_small (srM m e w false) (srX m e w false) (srM n f w true) (srX n f w true) (srE m e w false) (srE n f w true) (by first | omega | assumption | (have := q0 oO; have := q1 oO; omega)) (by first | omega | assumption | (have := q0 oO; have := q1 oO; omega)) (by first | omega | assumption | (have := q0 oO; have := q1 oO; omega)) (by first | omega | assumption | (have := q0 oO; have := q1 oO; omega))) ((st_ec oO oO oO : vsub (ecT (srM m e w false) (srX m e w false) (srM n f w true) (srX n f w true) (srE m e w false) (srE n f w true)) (stT m e n f w))))))))))))) (by kernel_rfl))
end Go.Proofs.YtmbpoibhamlkbaaGreatDoor

namespace Go.Proofs.YtmbpoibhamlkbaaGreatDoor
theorem one_pw (k : Nat) : (1 : Rat) ^ k = 1 := by
  induction k with
  | zero => exact Rat.pow_zero _
  | succ k ih => rw [Rat.pow_succ, ih, Rat.mul_one]
theorem mul_pw (a b : Rat) (k : Nat) : (a * b) ^ k = a ^ k * b ^ k := by
  induction k with
  | zero => rw [Rat.pow_zero, Rat.pow_zero, Rat.pow_zero, Rat.mul_one]
  | succ k ih => rw [Rat.pow_succ, Rat.pow_succ, Rat.pow_succ, ih]; grind
theorem pw_ne {a : Rat} (h : a ≠ 0) (k : Nat) : a ^ k ≠ 0 := by
  induction k with
  | zero => rw [Rat.pow_zero]; decide
  | succ k ih => rw [Rat.pow_succ]; exact fun q => (Rat.mul_eq_zero.1 q).elim ih h
theorem inv_pw {a : Rat} (h : a ≠ 0) (k : Nat) : (a⁻¹) ^ k = (a ^ k)⁻¹ := by
  have e : (a⁻¹) ^ k * a ^ k = 1 := by rw [← mul_pw, Rat.inv_mul_cancel a h, one_pw]
  have e2 : a ^ k * (a ^ k)⁻¹ = 1 := Rat.mul_inv_cancel _ (pw_ne h k)
  grind
theorem pw_add (a : Rat) (j k : Nat) : a ^ (j + k) = a ^ j * a ^ k := by
  induction k with
  | zero => rw [Rat.pow_zero, Rat.mul_one]; rfl
  | succ k ih => rw [← Nat.add_assoc, Rat.pow_succ, Rat.pow_succ, ih, Rat.mul_assoc]
theorem dv_pw (m e : Int) (k : Nat) : (dv m e) ^ k = dv (m ^ k) ((k : Int) * e) := by
  induction k with
  | zero => rw [Rat.pow_zero, Int.pow_zero, Int.natCast_zero, Int.zero_mul, dv_int]; rfl
  | succ k ih => rw [Rat.pow_succ, ih, ← dv_mul, Int.pow_succ]; congr 1; rw [Int.natCast_succ, Int.add_mul, Int.one_mul]
theorem pw_nonneg {a : Rat} (h : 0 ≤ a) (k : Nat) : 0 ≤ a ^ k := by
  induction k with
  | zero => rw [Rat.pow_zero]; decide
  | succ k ih => rw [Rat.pow_succ]; exact Rat.mul_nonneg ih h
theorem pw_mono {a b : Rat} (h : 0 ≤ a) (hab : a ≤ b) (k : Nat) : a ^ k ≤ b ^ k := by
  induction k with
  | zero => rw [Rat.pow_zero, Rat.pow_zero]; exact Rat.le_refl
  | succ k ih =>
    rw [Rat.pow_succ, Rat.pow_succ]
    have h1 := Rat.mul_le_mul_of_nonneg_right ih h
    have h2 := Rat.mul_le_mul_of_nonneg_left hab (pw_nonneg (Rat.le_trans h hab) k)
    exact Rat.le_trans h1 h2
theorem sq_pw (a : Rat) (k : Nat) : a ^ (2 * k) = (a * a) ^ k := by
  rw [mul_pw, ← pw_add]; congr 1; omega
theorem neg_even (a : Rat) {k : Nat} (h : k % 2 = 0) : (-a) ^ k = a ^ k := by
  obtain ⟨j, rfl⟩ : ∃ j, k = 2 * j := ⟨k / 2, by omega⟩
  rw [sq_pw, sq_pw]; congr 1; grind
theorem neg_odd (a : Rat) {k : Nat} (h : k % 2 = 1) : (-a) ^ k = -(a ^ k) := by
  obtain ⟨j, rfl⟩ : ∃ j, k = 2 * j + 1 := ⟨k / 2, by omega⟩
  rw [Rat.pow_succ, Rat.pow_succ, sq_pw, sq_pw, show (-a) * (-a) = a * a by grind]; grind
theorem even_nonneg (a : Rat) {k : Nat} (h : k % 2 = 0) : 0 ≤ a ^ k := by
  obtain ⟨j, rfl⟩ : ∃ j, k = 2 * j := ⟨k / 2, by omega⟩
  rw [sq_pw]
  refine pw_nonneg ?_ j
  rcases (Rat.le_total : 0 ≤ a ∨ a ≤ 0) with q | q
  · exact Rat.mul_nonneg q q
  · have := Rat.mul_nonneg (show 0 ≤ -a by grind) (show 0 ≤ -a by grind); grind
theorem odd_mono {a b : Rat} (hab : a ≤ b) {k : Nat} (h : k % 2 = 1) : a ^ k ≤ b ^ k := by
  rcases (Rat.le_total : 0 ≤ a ∨ a ≤ 0) with q | q
  · exact pw_mono q hab k
  · rcases (Rat.le_total : 0 ≤ b ∨ b ≤ 0) with q2 | q2
    · have h1 : a ^ k ≤ 0 := by have := pw_nonneg (show 0 ≤ -a by grind) k; rw [neg_odd a h] at this; grind
      exact Rat.le_trans h1 (pw_nonneg q2 k)
    · have := pw_mono (show 0 ≤ -b by grind) (show -b ≤ -a by grind) k
      rw [neg_odd a h, neg_odd b h] at this; grind
theorem even_anti {a b : Rat} (hab : a ≤ b) (hb : b ≤ 0) {k : Nat} (h : k % 2 = 0) : b ^ k ≤ a ^ k := by
  have := pw_mono (show 0 ≤ -b by grind) (show -b ≤ -a by grind) k
  rwa [neg_even a h, neg_even b h] at this
theorem pw_pos {a : Rat} (h : 0 < a) (k : Nat) : 0 < a ^ k := Rat.pow_pos h
theorem zp_n {a : Rat} {k : Int} (h : 0 ≤ k) : a ^ k = a ^ k.toNat := by
  obtain ⟨j, rfl⟩ := Int.eq_ofNat_of_zero_le h
  exact Rat.zpow_natCast a j
theorem zp_i {a : Rat} {k : Int} (h : k < 0) : a ^ k = (a ^ (-k).toNat)⁻¹ := by
  obtain ⟨j, hj⟩ := Int.eq_ofNat_of_zero_le (show 0 ≤ -k by omega)
  rw [show k = -(j : Int) by omega, Rat.zpow_neg, Int.neg_neg, Rat.zpow_natCast]; rfl
theorem zp_0 (a : Rat) : a ^ (0 : Int) = 1 := Rat.zpow_zero a
theorem zp_inv {a : Rat} (ha : a ≠ 0) {k : Int} (h : k < 0) : ((Int.cast (1 : Int) : Rat) / a) ^ ((0 : Int) - k) = a ^ k := by
  rw [zp_n (show 0 ≤ 0 - k by omega), zp_i h, show (0 : Int) - k = -k by omega, Rat.intCast_one, Rat.div_def, Rat.one_mul, inv_pw ha]
theorem zp_num {r : Rat} {k : Int} (h : 0 ≤ k) : (r ^ k).num = r.num ^ k.toNat ∧ (r ^ k).den = r.den ^ k.toNat := by
  rw [zp_n h]; exact ⟨Rat.num_pow _ _, Rat.den_pow _ _⟩
theorem even_wRem (k : Int) : wRem k 2 = 0 ↔ k % 2 = 0 := by
  unfold wRem; rw [← Int.dvd_iff_tmod_eq_zero]; omega
theorem sgn_pow {x : Int} {k : Nat} {b : Bool} (hb : b = (decide (x < 0) && decide (k % 2 = 1))) : sgn b (x.natAbs ^ k) = x ^ k := by
  have e : (x ^ k).natAbs = x.natAbs ^ k := Int.natAbs_pow x k
  have key : (x < 0 ∧ k % 2 = 1 → x ^ k ≤ 0) ∧ (¬ (x < 0 ∧ k % 2 = 1) → 0 ≤ x ^ k) := by
    have c : ((x ^ k : Int) : Rat) = (x : Rat) ^ k := Rat.intCast_pow x k
    constructor
    · intro q
      have h1 := odd_mono (show (x : Rat) ≤ 0 by have := Rat.intCast_le_intCast.2 (Int.le_of_lt q.1); simpa using this) q.2
      have h0 : (0 : Rat) ^ k = 0 := by
        obtain ⟨j, rfl⟩ : ∃ j, k = j + 1 := ⟨k - 1, by omega⟩
        rw [Rat.pow_succ, Rat.mul_zero]
      rw [h0, ← c] at h1
      exact Rat.intCast_le_intCast.1 (by simpa using h1)
    · intro q
      have h1 : (0 : Rat) ≤ (x : Rat) ^ k := by
        by_cases hx : x < 0
        · exact even_nonneg _ (by omega)
        · exact pw_nonneg (by have := Rat.intCast_le_intCast.2 (show 0 ≤ x by omega); simpa using this) k
      rw [← c] at h1
      exact Rat.intCast_le_intCast.1 (by simpa using h1)
  rw [hb, ← e]
  unfold sgn
  by_cases q : x < 0 ∧ k % 2 = 1
  · have := key.1 q; simp only [q.1, q.2, decide_true, Bool.and_self, if_true]; omega
  · have := key.2 q
    have : (decide (x < 0) && decide (k % 2 = 1)) = false := by
      rw [← Bool.not_eq_true, Bool.and_eq_true, decide_eq_true_eq, decide_eq_true_eq]; exact q
    rw [this]; simp only [Bool.false_eq_true, if_false]; omega
theorem dv_Ls {m e : Int} (hv : vdb m e = true) (he : -60000 ≤ e ∧ e ≤ 60000) : (L (dv m e).num.natAbs : Int) ≤ L m.natAbs + (e.toNat / 32 : Nat) + 1 ∧ (L (dv m e).den : Int) ≤ ((-e).toNat / 32 : Nat) + 1 := by
  have l1 : L 1 ≤ 1 := L_le (by decide)
  by_cases h : 0 ≤ e
  · rw [(dv_pos_e h).1, (dv_pos_e (m := m) h).2]
    have := L_abs_shl m e.toNat
    omega
  · rw [(dv_neg_e hv (by omega)).1, (dv_neg_e hv (by omega)).2]
    have := L_two_pow (-e).toNat
    omega
end Go.Proofs.YtmbpoibhamlkbaaGreatDoor

namespace Go.Proofs.YtmbpoibhamlkbaaGreatDoor
def pwL (m e n f k : Int) : Rat := if 0 < k ∧ k % 2 = 0 ∧ m ≤ 0 ∧ 0 ≤ n then qmin (qmin (dv m e ^ k) (dv n f ^ k)) 0 else qmin (dv m e ^ k) (dv n f ^ k)
def pwH (m e n f k : Int) : Rat := if 0 < k ∧ k % 2 = 0 ∧ m ≤ 0 ∧ 0 ≤ n then qmax (qmax (dv m e ^ k) (dv n f ^ k)) 0 else qmax (dv m e ^ k) (dv n f ^ k)
def PwO (m e n f k a b c d : Int) : Prop := dv a b ^ k = pwL m e n f k ∧ dv c d ^ k = pwH m e n f k
theorem zero_zp {k : Int} (h : 0 < k) : (0 : Rat) ^ k = 0 := by
  rw [zp_n (by omega)]
  obtain ⟨j, hj⟩ : ∃ j, k.toNat = j + 1 := ⟨k.toNat - 1, by omega⟩
  rw [hj, Rat.pow_succ, Rat.mul_zero]
theorem dv_le0 {m e : Int} : dv m e ≤ 0 ↔ m ≤ 0 := by rw [← dv_zero e, dv_le]
theorem dv_ge0 {m e : Int} : 0 ≤ dv m e ↔ 0 ≤ m := by rw [← dv_zero e, dv_le]
theorem pwo_z {m e n f k : Int} (hk : 0 < k) (h2 : k % 2 = 0) (hm : m ≤ 0) (hn : 0 ≤ n) :
    pwL m e n f k = 0 ∧ (dv n f < -dv m e → pwH m e n f k = dv m e ^ k) ∧ (-dv m e ≤ dv n f → pwH m e n f k = dv n f ^ k) := by
  unfold pwL pwH
  rw [if_pos ⟨hk, h2, hm, hn⟩, if_pos ⟨hk, h2, hm, hn⟩, zp_n (a := dv m e) (by omega), zp_n (a := dv n f) (by omega)]
  have hK : k.toNat % 2 = 0 := by omega
  have hX := dv_le0 (e := e).2 hm
  have hY := dv_ge0 (e := f).2 hn
  have p1 := even_nonneg (dv m e) hK
  have p2 := even_nonneg (dv n f) hK
  refine ⟨?_, fun h => ?_, fun h => ?_⟩
  · rw [qmin_ge (le_qmin p1 p2)]
  · have h3 := pw_mono hY (Rat.le_of_lt h) k.toNat
    rw [neg_even _ hK] at h3
    rw [qmax_ge (b := dv n f ^ k.toNat) h3, qmax_ge p1]
  · have h3 := pw_mono (show 0 ≤ -dv m e by grind) h k.toNat
    rw [neg_even _ hK] at h3
    rw [qmax_le h3, qmax_ge p2]
theorem pwo_z1 {m e n f k : Int} (hk : 0 < k) (h2 : k % 2 = 0) (hm : m ≤ 0) (hn : 0 ≤ n) (hc : 0 < cmpD (-m) e n f) : PwO m e n f k 0 0 m e := by
  obtain ⟨a, b, _⟩ := pwo_z (e := e) (f := f) hk h2 hm hn
  have := cmpD_pos.1 hc
  rw [dv_neg] at this
  exact ⟨by rw [dv_zero, zero_zp hk, a], (b this).symm⟩
theorem pwo_z2 {m e n f k : Int} (hk : 0 < k) (h2 : k % 2 = 0) (hm : m ≤ 0) (hn : 0 ≤ n) (hc : cmpD (-m) e n f ≤ 0) : PwO m e n f k 0 0 n f := by
  obtain ⟨a, _, b⟩ := pwo_z (e := e) (f := f) hk h2 hm hn
  have : ¬ dv n f < dv (-m) e := fun q => by have := cmpD_pos.2 q; omega
  rw [dv_neg] at this
  exact ⟨by rw [dv_zero, zero_zp hk, a], (b (Rat.not_lt.1 this)).symm⟩
theorem pwo_0 {m e n f k : Int} (h : k = 0) : PwO m e n f k (mkM 1 0) (mkX 1 0) (mkM 1 0) (mkX 1 0) := by
  subst h
  unfold PwO pwL pwH
  rw [if_neg (by omega), if_neg (by omega), zp_0, zp_0, zp_0, qmin_self, qmax_self]
  exact ⟨rfl, rfl⟩
theorem pwo_off {m e n f k : Int} (h : ¬ (0 < k ∧ k % 2 = 0 ∧ m ≤ 0 ∧ 0 ≤ n)) : pwL m e n f k = qmin (dv m e ^ k) (dv n f ^ k) ∧ pwH m e n f k = qmax (dv m e ^ k) (dv n f ^ k) := by
  unfold pwL pwH; rw [if_neg h, if_neg h]; exact ⟨rfl, rfl⟩
theorem pwo_le {m e n f k : Int} (h : ¬ (0 < k ∧ k % 2 = 0 ∧ m ≤ 0 ∧ 0 ≤ n)) (hl : dv m e ^ k ≤ dv n f ^ k) : PwO m e n f k m e n f := by
  unfold PwO; rw [(pwo_off h).1, (pwo_off h).2, qmin_le hl, qmax_le hl]; exact ⟨rfl, rfl⟩
theorem pwo_ge {m e n f k : Int} (h : ¬ (0 < k ∧ k % 2 = 0 ∧ m ≤ 0 ∧ 0 ≤ n)) (hl : dv n f ^ k ≤ dv m e ^ k) : PwO m e n f k n f m e := by
  unfold PwO; rw [(pwo_off h).1, (pwo_off h).2, qmin_ge hl, qmax_ge hl]; exact ⟨rfl, rfl⟩
theorem pwo_n1 {m e n f k : Int} (ho : dv m e ≤ dv n f) (hk : 0 < k) (h2 : k % 2 = 0) (hn : n < 0) : PwO m e n f k n f m e := by
  refine pwo_ge (by omega) ?_
  rw [zp_n (by omega), zp_n (by omega)]
  exact even_anti ho (dv_le0.2 (by omega)) (by omega)
theorem pwo_n2 {m e n f k : Int} (ho : dv m e ≤ dv n f) (hk : k < 0) (h2 : k % 2 = 0) (hn : n < 0) : PwO m e n f k m e n f := by
  refine pwo_le (by omega) ?_
  rw [zp_i hk, zp_i hk]
  have hY : 0 < -dv n f := by have := dv_lt0 (e := f).2 hn; grind
  refine inv_anti ?_ (even_anti ho (dv_le0.2 (by omega)) (by omega))
  rw [← neg_even _ (show (-k).toNat % 2 = 0 by omega)]
  exact pw_pos hY _
theorem pwo_p1 {m e n f k : Int} (ho : dv m e ≤ dv n f) (hk : 0 < k) (h : k % 2 ≠ 0 ∨ 0 < m) : PwO m e n f k m e n f := by
  refine pwo_le (by omega) ?_
  rw [zp_n (by omega), zp_n (by omega)]
  rcases h with h | h
  · exact odd_mono ho (by omega)
  · exact pw_mono (dv_ge0.2 (by omega)) ho _
theorem pwo_p2 {m e n f k : Int} (ho : dv m e ≤ dv n f) (hk : k < 0) (h : (k % 2 ≠ 0 ∧ n < 0) ∨ 0 < m) : PwO m e n f k n f m e := by
  refine pwo_ge (by omega) ?_
  rw [zp_i hk, zp_i hk]
  rcases h with ⟨h, hn⟩ | h
  · have hY : 0 < -dv n f := by have := dv_lt0 (e := f).2 hn; grind
    refine inv_anti2 ?_ (odd_mono ho (by omega))
    have := pw_pos hY (-k).toNat
    rw [neg_odd _ (by omega)] at this
    grind
  · exact inv_anti (pw_pos (dv_pos.2 h) _) (pw_mono (dv_ge0.2 (by omega)) ho _)
def mgA (m e k : Int) : Rat := dv (m.natAbs : Int) e ^ k
def mgF (m e k w : Int) : Nat := (flr (mgA m e k) w).natAbs
def mgX (m e k w : Int) : Bool := decide (dv (flr (mgA m e k) w) (-w) = mgA m e k)
theorem mgA_nonneg (m e k : Int) : 0 ≤ mgA m e k := by
  unfold mgA
  have h0 : 0 ≤ dv (m.natAbs : Int) e := dv_ge0.2 (by omega)
  by_cases hk : 0 ≤ k
  · rw [zp_n hk]; exact pw_nonneg h0 _
  · rw [zp_i (by omega)]
    rcases Rat.le_iff_lt_or_eq.1 (pw_nonneg h0 (-k).toNat) with h | h
    · exact Rat.le_of_lt (Rat.inv_pos.2 h)
    · rw [← h, Rat.inv_zero]; exact Rat.le_refl
theorem mgF_int (m e k w : Int) : (mgF m e k w : Int) = flr (mgA m e k) w := by
  have := flr_nonneg (mgA_nonneg m e k) w
  unfold mgF; omega
theorem flr_lt1 {r : Rat} {w : Int} (h0 : 0 ≤ r) (h : r < dv 1 (-w)) : flr r w = 0 := by
  have h1 := flr_nonneg h0 w
  refine Decidable.byContradiction fun q => ?_
  have h2 : dv 1 (-w) ≤ dv (flr r w) (-w) := dv_le.2 (by omega)
  have := Rat.le_trans h2 (flr_le r w)
  exact absurd h (Rat.not_lt.2 this)
theorem mg_p {m e k : Int} (hk : 0 ≤ k) : mgA m e k = dv ((m.natAbs ^ k.toNat : Nat) : Int) (k * e) := by
  unfold mgA
  rw [zp_n hk, dv_pw, Int.natCast_pow, Int.toNat_of_nonneg hk]
theorem mg_p1 {m e k w : Int} (hk : 0 ≤ k) (h : 0 ≤ k * e + w) : m.natAbs ^ k.toNat * 2 ^ (k * e + w).toNat = mgF m e k w ∧ true = mgX m e k w := by
  have e1 : flr (mgA m e k) w = ((m.natAbs ^ k.toNat : Nat) : Int) * 2 ^ (k * e + w).toNat := by rw [mg_p hk, flr_dv, if_pos h]
  refine ⟨?_, ?_⟩
  · unfold mgF; rw [e1, abs_shl, Int.natAbs_natCast]
  · unfold mgX
    rw [e1, mg_p hk, dv_at (m := ((m.natAbs ^ k.toNat : Nat) : Int)) (show -w ≤ k * e by omega), show (k * e - -w).toNat = (k * e + w).toNat by omega]
    simp
theorem dv_down {x : Nat} {c w : Int} (h : c + w < 0) : dv (((x / 2 ^ (0 - (c + w)).toNat : Nat)) : Int) (-w) = dv (x : Int) c ↔ x % 2 ^ (0 - (c + w)).toNat = 0 := by
  have h2 : (x : Int) = ((x / 2 ^ (0 - (c + w)).toNat : Nat) : Int) * 2 ^ (0 - (c + w)).toNat + ((x % 2 ^ (0 - (c + w)).toNat : Nat) : Int) := by
    have := Nat.div_add_mod x (2 ^ (0 - (c + w)).toNat)
    rw [pow_cast, ← Int.natCast_mul, ← Int.natCast_add]
    congr 1
    rw [Nat.mul_comm]; exact this.symm
  have h3 : dv (x : Int) c = dv (((x / 2 ^ (0 - (c + w)).toNat : Nat)) : Int) (-w) + dv ((x % 2 ^ (0 - (c + w)).toNat : Nat) : Int) c := by
    rw [dv_at (m := (((x / 2 ^ (0 - (c + w)).toNat : Nat)) : Int)) (show c ≤ -w by omega), ← dv_add, show (-w - c).toNat = (0 - (c + w)).toNat by omega, ← h2]
  constructor
  · intro q
    have : dv ((x % 2 ^ (0 - (c + w)).toNat : Nat) : Int) c = 0 := by grind
    have := dv_eq0.1 this; omega
  · intro q
    rw [h3, q]
    have : dv ((0 : Nat) : Int) c = 0 := dv_zero c
    rw [this]; grind
theorem mg_p2 {m e k w : Int} (hk : 0 ≤ k) (h : k * e + w < 0) : m.natAbs ^ k.toNat / 2 ^ (0 - (k * e + w)).toNat = mgF m e k w ∧ iEq ((lim (m.natAbs ^ k.toNat % 2 ^ (0 - (k * e + w)).toNat)).length : Int) 0 = mgX m e k w := by
  have e1 : flr (mgA m e k) w = ((m.natAbs ^ k.toNat / 2 ^ (0 - (k * e + w)).toNat : Nat) : Int) := by
    rw [mg_p hk, flr_dv, if_neg (by omega), Int.natCast_ediv, pow_cast, show 0 - (k * e + w) = -(k * e + w) by omega]
  refine ⟨?_, ?_⟩
  · unfold mgF; rw [e1, Int.natAbs_natCast]
  · unfold mgX
    rw [iEq_dec, decide_eq_decide, e1, mg_p hk, dv_down h, len_zero]
theorem mg_i {m e k : Int} (hk : k < 0) : mgA m e k = (dv ((m.natAbs ^ (-k).toNat : Nat) : Int) (-(k * e)))⁻¹ := by
  unfold mgA
  rw [zp_i hk, dv_pw, Int.natCast_pow, Int.toNat_of_nonneg (by omega), Int.neg_mul]
theorem dv_inv_mul {p : Nat} {c w : Int} : (dv (p : Int) (-c))⁻¹ * 2 ^ w = (2 : Rat) ^ (c + w) / ((p : Int) : Rat) := by
  unfold dv
  have h1 : (2 : Rat) ^ (-c) * 2 ^ c = 1 := by rw [← zp_add, Int.add_left_neg, zp_zero]
  have h2 : ((2 : Rat) ^ (-c))⁻¹ = 2 ^ c := by
    have := zp_ne (-c); have := Rat.mul_inv_cancel ((2 : Rat) ^ (-c)) this; grind
  rw [Rat.div_def, zp_add]
  by_cases hp : ((p : Int) : Rat) = 0
  · rw [hp]
    have z : (0 : Rat)⁻¹ = 0 := Rat.inv_zero
    rw [Rat.zero_mul, z]; grind
  · have h3 : (((p : Int) : Rat) * 2 ^ (-c))⁻¹ = ((p : Int) : Rat)⁻¹ * 2 ^ c := by
      have a1 := Rat.mul_inv_cancel _ hp
      have a2 : (((p : Int) : Rat) * 2 ^ (-c)) ≠ 0 := fun q => (Rat.mul_eq_zero.1 q).elim hp (zp_ne _)
      have a3 := Rat.mul_inv_cancel _ a2
      grind
    rw [h3]; grind
theorem mg_div {A : Rat} {w : Int} {a b : Nat} (hb : 0 < b) (h : A * 2 ^ w = ((a : Int) : Rat) / ((b : Int) : Rat)) : flr A w = ((a / b : Nat) : Int) ∧ (dv ((a / b : Nat) : Int) (-w) = A ↔ a % b = 0) := by
  have hbR : ((b : Int) : Rat) ≠ 0 := fun q => by have := Rat.intCast_eq_zero_iff.1 q; omega
  refine ⟨by unfold flr; rw [h, floor_div _ _ (by omega), Int.natCast_ediv], ?_⟩
  have h2 : ((a : Int) : Rat) = ((b : Int) : Rat) * (((a / b : Nat) : Int) : Rat) + (((a % b : Nat) : Int) : Rat) := by
    rw [← Rat.intCast_mul, ← Rat.intCast_add, ← Int.natCast_mul, ← Int.natCast_add, Nat.div_add_mod]
  have h3 : A * 2 ^ w * ((b : Int) : Rat) = ((a : Int) : Rat) := by
    rw [h, Rat.div_def, Rat.mul_assoc, Rat.inv_mul_cancel _ hbR, Rat.mul_one]
  have h4 : (2 : Rat) ^ (-w) * 2 ^ w = 1 := by rw [← zp_add, Int.add_left_neg, zp_zero]
  unfold dv
  constructor
  · intro q
    rw [← q] at h3
    have : (((a % b : Nat) : Int) : Rat) = 0 := by grind
    have := Rat.intCast_eq_zero_iff.1 this; omega
  · intro q
    rw [q] at h2
    have e0 : (((0 : Nat) : Int) : Rat) = 0 := Rat.intCast_zero
    rw [e0] at h2
    have h5 : A * 2 ^ w = (((a / b : Nat) : Int) : Rat) := by
      have : ((b : Int) : Rat) * (A * 2 ^ w) = ((b : Int) : Rat) * (((a / b : Nat) : Int) : Rat) := by grind
      grind
    rw [← h5]; grind
theorem zp_natN (n : Nat) : (2 : Rat) ^ (n : Int) = (((2 ^ n : Nat) : Int) : Rat) := by rw [zp_nat, pow_cast]
theorem mg_n1 {m e k w : Int} (hk : k < 0) (hm : m ≠ 0) (h : 0 ≤ k * e + w) :
    1 * 2 ^ (k * e + w).toNat / m.natAbs ^ (-k).toNat = mgF m e k w ∧ iEq ((lim (1 * 2 ^ (k * e + w).toNat % m.natAbs ^ (-k).toNat)).length : Int) 0 = mgX m e k w := by
  have hp : 0 < m.natAbs ^ (-k).toNat := Nat.pow_pos (by omega)
  have h1 : mgA m e k * 2 ^ w = (((1 * 2 ^ (k * e + w).toNat : Nat) : Int) : Rat) / (((m.natAbs ^ (-k).toNat : Nat) : Int) : Rat) := by
    rw [mg_i hk, dv_inv_mul, Nat.one_mul, ← zp_natN, Int.toNat_of_nonneg h]
  obtain ⟨a, b⟩ := mg_div hp h1
  refine ⟨by unfold mgF; rw [a, Int.natAbs_natCast], ?_⟩
  unfold mgX
  rw [iEq_dec, decide_eq_decide, a, b, len_zero]
theorem mg_n2 {m e k w : Int} (hk : k < 0) (hm : m ≠ 0) (h : k * e + w < 0) :
    1 / (m.natAbs ^ (-k).toNat * 2 ^ (0 - (k * e + w)).toNat) = mgF m e k w ∧ iEq ((lim (1 % (m.natAbs ^ (-k).toNat * 2 ^ (0 - (k * e + w)).toNat))).length : Int) 0 = mgX m e k w := by
  have hp : 0 < m.natAbs ^ (-k).toNat * 2 ^ (0 - (k * e + w)).toNat := Nat.mul_pos (Nat.pow_pos (by omega)) (Nat.pow_pos (by omega))
  have h1 : mgA m e k * 2 ^ w = (((1 : Nat) : Int) : Rat) / (((m.natAbs ^ (-k).toNat * 2 ^ (0 - (k * e + w)).toNat : Nat) : Int) : Rat) := by
    rw [mg_i hk, dv_inv_mul, Int.natCast_mul, Rat.intCast_mul, ← zp_natN, Int.toNat_of_nonneg (by omega)]
    have h2 : (2 : Rat) ^ (k * e + w) * 2 ^ (0 - (k * e + w)) = 1 := by rw [← zp_add, show k * e + w + (0 - (k * e + w)) = 0 by omega, zp_zero]
    have hb : (((m.natAbs ^ (-k).toNat : Nat) : Int) : Rat) ≠ 0 := fun q => by
      have := Rat.intCast_eq_zero_iff.1 q
      have : 0 < m.natAbs ^ (-k).toNat := Nat.pow_pos (by omega)
      omega
    have hz := zp_ne (0 - (k * e + w))
    have e1 : (((1 : Nat) : Int) : Rat) = 1 := Rat.intCast_one
    rw [e1, Rat.div_def, Rat.div_def]
    generalize (((m.natAbs ^ (-k).toNat : Nat) : Int) : Rat) = p at *
    generalize (2 : Rat) ^ (k * e + w) = u at *
    generalize (2 : Rat) ^ (0 - (k * e + w)) = v at *
    have a1 := Rat.mul_inv_cancel p hb
    have a2 : p * v ≠ 0 := fun q => (Rat.mul_eq_zero.1 q).elim hb hz
    have a3 := Rat.mul_inv_cancel (p * v) a2
    grind
  obtain ⟨a, b⟩ := mg_div hp h1
  refine ⟨by unfold mgF; rw [a, Int.natAbs_natCast], ?_⟩
  unfold mgX
  rw [iEq_dec, decide_eq_decide, a, b, len_zero]
theorem dv_top {m e : Int} (hm : m ≠ 0) : dv (m.natAbs : Int) e < dv 1 (topD m e) ∧ dv 1 (topD m e - 1) ≤ dv (m.natAbs : Int) e := by
  have h1 := nbits_lt m.natAbs
  have h2 := nbits_le (show m.natAbs ≠ 0 by omega)
  have h3 := nbits_pos (show m.natAbs ≠ 0 by omega)
  have ht : topD m e = (nbits m.natAbs : Int) + e := by unfold topD; rw [if_neg hm]
  constructor
  · rw [dv_at (m := 1) (show e ≤ topD m e by omega), dv_lt, Int.one_mul, pow_cast, show (topD m e - e).toNat = nbits m.natAbs by omega]; omega
  · rw [dv_at (m := 1) (show e ≤ topD m e - 1 by omega), dv_le, Int.one_mul, pow_cast, show (topD m e - 1 - e).toNat = nbits m.natAbs - 1 by omega]; omega
theorem dv1_le {a b : Int} (h : a ≤ b) : dv 1 a ≤ dv 1 b := by
  rw [dv_at h, dv_le, Int.one_mul, pow_cast]
  have := Nat.pow_pos (n := (b - a).toNat) (show 0 < 2 by omega); omega
theorem dv1_pw (t : Int) (k : Nat) : dv 1 t ^ k = dv 1 ((k : Int) * t) := by rw [dv_pw, Int.one_pow]
theorem dv1_inv (t : Int) : (dv 1 t)⁻¹ = dv 1 (-t) := by
  unfold dv
  have h1 : (2 : Rat) ^ t * 2 ^ (-t) = 1 := zp_cancel t
  have h2 := Rat.mul_inv_cancel _ (zp_ne t)
  rw [Rat.intCast_one, Rat.one_mul, Rat.one_mul]
  grind
theorem dv1_pos (t : Int) : 0 < dv 1 t := dv_pos.2 (by decide)
theorem pw_lt {a b : Rat} (h : 0 ≤ a) (hab : a < b) {k : Nat} (hk : 0 < k) : a ^ k < b ^ k := by
  obtain ⟨j, rfl⟩ : ∃ j, k = j + 1 := ⟨k - 1, by omega⟩
  rw [Rat.pow_succ, Rat.pow_succ]
  have hb : 0 < b := by grind
  have h1 := pw_mono h (Rat.le_of_lt hab) j
  have h2 := Rat.mul_le_mul_of_nonneg_right h1 h
  have h3 : b ^ j * a < b ^ j * b := Rat.mul_lt_mul_of_pos_left hab (pw_pos hb j)
  grind
theorem mg_out {m e k w : Int} (hm : m ≠ 0) (h : (0 < k ∧ k * topD m e ≤ -w) ∨ (k < 0 ∧ w < (0 - k) * (topD m e - 1))) : 0 = mgF m e k w ∧ false = mgX m e k w := by
  obtain ⟨t1, t2⟩ := dv_top (e := e) hm
  have h0 : 0 < dv (m.natAbs : Int) e := dv_pos.2 (by omega)
  have key : 0 < mgA m e k ∧ mgA m e k < dv 1 (-w) := by
    unfold mgA
    rcases h with ⟨hk, h⟩ | ⟨hk, h⟩
    · rw [zp_n (by omega)]
      refine ⟨pw_pos h0 _, ?_⟩
      have h1 := pw_lt (Rat.le_of_lt h0) t1 (show 0 < k.toNat by omega)
      rw [dv1_pw, Int.toNat_of_nonneg (by omega)] at h1
      have h2 := dv1_le h
      grind
    · rw [zp_i hk]
      have hp := pw_pos h0 (-k).toNat
      refine ⟨Rat.inv_pos.2 hp, ?_⟩
      have h1 := pw_mono (Rat.le_of_lt (dv1_pos _)) t2 (-k).toNat
      rw [dv1_pw, Int.toNat_of_nonneg (by omega)] at h1
      have h2 := inv_anti (dv1_pos _) h1
      rw [dv1_inv] at h2
      have h3 : dv 1 (-(-k * (topD m e - 1))) < dv 1 (-w) := by
        rw [show (0 : Int) - k = -k by omega] at h
        have : -(-k * (topD m e - 1)) < -w := by omega
        generalize -(-k * (topD m e - 1)) = u at *
        rw [dv_at (m := 1) (show u ≤ -w by omega), dv_lt, Int.one_mul, pow_cast]
        have : 2 ^ 1 ≤ 2 ^ (-w - u).toNat := Nat.pow_le_pow_right (by omega) (by omega)
        omega
      grind
  have e1 := flr_lt1 (Rat.le_of_lt key.1) key.2
  refine ⟨by unfold mgF; rw [e1]; rfl, ?_⟩
  unfold mgX
  rw [e1, dv_zero]
  exact (decide_eq_false (by grind)).symm
def pwR (m e k w : Int) (up : Bool) : Int := if up = true then cei (dv m e ^ k) w else flr (dv m e ^ k) w
theorem zp_sign {m e k : Int} : (m < 0 ∧ k % 2 ≠ 0 → dv m e ^ k = -mgA m e k) ∧ (¬ (m < 0 ∧ k % 2 ≠ 0) → dv m e ^ k = mgA m e k) := by
  have hneg : m < 0 → dv m e = -dv (m.natAbs : Int) e := fun h => by rw [← dv_neg]; congr 1; omega
  have hpos : 0 ≤ m → dv m e = dv (m.natAbs : Int) e := fun h => by congr 1; omega
  unfold mgA
  by_cases hk : 0 ≤ k
  · rw [zp_n hk, zp_n hk]
    constructor
    · intro q; rw [hneg q.1, neg_odd _ (by omega)]
    · intro q
      by_cases hm : m < 0
      · rw [hneg hm, neg_even _ (by omega)]
      · rw [hpos (by omega)]
  · rw [zp_i (by omega), zp_i (by omega)]
    constructor
    · intro q
      rw [hneg q.1, neg_odd _ (by omega)]
      have : ∀ x : Rat, (-x)⁻¹ = -(x⁻¹) := fun x => by grind
      rw [this]
    · intro q
      by_cases hm : m < 0
      · rw [hneg hm, neg_even _ (by omega)]
      · rw [hpos (by omega)]
theorem cei_mg (A : Rat) (w : Int) : cei A w = flr A w + (if dv (flr A w) (-w) = A then 0 else 1) := by
  split
  · rename_i h
    have h1 : cei A w ≤ flr A w := cei_le.2 (by rw [h]; exact Rat.le_refl)
    have h2 := flr_cei (Rat.le_refl (a := A)) w
    omega
  · rename_i h
    have h1 : cei A w ≤ flr A w + 1 := cei_le.2 (Rat.le_of_lt (flr_lt A w))
    have h2 := flr_cei (Rat.le_refl (a := A)) w
    have h3 : cei A w ≠ flr A w := fun q => h (by
      have a1 := flr_le A w
      have a2 := cei_ge A w
      rw [q] at a2; grind)
    omega
theorem pw_fin {m e k w : Int} {up b g : Bool} {x : Nat} (hb : b = decide (m < 0 ∧ k % 2 ≠ 0)) (hg : g = ((!(up == b)) && !mgX m e k w)) (hx : x = mgF m e k w + (if g = true then 1 else 0)) : sgn b x = pwR m e k w up := by
  have hc := cei_mg (mgA m e k) w
  have hF := mgF_int m e k w
  have hX : (dv (flr (mgA m e k) w) (-w) = mgA m e k) = (mgX m e k w = true) := by unfold mgX; rw [decide_eq_true_eq]
  simp only [hX] at hc
  obtain ⟨s1, s2⟩ := zp_sign (m := m) (e := e) (k := k)
  unfold pwR
  by_cases q : m < 0 ∧ k % 2 ≠ 0
  · rw [s1 q, show cei (-mgA m e k) w = -(flr (mgA m e k) w) by unfold cei; rw [show -(-mgA m e k) = mgA m e k by grind], show flr (-mgA m e k) w = -(cei (mgA m e k) w) by unfold cei; omega]
    rw [decide_eq_true q] at hb
    subst hb; subst hg; subst hx
    unfold sgn
    cases up <;> cases hq : mgX m e k w <;> simp [hq] at hc ⊢ <;> omega
  · rw [s2 q]
    rw [decide_eq_false q] at hb
    subst hb; subst hg; subst hx
    unfold sgn
    cases up <;> cases hq : mgX m e k w <;> simp [hq] at hc ⊢ <;> omega
end Go.Proofs.YtmbpoibhamlkbaaGreatDoor

namespace Go.Proofs.YtmbpoibhamlkbaaGreatDoor
def tlB (m e k : Int) : Bool := decide (m ≠ 0 ∧ ((k < 0 ∧ 2048 < ((0 : Int) - k) * ((0 : Int) - topD m e)) ∨ (0 ≤ k ∧ 2048 < k * (topD m e - 1))))
theorem tl_1 {m e k : Int} (h : m = 0) : false = tlB m e k := (decide_eq_false (by omega)).symm
theorem tl_2 {m e k : Int} (h : m ≠ 0) (hk : k < 0) : iGt (((0 : Int) - k) * ((0 : Int) - topD m e)) 2048 = tlB m e k := by
  unfold tlB iGt
  rw [decide_eq_decide]
  exact ⟨fun q => ⟨h, .inl ⟨hk, q⟩⟩, fun q => q.2.elim (fun r => r.2) fun r => by omega⟩
theorem tl_3 {m e k : Int} (h : m ≠ 0) (hk : 0 ≤ k) : iGt (k * (topD m e - 1)) 2048 = tlB m e k := by
  unfold tlB iGt
  rw [decide_eq_decide]
  exact ⟨fun q => ⟨h, .inr ⟨hk, q⟩⟩, fun q => q.2.elim (fun r => by omega) fun r => r.2⟩
theorem tl_big {m e k : Int} (h : tlB m e k = true) : dv 1 2049 ≤ mgA m e k := by
  obtain ⟨hm, h⟩ := of_decide_eq_true h
  obtain ⟨t1, t2⟩ := dv_top (e := e) hm
  have h0 : 0 < dv (m.natAbs : Int) e := dv_pos.2 (by omega)
  unfold mgA
  rcases h with ⟨hk, h⟩ | ⟨hk, h⟩
  · rw [zp_i hk]
    have h1 := pw_mono (Rat.le_of_lt h0) (Rat.le_of_lt t1) (-k).toNat
    rw [dv1_pw, Int.toNat_of_nonneg (by omega)] at h1
    have h2 := inv_anti (pw_pos h0 _) h1
    rw [dv1_inv] at h2
    refine Rat.le_trans (dv1_le ?_) h2
    have e1 : ((0 : Int) - k) * ((0 : Int) - topD m e) = -(-k * topD m e) := by rw [Int.zero_sub, Int.zero_sub, Int.mul_neg]
    omega
  · rw [zp_n hk]
    have h1 := pw_mono (Rat.le_of_lt (dv1_pos _)) t2 k.toNat
    rw [dv1_pw, Int.toNat_of_nonneg hk] at h1
    exact Rat.le_trans (dv1_le (by omega)) h1
theorem topD_mk {c f : Int} (h : mkE c f = 0) (hc : c ≠ 0) : topD (mkM c f) (mkX c f) = (nbits c.natAbs : Int) + f := by
  have e1 : mkM c f = dm c := by unfold mkM; rw [if_pos h]
  have e2 : mkX c f = f + (tz c.natAbs : Int) := by unfold mkX; rw [if_pos ⟨h, hc⟩]; rfl
  have h1 := dm_nbits hc
  have h2 : c.natAbs = (dm c).natAbs * 2 ^ tz c.natAbs := by
    have := congrArg Int.natAbs (dm_mul c)
    rw [abs_shl] at this; exact this.symm
  have h3 := nbits_lt (dm c).natAbs
  have h4 : c.natAbs < 2 ^ (nbits (dm c).natAbs + tz c.natAbs) := by
    rw [Nat.pow_add]
    exact Nat.lt_of_le_of_lt (Nat.le_of_eq h2) (Nat.mul_lt_mul_of_pos_right h3 (Nat.pow_pos (by omega)))
  have h5 := nbits_of_lt h4
  unfold topD
  rw [e1, if_neg (dm_ne hc), e2]
  omega
theorem end_big {c w : Int} (hE : mkE c (-w) = 0) (hw : 0 ≤ w) (hc : 2 ^ (2049 + w).toNat ≤ c.natAbs) : endB (mkM c (-w)) (mkX c (-w)) = false := by
  have hp := Nat.pow_pos (n := (2049 + w).toNat) (show 0 < 2 by omega)
  have h0 : c ≠ 0 := by omega
  have h1 := nbits_lt c.natAbs
  have h2 := (Nat.pow_lt_pow_iff_right (a := 2) (by omega)).1 (Nat.lt_of_le_of_lt hc h1)
  unfold endB
  rw [topD_mk hE h0, decide_eq_false (by omega)]
  rfl
theorem big_dv {c w : Int} (hw : 0 ≤ w) (h : dv 1 2049 ≤ dv c (-w)) : 2 ^ (2049 + w).toNat ≤ c.natAbs := by
  rw [dv_at (m := 1) (show -w ≤ 2049 by omega), dv_le, Int.one_mul, pow_cast, show (2049 - -w).toNat = (2049 + w).toNat by omega] at h
  omega
theorem en_big {lo hi X : Rat} {w : Int} (hw : 0 ≤ w ∧ w ≤ 4096) (h1 : lo ≤ X) (h2 : X ≤ hi) (hX : dv 1 2049 ≤ X ∨ dv 1 2049 ≤ -X) : enE lo hi w = 3 := by
  unfold enE
  rw [if_pos hw]
  unfold ecE
  rw [if_neg]
  rintro ⟨a, b, c⟩
  unfold smB at c
  simp only [Bool.and_eq_true] at c
  rcases hX with h | h
  · have := end_big b hw.1 (big_dv hw.1 (Rat.le_trans h (Rat.le_trans h2 (cei_ge hi w))))
    rw [this] at c; exact absurd c.2 (by decide)
  · have h3 : dv 1 2049 ≤ dv (-(flr lo w)) (-w) := by
      rw [dv_neg]
      have := flr_le lo w
      grind
    have h4 := big_dv hw.1 h3
    rw [Int.natAbs_neg] at h4
    have := end_big a hw.1 h4
    rw [this] at c; exact absurd c.1.2 (by decide)
theorem pw_between (m e n f k : Int) : (pwL m e n f k ≤ dv m e ^ k ∧ dv m e ^ k ≤ pwH m e n f k) ∧ (pwL m e n f k ≤ dv n f ^ k ∧ dv n f ^ k ≤ pwH m e n f k) := by
  have a := qmin_both (dv m e ^ k) (dv n f ^ k)
  have b := qmax_both (dv m e ^ k) (dv n f ^ k)
  have c := qmin_both (qmin (dv m e ^ k) (dv n f ^ k)) 0
  have d := qmax_both (qmax (dv m e ^ k) (dv n f ^ k)) 0
  unfold pwL pwH
  split
  · exact ⟨⟨Rat.le_trans c.1 a.1, Rat.le_trans b.1 d.1⟩, ⟨Rat.le_trans c.1 a.2, Rat.le_trans b.2 d.1⟩⟩
  · exact ⟨⟨a.1, b.1⟩, ⟨a.2, b.2⟩⟩
theorem tl_abs {m e k : Int} (h : tlB m e k = true) : dv 1 2049 ≤ dv m e ^ k ∨ dv 1 2049 ≤ -(dv m e ^ k) := by
  have hb := tl_big h
  obtain ⟨s1, s2⟩ := zp_sign (m := m) (e := e) (k := k)
  by_cases q : m < 0 ∧ k % 2 ≠ 0
  · right; rw [s1 q]; grind
  · left; rw [s2 q]; exact hb
theorem tl_en {m e n f k w : Int} (hw : 0 ≤ w ∧ w ≤ 4096) (h : tlB m e k = true ∨ tlB n f k = true) : enE (pwL m e n f k) (pwH m e n f k) w = 3 := by
  obtain ⟨⟨a, b⟩, ⟨c, d⟩⟩ := pw_between m e n f k
  rcases h with h | h
  · exact en_big hw a b (tl_abs h)
  · exact en_big hw c d (tl_abs h)
def pqE (m e n f k w : Int) : Int := if (0 ≤ w ∧ w ≤ 4096) ∧ -64 ≤ k ∧ k ≤ 64 then (if k < 0 ∧ m = 0 ∧ n = 0 then 2 else if k < 0 ∧ m ≤ 0 ∧ 0 ≤ n then 5 else enE (pwL m e n f k) (pwH m e n f k) w) else 1
def pqV (x m e n f k w : Int) : Int := if ((0 ≤ w ∧ w ≤ 4096) ∧ -64 ≤ k ∧ k ≤ 64) ∧ ¬ (k < 0 ∧ m ≤ 0 ∧ 0 ≤ n) then x else 0
def pqT (m e n f k w : Int) : V := .tup [.agg [.bool (decide (pqV (enM (pwL m e n f k) (pwH m e n f k) w) m e n f k w < 0)), N (pqV (enM (pwL m e n f k) (pwH m e n f k) w) m e n f k w).natAbs, .int .i64 (pqV (enX (pwL m e n f k) (pwH m e n f k) w) m e n f k w),
  .bool (decide (pqV (enN (pwL m e n f k) (pwH m e n f k) w) m e n f k w < 0)), N (pqV (enN (pwL m e n f k) (pwH m e n f k) w) m e n f k w).natAbs, .int .i64 (pqV (enF (pwL m e n f k) (pwH m e n f k) w) m e n f k w)], .int .i64 (pqE m e n f k w)]
theorem pq_bad {m e n f k w c : Int} (h : ¬ (((0 ≤ w ∧ w ≤ 4096) ∧ -64 ≤ k ∧ k ≤ 64) ∧ ¬ (k < 0 ∧ m ≤ 0 ∧ 0 ≤ n))) (hc : c = pqE m e n f k w) : vsub (.tup [.agg [.bool false, .nil, .int .i64 0, .bool false, .nil, .int .i64 0], .int .i64 c]) (pqT m e n f k w) := by
  unfold pqT
  have z : ∀ x, pqV x m e n f k w = 0 := fun x => by unfold pqV; rw [if_neg h]
  rw [z, z, z, z, ← hc]
  exact vsub_w0 c
theorem pq_1 {m e n f k w : Int} (h : ¬ ((0 ≤ w ∧ w ≤ 4096) ∧ -64 ≤ k ∧ k ≤ 64)) : 1 = pqE m e n f k w := by unfold pqE; rw [if_neg h]
theorem pq_2 {m e n f k w : Int} (h : (0 ≤ w ∧ w ≤ 4096) ∧ -64 ≤ k ∧ k ≤ 64) (hk : k < 0 ∧ m = 0 ∧ n = 0) : 2 = pqE m e n f k w := by unfold pqE; rw [if_pos h, if_pos hk]
theorem pq_5 {m e n f k w : Int} (h : (0 ≤ w ∧ w ≤ 4096) ∧ -64 ≤ k ∧ k ≤ 64) (hk : ¬ (k < 0 ∧ m = 0 ∧ n = 0)) (h2 : k < 0 ∧ m ≤ 0 ∧ 0 ≤ n) : 5 = pqE m e n f k w := by unfold pqE; rw [if_pos h, if_neg hk, if_pos h2]
theorem pq_ok {m e n f k w : Int} (h : (0 ≤ w ∧ w ≤ 4096) ∧ -64 ≤ k ∧ k ≤ 64) (hk : ¬ (k < 0 ∧ m ≤ 0 ∧ 0 ≤ n)) : pqT m e n f k w = enV (pwL m e n f k) (pwH m e n f k) w := by
  have e1 : pqE m e n f k w = enE (pwL m e n f k) (pwH m e n f k) w := by unfold pqE; rw [if_pos h, if_neg (by omega), if_neg hk]
  have z : ∀ x, pqV x m e n f k w = x := fun x => by unfold pqV; rw [if_pos ⟨h, hk⟩]
  unfold pqT enV
  rw [z, z, z, z, e1]
theorem pq_3 {m e n f k w : Int} (h : (0 ≤ w ∧ w ≤ 4096) ∧ -64 ≤ k ∧ k ≤ 64) (hk : ¬ (k < 0 ∧ m ≤ 0 ∧ 0 ≤ n)) (ht : tlB m e k = true ∨ tlB n f k = true) :
    vsub (.tup [.agg [.bool false, .nil, .int .i64 0, .bool false, .nil, .int .i64 0], .int .i64 3]) (pqT m e n f k w) := by
  have e3 := tl_en (e := e) (f := f) h.1 ht
  obtain ⟨a, b, c, d, g⟩ := en_no h.1 (show enE (pwL m e n f k) (pwH m e n f k) w ≠ 0 by omega)
  rw [pq_ok h hk]
  unfold enV
  rw [a, b, c, d, g]
  exact vsub_w0 3
theorem pq_vec {m e n f k w : Int} {a b c d : Int} (h : (0 ≤ w ∧ w ≤ 4096) ∧ -64 ≤ k ∧ k ≤ 64) (hk : ¬ (k < 0 ∧ m ≤ 0 ∧ 0 ≤ n)) (ho : PwO m e n f k a b c d) :
    vsub (ecT (mkM (pwR a b k w false) (-w)) (mkX (pwR a b k w false) (-w)) (mkM (pwR c d k w true) (-w)) (mkX (pwR c d k w true) (-w)) (mkE (pwR a b k w false) (-w)) (mkE (pwR c d k w true) (-w))) (pqT m e n f k w) := by
  rw [pq_ok h hk]
  exact en_vec ho.1 ho.2 h.1
theorem pq_ref {m e n f k w : Int} {lo hi : Rat} (h : (0 ≤ w ∧ w ≤ 4096) ∧ -64 ≤ k ∧ k ≤ 64) (hk : ¬ (k < 0 ∧ m ≤ 0 ∧ 0 ≤ n)) (h1 : lo = pwL m e n f k) (h2 : hi = pwH m e n f k) : vsub (enV lo hi w) (pqT m e n f k w) := by
  rw [pq_ok h hk, h1, h2]; exact vsub_refl _
theorem pw_l3 {m e n f k : Int} (h : 0 < k ∧ k % 2 = 0 ∧ m ≤ 0 ∧ 0 ≤ n) : qmin (qmin (dv m e ^ k) (dv n f ^ k)) (Int.cast (0 : Int) : Rat) = pwL m e n f k ∧ qmax (qmax (dv m e ^ k) (dv n f ^ k)) (Int.cast (0 : Int) : Rat) = pwH m e n f k := by
  unfold pwL pwH; rw [if_pos h, if_pos h, Rat.intCast_zero]; exact ⟨rfl, rfl⟩
theorem has0 (m e n f : Int) : (cmpQ (dv m e) (Int.cast (0 : Int) : Rat) ≤ 0 ∧ cmpQ (Int.cast (0 : Int) : Rat) (dv n f) ≤ 0) ↔ (m ≤ 0 ∧ 0 ≤ n) := by
  rw [cmpQ_le, cmpQ_le, Rat.intCast_zero, dv_le0, dv_ge0]
theorem ord_sign {m e n f : Int} (h : dv m e ≤ dv n f) : (n < 0 → m < 0) ∧ (n ≤ 0 → m ≤ 0) := by
  refine ⟨fun q => ?_, fun q => ?_⟩
  · have := dv_lt0 (e := f).2 q; exact dv_lt0.1 (by grind : dv m e < 0)
  · have := dv_le0 (e := f).2 q; exact dv_le0.1 (Rat.le_trans h this)
theorem pq_facts (m e n f k w : Int) : (L (pqV (enM (pwL m e n f k) (pwH m e n f k) w) m e n f k w).natAbs ≤ 400 ∧ L (pqV (enN (pwL m e n f k) (pwH m e n f k) w) m e n f k w).natAbs ≤ 400) ∧ (-8192 ≤ pqV (enX (pwL m e n f k) (pwH m e n f k) w) m e n f k w ∧ pqV (enX (pwL m e n f k) (pwH m e n f k) w) m e n f k w ≤ 2048) ∧
    (-8192 ≤ pqV (enF (pwL m e n f k) (pwH m e n f k) w) m e n f k w ∧ pqV (enF (pwL m e n f k) (pwH m e n f k) w) m e n f k w ≤ 2048) ∧ 0 ≤ pqE m e n f k w ∧ pqE m e n f k w ≤ 5 := by
  have h := en_sz (pwL m e n f k) (pwH m e n f k) w
  have h2 := en_facts (pwL m e n f k) (pwH m e n f k) w
  have zl : L (0 : Int).natAbs = 0 := L_zero
  refine ⟨?_, ?_, ?_, ?_⟩
  · unfold pqV; split <;> omega
  · unfold pqV; split <;> omega
  · unfold pqV; split <;> omega
  · unfold pqE; repeat' split
    all_goals omega
theorem pw_Ls {r : Rat} {k : Int} (h1 : L r.num.natAbs ≤ 60) (h2 : L r.den ≤ 60) (hk : 0 ≤ k ∧ k ≤ 64) : L (r ^ k).num.natAbs ≤ 3841 ∧ L (r ^ k).den ≤ 3841 := by
  rw [(zp_num hk.1).1, (zp_num hk.1).2, Int.natAbs_pow]
  have a := L_pow64 (a := r.num.natAbs) (show k.toNat ≤ 64 by omega)
  have b := L_pow64 (a := r.den) (show k.toNat ≤ 64 by omega)
  omega
abbrev pcT (a b c d k w : Int) : V := ecT (mkM (pwR a b k w false) (-w)) (mkX (pwR a b k w false) (-w)) (mkM (pwR c d k w true) (-w)) (mkX (pwR c d k w true) (-w)) (mkE (pwR a b k w false) (-w)) (mkE (pwR c d k w true) (-w))
end Go.Proofs.YtmbpoibhamlkbaaGreatDoor
