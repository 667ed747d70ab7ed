/-
  Lower layers: what functions of the program compute, and plain facts. Conditions: as the theorems say.
-/
import Derived.Test.YtcbihoojfakhdaaGreatDoorCdS
set_option linter.unusedVariables false
set_option linter.unusedSimpArgs false
namespace Go.Proofs.YtcbihoojfakhdaaGreatDoor
open Go.RowKit
set_option maxRecDepth 100000
set_option maxHeartbeats 2000000
theorem fx_Sin3P (m : Int) (ee : Int) (more : Int) (sc : Int) (q : Int) (r1 : Int) (r2 : Int) (x : Int) (s1 : Int) (s2 : Int) (k1 : Int) (k2 : Int) (u1 : Int) (u2 : Int) (c0 : (0 : Int) ≤ sc ∧ sc ≤ 5000) (c1 : (wRem ((wRem q 4 + 4) + more) 4) = 3) (c2 : 0 ≤ r1) (c3 : (0 : Int) ≤ more ∧ more ≤ 1) (c4 : Impl Tryz.prog Amb 94 [(yV m ee), (.int .i64 (sc + 24))] (.tup [(.int .i64 q), (.agg [(.bool (decide (r1 < 0))), (N r1.natAbs), (.bool (decide (r2 < 0))), (N r2.natAbs)])])) (c5 : Impl Tryz.prog Amb 129 [(.bool false), (N r1.natAbs)] (zV x)) (c6 : Impl Tryz.prog Amb 206 [(zV x), (.int .i64 (sc + 24))] (.tup [(.agg [(.bool (decide (s1 < 0))), (N s1.natAbs), (.bool (decide (s2 < 0))), (N s2.natAbs)]), (.agg [(.bool (decide (k1 < 0))), (N k1.natAbs), (.bool (decide (k2 < 0))), (N k2.natAbs)])])) (c7 : Impl Tryz.prog Amb 162 [(.agg [(.bool (decide (((-k2) - (r2 - r1)) < 0))), (N (((-k2) - (r2 - r1)).natAbs)), (.bool (decide (((-k1) + (r2 - r1)) < 0))), (N (((-k1) + (r2 - r1)).natAbs))]), (.int .i64 ((sc + 24) - sc))] (.agg [(.bool (decide (u1 < 0))), (N u1.natAbs), (.bool (decide (u2 < 0))), (N u2.natAbs)])) (c8 : L (r1).natAbs ≤ 8192) (c9 : L (r2).natAbs ≤ 8192) (c10 : L (s1).natAbs ≤ 8192) (c11 : L (s2).natAbs ≤ 8192) (c12 : L (k1).natAbs ≤ 8192) (c13 : L (k2).natAbs ≤ 8192) : Impl Tryz.prog Amb 157 [(yV m ee), (.int .i64 more), (.int .i64 sc)] (.agg [(.bool (decide (u1 < 0))), (N u1.natAbs), (.bool (decide (u2 < 0))), (N u2.natAbs)]) := by
 have w1 := wRem_abs (v := q) (n := 4) oO
 exact impl_ob hP hAmb Tryz.func157 (by kernel_rfl) (.lit <| .yes <| .lits 2 <| .call (.tup [(.int .i64 q), (.agg [(.bool (decide (r1 < 0))), (N r1.natAbs), (.bool (decide (r2 < 0))), (N r2.natAbs)])]) <| .lits 5 <| .call (zV x) <| .lit <| .call (.tup [(.agg [(.bool (decide (s1 < 0))), (N s1.natAbs), (.bool (decide (s2 < 0))), (N s2.natAbs)]), (.agg [(.bool (decide (k1 < 0))), (N k1.natAbs), (.bool (decide (k2 < 0))), (N k2.natAbs)])]) <| .lits 3 <| .no <| .lits 4 <| .call (.agg [(.bool (decide ((-s2) < 0))), (N ((-s2).natAbs)), (.bool (decide ((-s1) < 0))), (N ((-s1).natAbs))]) <| .lits 2 <| .call (.agg [(.bool (decide ((-k2) < 0))), (N ((-k2).natAbs)), (.bool (decide ((-k1) < 0))), (N ((-k1).natAbs))]) <| .lits 3 <| .yes <| .lit <| .yes <| .lit <| .no <| .yes <| .lits 4 <| .call (zV (r2 - r1)) <| .lit <| .call (.agg [(.bool (decide (((-k2) - (r2 - r1)) < 0))), (N (((-k2) - (r2 - r1)).natAbs)), (.bool (decide (((-k1) + (r2 - r1)) < 0))), (N (((-k1) + (r2 - r1)).natAbs))]) <| .lit <| .yes <| .lit <| .call (.agg [(.bool (decide (u1 < 0))), (N u1.natAbs), (.bool (decide (u2 < 0))), (N u2.natAbs)]) <| .lits 2 <| .ret)
  (cast_ob (aI True.intro (aI (fits_i64 oS : (fits .i64 (sc + 24)) = true) (aI (c4 ) (aI (c5 ) (aI (c6 ) (aI (decide_eq_false oO : (decide (r1 < 0)) = false) (aI (fx_Neg s1 s2 oS oS) (have f7 := L_abs_neg s2; have f6 := L_abs_neg s1; aI (fx_Neg k1 k2 oS oS) (have f5 := L_abs_neg k2; have f4 := L_abs_neg k1; aI (fits_i64 oS : (fits .i64 ((wRem q (4 : Int)) + 4)) = true) (aI (fits_i64 oS : (fits .i64 (((wRem q (4 : Int)) + 4) + more)) = true) (aI (iEq_mk c1 : (iEq (wRem (((wRem q (4 : Int)) + 4) + more) (4 : Int)) (3 : Int)) = true) (aI (fx_Width r1 r2 oS oS) (have f3 := L_abs_sub r2 r1; aI (fx_Wide (-k2) (-k1) (r2 - r1) oS oS oS) (have f2 := L_abs_add (-k1) (r2 - r1); have f1 := L_abs_sub (-k2) (r2 - r1); aI (fits_i64 oS : (fits .i64 ((sc + 24) - sc)) = true) (aI (c7 ) ((vsub_refl (.agg [(.bool (decide (u1 < 0))), (N u1.natAbs), (.bool (decide (u2 < 0))), (N u2.natAbs)])))))))))))))))))) (by kernel_rfl))
theorem fx_Sin3N (m : Int) (ee : Int) (more : Int) (sc : Int) (q : Int) (r1 : Int) (r2 : Int) (x : Int) (s1 : Int) (s2 : Int) (k1 : Int) (k2 : Int) (u1 : Int) (u2 : Int) (c0 : (0 : Int) ≤ sc ∧ sc ≤ 5000) (c1 : (wRem ((wRem q 4 + 4) + more) 4) = 3) (c2 : r1 < 0) (c3 : (0 : Int) ≤ more ∧ more ≤ 1) (c4 : Impl Tryz.prog Amb 94 [(yV m ee), (.int .i64 (sc + 24))] (.tup [(.int .i64 q), (.agg [(.bool (decide (r1 < 0))), (N r1.natAbs), (.bool (decide (r2 < 0))), (N r2.natAbs)])])) (c5 : Impl Tryz.prog Amb 129 [(.bool false), (N r1.natAbs)] (zV x)) (c6 : Impl Tryz.prog Amb 206 [(zV x), (.int .i64 (sc + 24))] (.tup [(.agg [(.bool (decide (s1 < 0))), (N s1.natAbs), (.bool (decide (s2 < 0))), (N s2.natAbs)]), (.agg [(.bool (decide (k1 < 0))), (N k1.natAbs), (.bool (decide (k2 < 0))), (N k2.natAbs)])])) (c7 : Impl Tryz.prog Amb 162 [(.agg [(.bool (decide (((-k2) - (r2 - r1)) < 0))), (N (((-k2) - (r2 - r1)).natAbs)), (.bool (decide (((-k1) + (r2 - r1)) < 0))), (N (((-k1) + (r2 - r1)).natAbs))]), (.int .i64 ((sc + 24) - sc))] (.agg [(.bool (decide (u1 < 0))), (N u1.natAbs), (.bool (decide (u2 < 0))), (N u2.natAbs)])) (c8 : L (r1).natAbs ≤ 8192) (c9 : L (r2).natAbs ≤ 8192) (c10 : L (s1).natAbs ≤ 8192) (c11 : L (s2).natAbs ≤ 8192) (c12 : L (k1).natAbs ≤ 8192) (c13 : L (k2).natAbs ≤ 8192) : Impl Tryz.prog Amb 157 [(yV m ee), (.int .i64 more), (.int .i64 sc)] (.agg [(.bool (decide (u1 < 0))), (N u1.natAbs), (.bool (decide (u2 < 0))), (N u2.natAbs)]) := by
 have w1 := wRem_abs (v := q) (n := 4) oO
 exact impl_ob hP hAmb Tryz.func157 (by kernel_rfl) (.lit <| .yes <| .lits 2 <| .call (.tup [(.int .i64 q), (.agg [(.bool (decide (r1 < 0))), (N r1.natAbs), (.bool (decide (r2 < 0))), (N r2.natAbs)])]) <| .lits 5 <| .call (zV x) <| .lit <| .call (.tup [(.agg [(.bool (decide (s1 < 0))), (N s1.natAbs), (.bool (decide (s2 < 0))), (N s2.natAbs)]), (.agg [(.bool (decide (k1 < 0))), (N k1.natAbs), (.bool (decide (k2 < 0))), (N k2.natAbs)])]) <| .lits 3 <| .yes <| .lits 2 <| .call (.agg [(.bool (decide ((-s2) < 0))), (N ((-s2).natAbs)), (.bool (decide ((-s1) < 0))), (N ((-s1).natAbs))]) <| .lits 5 <| .call (.agg [(.bool (decide ((-(-s1)) < 0))), (N ((-(-s1)).natAbs)), (.bool (decide ((-(-s2)) < 0))), (N ((-(-s2)).natAbs))]) <| .lits 2 <| .call (.agg [(.bool (decide ((-k2) < 0))), (N ((-k2).natAbs)), (.bool (decide ((-k1) < 0))), (N ((-k1).natAbs))]) <| .lits 3 <| .yes <| .lit <| .yes <| .lit <| .no <| .yes <| .lits 4 <| .call (zV (r2 - r1)) <| .lit <| .call (.agg [(.bool (decide (((-k2) - (r2 - r1)) < 0))), (N (((-k2) - (r2 - r1)).natAbs)), (.bool (decide (((-k1) + (r2 - r1)) < 0))), (N (((-k1) + (r2 - r1)).natAbs))]) <| .lit <| .yes <| .lit <| .call (.agg [(.bool (decide (u1 < 0))), (N u1.natAbs), (.bool (decide (u2 < 0))), (N u2.natAbs)]) <| .lits 2 <| .ret)
  (cast_ob (aI True.intro (aI (fits_i64 oS : (fits .i64 (sc + 24)) = true) (aI (c4 ) (aI (c5 ) (aI (c6 ) (aI (decide_eq_true oO : (decide (r1 < 0)) = true) (aI (fx_Neg s1 s2 oS oS) (have f9 := L_abs_neg s2; have f8 := L_abs_neg s1; aI (fx_Neg (-s2) (-s1) oS oS) (have f7 := L_abs_neg (-s1); have f6 := L_abs_neg (-s2); aI (fx_Neg k1 k2 oS oS) (have f5 := L_abs_neg k2; have f4 := L_abs_neg k1; aI (fits_i64 oS : (fits .i64 ((wRem q (4 : Int)) + 4)) = true) (aI (fits_i64 oS : (fits .i64 (((wRem q (4 : Int)) + 4) + more)) = true) (aI (iEq_mk c1 : (iEq (wRem (((wRem q (4 : Int)) + 4) + more) (4 : Int)) (3 : Int)) = true) (aI (fx_Width r1 r2 oS oS) (have f3 := L_abs_sub r2 r1; aI (fx_Wide (-k2) (-k1) (r2 - r1) oS oS oS) (have f2 := L_abs_add (-k1) (r2 - r1); have f1 := L_abs_sub (-k2) (r2 - r1); aI (fits_i64 oS : (fits .i64 ((sc + 24) - sc)) = true) (aI (c7 ) ((vsub_refl (.agg [(.bool (decide (u1 < 0))), (N u1.natAbs), (.bool (decide (u2 < 0))), (N u2.natAbs)]))))))))))))))))))) (by kernel_rfl))

end Go.Proofs.YtcbihoojfakhdaaGreatDoor

namespace Go.Proofs.YtcbihoojfakhdaaGreatDoor
open Go.RowKit
set_option maxRecDepth 100000
set_option maxHeartbeats 2000000
theorem pi_all : (List.range 400).all (fun t => decide (piLo (t : Int) * 2 ^ (430 - t) ≤ ptPi) && decide (ptPi ≤ piHi (t : Int) * 2 ^ (430 - t))) = true := by kernel_rfl
theorem cQ2 : dv ptPi (-430) = cQ * 2 := of_decide_eq_true (by kernel_rfl)
theorem pq_at {t : Nat} (ht : t < 400) : ((piLo (t : Int) : Int) : Rat) ≤ cQ * ((2 ^ (t + 1) : Int) : Rat) ∧ cQ * ((2 ^ (t + 1) : Int) : Rat) ≤ ((piHi (t : Int) : Int) : Rat) := by
 have h := List.all_eq_true.1 pi_all t (List.mem_range.2 ht)
 simp only [Bool.and_eq_true, decide_eq_true_eq] at h
 have a := (cl_sc (t := t) oO).1 h.1
 have b := (cl_sc (t := t) oO).2 h.2
 have e : cQ * ((2 ^ (t + 1) : Int) : Rat) = dv ptPi (-430) * ((2 ^ t : Int) : Rat) := by
  rw [cQ2, Int.pow_succ, Rat.intCast_mul]
  show cQ * (((2 ^ t : Int) : Rat) * 2) = _
  grind
 rw [e]; exact ⟨a, b⟩
theorem near_qk {d c T : Rat} {p1 p2 q1 q2 k : Int} (hp1 : (p1 : Rat) ≤ d * T) (hp2 : d * T ≤ (p2 : Rat)) (hp : p2 ≤ p1 + 1) (hq1 : (q1 : Rat) ≤ c * T) (hq2 : c * T ≤ (q2 : Rat)) (hq : q2 - q1 ≤ 16777216) (hT : 4722366482869645213696 ≤ T)
  (c1 : 157 ≤ 100 * c) (c2 : 1000 * c ≤ 1571) (hk : k = Int.fdiv (((p1 + p2) * 2 ^ 1) + (q1 + q2)) ((q1 + q2) * 2 ^ 1)) (d1 : -4294967296 ≤ d) (d2 : d ≤ 4294967296) : (-4294967295 ≤ k ∧ k ≤ 4294967295) ∧ -80 ≤ 100 * (d - (k : Rat) * c) ∧ 100 * (d - (k : Rat) * c) ≤ 80 := by
 have T0 : 0 < T := by grind
 have m1 := Rat.mul_le_mul_of_nonneg_right c1 (Rat.le_of_lt T0)
 have m2 := Rat.mul_le_mul_of_nonneg_right c2 (Rat.le_of_lt T0)
 have m1 : 157 * T ≤ 100 * (c * T) := by rw [← Rat.mul_assoc]; exact m1
 have m2 : 1000 * (c * T) ≤ 1571 * T := by rw [← Rat.mul_assoc]; exact m2
 have m3 := Rat.mul_le_mul_of_nonneg_right d1 (Rat.le_of_lt T0)
 have m4 := Rat.mul_le_mul_of_nonneg_right d2 (Rat.le_of_lt T0)
 have hpR : (p2 : Rat) ≤ (p1 : Rat) + 1 := by
  have : (p2 : Rat) ≤ ((p1 + 1 : Int) : Rat) := Rat.intCast_le_intCast.2 hp
  rw [Rat.intCast_add] at this; exact this
 have hqR : (q2 : Rat) ≤ (q1 : Rat) + 16777216 := by
  have : (q2 : Rat) ≤ ((q1 + 16777216 : Int) : Rat) := Rat.intCast_le_intCast.2 oO
  rw [Rat.intCast_add] at this; exact this
 have q0 : 0 < q1 + q2 := by
  have : (0 : Rat) < ((q1 + q2 : Int) : Rat) := by rw [Rat.intCast_add]; grind
  exact Rat.intCast_pos.1 this
 rw [Int.fdiv_eq_ediv_of_nonneg _ oO] at hk
 have f1 := Int.ediv_mul_le (((p1 + p2) * 2 ^ 1) + (q1 + q2)) (show (q1 + q2) * 2 ^ 1 ≠ 0 by omega)
 have f2 := Int.lt_ediv_add_one_mul_self (((p1 + p2) * 2 ^ 1) + (q1 + q2)) (show 0 < (q1 + q2) * 2 ^ 1 by omega)
 rw [← hk] at f1 f2
 rw [show (2 : Int) ^ 1 = 2 from rfl] at f1 f2
 have g1 : ((k * ((q1 + q2) * 2) : Int) : Rat) ≤ (((p1 + p2) * 2 + (q1 + q2) : Int) : Rat) := Rat.intCast_le_intCast.2 f1
 have g2 : (((p1 + p2) * 2 + (q1 + q2) : Int) : Rat) ≤ (((k + 1) * ((q1 + q2) * 2) : Int) : Rat) := Rat.intCast_le_intCast.2 (Int.le_of_lt f2)
 simp only [Rat.intCast_mul, Rat.intCast_add, show ((2 : Int) : Rat) = 2 from rfl, show ((1 : Int) : Rat) = 1 from rfl] at g1 g2
 have K1 : k ≤ 4294967295 := by
  refine Decidable.byContradiction fun hn => ?_
  have kR : (4294967296 : Rat) ≤ (k : Rat) := Rat.intCast_le_intCast.2 (show (4294967296 : Int) ≤ k by omega)
  have m := Rat.mul_le_mul_of_nonneg_right kR (show 0 ≤ ((q1 : Rat) + (q2 : Rat)) * 2 by grind)
  clear f1 f2 hk
  grind
 have K2 : -4294967295 ≤ k := by
  refine Decidable.byContradiction fun hn => ?_
  have kR : (k : Rat) + 1 ≤ -4294967295 := by
   have := Rat.intCast_le_intCast.2 (show k + 1 ≤ -4294967295 by omega)
   rw [Rat.intCast_add] at this; exact this
  have m := Rat.mul_le_mul_of_nonneg_right kR (show 0 ≤ ((q1 : Rat) + (q2 : Rat)) * 2 by grind)
  clear f1 f2 hk
  grind
 refine ⟨⟨K2, K1⟩, ?_⟩
 have k1R : (k : Rat) ≤ 4294967296 := Rat.intCast_le_intCast.2 (show k ≤ 4294967296 by omega)
 have k2R : -4294967296 ≤ (k : Rat) := Rat.intCast_le_intCast.2 (show -4294967296 ≤ k by omega)
 have mb := mul_bd (p := (k : Rat)) (P := 4294967296) (x := (q1 : Rat) + (q2 : Rat) - 2 * (c * T)) (a := 16777216) k2R k1R (by grind) (by grind)
 have e1 : (k : Rat) * ((q1 : Rat) + (q2 : Rat) - 2 * (c * T)) = (k : Rat) * ((q1 : Rat) + (q2 : Rat)) - 2 * ((k : Rat) * (c * T)) := by grind
 have e2 : (k : Rat) * (((q1 : Rat) + (q2 : Rat)) * 2) = 2 * ((k : Rat) * ((q1 : Rat) + (q2 : Rat))) := by grind
 have e3 : ((k : Rat) + 1) * (((q1 : Rat) + (q2 : Rat)) * 2) = 2 * ((k : Rat) * ((q1 : Rat) + (q2 : Rat))) + 2 * ((q1 : Rat) + (q2 : Rat)) := by grind
 have e4 : 100 * (d - (k : Rat) * c) * T = 100 * (d * T - (k : Rat) * (c * T)) := by grind
 rw [e1] at mb
 rw [e2] at g1
 rw [e3] at g2
 clear f1 f2 hk K1 K2 e1 e2 e3
 constructor
 ·refine Rat.le_of_mul_le_mul_right (c := T) ?_ T0
  rw [e4]
  generalize (k : Rat) * (c * T) = x1 at *
  generalize (k : Rat) * ((q1 : Rat) + (q2 : Rat)) = x2 at *
  generalize c * T = C at *
  generalize d * T = D at *
  clear c1 c2 d1 d2 e4 k1R k2R hp hq q0
  grind
 ·refine Rat.le_of_mul_le_mul_right (c := T) ?_ T0
  rw [e4]
  generalize (k : Rat) * (c * T) = x1 at *
  generalize (k : Rat) * ((q1 : Rat) + (q2 : Rat)) = x2 at *
  generalize c * T = C at *
  generalize d * T = D at *
  clear c1 c2 d1 d2 e4 k1R k2R hp hq q0
  grind
theorem fx_TurnE (m ee sc : Int) (hs : 24 ≤ sc ∧ sc ≤ 320) (hm : L (m).natAbs ≤ 20) (he : -440 ≤ ee ∧ ee ≤ 130) (d1 : -4294967296 ≤ dv m ee) (d2 : dv m ee ≤ 4294967296) :
  ∃ q r1 r2 : Int, Impl Tryz.prog Amb 94 [(yV m ee), (.int .i64 sc)] (.tup [(.int .i64 q), (.agg [(.bool (decide (r1 < 0))), (N r1.natAbs), (.bool (decide (r2 < 0))), (N r2.natAbs)])]) ∧ (-4294967295 ≤ q ∧ q ≤ 4294967295) ∧ r1 ≤ r2 ∧ r2 - r1 ≤ 300 ∧ (-80 ≤ 100 * (dv m ee - (q : Rat) * cQ) ∧ 100 * (dv m ee - (q : Rat) * cQ) ≤ 80) ∧
   (r1 : Rat) ≤ (dv m ee - (q : Rat) * cQ) * ((2 ^ sc.toNat : Int) : Rat) ∧ (dv m ee - (q : Rat) * cQ) * ((2 ^ sc.toNat : Int) : Rat) ≤ (r2 : Rat) := by
 obtain ⟨t, ht⟩ : ∃ t : Nat, (t : Int) = sc + 48 := ⟨(sc + 48).toNat, by omega⟩
 have hO := fx_Of m ee (sc + 48) oO oO oO
 have lf := flr_LD m ee (sc + 48)
 have sc1 := (flr_sc (dv m ee) t).1
 have sc2 := (cei_sc (dv m ee) t).1
 have fc := (flr_cei1 (dv m ee) t).1
 have cl := pq_at (t := t + 1) oO
 have tt : ((t + 1 : Nat) : Int) = sc + 48 + 1 := by omega
 rw [tt] at cl
 rw [ht] at sc1 sc2 fc
 have b := pi_ok (s := sc + 48 + 1) oO
 have bw : piHi (sc + 48 + 1) - piLo (sc + 48 + 1) < 16777216 := by
  have := nbits_lt (piHi (sc + 48 + 1) - piLo (sc + 48 + 1)).natAbs
  have p := Nat.pow_le_pow_right (n := 2) oO b.2.2
  omega
 have hP : Impl Tryz.prog Amb 117 [(.int .i64 ((sc + 48) + 1))] (.agg [(.bool (decide ((piLo (sc + 48 + 1)) < 0))), (N ((piLo (sc + 48 + 1)).natAbs)), (.bool (decide ((piHi (sc + 48 + 1)) < 0))), (N ((piHi (sc + 48 + 1)).natAbs))]) := fx_Pi (sc + 48 + 1) oO
 generalize piLo (sc + 48 + 1) = p1 at *
 generalize piHi (sc + 48 + 1) = p2 at *
 generalize flr (dv m ee) (sc + 48) = x1 at *
 generalize cei (dv m ee) (sc + 48) = x2 at *
 have hH := fx_Half p1 p2 2 oO oO oO
 have he1 := half_enc (a := p1) (b := p2) (X := cQ) (t := t + 1 + 1) (s := t) (n := 2) oO cl.1 cl.2
 have hw1 := half_w (a := p1) (b := p2) (W := 4194304) (n := 2) oO
 have o1 := L_abs_shr p1 2
 have o2 := L_abs_neg p2
 have o3 := L_abs_shr (-p2) 2
 have o4 := L_abs_neg (-p2 / 2 ^ 2)
 have e2 : (2 : Int).toNat = 2 := rfl
 rw [e2] at hH
 generalize p1 / 2 ^ 2 = h1 at *
 generalize -(-p2 / 2 ^ 2) = h2 at *
 have cb := cQ_b
 have T72 : (4722366482869645213696 : Rat) ≤ ((2 ^ t : Int) : Rat) := by
  have p := Int.ofNat_le.2 (Nat.pow_le_pow_right (n := 2) oO (show 72 ≤ t by omega))
  rw [← pow_cast, ← pow_cast] at p
  exact Rat.intCast_le_intCast.2 p
 have nk := near_qk (k := Int.fdiv (((x1 + x2) * 2 ^ 1) + (h1 + h2)) ((h1 + h2) * 2 ^ 1)) sc1 sc2 fc he1.1 he1.2 oO T72 cb.1 cb.2 rfl d1 d2
 have h12 : 0 < h1 + h2 := by
  have : (0 : Rat) < ((h1 + h2 : Int) : Rat) := by
   rw [Rat.intCast_add]
   have m1 := Rat.mul_le_mul_of_nonneg_right cb.1 (show (0 : Rat) ≤ ((2 ^ t : Int) : Rat) by grind)
   have hR : (h2 : Rat) ≤ (h1 : Rat) + 16777216 := by
    have : (h2 : Rat) ≤ ((h1 + 16777216 : Int) : Rat) := Rat.intCast_le_intCast.2 oO
    rw [Rat.intCast_add] at this; exact this
   grind
  exact Rat.intCast_pos.1 this
 have hN := fx_Nearest x1 x2 h1 h2 oO oO oO oO h12 oO
 generalize Int.fdiv (((x1 + x2) * 2 ^ 1) + (h1 + h2)) ((h1 + h2) * 2 ^ 1) = q at *
 have m1 := L_abs_mul h1 q
 have m2 := L_abs_mul h2 q
 have lk := L_i64 (n := q) oO
 have hT := fx_TimesA h1 h2 q oO oO oO
 have te := tm_enc (k := q) he1.1 he1.2
 have h1le : h1 ≤ h2 := Rat.intCast_le_intCast.1 (Rat.le_trans he1.1 he1.2)
 have tw := tm_w (W := 4294967296) h1le (k := q) oO oO
 have tL : L (tmLo h1 h2 q).natAbs ≤ 430 ∧ L (tmHi h1 h2 q).natAbs ≤ 430 := by unfold tmLo tmHi; split <;> omega
 generalize tmLo h1 h2 q = t1 at *
 generalize tmHi h1 h2 q = t2 at *
 have n1 := L_abs_neg t1
 have n2 := L_abs_neg t2
 have a1 := L_abs_add x1 (-t2)
 have a2 := L_abs_add x2 (-t1)
 have hS := fx_Sub x1 x2 t1 t2 oO oO oO oO
 have hH2 := fx_Half (x1 + -t2) (x2 + -t1) (sc + 48 - sc) oO oO oO
 have e48 : (sc + 48 - sc).toNat = 48 := by omega
 rw [e48] at hH2
 have hw := half_w (a := x1 + -t2) (b := x2 + -t1) (W := 257) (n := 48) oO
 have he := half_enc (a := x1 + -t2) (b := x2 + -t1) (X := dv m ee - (q : Rat) * cQ) (t := t) (s := sc.toNat) (n := 48) oO (by rw [Rat.intCast_add, Rat.intCast_neg]; grind) (by rw [Rat.intCast_add, Rat.intCast_neg]; grind)
 refine ⟨q, _, _, fx_Turn0 m ee sc x1 x2 p1 p2 h1 h2 q t1 t2 _ _ _ _ hO hP hH hN hT hS hH2 oO, nk.1, Rat.intCast_le_intCast.1 (Rat.le_trans he.1 he.2), ?_, nk.2, he.1, he.2⟩
 omega
end Go.Proofs.YtcbihoojfakhdaaGreatDoor

namespace Go.Proofs.YtcbihoojfakhdaaGreatDoor
def quad (j : Int) (c s : Rat) : Rat := if j = 0 then s else if j = 1 then c else if j = 2 then -s else -c
def yA (j s1 s2 k1 k2 : Int) : Int := if j = 0 then s1 else if j = 1 then k1 else if j = 2 then -s2 else -k2
def yB (j s1 s2 k1 k2 : Int) : Int := if j = 0 then s2 else if j = 1 then k2 else if j = 2 then -s1 else -k1
theorem quad_cases {j : Int} (h : 0 ≤ j ∧ j ≤ 3) : j = 0 ∨ j = 1 ∨ j = 2 ∨ j = 3 := by omega
theorem quad0 (c s : Rat) : quad 0 c s = s := rfl
theorem quad1 (c s : Rat) : quad 1 c s = c := rfl
theorem quad2 (c s : Rat) : quad 2 c s = -s := rfl
theorem quad3 (c s : Rat) : quad 3 c s = -c := rfl
theorem qS_quad (k : Int) (c s : Rat) : qS k c s = quad (k % 4) c s := by
 unfold qS
 rcases (show k % 4 = 0 ∨ k % 4 = 1 ∨ k % 4 = 2 ∨ k % 4 = 3 by omega) with q | q | q | q
 ·rw [iZ_0 q, q, quad0]; show s * 1 + c * 0 = s; grind
 ·rw [iZ_1 q, q, quad1]; show s * 0 + c * 1 = c; grind
 ·rw [iZ_2 q, q, quad2]; show s * -1 + c * 0 = -s; grind
 ·rw [iZ_3 q, q, quad3]; show s * 0 + c * -1 = -c; grind
theorem qC_quad (k : Int) (c s : Rat) : qC k c s = quad ((k + 1) % 4) c s := by
 unfold qC
 rcases (show k % 4 = 0 ∨ k % 4 = 1 ∨ k % 4 = 2 ∨ k % 4 = 3 by omega) with q | q | q | q
 ·rw [iZ_0 q, show (k + 1) % 4 = 1 by omega, quad1]; show c * 1 - s * 0 = c; grind
 ·rw [iZ_1 q, show (k + 1) % 4 = 2 by omega, quad2]; show c * 0 - s * 1 = -s; grind
 ·rw [iZ_2 q, show (k + 1) % 4 = 3 by omega, quad3]; show c * -1 - s * 0 = -c; grind
 ·rw [iZ_3 q, show (k + 1) % 4 = 0 by omega, quad0]; show c * 0 - s * -1 = s; grind
theorem quad_lip {j : Int} (hj : 0 ≤ j ∧ j ≤ 3) {c s c' s' a : Rat} (hs : -a ≤ s - s' ∧ s - s' ≤ a) (hc : -a ≤ c - c' ∧ c - c' ≤ a) : -a ≤ quad j c s - quad j c' s' ∧ quad j c s - quad j c' s' ≤ a := by
 rcases quad_cases hj with rfl | rfl | rfl | rfl
 ·exact hs
 ·exact hc
 ·rw [quad2, quad2]; constructor <;> grind
 ·rw [quad3, quad3]; constructor <;> grind
theorem quad_enc {j : Int} (hj : 0 ≤ j ∧ j ≤ 3) {c s T : Rat} {s1 s2 k1 k2 : Int} (hs : (s1 : Rat) ≤ s * T ∧ s * T ≤ (s2 : Rat)) (hc : (k1 : Rat) ≤ c * T ∧ c * T ≤ (k2 : Rat)) :
  ((yA j s1 s2 k1 k2 : Int) : Rat) ≤ quad j c s * T ∧ quad j c s * T ≤ ((yB j s1 s2 k1 k2 : Int) : Rat) := by
 rcases quad_cases hj with rfl | rfl | rfl | rfl
 ·exact hs
 ·exact hc
 ·have e1 : yA 2 s1 s2 k1 k2 = -s2 := rfl
  have e2 : yB 2 s1 s2 k1 k2 = -s1 := rfl
  rw [quad2, e1, e2, Rat.intCast_neg, Rat.intCast_neg]; constructor <;> grind
 ·have e1 : yA 3 s1 s2 k1 k2 = -k2 := rfl
  have e2 : yB 3 s1 s2 k1 k2 = -k1 := rfl
  rw [quad3, e1, e2, Rat.intCast_neg, Rat.intCast_neg]; constructor <;> grind
theorem quad_y {j : Int} (hj : 0 ≤ j ∧ j ≤ 3) {s1 s2 k1 k2 W : Int} (h1 : s1 ≤ s2) (h2 : s2 - s1 ≤ W) (h3 : k1 ≤ k2) (h4 : k2 - k1 ≤ W) : yA j s1 s2 k1 k2 ≤ yB j s1 s2 k1 k2 ∧ yB j s1 s2 k1 k2 - yA j s1 s2 k1 k2 ≤ W := by
 unfold yA yB
 rcases quad_cases hj with rfl | rfl | rfl | rfl <;> simp <;> omega
theorem quad_L {j : Int} {s1 s2 k1 k2 : Int} {B : Nat} (h1 : L s1.natAbs ≤ B) (h2 : L s2.natAbs ≤ B) (h3 : L k1.natAbs ≤ B) (h4 : L k2.natAbs ≤ B) : L (yA j s1 s2 k1 k2).natAbs ≤ B ∧ L (yB j s1 s2 k1 k2).natAbs ≤ B := by
 have n1 := L_abs_neg s1
 have n2 := L_abs_neg s2
 have n3 := L_abs_neg k1
 have n4 := L_abs_neg k2
 unfold yA yB
 constructor
 ·split
  ·omega
  ·split
   ·omega
   ·split <;> omega
 ·split
  ·omega
  ·split
   ·omega
   ·split <;> omega
def SC (more : Int) (d : Rat) (K : Nat) : Rat := if more = 0 then SN d K else CS d K
theorem near_SC (d : Rat) (k more : Int) (hm : more = 0 ∨ more = 1) {M : Nat} (hk : k.natAbs ≤ M) (hM : 1 ≤ M) : ∃ N, ∀ K, N ≤ K →
  SC more d K ≤ quad ((k + more) % 4) (CS (d - (k : Rat) * cQ) K) (SN (d - (k : Rat) * cQ) K) + qerr M ∧ quad ((k + more) % 4) (CS (d - (k : Rat) * cQ) K) (SN (d - (k : Rat) * cQ) K) ≤ SC more d K + qerr M := by
 obtain ⟨N, h⟩ := near_q d k hk hM
 refine ⟨N, fun K hK => ?_⟩
 have h := h K hK
 rw [qS_quad, qC_quad] at h
 rcases hm with rfl | rfl
 ·rw [Int.add_zero]; exact h.1
 ·exact h.2
theorem EnE.half {f : Nat → Rat} {t s n : Nat} {a b : Int} {g : Rat} (ht : t = s + n) (h : EnE f t a b (g * ((2 ^ t : Int) : Rat))) : EnE f s (a / 2 ^ n) (-(-b / 2 ^ n)) (g * ((2 ^ s : Int) : Rat)) := by
 obtain ⟨N, h⟩ := h
 refine ⟨N, fun K hK => ?_⟩
 have q := h K hK
 have e1 : f K * ((2 ^ t : Int) : Rat) + g * ((2 ^ t : Int) : Rat) = (f K + g) * ((2 ^ t : Int) : Rat) := by grind
 have P0 : (0 : Rat) < ((2 ^ n : Int) : Rat) := Rat.intCast_pos.2 (two_pos n)
 have f1 := (fl_R (a := a) (two_pos n)).1
 have f2 := (ce_R (a := b) (two_pos n)).1
 have e : ((2 ^ t : Int) : Rat) = ((2 ^ s : Int) : Rat) * ((2 ^ n : Int) : Rat) := by rw [ht, Int.pow_add, Rat.intCast_mul]
 rw [e] at q
 constructor
 ·refine Rat.le_of_mul_le_mul_right (c := ((2 ^ n : Int) : Rat)) ?_ P0
  have := q.1
  grind
 ·refine Rat.le_of_mul_le_mul_right (c := ((2 ^ n : Int) : Rat)) ?_ P0
  have := q.2
  grind
def sM : Nat := 4294967296
def sE : Rat := 26 * ((sM : Rat) * eps)
theorem sin_EnE {d ρ : Rat} {q more W : Int} {t : Nat} {y1 y2 r1 r2 : Int} (hm : more = 0 ∨ more = 1) (hq : q.natAbs ≤ sM) (hr1 : (r1 : Rat) ≤ (d - (q : Rat) * cQ) * ((2 ^ t : Int) : Rat)) (hr2 : (d - (q : Rat) * cQ) * ((2 ^ t : Int) : Rat) ≤ (r2 : Rat)) (hρ : ρ * ((2 ^ t : Int) : Rat) = (r1 : Rat))
  (hw : r2 - r1 ≤ 2 ^ t) (hy : ∃ N, ∀ K, N ≤ K → (y1 : Rat) ≤ quad ((q + more) % 4) (CS ρ K) (SN ρ K) * ((2 ^ t : Int) : Rat) ∧ quad ((q + more) % 4) (CS ρ K) (SN ρ K) * ((2 ^ t : Int) : Rat) ≤ (y2 : Rat)) :
  EnE (SC more d) t (y1 - (r2 - r1)) (y2 + (r2 - r1)) (sE * ((2 ^ t : Int) : Rat)) := by
 have T0 : (0 : Rat) < ((2 ^ t : Int) : Rat) := Rat.intCast_pos.2 (two_pos t)
 have i0 := Rat.inv_pos.2 T0
 have ie := inv_one T0
 have e0 := eps0
 have M0 : (0 : Rat) < (sM : Rat) := of_decide_eq_true (by kernel_rfl)
 have me := Rat.mul_pos M0 e0
 obtain ⟨N1, h1⟩ := near_SC d q more hm hq (by decide)
 obtain ⟨h, hh⟩ : ∃ h, h = (d - (q : Rat) * cQ) - ρ := ⟨_, rfl⟩
 have hr : ρ + h = d - (q : Rat) * cQ := by rw [hh]; grind
 have hT : h * ((2 ^ t : Int) : Rat) = (d - (q : Rat) * cQ) * ((2 ^ t : Int) : Rat) - (r1 : Rat) := by rw [hh, ← hρ]; grind
 have h0 : 0 ≤ h := Rat.le_of_mul_le_mul_right (c := ((2 ^ t : Int) : Rat)) (by rw [Rat.zero_mul, hT]; grind) T0
 have hwR : (r2 : Rat) - (r1 : Rat) ≤ ((2 ^ t : Int) : Rat) := by
  have := Rat.intCast_le_intCast.2 hw
  rw [Rat.intCast_sub] at this; exact this
 have h1' : h ≤ 1 := Rat.le_of_mul_le_mul_right (c := ((2 ^ t : Int) : Rat)) (by rw [hT]; grind) T0
 obtain ⟨N2, h2⟩ := lip (x := ρ) h0 (by grind) me
 obtain ⟨N3, h3⟩ := hy
 refine ⟨N1 + N2 + N3, fun K hK => ?_⟩
 have h1 := h1 K (by omega)
 have h2 := h2 K (by omega)
 have h3 := h3 K (by omega)
 rw [hr] at h2
 have jb : 0 ≤ (q + more) % 4 ∧ (q + more) % 4 ≤ 3 := by omega
 have l := quad_lip jb h2.1 h2.2
 have eq : qerr sM = 25 * ((sM : Rat) * eps) := rfl
 rw [eq] at h1
 unfold sE
 generalize quad ((q + more) % 4) (CS (d - (q : Rat) * cQ) K) (SN (d - (q : Rat) * cQ) K) = u at *
 generalize quad ((q + more) % 4) (CS ρ K) (SN ρ K) = v at *
 generalize (sM : Rat) * eps = E at *
 generalize SC more d K = z at *
 have hT2 : h * ((2 ^ t : Int) : Rat) ≤ (r2 : Rat) - (r1 : Rat) := by rw [hT]; grind
 have m1 := Rat.mul_le_mul_of_nonneg_right (show z ≤ v + h + 26 * E by grind) (Rat.le_of_lt T0)
 have m2 := Rat.mul_le_mul_of_nonneg_right (show v ≤ z + h + 26 * E by grind) (Rat.le_of_lt T0)
 rw [Rat.intCast_sub, Rat.intCast_add, Rat.intCast_sub]
 generalize ((2 ^ t : Int) : Rat) = T at *
 clear h1 h2 l hρ hh hr
 constructor <;> grind
theorem wrem4 (q : Int) (more : Int) (hm : more = 0 ∨ more = 1) : wRem ((wRem q 4 + 4) + more) 4 = (q + more) % 4 := by
 unfold wRem
 have b := wRem_abs (v := q) (n := 4) (by omega)
 unfold wRem at b
 rw [Int.tmod_eq_emod_of_nonneg (by omega)]
 have e : Int.tmod q 4 % 4 = q % 4 := by
  rcases (show 0 ≤ q ∨ q < 0 by omega) with h | h
  ·rw [Int.tmod_eq_emod_of_nonneg h]; omega
  ·have : Int.tmod q 4 = -(Int.tmod (-q) 4) := by rw [Int.neg_tmod, Int.neg_neg]
   rw [this, Int.tmod_eq_emod_of_nonneg (by omega)]; omega
 omega
end Go.Proofs.YtcbihoojfakhdaaGreatDoor

namespace Go.Proofs.YtcbihoojfakhdaaGreatDoor
open Go.RowKit
set_option maxRecDepth 100000
set_option maxHeartbeats 2000000
theorem sp_eq {a b c d : Int} (h1 : a = c) (h2 : b = d) : (V.agg [.bool (decide (a < 0)), N a.natAbs, .bool (decide (b < 0)), N b.natAbs]) = .agg [.bool (decide (c < 0)), N c.natAbs, .bool (decide (d < 0)), N d.natAbs] := by
 subst h1; subst h2; rfl
theorem fx_taySN (sc q1 q2 x : Int) (hs : 24 ≤ sc ∧ sc ≤ 400) (h : TyH (2 ^ sc.toNat) q1 q2 x x) :
  ∃ n : Nat, n ≤ sc.toNat ∧ Impl Tryz.prog Amb 237 [(.agg [(.bool (decide (x < 0))), (N x.natAbs), (.bool (decide (x < 0))), (N x.natAbs)]), (.agg [(.bool (decide (q1 < 0))), (N q1.natAbs), (.bool (decide (q2 < 0))), (N q2.natAbs)]), (.int .u32 1), (.int .i64 sc)] (.agg [(.bool (decide ((tyA (fun j => (ty (2 ^ sc.toNat) q1 q2 x x 1 j).1) (fun j => (ty (2 ^ sc.toNat) q1 q2 x x 1 j).2) n - (ty (2 ^ sc.toNat) q1 q2 x x 1 n).2) < 0))), (N ((tyA (fun j => (ty (2 ^ sc.toNat) q1 q2 x x 1 j).1) (fun j => (ty (2 ^ sc.toNat) q1 q2 x x 1 j).2) n - (ty (2 ^ sc.toNat) q1 q2 x x 1 n).2).natAbs)), (.bool (decide ((tyB (fun j => (ty (2 ^ sc.toNat) q1 q2 x x 1 j).1) (fun j => (ty (2 ^ sc.toNat) q1 q2 x x 1 j).2) n + (ty (2 ^ sc.toNat) q1 q2 x x 1 n).2) < 0))), (N ((tyB (fun j => (ty (2 ^ sc.toNat) q1 q2 x x 1 j).1) (fun j => (ty (2 ^ sc.toNat) q1 q2 x x 1 j).2) n + (ty (2 ^ sc.toNat) q1 q2 x x 1 n).2).natAbs))]) ∧ (0 ≤ (ty (2 ^ sc.toNat) q1 q2 x x 1 n).2 ∧ (ty (2 ^ sc.toNat) q1 q2 x x 1 n).2 < 8) := by
 obtain ⟨n, n1, n2, n3⟩ := ty_end h 1
 have tf := ty_facts h 1
 have tl : ∀ z : Int, 0 ≤ z → z ≤ 2 ^ sc.toNat → L z.natAbs ≤ 70 := fun z z0 z1 => by
  have p : ((2 ^ sc.toNat : Nat) : Int) = (2 : Int) ^ sc.toNat := (pow_cast _).symm
  exact abs_big (t := sc.toNat) (c := 1) oO oO oO
 have l1 : ∀ j, L (ty (2 ^ sc.toNat) q1 q2 x x 1 j).1.natAbs ≤ 70 := fun j => tl _ (tf j).1 (by have := tf j; omega)
 have l2 : ∀ j, L (ty (2 ^ sc.toNat) q1 q2 x x 1 j).2.natAbs ≤ 70 := fun j => tl _ (by have := tf j; omega) (tf j).2.2.1
 have sb := tyS_bd (p1 := (fun j => (ty (2 ^ sc.toNat) q1 q2 x x 1 j).1)) (p2 := (fun j => (ty (2 ^ sc.toNat) q1 q2 x x 1 j).2)) (T := 2 ^ sc.toNat) tf
 have ls : ∀ j, j ≤ n → L (tyA (fun j => (ty (2 ^ sc.toNat) q1 q2 x x 1 j).1) (fun j => (ty (2 ^ sc.toNat) q1 q2 x x 1 j).2) j).natAbs ≤ 70 ∧ L (tyB (fun j => (ty (2 ^ sc.toNat) q1 q2 x x 1 j).1) (fun j => (ty (2 ^ sc.toNat) q1 q2 x x 1 j).2) j).natAbs ≤ 70 := fun j hj => by
  have b := (sb j).1
  have p : ((2 ^ sc.toNat : Nat) : Int) = (2 : Int) ^ sc.toNat := (pow_cast _).symm
  have m := Int.mul_le_mul_of_nonneg_right (show (j : Int) + 1 ≤ 1000 by omega) (Int.le_of_lt (two_pos sc.toNat))
  exact ⟨abs_big (t := sc.toNat) (c := 1000) oO oO oO, abs_big (t := sc.toNat) (c := 1000) oO oO oO⟩
 have lq1 := tl q1 h.q0 (by have := h.q12; have := h.qT; omega)
 have lq2 := tl q2 (by have := h.q0; have := h.q12; omega) h.qT
 refine ⟨n, n1, fx_tay n 1 q1 q2 sc (fun j => (ty (2 ^ sc.toNat) q1 q2 x x 1 j).1) (fun j => (ty (2 ^ sc.toNat) q1 q2 x x 1 j).2) (fun j => (ty (2 ^ sc.toNat) q1 q2 x x 1 j).1 * q1 / 2 ^ sc.toNat) (fun j => -(-((ty (2 ^ sc.toNat) q1 q2 x x 1 j).2 * q2) / 2 ^ sc.toNat)) (fun j hj => ?_) (fun j hj => ?_) (fun j k hj hk => ?_) (fun j hj he => ?_) (fun j hj he => ?_) oO (fun j hj => ⟨Nat.le_trans (ls j hj).1 oO, Nat.le_trans (ls j hj).2 oO, Nat.le_trans (l2 j) oO⟩), by have := tf n; omega, n2⟩
 ·refine impl_eq (congrArg V.bool (decide_eq_decide.2 ?_)) (fx_Tiny (ty (2 ^ sc.toNat) q1 q2 x x 1 j).1 (ty (2 ^ sc.toNat) q1 q2 x x 1 j).2 (by have := l2 j; omega))
  have z := tf j
  constructor
  ·intro q
   exact Decidable.byContradiction fun hn => n3 j oO oO
  ·intro q
   rw [show j = n by omega]
   have := tf n
   omega
 ·exact fx_Mul (ty (2 ^ sc.toNat) q1 q2 x x 1 j).1 (ty (2 ^ sc.toNat) q1 q2 x x 1 j).2 q1 q2 sc (by have := l1 j; omega) (by have := l2 j; omega) oO oO oO
 ·subst hk
  have z := ty_next h 1 j
  have g1 := tl _ z.1.1 z.1.2
  have g2 := tl _ z.2.1.1 z.2.1.2
  exact fx_Part _ _ (mT 1 j) (by show L ((ty (2 ^ sc.toNat) q1 q2 x x 1 j).1 * q1 / 2 ^ sc.toNat).natAbs ≤ 65536; omega) (by show L (-(-((ty (2 ^ sc.toNat) q1 q2 x x 1 j).2 * q2) / 2 ^ sc.toNat)).natAbs ≤ 65536; omega) ⟨by have := mT_ge 1 j; omega, mT_le oO oO⟩
 ·have z := ls j oO
  have y1 := l1 (j + 1)
  have y2 := l2 (j + 1)
  exact impl_eq (sp_eq (if_pos he).symm (if_pos he).symm) (fx_Sub (tyA (fun j => (ty (2 ^ sc.toNat) q1 q2 x x 1 j).1) (fun j => (ty (2 ^ sc.toNat) q1 q2 x x 1 j).2) j) (tyB (fun j => (ty (2 ^ sc.toNat) q1 q2 x x 1 j).1) (fun j => (ty (2 ^ sc.toNat) q1 q2 x x 1 j).2) j) (ty (2 ^ sc.toNat) q1 q2 x x 1 (j + 1)).1 (ty (2 ^ sc.toNat) q1 q2 x x 1 (j + 1)).2 oO oO oO oO)
 ·have z := ls j oO
  have y1 := l1 (j + 1)
  have y2 := l2 (j + 1)
  have he : ¬ j % 2 = 0 := by omega
  exact impl_eq (sp_eq (if_neg he).symm (if_neg he).symm) (fx_Add (tyA (fun j => (ty (2 ^ sc.toNat) q1 q2 x x 1 j).1) (fun j => (ty (2 ^ sc.toNat) q1 q2 x x 1 j).2) j) (tyB (fun j => (ty (2 ^ sc.toNat) q1 q2 x x 1 j).1) (fun j => (ty (2 ^ sc.toNat) q1 q2 x x 1 j).2) j) (ty (2 ^ sc.toNat) q1 q2 x x 1 (j + 1)).1 (ty (2 ^ sc.toNat) q1 q2 x x 1 (j + 1)).2 oO oO oO oO)
theorem fx_tayCS (sc q1 q2 : Int) (hs : 24 ≤ sc ∧ sc ≤ 400) (h : TyH (2 ^ sc.toNat) q1 q2 ((2 : Int) ^ sc.toNat) ((2 : Int) ^ sc.toNat)) :
  ∃ n : Nat, 1 ≤ n ∧ n ≤ sc.toNat ∧ Impl Tryz.prog Amb 237 [(.agg [(.bool (decide (((2 : Int) ^ sc.toNat) < 0))), (N (((2 : Int) ^ sc.toNat).natAbs)), (.bool (decide (((2 : Int) ^ sc.toNat) < 0))), (N (((2 : Int) ^ sc.toNat).natAbs))]), (.agg [(.bool (decide (q1 < 0))), (N q1.natAbs), (.bool (decide (q2 < 0))), (N q2.natAbs)]), (.int .u32 0), (.int .i64 sc)] (.agg [(.bool (decide ((tyA (fun j => (ty (2 ^ sc.toNat) q1 q2 ((2 : Int) ^ sc.toNat) ((2 : Int) ^ sc.toNat) 0 j).1) (fun j => (ty (2 ^ sc.toNat) q1 q2 ((2 : Int) ^ sc.toNat) ((2 : Int) ^ sc.toNat) 0 j).2) n - (ty (2 ^ sc.toNat) q1 q2 ((2 : Int) ^ sc.toNat) ((2 : Int) ^ sc.toNat) 0 n).2) < 0))), (N ((tyA (fun j => (ty (2 ^ sc.toNat) q1 q2 ((2 : Int) ^ sc.toNat) ((2 : Int) ^ sc.toNat) 0 j).1) (fun j => (ty (2 ^ sc.toNat) q1 q2 ((2 : Int) ^ sc.toNat) ((2 : Int) ^ sc.toNat) 0 j).2) n - (ty (2 ^ sc.toNat) q1 q2 ((2 : Int) ^ sc.toNat) ((2 : Int) ^ sc.toNat) 0 n).2).natAbs)), (.bool (decide ((tyB (fun j => (ty (2 ^ sc.toNat) q1 q2 ((2 : Int) ^ sc.toNat) ((2 : Int) ^ sc.toNat) 0 j).1) (fun j => (ty (2 ^ sc.toNat) q1 q2 ((2 : Int) ^ sc.toNat) ((2 : Int) ^ sc.toNat) 0 j).2) n + (ty (2 ^ sc.toNat) q1 q2 ((2 : Int) ^ sc.toNat) ((2 : Int) ^ sc.toNat) 0 n).2) < 0))), (N ((tyB (fun j => (ty (2 ^ sc.toNat) q1 q2 ((2 : Int) ^ sc.toNat) ((2 : Int) ^ sc.toNat) 0 j).1) (fun j => (ty (2 ^ sc.toNat) q1 q2 ((2 : Int) ^ sc.toNat) ((2 : Int) ^ sc.toNat) 0 j).2) n + (ty (2 ^ sc.toNat) q1 q2 ((2 : Int) ^ sc.toNat) ((2 : Int) ^ sc.toNat) 0 n).2).natAbs))]) ∧ (0 ≤ (ty (2 ^ sc.toNat) q1 q2 ((2 : Int) ^ sc.toNat) ((2 : Int) ^ sc.toNat) 0 n).2 ∧ (ty (2 ^ sc.toNat) q1 q2 ((2 : Int) ^ sc.toNat) ((2 : Int) ^ sc.toNat) 0 n).2 < 8) := by
 obtain ⟨n, n1, n2, n3⟩ := ty_end h 0
 have tf := ty_facts h 0
 have tl : ∀ z : Int, 0 ≤ z → z ≤ 2 ^ sc.toNat → L z.natAbs ≤ 70 := fun z z0 z1 => by
  have p : ((2 ^ sc.toNat : Nat) : Int) = (2 : Int) ^ sc.toNat := (pow_cast _).symm
  exact abs_big (t := sc.toNat) (c := 1) oO oO oO
 have l1 : ∀ j, L (ty (2 ^ sc.toNat) q1 q2 ((2 : Int) ^ sc.toNat) ((2 : Int) ^ sc.toNat) 0 j).1.natAbs ≤ 70 := fun j => tl _ (tf j).1 (by have := tf j; omega)
 have l2 : ∀ j, L (ty (2 ^ sc.toNat) q1 q2 ((2 : Int) ^ sc.toNat) ((2 : Int) ^ sc.toNat) 0 j).2.natAbs ≤ 70 := fun j => tl _ (by have := tf j; omega) (tf j).2.2.1
 have sb := tyS_bd (p1 := (fun j => (ty (2 ^ sc.toNat) q1 q2 ((2 : Int) ^ sc.toNat) ((2 : Int) ^ sc.toNat) 0 j).1)) (p2 := (fun j => (ty (2 ^ sc.toNat) q1 q2 ((2 : Int) ^ sc.toNat) ((2 : Int) ^ sc.toNat) 0 j).2)) (T := 2 ^ sc.toNat) tf
 have ls : ∀ j, j ≤ n → L (tyA (fun j => (ty (2 ^ sc.toNat) q1 q2 ((2 : Int) ^ sc.toNat) ((2 : Int) ^ sc.toNat) 0 j).1) (fun j => (ty (2 ^ sc.toNat) q1 q2 ((2 : Int) ^ sc.toNat) ((2 : Int) ^ sc.toNat) 0 j).2) j).natAbs ≤ 70 ∧ L (tyB (fun j => (ty (2 ^ sc.toNat) q1 q2 ((2 : Int) ^ sc.toNat) ((2 : Int) ^ sc.toNat) 0 j).1) (fun j => (ty (2 ^ sc.toNat) q1 q2 ((2 : Int) ^ sc.toNat) ((2 : Int) ^ sc.toNat) 0 j).2) j).natAbs ≤ 70 := fun j hj => by
  have b := (sb j).1
  have p : ((2 ^ sc.toNat : Nat) : Int) = (2 : Int) ^ sc.toNat := (pow_cast _).symm
  have m := Int.mul_le_mul_of_nonneg_right (show (j : Int) + 1 ≤ 1000 by omega) (Int.le_of_lt (two_pos sc.toNat))
  exact ⟨abs_big (t := sc.toNat) (c := 1000) oO oO oO, abs_big (t := sc.toNat) (c := 1000) oO oO oO⟩
 have lq1 := tl q1 h.q0 (by have := h.q12; have := h.qT; omega)
 have lq2 := tl q2 (by have := h.q0; have := h.q12; omega) h.qT
 refine ⟨n, ?_, n1, fx_tay n 0 q1 q2 sc (fun j => (ty (2 ^ sc.toNat) q1 q2 ((2 : Int) ^ sc.toNat) ((2 : Int) ^ sc.toNat) 0 j).1) (fun j => (ty (2 ^ sc.toNat) q1 q2 ((2 : Int) ^ sc.toNat) ((2 : Int) ^ sc.toNat) 0 j).2) (fun j => (ty (2 ^ sc.toNat) q1 q2 ((2 : Int) ^ sc.toNat) ((2 : Int) ^ sc.toNat) 0 j).1 * q1 / 2 ^ sc.toNat) (fun j => -(-((ty (2 ^ sc.toNat) q1 q2 ((2 : Int) ^ sc.toNat) ((2 : Int) ^ sc.toNat) 0 j).2 * q2) / 2 ^ sc.toNat)) (fun j hj => ?_) (fun j hj => ?_) (fun j k hj hk => ?_) (fun j hj he => ?_) (fun j hj he => ?_) oO (fun j hj => ⟨Nat.le_trans (ls j hj).1 oO, Nat.le_trans (ls j hj).2 oO, Nat.le_trans (l2 j) oO⟩), by have := tf n; omega, n2⟩
 ·refine Decidable.byContradiction fun hn => ?_
  rw [show n = 0 by omega] at n2
  have n2 : (2 : Int) ^ sc.toNat < 8 := n2
  have := h.hT
  omega
 ·refine impl_eq (congrArg V.bool (decide_eq_decide.2 ?_)) (fx_Tiny (ty (2 ^ sc.toNat) q1 q2 ((2 : Int) ^ sc.toNat) ((2 : Int) ^ sc.toNat) 0 j).1 (ty (2 ^ sc.toNat) q1 q2 ((2 : Int) ^ sc.toNat) ((2 : Int) ^ sc.toNat) 0 j).2 (by have := l2 j; omega))
  have z := tf j
  constructor
  ·intro q
   exact Decidable.byContradiction fun hn => n3 j oO oO
  ·intro q
   rw [show j = n by omega]
   have := tf n
   omega
 ·exact fx_Mul (ty (2 ^ sc.toNat) q1 q2 ((2 : Int) ^ sc.toNat) ((2 : Int) ^ sc.toNat) 0 j).1 (ty (2 ^ sc.toNat) q1 q2 ((2 : Int) ^ sc.toNat) ((2 : Int) ^ sc.toNat) 0 j).2 q1 q2 sc (by have := l1 j; omega) (by have := l2 j; omega) oO oO oO
 ·subst hk
  have z := ty_next h 0 j
  have g1 := tl _ z.1.1 z.1.2
  have g2 := tl _ z.2.1.1 z.2.1.2
  exact fx_Part _ _ (mT 0 j) (by show L ((ty (2 ^ sc.toNat) q1 q2 ((2 : Int) ^ sc.toNat) ((2 : Int) ^ sc.toNat) 0 j).1 * q1 / 2 ^ sc.toNat).natAbs ≤ 65536; omega) (by show L (-(-((ty (2 ^ sc.toNat) q1 q2 ((2 : Int) ^ sc.toNat) ((2 : Int) ^ sc.toNat) 0 j).2 * q2) / 2 ^ sc.toNat)).natAbs ≤ 65536; omega) ⟨by have := mT_ge 0 j; omega, mT_le oO oO⟩
 ·have z := ls j oO
  have y1 := l1 (j + 1)
  have y2 := l2 (j + 1)
  exact impl_eq (sp_eq (if_pos he).symm (if_pos he).symm) (fx_Sub (tyA (fun j => (ty (2 ^ sc.toNat) q1 q2 ((2 : Int) ^ sc.toNat) ((2 : Int) ^ sc.toNat) 0 j).1) (fun j => (ty (2 ^ sc.toNat) q1 q2 ((2 : Int) ^ sc.toNat) ((2 : Int) ^ sc.toNat) 0 j).2) j) (tyB (fun j => (ty (2 ^ sc.toNat) q1 q2 ((2 : Int) ^ sc.toNat) ((2 : Int) ^ sc.toNat) 0 j).1) (fun j => (ty (2 ^ sc.toNat) q1 q2 ((2 : Int) ^ sc.toNat) ((2 : Int) ^ sc.toNat) 0 j).2) j) (ty (2 ^ sc.toNat) q1 q2 ((2 : Int) ^ sc.toNat) ((2 : Int) ^ sc.toNat) 0 (j + 1)).1 (ty (2 ^ sc.toNat) q1 q2 ((2 : Int) ^ sc.toNat) ((2 : Int) ^ sc.toNat) 0 (j + 1)).2 oO oO oO oO)
 ·have z := ls j oO
  have y1 := l1 (j + 1)
  have y2 := l2 (j + 1)
  have he : ¬ j % 2 = 0 := by omega
  exact impl_eq (sp_eq (if_neg he).symm (if_neg he).symm) (fx_Add (tyA (fun j => (ty (2 ^ sc.toNat) q1 q2 ((2 : Int) ^ sc.toNat) ((2 : Int) ^ sc.toNat) 0 j).1) (fun j => (ty (2 ^ sc.toNat) q1 q2 ((2 : Int) ^ sc.toNat) ((2 : Int) ^ sc.toNat) 0 j).2) j) (tyB (fun j => (ty (2 ^ sc.toNat) q1 q2 ((2 : Int) ^ sc.toNat) ((2 : Int) ^ sc.toNat) 0 j).1) (fun j => (ty (2 ^ sc.toNat) q1 q2 ((2 : Int) ^ sc.toNat) ((2 : Int) ^ sc.toNat) 0 j).2) j) (ty (2 ^ sc.toNat) q1 q2 ((2 : Int) ^ sc.toNat) ((2 : Int) ^ sc.toNat) 0 (j + 1)).1 (ty (2 ^ sc.toNat) q1 q2 ((2 : Int) ^ sc.toNat) ((2 : Int) ^ sc.toNat) 0 (j + 1)).2 oO oO oO oO)
theorem sq_T {T x : Int} (hT : 16 ≤ T) (h0 : 0 ≤ x) (h1 : x ≤ T) {X : Rat} (hX : (x : Rat) = X * (T : Rat)) :
  (0 ≤ x * x / T ∧ x * x / T ≤ -(-(x * x) / T) ∧ -(-(x * x) / T) ≤ T ∧ -(-(x * x) / T) - x * x / T ≤ 1) ∧ ((x * x / T : Int) : Rat) ≤ X * X * (T : Rat) ∧ X * X * (T : Rat) ≤ ((-(-(x * x) / T) : Int) : Rat) := by
 have T0 : 0 < T := by omega
 have T0R : (0 : Rat) < (T : Rat) := Rat.intCast_pos.2 T0
 have k := Int.mul_le_mul h1 h1 h0 oO
 have k0 := Int.mul_nonneg h0 h0
 have a0 : 0 ≤ x * x / T := Int.ediv_nonneg k0 (Int.le_of_lt T0)
 have a1 := Int.ediv_mul_le (x * x) (show T ≠ 0 by omega)
 have a2 := Int.lt_ediv_add_one_mul_self (x * x) T0
 have b1 := Int.ediv_mul_le (-(x * x)) (show T ≠ 0 by omega)
 have b2 := Int.lt_ediv_add_one_mul_self (-(x * x)) T0
 have f1 := (fl_R (a := x * x) T0).1
 have f2 := (ce_R (a := x * x) T0).1
 have e : X * X * (T : Rat) * (T : Rat) = ((x * x : Int) : Rat) := by rw [Rat.intCast_mul, hX]; grind
 generalize x * x = y at *
 generalize y / T = u at *
 generalize -y / T = v at *
 refine ⟨⟨a0, ?_, ?_, ?_⟩, Rat.le_of_mul_le_mul_right (c := (T : Rat)) (by rw [e]; exact f1) T0R, Rat.le_of_mul_le_mul_right (c := (T : Rat)) (by rw [e]; exact f2) T0R⟩
 ·refine Decidable.byContradiction fun hn => ?_
  have m := Int.mul_le_mul_of_nonneg_right (show 1 ≤ u + v by omega) (Int.le_of_lt T0)
  rw [Int.add_mul] at m
  omega
 ·refine Decidable.byContradiction fun hn => ?_
  have m := Int.mul_le_mul_of_nonneg_right (show v + 1 ≤ -T by omega) (Int.le_of_lt T0)
  rw [Int.neg_mul] at m
  omega
 ·refine Decidable.byContradiction fun hn => ?_
  have m := Int.mul_le_mul_of_nonneg_right (show u + 1 + (v + 1) ≤ 0 by omega) (Int.le_of_lt T0)
  rw [Int.add_mul] at m
  omega
theorem fx_wavesE (x sc : Int) (X : Rat) (hs : 24 ≤ sc ∧ sc ≤ 400) (h0 : 0 ≤ x) (h1 : x ≤ 2 ^ sc.toNat) (hX : X * ((2 ^ sc.toNat : Int) : Rat) = (x : Rat)) :
  ∃ s1 s2 k1 k2 : Int, Impl Tryz.prog Amb 206 [(zV x), (.int .i64 sc)] (.tup [(.agg [(.bool (decide (s1 < 0))), (N s1.natAbs), (.bool (decide (s2 < 0))), (N s2.natAbs)]), (.agg [(.bool (decide (k1 < 0))), (N k1.natAbs), (.bool (decide (k2 < 0))), (N k2.natAbs)])]) ∧ ((s1 ≤ s2 ∧ s2 - s1 ≤ 8000) ∧ k1 ≤ k2 ∧ k2 - k1 ≤ 8000) ∧ ((L s1.natAbs ≤ 70 ∧ L s2.natAbs ≤ 70) ∧ L k1.natAbs ≤ 70 ∧ L k2.natAbs ≤ 70) ∧
   ∃ N, ∀ K, N ≤ K → ((s1 : Rat) ≤ SN X K * ((2 ^ sc.toNat : Int) : Rat) ∧ SN X K * ((2 ^ sc.toNat : Int) : Rat) ≤ (s2 : Rat)) ∧ ((k1 : Rat) ≤ CS X K * ((2 ^ sc.toNat : Int) : Rat) ∧ CS X K * ((2 ^ sc.toNat : Int) : Rat) ≤ (k2 : Rat)) := by
 have T16 : (16 : Int) ≤ 2 ^ sc.toNat := by
  have p := Int.ofNat_le.2 (Nat.pow_le_pow_right (n := 2) oO (show 4 ≤ sc.toNat by omega))
  rw [← pow_cast, ← pow_cast] at p
  exact p
 have T0 : (0 : Rat) < ((2 ^ sc.toNat : Int) : Rat) := Rat.intCast_pos.2 oO
 obtain ⟨⟨a1, a2, a3, a4⟩, b1, b2⟩ := sq_T T16 h0 h1 hX.symm
 have X0 : 0 ≤ X := Rat.le_of_mul_le_mul_right (c := ((2 ^ sc.toNat : Int) : Rat)) (by rw [Rat.zero_mul, hX]; exact Rat.intCast_nonneg.2 h0) T0
 have X1 : X ≤ 1 := Rat.le_of_mul_le_mul_right (c := ((2 ^ sc.toNat : Int) : Rat)) (by rw [Rat.one_mul, hX]; exact Rat.intCast_le_intCast.2 h1) T0
 have p : ((2 ^ sc.toNat : Nat) : Int) = (2 : Int) ^ sc.toNat := (pow_cast _).symm
 have lx : L x.natAbs ≤ 70 := abs_big (t := sc.toNat) (c := 1) oO oO oO
 have hM := fx_Mul x x x x sc oO oO oO oO oO
 have hO := fx_One sc oO
 rw [Int.one_mul] at hO
 generalize x * x / 2 ^ sc.toNat = q1 at *
 generalize -(-(x * x) / 2 ^ sc.toNat) = q2 at *
 have H1 : TyH (2 ^ sc.toNat) q1 q2 x x := ⟨T16, a1, a2, a3, a4, h0, Int.le_refl _, h1, by omega⟩
 have H0 : TyH (2 ^ sc.toNat) q1 q2 (2 ^ sc.toNat) (2 ^ sc.toNat) := ⟨T16, a1, a2, a3, a4, by omega, Int.le_refl _, Int.le_refl _, by omega⟩
 obtain ⟨n, n1, hA, hA2⟩ := fx_taySN sc q1 q2 x hs H1
 obtain ⟨m, m1, m2, hB, hB2⟩ := fx_tayCS sc q1 q2 hs H0
 have w1 := tyS_bd (p1 := fun j => (ty (2 ^ sc.toNat) q1 q2 x x 1 j).1) (p2 := fun j => (ty (2 ^ sc.toNat) q1 q2 x x 1 j).2) (T := 2 ^ sc.toNat) (ty_facts H1 1) n
 have w0 := tyS_bd (p1 := fun j => (ty (2 ^ sc.toNat) q1 q2 (2 ^ sc.toNat) (2 ^ sc.toNat) 0 j).1) (p2 := fun j => (ty (2 ^ sc.toNat) q1 q2 (2 ^ sc.toNat) (2 ^ sc.toNat) 0 j).2) (T := 2 ^ sc.toNat) (ty_facts H0 0) m
 have e1 := fun K hK => ty_SN H1 X0 X1 hX.symm b1 b2 (n := n) (K := K) hK
 have e0 := fun K hK => ty_CS H0 X0 X1 b1 b2 (n := m) m1 (K := K) hK
 have mn := Int.mul_le_mul_of_nonneg_right (show (n : Int) + 1 ≤ 500 by omega) (Int.le_of_lt (two_pos sc.toNat))
 have mm := Int.mul_le_mul_of_nonneg_right (show (m : Int) + 1 ≤ 500 by omega) (Int.le_of_lt (two_pos sc.toNat))
 refine ⟨_, _, _, _, fx_waves x q1 q2 _ _ _ _ _ _ sc hM hA hO hB oO, ?_, ?_, 2 * n + 2 + (2 * m + 1), fun K hK => ⟨e1 K oO, e0 K oO⟩⟩
 ·clear e1 e0 hA hB hM hO
  omega
 ·clear e1 e0 hA hB hM hO b1 b2
  refine ⟨⟨abs_big (t := sc.toNat) (c := 1000) ?_ oO oO, abs_big (t := sc.toNat) (c := 1000) ?_ oO oO⟩, abs_big (t := sc.toNat) (c := 1000) ?_ oO oO, abs_big (t := sc.toNat) (c := 1000) ?_ oO oO⟩ <;> omega
theorem fx_SinJN (m ee more sc q r1 r2 x s1 s2 k1 k2 : Int) (hs : (0 : Int) ≤ sc ∧ sc ≤ 5000) (hm : more = 0 ∨ more = 1) (hr : r1 < 0) (c4 : Impl Tryz.prog Amb 94 [(yV m ee), (.int .i64 (sc + 24))] (.tup [(.int .i64 q), (.agg [(.bool (decide (r1 < 0))), (N r1.natAbs), (.bool (decide (r2 < 0))), (N r2.natAbs)])])) (c5 : Impl Tryz.prog Amb 129 [(.bool false), (N r1.natAbs)] (zV x)) (c6 : Impl Tryz.prog Amb 206 [(zV x), (.int .i64 (sc + 24))] (.tup [(.agg [(.bool (decide (s1 < 0))), (N s1.natAbs), (.bool (decide (s2 < 0))), (N s2.natAbs)]), (.agg [(.bool (decide (k1 < 0))), (N k1.natAbs), (.bool (decide (k2 < 0))), (N k2.natAbs)])])) (l1 : L r1.natAbs ≤ 1000) (l2 : L r2.natAbs ≤ 1000) (l3 : L s1.natAbs ≤ 1000) (l4 : L s2.natAbs ≤ 1000) (l5 : L k1.natAbs ≤ 1000) (l6 : L k2.natAbs ≤ 1000) :
  Impl Tryz.prog Amb 157 [(yV m ee), (.int .i64 more), (.int .i64 sc)] (.agg [(.bool (decide ((((yA ((q + more) % 4) (-s2) (-s1) k1 k2) - (r2 - r1)) / 2 ^ 24) < 0))), (N ((((yA ((q + more) % 4) (-s2) (-s1) k1 k2) - (r2 - r1)) / 2 ^ 24).natAbs)), (.bool (decide ((-(-((yB ((q + more) % 4) (-s2) (-s1) k1 k2) + (r2 - r1)) / 2 ^ 24)) < 0))), (N ((-(-((yB ((q + more) % 4) (-s2) (-s1) k1 k2) + (r2 - r1)) / 2 ^ 24)).natAbs))]) := by
 have hw := wrem4 q more hm
 have a1 := L_abs_sub r2 r1
 have a2 := L_abs_neg s1
 have a3 := L_abs_neg s2
 have a4 := L_abs_neg k1
 have a5 := L_abs_neg k2
 have a6 := L_abs_neg (-s1)
 have a7 := L_abs_neg (-s2)
 have b0 := L_abs_sub (-s2) (r2 - r1)
 have b1 := L_abs_add (-s1) (r2 - r1)
 have b2 := L_abs_sub k1 (r2 - r1)
 have b3 := L_abs_add k2 (r2 - r1)
 have b4 := L_abs_sub (-(-s1)) (r2 - r1)
 have b5 := L_abs_add (-(-s2)) (r2 - r1)
 have b6 := L_abs_sub (-k2) (r2 - r1)
 have b7 := L_abs_add (-k1) (r2 - r1)
 rcases (show (q + more) % 4 = 0 ∨ (q + more) % 4 = 1 ∨ (q + more) % 4 = 2 ∨ (q + more) % 4 = 3 by omega) with hj | hj | hj | hj
 ·have hH := fx_Half ((-s2) - (r2 - r1)) ((-s1) + (r2 - r1)) ((sc + 24) - sc) oO oO oO
  rw [show (sc + 24 - sc).toNat = 24 by omega] at hH
  rw [hj] at hw
  rw [hj]
  exact fx_Sin0N m ee more sc q r1 r2 x s1 s2 k1 k2 _ _ oO hw oO oO c4 c5 c6 hH oO oO oO oO oO oO
 ·have hH := fx_Half (k1 - (r2 - r1)) (k2 + (r2 - r1)) ((sc + 24) - sc) oO oO oO
  rw [show (sc + 24 - sc).toNat = 24 by omega] at hH
  rw [hj] at hw
  rw [hj]
  exact fx_Sin1N m ee more sc q r1 r2 x s1 s2 k1 k2 _ _ oO hw oO oO c4 c5 c6 hH oO oO oO oO oO oO
 ·have hH := fx_Half ((-(-s1)) - (r2 - r1)) ((-(-s2)) + (r2 - r1)) ((sc + 24) - sc) oO oO oO
  rw [show (sc + 24 - sc).toNat = 24 by omega] at hH
  rw [hj] at hw
  rw [hj]
  exact fx_Sin2N m ee more sc q r1 r2 x s1 s2 k1 k2 _ _ oO hw oO oO c4 c5 c6 hH oO oO oO oO oO oO
 ·have hH := fx_Half ((-k2) - (r2 - r1)) ((-k1) + (r2 - r1)) ((sc + 24) - sc) oO oO oO
  rw [show (sc + 24 - sc).toNat = 24 by omega] at hH
  rw [hj] at hw
  rw [hj]
  exact fx_Sin3N m ee more sc q r1 r2 x s1 s2 k1 k2 _ _ oO hw oO oO c4 c5 c6 hH oO oO oO oO oO oO
theorem fx_SinJP (m ee more sc q r1 r2 x s1 s2 k1 k2 : Int) (hs : (0 : Int) ≤ sc ∧ sc ≤ 5000) (hm : more = 0 ∨ more = 1) (hr : 0 ≤ r1) (c4 : Impl Tryz.prog Amb 94 [(yV m ee), (.int .i64 (sc + 24))] (.tup [(.int .i64 q), (.agg [(.bool (decide (r1 < 0))), (N r1.natAbs), (.bool (decide (r2 < 0))), (N r2.natAbs)])])) (c5 : Impl Tryz.prog Amb 129 [(.bool false), (N r1.natAbs)] (zV x)) (c6 : Impl Tryz.prog Amb 206 [(zV x), (.int .i64 (sc + 24))] (.tup [(.agg [(.bool (decide (s1 < 0))), (N s1.natAbs), (.bool (decide (s2 < 0))), (N s2.natAbs)]), (.agg [(.bool (decide (k1 < 0))), (N k1.natAbs), (.bool (decide (k2 < 0))), (N k2.natAbs)])])) (l1 : L r1.natAbs ≤ 1000) (l2 : L r2.natAbs ≤ 1000) (l3 : L s1.natAbs ≤ 1000) (l4 : L s2.natAbs ≤ 1000) (l5 : L k1.natAbs ≤ 1000) (l6 : L k2.natAbs ≤ 1000) :
  Impl Tryz.prog Amb 157 [(yV m ee), (.int .i64 more), (.int .i64 sc)] (.agg [(.bool (decide ((((yA ((q + more) % 4) s1 s2 k1 k2) - (r2 - r1)) / 2 ^ 24) < 0))), (N ((((yA ((q + more) % 4) s1 s2 k1 k2) - (r2 - r1)) / 2 ^ 24).natAbs)), (.bool (decide ((-(-((yB ((q + more) % 4) s1 s2 k1 k2) + (r2 - r1)) / 2 ^ 24)) < 0))), (N ((-(-((yB ((q + more) % 4) s1 s2 k1 k2) + (r2 - r1)) / 2 ^ 24)).natAbs))]) := by
 have hw := wrem4 q more hm
 have a1 := L_abs_sub r2 r1
 have a2 := L_abs_neg s1
 have a3 := L_abs_neg s2
 have a4 := L_abs_neg k1
 have a5 := L_abs_neg k2
 have a6 := L_abs_neg (-s1)
 have a7 := L_abs_neg (-s2)
 have b0 := L_abs_sub s1 (r2 - r1)
 have b1 := L_abs_add s2 (r2 - r1)
 have b2 := L_abs_sub k1 (r2 - r1)
 have b3 := L_abs_add k2 (r2 - r1)
 have b4 := L_abs_sub (-s2) (r2 - r1)
 have b5 := L_abs_add (-s1) (r2 - r1)
 have b6 := L_abs_sub (-k2) (r2 - r1)
 have b7 := L_abs_add (-k1) (r2 - r1)
 rcases (show (q + more) % 4 = 0 ∨ (q + more) % 4 = 1 ∨ (q + more) % 4 = 2 ∨ (q + more) % 4 = 3 by omega) with hj | hj | hj | hj
 ·have hH := fx_Half (s1 - (r2 - r1)) (s2 + (r2 - r1)) ((sc + 24) - sc) oO oO oO
  rw [show (sc + 24 - sc).toNat = 24 by omega] at hH
  rw [hj] at hw
  rw [hj]
  exact fx_Sin0P m ee more sc q r1 r2 x s1 s2 k1 k2 _ _ oO hw oO oO c4 c5 c6 hH oO oO oO oO oO oO
 ·have hH := fx_Half (k1 - (r2 - r1)) (k2 + (r2 - r1)) ((sc + 24) - sc) oO oO oO
  rw [show (sc + 24 - sc).toNat = 24 by omega] at hH
  rw [hj] at hw
  rw [hj]
  exact fx_Sin1P m ee more sc q r1 r2 x s1 s2 k1 k2 _ _ oO hw oO oO c4 c5 c6 hH oO oO oO oO oO oO
 ·have hH := fx_Half ((-s2) - (r2 - r1)) ((-s1) + (r2 - r1)) ((sc + 24) - sc) oO oO oO
  rw [show (sc + 24 - sc).toNat = 24 by omega] at hH
  rw [hj] at hw
  rw [hj]
  exact fx_Sin2P m ee more sc q r1 r2 x s1 s2 k1 k2 _ _ oO hw oO oO c4 c5 c6 hH oO oO oO oO oO oO
 ·have hH := fx_Half ((-k2) - (r2 - r1)) ((-k1) + (r2 - r1)) ((sc + 24) - sc) oO oO oO
  rw [show (sc + 24 - sc).toNat = 24 by omega] at hH
  rw [hj] at hw
  rw [hj]
  exact fx_Sin3P m ee more sc q r1 r2 x s1 s2 k1 k2 _ _ oO hw oO oO c4 c5 c6 hH oO oO oO oO oO oO
theorem fx_SinE (m ee more sc : Int) (hmo : more = 0 ∨ more = 1) (hs : 24 ≤ sc ∧ sc ≤ 290) (hm : L (m).natAbs ≤ 20) (he : -440 ≤ ee ∧ ee ≤ 130) (d1 : -4294967296 ≤ dv m ee) (d2 : dv m ee ≤ 4294967296) :
  ∃ u1 u2 : Int, Impl Tryz.prog Amb 157 [(yV m ee), (.int .i64 more), (.int .i64 sc)] (.agg [(.bool (decide (u1 < 0))), (N u1.natAbs), (.bool (decide (u2 < 0))), (N u2.natAbs)]) ∧ u1 ≤ u2 ∧ u2 - u1 ≤ 2 ∧ EnE (SC more (dv m ee)) sc.toNat u1 u2 (sE * ((2 ^ sc.toNat : Int) : Rat)) ∧ L u1.natAbs ≤ 75 ∧ L u2.natAbs ≤ 75 := by
 obtain ⟨q, r1, r2, hT, hq, r12, rw_, qb, er1, er2⟩ := fx_TurnE m ee (sc + 24) oO hm he d1 d2
 obtain ⟨t, ht⟩ : ∃ t : Nat, (sc + 24).toNat = t := ⟨_, rfl⟩
 rw [ht] at er1 er2
 have T0 : (0 : Rat) < ((2 ^ t : Int) : Rat) := Rat.intCast_pos.2 (two_pos t)
 have T48 : (281474976710656 : Int) ≤ 2 ^ t := by
  have p := Int.ofNat_le.2 (Nat.pow_le_pow_right (n := 2) oO (show 48 ≤ t by omega))
  rw [← pow_cast, ← pow_cast] at p
  exact p
 have m1 := Rat.mul_le_mul_of_nonneg_right qb.1 (Rat.le_of_lt T0)
 have m2 := Rat.mul_le_mul_of_nonneg_right qb.2 (Rat.le_of_lt T0)
 rw [Rat.mul_assoc] at m1 m2
 have R1 : 100 * r1 ≤ 80 * 2 ^ t := by
  refine Rat.intCast_le_intCast.1 ?_
  rw [Rat.intCast_mul, Rat.intCast_mul]
  show (100 : Rat) * _ ≤ 80 * _
  grind
 have R2 : -(80 * 2 ^ t) ≤ 100 * r2 := by
  refine Rat.intCast_le_intCast.1 ?_
  rw [Rat.intCast_neg, Rat.intCast_mul, Rat.intCast_mul]
  show -((80 : Rat) * _) ≤ 100 * _
  grind
 have p : ((2 ^ t : Nat) : Int) = (2 : Int) ^ t := (pow_cast _).symm
 have l1 : L r1.natAbs ≤ 70 := abs_big (t := t) (c := 1) oO oO oO
 have l2 : L r2.natAbs ≤ 70 := abs_big (t := t) (c := 2) oO oO oO
 have hNa := int_Nat false r1.natAbs oO
 rw [sgn_f] at hNa
 have ie := inv_one T0
 have hX : (((r1.natAbs : Int) : Rat) * (((2 ^ t : Int) : Rat))⁻¹) * ((2 ^ t : Int) : Rat) = ((r1.natAbs : Int) : Rat) := by rw [Rat.mul_assoc, ie, Rat.mul_one]
 obtain ⟨s1, s2, k1, k2, hW, ⟨⟨w1, w2⟩, w3, w4⟩, ⟨⟨g1, g2⟩, g3, g4⟩, N, en⟩ := fx_wavesE (r1.natAbs : Int) (sc + 24) (((r1.natAbs : Int) : Rat) * (((2 ^ t : Int) : Rat))⁻¹) oO oO (by rw [ht]; omega) (by rw [ht]; exact hX)
 rw [ht] at en
 have jb : 0 ≤ (q + more) % 4 ∧ (q + more) % 4 ≤ 3 := by omega
 have tsc : t = sc.toNat + 24 := by omega
 have c300 : r2 - r1 ≤ 300 := rw_
 have n1 := L_abs_neg s1
 have n2 := L_abs_neg s2
 have zz := L_abs_sub r2 r1
 by_cases hr : r1 < 0
 ·have hS := fx_SinJN m ee more sc q r1 r2 _ s1 s2 k1 k2 oO hmo hr hT hNa hW oO oO oO oO oO oO
  have y := quad_y (s1 := -s2) (s2 := -s1) (k1 := k1) (k2 := k2) (W := 8000) jb oO oO w3 w4
  have yl := quad_L (j := (q + more) % 4) (s1 := -s2) (s2 := -s1) (k1 := k1) (k2 := k2) (B := 70) oO oO g3 g4
  have e := sin_EnE (d := dv m ee) (ρ := -(((r1.natAbs : Int) : Rat) * (((2 ^ t : Int) : Rat))⁻¹)) (q := q) (more := more) (W := 0) (t := t) (y1 := yA ((q + more) % 4) (-s2) (-s1) k1 k2) (y2 := yB ((q + more) % 4) (-s2) (-s1) k1 k2) hmo (by unfold sM; omega) er1 er2 (by rw [Rat.neg_mul, hX, show (r1.natAbs : Int) = -r1 by omega, Rat.intCast_neg, Rat.neg_neg]) oO ⟨N, fun K hK => by
   have z := en K hK
   refine quad_enc jb ?_ ?_
   ·rw [SN_neg, Rat.intCast_neg, Rat.intCast_neg]; constructor <;> grind
   ·rw [CS_neg]; exact z.2⟩
  generalize yA ((q + more) % 4) (-s2) (-s1) k1 k2 = ya at *
  generalize yB ((q + more) % 4) (-s2) (-s1) k1 k2 = yb at *
  have hw := half_w (a := ya - (r2 - r1)) (b := yb + (r2 - r1)) (W := 1) (n := 24) oO
  have v1 := L_abs_sub ya (r2 - r1)
  have v2 := L_abs_add yb (r2 - r1)
  have o1 := L_abs_shr (ya - (r2 - r1)) 24
  have o2 := L_abs_neg (yb + (r2 - r1))
  have o3 := L_abs_shr (-(yb + (r2 - r1))) 24
  have o4 := L_abs_neg (-(yb + (r2 - r1)) / 2 ^ 24)
  have le : (ya - (r2 - r1)) / 2 ^ 24 ≤ -(-(yb + (r2 - r1)) / 2 ^ 24) := by
   have : (2 : Int) ^ 24 = 16777216 := rfl
   rw [this]; omega
  exact ⟨_, _, hS, le, hw, e.half tsc, by omega, by omega⟩
 ·have hS := fx_SinJP m ee more sc q r1 r2 _ s1 s2 k1 k2 oO hmo oO hT hNa hW oO oO oO oO oO oO
  have y := quad_y (s1 := s1) (s2 := s2) (k1 := k1) (k2 := k2) (W := 8000) jb oO oO w3 w4
  have yl := quad_L (j := (q + more) % 4) (s1 := s1) (s2 := s2) (k1 := k1) (k2 := k2) (B := 70) g1 g2 g3 g4
  have e := sin_EnE (d := dv m ee) (ρ := ((r1.natAbs : Int) : Rat) * (((2 ^ t : Int) : Rat))⁻¹) (q := q) (more := more) (W := 0) (t := t) (y1 := yA ((q + more) % 4) s1 s2 k1 k2) (y2 := yB ((q + more) % 4) s1 s2 k1 k2) hmo (by unfold sM; omega) er1 er2 (by rw [hX, show (r1.natAbs : Int) = r1 by omega]) oO ⟨N, fun K hK => by
   have z := en K hK
   exact quad_enc jb z.1 z.2⟩
  generalize yA ((q + more) % 4) s1 s2 k1 k2 = ya at *
  generalize yB ((q + more) % 4) s1 s2 k1 k2 = yb at *
  have hw := half_w (a := ya - (r2 - r1)) (b := yb + (r2 - r1)) (W := 1) (n := 24) oO
  have v1 := L_abs_sub ya (r2 - r1)
  have v2 := L_abs_add yb (r2 - r1)
  have o1 := L_abs_shr (ya - (r2 - r1)) 24
  have o2 := L_abs_neg (yb + (r2 - r1))
  have o3 := L_abs_shr (-(yb + (r2 - r1))) 24
  have o4 := L_abs_neg (-(yb + (r2 - r1)) / 2 ^ 24)
  have le : (ya - (r2 - r1)) / 2 ^ 24 ≤ -(-(yb + (r2 - r1)) / 2 ^ 24) := by
   have : (2 : Int) ^ 24 = 16777216 := rfl
   rw [this]; omega
  exact ⟨_, _, hS, le, hw, e.half tsc, by omega, by omega⟩
end Go.Proofs.YtcbihoojfakhdaaGreatDoor

namespace Go.Proofs.YtcbihoojfakhdaaGreatDoor
open Go.RowKit
set_option maxRecDepth 100000
set_option maxHeartbeats 2000000
theorem reach_eq (lo hi c : Int) : iLe (cmpI (lo + ((c - lo) - (Int.fdiv (c - lo) 4) * 4)) hi) 0 = decide (lo + (c - lo) % 4 ≤ hi) := by
 unfold iLe
 refine decide_eq_decide.2 ?_
 rw [cmpI_le, Int.fdiv_eq_ediv_of_nonneg _ oO]
 omega
theorem L_abs_min (x y : Int) : L (min x y).natAbs ≤ max (L x.natAbs) (L y.natAbs) := by
 rcases (show min x y = x ∨ min x y = y by omega) with h | h <;> rw [h] <;> omega
theorem L_abs_max (x y : Int) : L (max x y).natAbs ≤ max (L x.natAbs) (L y.natAbs) := by
 rcases (show max x y = x ∨ max x y = y by omega) with h | h <;> rw [h] <;> omega
theorem ci_insT (m : Int) (e : Int) (c0 : L (m).natAbs ≤ 4000) (c1 : (-60000 : Int) ≤ e ∧ e ≤ 60000) (c2 : cmpD m e 1 32 ≤ 0) (c3 : cmpD (-m) e 1 32 ≤ 0) : Impl Tryz.prog Amb 93 [(yV m e)] (.bool true) := by
 have l1 := L_lit 1 (by decide)
 exact impl_ob hP hAmb Tryz.func93 (by kernel_rfl) (.lit <| .call (zV (1 : Int)) <| .lits 5 <| .call (.int .i64 (cmpD m e (1 : Int) 32)) <| .lit <| .yes <| .lits 3 <| .call (yV (-m) e) <| .lits 4 <| .call (.int .i64 (cmpD (-m) e (1 : Int) 32)) <| .lits 4 <| .ret)
  (cast_ob (aI True.intro (aI (int_Of 1 oO) (have f4 := (L_i64 oO : L (1 : Int).natAbs ≤ 2); aI (dy_Cmp m e (1 : Int) 32 oO oO oO oO) (have f3 := cmpD_range m e (1 : Int) 32; aI (iLe_mk oO : (iLe (cmpD m e (1 : Int) 32) 0) = true) (aI (dy_Neg m e oO) (have f2 := L_abs_neg m; aI (dy_Cmp (-m) e (1 : Int) 32 oO oO oO oO) (have f1 := cmpD_range (-m) e (1 : Int) 32; (vsub_of (congrArg V.bool (iLe_mk oO)) : vsub (.bool (iLe (cmpD (-m) e (1 : Int) 32) 0)) (.bool true))))))))) (by kernel_rfl))
theorem ci_rea (lo : Int) (hi : Int) (c : Int) (c0 : L (lo).natAbs ≤ 8000) (c1 : L (hi).natAbs ≤ 8000) (c2 : -10 ≤ c ∧ c ≤ 10) : Impl Tryz.prog Amb 154 [(zV lo), (zV hi), (.int .i64 c)] (.bool (decide (lo + (c - lo) % 4 ≤ hi))) := by
 have l1 := L_lit 4 (by decide)
 have l2 := L_i64 (n := c) oO
 exact impl_ob hP hAmb Tryz.func154 (by kernel_rfl) (.lit <| .call (zV c) <| .lits 2 <| .call (zV (c - lo)) <| .lit <| .call (zV (4 : Int)) <| .lit <| .call (.tup [(zV (Int.fdiv (c - lo) (4 : Int))), (zV ((c - lo) - (Int.fdiv (c - lo) (4 : Int)) * (4 : Int))), (.bool true)]) <| .lits 3 <| .call (zV (lo + ((c - lo) - (Int.fdiv (c - lo) (4 : Int)) * (4 : Int)))) <| .lits 2 <| .call (.int .i64 (cmpI (lo + ((c - lo) - (Int.fdiv (c - lo) (4 : Int)) * (4 : Int))) hi)) <| .lits 2 <| .ret)
  (cast_ob (aI True.intro (aI (int_Of c oO) (have f7 := (L_i64 oO : L (c : Int).natAbs ≤ 2); aI (int_Sub c lo oO oO) (have f6 := L_abs_sub c lo; aI (int_Of 4 oO) (have f5 := (L_i64 oO : L (4 : Int).natAbs ≤ 2); aI (int_DivMod (c - lo) (4 : Int) oO oO oO) (have f4 := L_rm (c - lo) (4 : Int); have f3 := L_fdiv (c - lo) (4 : Int); aI (int_Add lo ((c - lo) - (Int.fdiv (c - lo) (4 : Int)) * (4 : Int)) oO oO) (have f2 := L_abs_add lo ((c - lo) - (Int.fdiv (c - lo) (4 : Int)) * (4 : Int)); aI (int_Cmp (lo + ((c - lo) - (Int.fdiv (c - lo) (4 : Int)) * (4 : Int))) hi oO oO) (have f1 := cmpI_range (lo + ((c - lo) - (Int.fdiv (c - lo) (4 : Int)) * (4 : Int))) hi; (vsub_of (congrArg V.bool (reach_eq lo hi c)) : vsub (.bool (iLe (cmpI (lo + ((c - lo) - (Int.fdiv (c - lo) (4 : Int)) * (4 : Int))) hi) 0)) (.bool (decide (lo + (c - lo) % 4 ≤ hi)))))))))))) (by kernel_rfl))
theorem ci_tur (m : Int) (ee : Int) (n : Int) (f : Int) (w : Int) (x : Int) (y : Int) (c0 : Impl Tryz.prog Amb 203 [(yV m ee), (.int .i64 (w + 8))] (zV x)) (c1 : Impl Tryz.prog Amb 203 [(yV n f), (.int .i64 (w + 8))] (zV y)) (c2 : L (x).natAbs ≤ 8000) (c3 : L (y).natAbs ≤ 8000) (c4 : 0 ≤ w ∧ w ≤ 5000) : Impl Tryz.prog Amb 153 [(wV m ee n f), (.int .i64 w)] (.tup [(zV (-(-(x - 2) / 2 ^ ((w + 8)).toNat))), (zV ((y + 2) / 2 ^ ((w + 8)).toNat))]) := by
 have l1 := L_lit 2 (by decide)
 have k1 := L_abs_sub x 2
 have k2 := L_abs_add y 2
 have k3 := L_abs_neg (x - 2)
 have k4 := L_abs_shr (-(x - 2)) (w + 8).toNat
 exact impl_ob hP hAmb Tryz.func153 (by kernel_rfl) (.lit <| .yes <| .lits 2 <| .call (zV x) <| .lit <| .call (zV (2 : Int)) <| .lit <| .call (zV (x - (2 : Int))) <| .lits 3 <| .call (zV y) <| .lit <| .call (zV (2 : Int)) <| .lit <| .call (zV (y + (2 : Int))) <| .lits 3 <| .call (zV (-(x - (2 : Int)))) <| .lit <| .call (zV ((-(x - (2 : Int))) / 2 ^ ((w + 8)).toNat)) <| .lit <| .call (zV (-((-(x - (2 : Int))) / 2 ^ ((w + 8)).toNat))) <| .lits 2 <| .call (zV ((y + (2 : Int)) / 2 ^ ((w + 8)).toNat)) <| .lits 3 <| .ret)
  (cast_ob (aI True.intro (aI (fits_i64 oS : (fits .i64 (w + 8)) = true) (aI (c0 ) (aI (int_Of 2 oS) (have f8 := (L_i64 oS : L (2 : Int).natAbs ≤ 2); aI (int_Sub x (2 : Int) oS oS) (have f7 := L_abs_sub x (2 : Int); aI (c1 ) (aI (int_Of 2 oS) (have f6 := (L_i64 oS : L (2 : Int).natAbs ≤ 2); aI (int_Add y (2 : Int) oS oS) (have f5 := L_abs_add y (2 : Int); aI (int_Neg (x - (2 : Int)) oS) (have f4 := L_abs_neg (x - (2 : Int)); aI (int_Shr (-(x - (2 : Int))) (w + 8) oS oS) (have f3 := L_abs_shr (-(x - (2 : Int))) ((w + 8)).toNat; aI (int_Neg ((-(x - (2 : Int))) / 2 ^ ((w + 8)).toNat) oS) (have f2 := L_abs_neg ((-(x - (2 : Int))) / 2 ^ ((w + 8)).toNat); aI (int_Shr (y + (2 : Int)) (w + 8) oS oS) (have f1 := L_abs_shr (y + (2 : Int)) ((w + 8)).toNat; (vsub_refl _ : vsub (.tup [(zV (-((-(x - (2 : Int))) / 2 ^ ((w + 8)).toNat))), (zV ((y + (2 : Int)) / 2 ^ ((w + 8)).toNat))]) (.tup [(zV (-(-(x - 2) / 2 ^ ((w + 8)).toNat))), (zV ((y + 2) / 2 ^ ((w + 8)).toNat))]))))))))))))))) (by kernel_rfl))
theorem ci_les (a : Int) (b : Int) (c0 : L (a).natAbs ≤ 8000) (c1 : L (b).natAbs ≤ 8000) : Impl Tryz.prog Amb 160 [(zV a), (zV b)] (zV (min a b)) := by
 have ci := cmpI_range a b
 exact impl_ob hP hAmb Tryz.func160 (by kernel_rfl) (.lits 3 <| .call (.int .i64 (cmpI a b)) <| .lit <| .both (.lits 3 <| .ret) (.lits 3 <| .ret))
  (cast_ob (aI True.intro (aI (int_Cmp a b oO oO) (have f3 := cmpI_range a b; aI (fun (h1 : (iGt (cmpI a b) 0) = true) => have _gh1 := iGt_t h1; (by rw [show min a b = b by omega]; exact vsub_refl _ : vsub (zV b) (zV (min a b)))) (fun (h2 : (iGt (cmpI a b) 0) = false) => have _gh2 := iGt_f h2; (by rw [show min a b = a by omega]; exact vsub_refl _ : vsub (zV a) (zV (min a b))))))) (by kernel_rfl))
theorem ci_gre (a : Int) (b : Int) (c0 : L (a).natAbs ≤ 8000) (c1 : L (b).natAbs ≤ 8000) : Impl Tryz.prog Amb 159 [(zV a), (zV b)] (zV (max a b)) := by
 have ci := cmpI_range a b
 exact impl_ob hP hAmb Tryz.func159 (by kernel_rfl) (.lits 3 <| .call (.int .i64 (cmpI a b)) <| .lit <| .both (.lits 3 <| .ret) (.lits 3 <| .ret))
  (cast_ob (aI True.intro (aI (int_Cmp a b oO oO) (have f3 := cmpI_range a b; aI (fun (h1 : (iLt (cmpI a b) 0) = true) => have _gh1 := iLt_t h1; (by rw [show max a b = b by omega]; exact vsub_refl _ : vsub (zV b) (zV (max a b)))) (fun (h2 : (iLt (cmpI a b) 0) = false) => have _gh2 := iLt_f h2; (by rw [show max a b = a by omega]; exact vsub_refl _ : vsub (zV a) (zV (max a b))))))) (by kernel_rfl))
theorem ci_imgTT (m : Int) (ee : Int) (n : Int) (f : Int) (more : Int) (w : Int) (fi : Int) (la : Int) (x1 : Int) (x2 : Int) (y1 : Int) (y2 : Int) (a1 : Int) (a2 : Int) (b1 : Int) (b2 : Int) (c0 : 0 ≤ w ∧ w ≤ 4096) (c1 : (0 : Int) ≤ more ∧ more ≤ 1) (c2 : Impl Tryz.prog Amb 93 [(yV m ee)] (.bool true)) (c3 : Impl Tryz.prog Amb 93 [(yV n f)] (.bool true)) (c4 : Impl Tryz.prog Amb 153 [(wV m ee n f), (.int .i64 w)] (.tup [(zV fi), (zV la)])) (c5 : Impl Tryz.prog Amb 154 [(zV fi), (zV la), (.int .i64 ((1 : Int) - more))] (.bool true)) (c6 : Impl Tryz.prog Amb 154 [(zV fi), (zV la), (.int .i64 ((3 : Int) - more))] (.bool true)) (c7 : Impl Tryz.prog Amb 70 [(zV (-((1 : Int) * 2 ^ (w).toNat))), (.int .i64 ((0 : Int) - w))] (.tup [(yV a1 a2), (.int .i64 0)])) (c8 : Impl Tryz.prog Amb 70 [(zV ((1 : Int) * 2 ^ (w).toNat)), (.int .i64 ((0 : Int) - w))] (.tup [(yV b1 b2), (.int .i64 0)])) (c9 : L (x1).natAbs ≤ 4000) (c10 : L (x2).natAbs ≤ 4000) (c11 : L (y1).natAbs ≤ 4000) (c12 : L (y2).natAbs ≤ 4000) : Impl Tryz.prog Amb 92 [(wV m ee n f), (.int .i64 more), (.int .i64 w)] (.tup [(wV a1 a2 b1 b2), (.int .i64 0)]) := by
 have pw := L_pow1 w.toNat
 have mn := L_abs_min x1 y1
 have mx := L_abs_max x2 y2
 exact impl_ob hP hAmb Tryz.func92 (by kernel_rfl) (.lit <| .no <| .lits 3 <| .no <| .lits 2 <| .call (.bool true) <| .lits 6 <| .call (.bool true) <| .lits 6 <| .call (.tup [(zV fi), (zV la)]) <| .lits 6 <| .yes <| .lit <| .call (.bool true) <| .lits 4 <| .yes <| .lit <| .call (.bool true) <| .lit <| .call (zV (1 : Int)) <| .lit <| .call (zV ((1 : Int) * 2 ^ (w).toNat)) <| .lits 3 <| .call (zV (-((1 : Int) * 2 ^ (w).toNat))) <| .lits 9 <| .yes <| .lit <| .call (.tup [(yV a1 a2), (.int .i64 0)]) <| .lits 3 <| .yes <| .lit <| .call (.tup [(yV b1 b2), (.int .i64 0)]) <| .lits 12 <| .ret)
  (cast_ob (aI True.intro (aI (iLt_mkF oS : (iLt w 0) = false) (aI (iGt_mkF oS : (iGt w 4096) = false) (aI (c2 ) (aI (c3 ) (aI (c4 ) (aI (fits_i64 oS : (fits .i64 ((1 : Int) - more)) = true) (aI (c5 ) (aI (fits_i64 oS : (fits .i64 ((3 : Int) - more)) = true) (aI (c6 ) (aI (int_Of 1 oS) (have f3 := (L_i64 oS : L (1 : Int).natAbs ≤ 2); aI (int_Shl (1 : Int) w oS oS) (have f2 := L_abs_shl (1 : Int) (w).toNat; aI (int_Neg ((1 : Int) * 2 ^ (w).toNat) oS) (have f1 := L_abs_neg ((1 : Int) * 2 ^ (w).toNat); aI (fits_i64 oS : (fits .i64 ((0 : Int) - w)) = true) (aI (c7 ) (aI (fits_i64 oS : (fits .i64 ((0 : Int) - w)) = true) (aI (c8 ) ((vsub_refl (.tup [(wV a1 a2 b1 b2), (.int .i64 0)])))))))))))))))))))) (by kernel_rfl))
theorem ci_imgTF (m : Int) (ee : Int) (n : Int) (f : Int) (more : Int) (w : Int) (fi : Int) (la : Int) (x1 : Int) (x2 : Int) (y1 : Int) (y2 : Int) (a1 : Int) (a2 : Int) (b1 : Int) (b2 : Int) (c0 : 0 ≤ w ∧ w ≤ 4096) (c1 : (0 : Int) ≤ more ∧ more ≤ 1) (c2 : Impl Tryz.prog Amb 93 [(yV m ee)] (.bool true)) (c3 : Impl Tryz.prog Amb 93 [(yV n f)] (.bool true)) (c4 : Impl Tryz.prog Amb 153 [(wV m ee n f), (.int .i64 w)] (.tup [(zV fi), (zV la)])) (c5 : Impl Tryz.prog Amb 154 [(zV fi), (zV la), (.int .i64 ((1 : Int) - more))] (.bool true)) (c6 : Impl Tryz.prog Amb 154 [(zV fi), (zV la), (.int .i64 ((3 : Int) - more))] (.bool false)) (c7 : Impl Tryz.prog Amb 133 [(.int .i64 w), (.clos 156 [(.pt [(V.bool (decide (m < 0))), (N m.natAbs), (V.int .i64 ee), (V.bool (decide (n < 0))), (N n.natAbs), (V.int .i64 f)] 0), (.pt [(V.int .i64 more)] 0)])] (.agg [(.bool (decide (x1 < 0))), (N x1.natAbs), (.bool (decide (x2 < 0))), (N x2.natAbs)])) (c8 : Impl Tryz.prog Amb 133 [(.int .i64 w), (.clos 158 [(.pt [(V.bool (decide (m < 0))), (N m.natAbs), (V.int .i64 ee), (V.bool (decide (n < 0))), (N n.natAbs), (V.int .i64 f)] 0), (.pt [(V.int .i64 more)] 0)])] (.agg [(.bool (decide (y1 < 0))), (N y1.natAbs), (.bool (decide (y2 < 0))), (N y2.natAbs)])) (c9 : Impl Tryz.prog Amb 70 [(zV (max (-((1 : Int) * 2 ^ (w).toNat)) (min x1 y1))), (.int .i64 ((0 : Int) - w))] (.tup [(yV a1 a2), (.int .i64 0)])) (c10 : Impl Tryz.prog Amb 70 [(zV ((1 : Int) * 2 ^ (w).toNat)), (.int .i64 ((0 : Int) - w))] (.tup [(yV b1 b2), (.int .i64 0)])) (c11 : L (x1).natAbs ≤ 4000) (c12 : L (x2).natAbs ≤ 4000) (c13 : L (y1).natAbs ≤ 4000) (c14 : L (y2).natAbs ≤ 4000) : Impl Tryz.prog Amb 92 [(wV m ee n f), (.int .i64 more), (.int .i64 w)] (.tup [(wV a1 a2 b1 b2), (.int .i64 0)]) := by
 have pw := L_pow1 w.toNat
 have mn := L_abs_min x1 y1
 have mx := L_abs_max x2 y2
 exact impl_ob hP hAmb Tryz.func92 (by kernel_rfl) (.lit <| .no <| .lits 3 <| .no <| .lits 2 <| .call (.bool true) <| .lits 6 <| .call (.bool true) <| .lits 6 <| .call (.tup [(zV fi), (zV la)]) <| .lits 6 <| .yes <| .lit <| .call (.bool true) <| .lits 4 <| .yes <| .lit <| .call (.bool false) <| .lit <| .call (zV (1 : Int)) <| .lit <| .call (zV ((1 : Int) * 2 ^ (w).toNat)) <| .lits 3 <| .call (zV (-((1 : Int) * 2 ^ (w).toNat))) <| .lits 8 <| .call (.agg [(.bool (decide (x1 < 0))), (N x1.natAbs), (.bool (decide (x2 < 0))), (N x2.natAbs)]) <| .lits 2 <| .call (.agg [(.bool (decide (y1 < 0))), (N y1.natAbs), (.bool (decide (y2 < 0))), (N y2.natAbs)]) <| .lits 7 <| .call (zV (min x1 y1)) <| .lit <| .call (zV (max (-((1 : Int) * 2 ^ (w).toNat)) (min x1 y1))) <| .lits 5 <| .yes <| .lit <| .call (.tup [(yV a1 a2), (.int .i64 0)]) <| .lits 3 <| .yes <| .lit <| .call (.tup [(yV b1 b2), (.int .i64 0)]) <| .lits 12 <| .ret)
  (cast_ob (aI True.intro (aI (iLt_mkF oS : (iLt w 0) = false) (aI (iGt_mkF oS : (iGt w 4096) = false) (aI (c2 ) (aI (c3 ) (aI (c4 ) (aI (fits_i64 oS : (fits .i64 ((1 : Int) - more)) = true) (aI (c5 ) (aI (fits_i64 oS : (fits .i64 ((3 : Int) - more)) = true) (aI (c6 ) (aI (int_Of 1 oS) (have f3 := (L_i64 oS : L (1 : Int).natAbs ≤ 2); aI (int_Shl (1 : Int) w oS oS) (have f2 := L_abs_shl (1 : Int) (w).toNat; aI (int_Neg ((1 : Int) * 2 ^ (w).toNat) oS) (have f1 := L_abs_neg ((1 : Int) * 2 ^ (w).toNat); aI (c7 ) (aI (c8 ) (aI (ci_les x1 y1 oS oS) (aI (ci_gre (-((1 : Int) * 2 ^ (w).toNat)) (min x1 y1) oS oS) (aI (fits_i64 oS : (fits .i64 ((0 : Int) - w)) = true) (aI (c9 ) (aI (fits_i64 oS : (fits .i64 ((0 : Int) - w)) = true) (aI (c10 ) ((vsub_refl (.tup [(wV a1 a2 b1 b2), (.int .i64 0)])))))))))))))))))))))))) (by kernel_rfl))
theorem ci_imgFT (m : Int) (ee : Int) (n : Int) (f : Int) (more : Int) (w : Int) (fi : Int) (la : Int) (x1 : Int) (x2 : Int) (y1 : Int) (y2 : Int) (a1 : Int) (a2 : Int) (b1 : Int) (b2 : Int) (c0 : 0 ≤ w ∧ w ≤ 4096) (c1 : (0 : Int) ≤ more ∧ more ≤ 1) (c2 : Impl Tryz.prog Amb 93 [(yV m ee)] (.bool true)) (c3 : Impl Tryz.prog Amb 93 [(yV n f)] (.bool true)) (c4 : Impl Tryz.prog Amb 153 [(wV m ee n f), (.int .i64 w)] (.tup [(zV fi), (zV la)])) (c5 : Impl Tryz.prog Amb 154 [(zV fi), (zV la), (.int .i64 ((1 : Int) - more))] (.bool false)) (c6 : Impl Tryz.prog Amb 154 [(zV fi), (zV la), (.int .i64 ((3 : Int) - more))] (.bool true)) (c7 : Impl Tryz.prog Amb 133 [(.int .i64 w), (.clos 156 [(.pt [(V.bool (decide (m < 0))), (N m.natAbs), (V.int .i64 ee), (V.bool (decide (n < 0))), (N n.natAbs), (V.int .i64 f)] 0), (.pt [(V.int .i64 more)] 0)])] (.agg [(.bool (decide (x1 < 0))), (N x1.natAbs), (.bool (decide (x2 < 0))), (N x2.natAbs)])) (c8 : Impl Tryz.prog Amb 133 [(.int .i64 w), (.clos 158 [(.pt [(V.bool (decide (m < 0))), (N m.natAbs), (V.int .i64 ee), (V.bool (decide (n < 0))), (N n.natAbs), (V.int .i64 f)] 0), (.pt [(V.int .i64 more)] 0)])] (.agg [(.bool (decide (y1 < 0))), (N y1.natAbs), (.bool (decide (y2 < 0))), (N y2.natAbs)])) (c9 : Impl Tryz.prog Amb 70 [(zV (-((1 : Int) * 2 ^ (w).toNat))), (.int .i64 ((0 : Int) - w))] (.tup [(yV a1 a2), (.int .i64 0)])) (c10 : Impl Tryz.prog Amb 70 [(zV (min ((1 : Int) * 2 ^ (w).toNat) (max x2 y2))), (.int .i64 ((0 : Int) - w))] (.tup [(yV b1 b2), (.int .i64 0)])) (c11 : L (x1).natAbs ≤ 4000) (c12 : L (x2).natAbs ≤ 4000) (c13 : L (y1).natAbs ≤ 4000) (c14 : L (y2).natAbs ≤ 4000) : Impl Tryz.prog Amb 92 [(wV m ee n f), (.int .i64 more), (.int .i64 w)] (.tup [(wV a1 a2 b1 b2), (.int .i64 0)]) := by
 have pw := L_pow1 w.toNat
 have mn := L_abs_min x1 y1
 have mx := L_abs_max x2 y2
 exact impl_ob hP hAmb Tryz.func92 (by kernel_rfl) (.lit <| .no <| .lits 3 <| .no <| .lits 2 <| .call (.bool true) <| .lits 6 <| .call (.bool true) <| .lits 6 <| .call (.tup [(zV fi), (zV la)]) <| .lits 6 <| .yes <| .lit <| .call (.bool false) <| .lits 4 <| .yes <| .lit <| .call (.bool true) <| .lit <| .call (zV (1 : Int)) <| .lit <| .call (zV ((1 : Int) * 2 ^ (w).toNat)) <| .lits 3 <| .call (zV (-((1 : Int) * 2 ^ (w).toNat))) <| .lits 7 <| .call (.agg [(.bool (decide (x1 < 0))), (N x1.natAbs), (.bool (decide (x2 < 0))), (N x2.natAbs)]) <| .lits 2 <| .call (.agg [(.bool (decide (y1 < 0))), (N y1.natAbs), (.bool (decide (y2 < 0))), (N y2.natAbs)]) <| .lits 9 <| .call (zV (max x2 y2)) <| .lit <| .call (zV (min ((1 : Int) * 2 ^ (w).toNat) (max x2 y2))) <| .lits 3 <| .yes <| .lit <| .call (.tup [(yV a1 a2), (.int .i64 0)]) <| .lits 3 <| .yes <| .lit <| .call (.tup [(yV b1 b2), (.int .i64 0)]) <| .lits 12 <| .ret)
  (cast_ob (aI True.intro (aI (iLt_mkF oS : (iLt w 0) = false) (aI (iGt_mkF oS : (iGt w 4096) = false) (aI (c2 ) (aI (c3 ) (aI (c4 ) (aI (fits_i64 oS : (fits .i64 ((1 : Int) - more)) = true) (aI (c5 ) (aI (fits_i64 oS : (fits .i64 ((3 : Int) - more)) = true) (aI (c6 ) (aI (int_Of 1 oS) (have f3 := (L_i64 oS : L (1 : Int).natAbs ≤ 2); aI (int_Shl (1 : Int) w oS oS) (have f2 := L_abs_shl (1 : Int) (w).toNat; aI (int_Neg ((1 : Int) * 2 ^ (w).toNat) oS) (have f1 := L_abs_neg ((1 : Int) * 2 ^ (w).toNat); aI (c7 ) (aI (c8 ) (aI (ci_gre x2 y2 oS oS) (aI (ci_les ((1 : Int) * 2 ^ (w).toNat) (max x2 y2) oS oS) (aI (fits_i64 oS : (fits .i64 ((0 : Int) - w)) = true) (aI (c9 ) (aI (fits_i64 oS : (fits .i64 ((0 : Int) - w)) = true) (aI (c10 ) ((vsub_refl (.tup [(wV a1 a2 b1 b2), (.int .i64 0)])))))))))))))))))))))))) (by kernel_rfl))
theorem ci_imgFF (m : Int) (ee : Int) (n : Int) (f : Int) (more : Int) (w : Int) (fi : Int) (la : Int) (x1 : Int) (x2 : Int) (y1 : Int) (y2 : Int) (a1 : Int) (a2 : Int) (b1 : Int) (b2 : Int) (c0 : 0 ≤ w ∧ w ≤ 4096) (c1 : (0 : Int) ≤ more ∧ more ≤ 1) (c2 : Impl Tryz.prog Amb 93 [(yV m ee)] (.bool true)) (c3 : Impl Tryz.prog Amb 93 [(yV n f)] (.bool true)) (c4 : Impl Tryz.prog Amb 153 [(wV m ee n f), (.int .i64 w)] (.tup [(zV fi), (zV la)])) (c5 : Impl Tryz.prog Amb 154 [(zV fi), (zV la), (.int .i64 ((1 : Int) - more))] (.bool false)) (c6 : Impl Tryz.prog Amb 154 [(zV fi), (zV la), (.int .i64 ((3 : Int) - more))] (.bool false)) (c7 : Impl Tryz.prog Amb 133 [(.int .i64 w), (.clos 156 [(.pt [(V.bool (decide (m < 0))), (N m.natAbs), (V.int .i64 ee), (V.bool (decide (n < 0))), (N n.natAbs), (V.int .i64 f)] 0), (.pt [(V.int .i64 more)] 0)])] (.agg [(.bool (decide (x1 < 0))), (N x1.natAbs), (.bool (decide (x2 < 0))), (N x2.natAbs)])) (c8 : Impl Tryz.prog Amb 133 [(.int .i64 w), (.clos 158 [(.pt [(V.bool (decide (m < 0))), (N m.natAbs), (V.int .i64 ee), (V.bool (decide (n < 0))), (N n.natAbs), (V.int .i64 f)] 0), (.pt [(V.int .i64 more)] 0)])] (.agg [(.bool (decide (y1 < 0))), (N y1.natAbs), (.bool (decide (y2 < 0))), (N y2.natAbs)])) (c9 : Impl Tryz.prog Amb 70 [(zV (max (-((1 : Int) * 2 ^ (w).toNat)) (min x1 y1))), (.int .i64 ((0 : Int) - w))] (.tup [(yV a1 a2), (.int .i64 0)])) (c10 : Impl Tryz.prog Amb 70 [(zV (min ((1 : Int) * 2 ^ (w).toNat) (max x2 y2))), (.int .i64 ((0 : Int) - w))] (.tup [(yV b1 b2), (.int .i64 0)])) (c11 : L (x1).natAbs ≤ 4000) (c12 : L (x2).natAbs ≤ 4000) (c13 : L (y1).natAbs ≤ 4000) (c14 : L (y2).natAbs ≤ 4000) : Impl Tryz.prog Amb 92 [(wV m ee n f), (.int .i64 more), (.int .i64 w)] (.tup [(wV a1 a2 b1 b2), (.int .i64 0)]) := by
 have pw := L_pow1 w.toNat
 have mn := L_abs_min x1 y1
 have mx := L_abs_max x2 y2
 exact impl_ob hP hAmb Tryz.func92 (by kernel_rfl) (.lit <| .no <| .lits 3 <| .no <| .lits 2 <| .call (.bool true) <| .lits 6 <| .call (.bool true) <| .lits 6 <| .call (.tup [(zV fi), (zV la)]) <| .lits 6 <| .yes <| .lit <| .call (.bool false) <| .lits 4 <| .yes <| .lit <| .call (.bool false) <| .lit <| .call (zV (1 : Int)) <| .lit <| .call (zV ((1 : Int) * 2 ^ (w).toNat)) <| .lits 3 <| .call (zV (-((1 : Int) * 2 ^ (w).toNat))) <| .lits 7 <| .call (.agg [(.bool (decide (x1 < 0))), (N x1.natAbs), (.bool (decide (x2 < 0))), (N x2.natAbs)]) <| .lits 2 <| .call (.agg [(.bool (decide (y1 < 0))), (N y1.natAbs), (.bool (decide (y2 < 0))), (N y2.natAbs)]) <| .lits 7 <| .call (zV (min x1 y1)) <| .lit <| .call (zV (max (-((1 : Int) * 2 ^ (w).toNat)) (min x1 y1))) <| .lits 7 <| .call (zV (max x2 y2)) <| .lit <| .call (zV (min ((1 : Int) * 2 ^ (w).toNat) (max x2 y2))) <| .lits 3 <| .yes <| .lit <| .call (.tup [(yV a1 a2), (.int .i64 0)]) <| .lits 3 <| .yes <| .lit <| .call (.tup [(yV b1 b2), (.int .i64 0)]) <| .lits 12 <| .ret)
  (cast_ob (aI True.intro (aI (iLt_mkF oS : (iLt w 0) = false) (aI (iGt_mkF oS : (iGt w 4096) = false) (aI (c2 ) (aI (c3 ) (aI (c4 ) (aI (fits_i64 oS : (fits .i64 ((1 : Int) - more)) = true) (aI (c5 ) (aI (fits_i64 oS : (fits .i64 ((3 : Int) - more)) = true) (aI (c6 ) (aI (int_Of 1 oS) (have f3 := (L_i64 oS : L (1 : Int).natAbs ≤ 2); aI (int_Shl (1 : Int) w oS oS) (have f2 := L_abs_shl (1 : Int) (w).toNat; aI (int_Neg ((1 : Int) * 2 ^ (w).toNat) oS) (have f1 := L_abs_neg ((1 : Int) * 2 ^ (w).toNat); aI (c7 ) (aI (c8 ) (aI (ci_les x1 y1 oS oS) (aI (ci_gre (-((1 : Int) * 2 ^ (w).toNat)) (min x1 y1) oS oS) (aI (ci_gre x2 y2 oS oS) (aI (ci_les ((1 : Int) * 2 ^ (w).toNat) (max x2 y2) oS oS) (aI (fits_i64 oS : (fits .i64 ((0 : Int) - w)) = true) (aI (c9 ) (aI (fits_i64 oS : (fits .i64 ((0 : Int) - w)) = true) (aI (c10 ) ((vsub_refl (.tup [(wV a1 a2 b1 b2), (.int .i64 0)])))))))))))))))))))))))))) (by kernel_rfl))
theorem ci_clo1 (m : Int) (ee : Int) (n : Int) (f : Int) (more : Int) (ss : Int) (r1 : Int) (r2 : Int) (c0 : Impl Tryz.prog Amb 157 [(yV m ee), (.int .i64 more), (.int .i64 ss)] (.agg [(.bool (decide (r1 < 0))), (N r1.natAbs), (.bool (decide (r2 < 0))), (N r2.natAbs)])) : Impl Tryz.prog Amb 156 [(.int .i64 ss), (.pt [(V.bool (decide (m < 0))), (N m.natAbs), (V.int .i64 ee), (V.bool (decide (n < 0))), (N n.natAbs), (V.int .i64 f)] 0), (.pt [(V.int .i64 more)] 0)] (.agg [(.bool (decide (r1 < 0))), (N r1.natAbs), (.bool (decide (r2 < 0))), (N r2.natAbs)]) := by
 exact impl_ob hP hAmb Tryz.func156 (by kernel_rfl) (.lits 3 <| .call (.agg [(.bool (decide (r1 < 0))), (N r1.natAbs), (.bool (decide (r2 < 0))), (N r2.natAbs)]) <| .lits 2 <| .ret)
  (cast_ob (aI True.intro (aI (c0 ) ((vsub_refl (.agg [(.bool (decide (r1 < 0))), (N r1.natAbs), (.bool (decide (r2 < 0))), (N r2.natAbs)]))))) (by kernel_rfl))
theorem ci_clo2 (m : Int) (ee : Int) (n : Int) (f : Int) (more : Int) (ss : Int) (r1 : Int) (r2 : Int) (c0 : Impl Tryz.prog Amb 157 [(yV n f), (.int .i64 more), (.int .i64 ss)] (.agg [(.bool (decide (r1 < 0))), (N r1.natAbs), (.bool (decide (r2 < 0))), (N r2.natAbs)])) : Impl Tryz.prog Amb 158 [(.int .i64 ss), (.pt [(V.bool (decide (m < 0))), (N m.natAbs), (V.int .i64 ee), (V.bool (decide (n < 0))), (N n.natAbs), (V.int .i64 f)] 0), (.pt [(V.int .i64 more)] 0)] (.agg [(.bool (decide (r1 < 0))), (N r1.natAbs), (.bool (decide (r2 < 0))), (N r2.natAbs)]) := by
 exact impl_ob hP hAmb Tryz.func158 (by kernel_rfl) (.lits 3 <| .call (.agg [(.bool (decide (r1 < 0))), (N r1.natAbs), (.bool (decide (r2 < 0))), (N r2.natAbs)]) <| .lits 2 <| .ret)
  (cast_ob (aI True.intro (aI (c0 ) ((vsub_refl (.agg [(.bool (decide (r1 < 0))), (N r1.natAbs), (.bool (decide (r2 < 0))), (N r2.natAbs)]))))) (by kernel_rfl))
theorem ci_Sin (m : Int) (ee : Int) (n : Int) (f : Int) (w : Int) (a1 : Int) (a2 : Int) (b1 : Int) (b2 : Int) (e : Int) (c0 : Impl Tryz.prog Amb 92 [(wV m ee n f), (.int .i64 0), (.int .i64 w)] (.tup [(wV a1 a2 b1 b2), (.int .i64 e)])) : Impl Tryz.prog Amb 34 [(wV m ee n f), (.int .i64 w)] (.tup [(wV a1 a2 b1 b2), (.int .i64 e)]) := by
 exact impl_ob hP hAmb Tryz.func34 (by kernel_rfl) (.lits 2 <| .call (.tup [(wV a1 a2 b1 b2), (.int .i64 e)]) <| .lits 2 <| .ret)
  (cast_ob (aI True.intro (aI (c0 ) ((vsub_refl (.tup [(wV a1 a2 b1 b2), (.int .i64 e)]))))) (by kernel_rfl))
theorem ci_Cos (m : Int) (ee : Int) (n : Int) (f : Int) (w : Int) (a1 : Int) (a2 : Int) (b1 : Int) (b2 : Int) (e : Int) (c0 : Impl Tryz.prog Amb 92 [(wV m ee n f), (.int .i64 1), (.int .i64 w)] (.tup [(wV a1 a2 b1 b2), (.int .i64 e)])) : Impl Tryz.prog Amb 35 [(wV m ee n f), (.int .i64 w)] (.tup [(wV a1 a2 b1 b2), (.int .i64 e)]) := by
 exact impl_ob hP hAmb Tryz.func35 (by kernel_rfl) (.lits 2 <| .call (.tup [(wV a1 a2 b1 b2), (.int .i64 e)]) <| .lits 2 <| .ret)
  (cast_ob (aI True.intro (aI (c0 ) ((vsub_refl (.tup [(wV a1 a2 b1 b2), (.int .i64 e)]))))) (by kernel_rfl))
end Go.Proofs.YtcbihoojfakhdaaGreatDoor



namespace Go.Proofs.YtcbihoojfakhdaaGreatDoor
open Go.RowKit
set_option maxRecDepth 100000
set_option maxHeartbeats 2000000
theorem quarters_b {d c T F : Rat} {x1 p1 q : Int} (F0 : 0 < F) (hT : T = F * 18446744073709551616) (h1 : (x1 : Rat) ≤ d * T) (h2 : d * T ≤ (x1 : Rat) + 1) (g1 : (p1 : Rat) ≤ 2 * (c * T)) (g2 : 2 * (c * T) ≤ (p1 : Rat) + 16777216) (c1 : 157 ≤ 100 * c) (hF : 1 ≤ F)
  (k1 : (q : Rat) * (p1 : Rat) ≤ (x1 : Rat) * (2 * F)) (k2 : (x1 : Rat) * (2 * F) ≤ ((q : Rat) + 1) * (p1 : Rat)) (d1 : -4294967296 ≤ d) (d2 : d ≤ 4294967296) :
  (-(4294967296 * F) ≤ (q : Rat) ∧ (q : Rat) + 1 ≤ 4294967296 * F) ∧ (q : Rat) * c ≤ d * F + 1 / 100 ∧ d * F ≤ ((q : Rat) + 1) * c + 1 / 100 := by
 have T0 : 0 < T := by rw [hT]; exact Rat.mul_pos F0 (by decide)
 have TT : 18446744073709551616 ≤ T := by rw [hT]; grind
 have cT := Rat.mul_le_mul_of_nonneg_right c1 (Rat.le_of_lt T0)
 rw [Rat.mul_assoc] at cT
 have P3 : 3 * T ≤ (p1 : Rat) := by grind
 have dT1 := Rat.mul_le_mul_of_nonneg_right d1 (Rat.le_of_lt T0)
 have dT2 := Rat.mul_le_mul_of_nonneg_right d2 (Rat.le_of_lt T0)
 have xF1 := Rat.mul_le_mul_of_nonneg_right h1 (Rat.le_of_lt F0)
 have xF2 := Rat.mul_le_mul_of_nonneg_right h2 (Rat.le_of_lt F0)
 have dF1 := Rat.mul_le_mul_of_nonneg_right dT1 (Rat.le_of_lt F0)
 have dF2 := Rat.mul_le_mul_of_nonneg_right dT2 (Rat.le_of_lt F0)
 have TF := Rat.mul_pos T0 F0
 have TF1 := Rat.mul_le_mul_of_nonneg_right TT (Rat.le_of_lt F0)
 have BP := Rat.mul_le_mul_of_nonneg_right P3 (Rat.le_of_lt F0)
 have B2 : (q : Rat) + 1 ≤ 4294967296 * F := by
  refine Decidable.byContradiction fun hn => ?_
  have hq : 4294967296 * F - 1 ≤ (q : Rat) := by grind
  have m := Rat.mul_le_mul_of_nonneg_right hq (show 0 ≤ (p1 : Rat) by grind)
  have hp : (p1 : Rat) ≤ 4 * T + (2 * (c * T) - 4 * T) := by grind
  have e : (4294967296 * F - 1) * (p1 : Rat) = 4294967296 * ((p1 : Rat) * F) - (p1 : Rat) := by grind
  rw [e] at m
  have c5 : 0 ≤ 4294967296 * F - 1 := by grind
  have m3 := Rat.mul_le_mul_of_nonneg_left P3 c5
  have e3 : (4294967296 * F - 1) * (3 * T) = 12884901888 * (T * F) - 3 * T := by grind
  have e4 : (4294967296 * F - 1) * (p1 : Rat) = 4294967296 * ((p1 : Rat) * F) - (p1 : Rat) := e
  rw [e3, e4] at m3
  have m4 := Rat.mul_le_mul_of_nonneg_left hF (Rat.le_of_lt T0)
  clear m4 hp cT g1 g2
  have m5 := Rat.mul_le_mul_of_nonneg_left hF (Rat.le_of_lt T0)
  grind
 have B1 : -(4294967296 * F) ≤ (q : Rat) := by
  refine Decidable.byContradiction fun hn => ?_
  have hq : (q : Rat) + 1 ≤ -(4294967296 * F) + 1 := by grind
  have m := Rat.mul_le_mul_of_nonneg_right hq (show 0 ≤ (p1 : Rat) by grind)
  have c5 : 0 ≤ 4294967296 * F - 1 := by grind
  have m3 := Rat.mul_le_mul_of_nonneg_left P3 c5
  have e3 : (4294967296 * F - 1) * (3 * T) = 12884901888 * (T * F) - 3 * T := by grind
  have e4 : (-(4294967296 * F) + 1) * (p1 : Rat) = -((4294967296 * F - 1) * (p1 : Rat)) := by grind
  rw [e3] at m3
  rw [e4] at m
  have m5 := Rat.mul_le_mul_of_nonneg_left hF (Rat.le_of_lt T0)
  generalize (4294967296 * F - 1) * (p1 : Rat) = z at *
  clear cT g1 g2 BP
  grind
 refine ⟨⟨B1, B2⟩, ?_, ?_⟩
 ·have mb := mul_bd (p := (q : Rat)) (P := 4294967296 * F) (x := 2 * (c * T) - (p1 : Rat)) (a := 16777216) B1 (by grind) (by grind) (by grind)
  have e1 : (q : Rat) * (2 * (c * T) - (p1 : Rat)) = 2 * ((q : Rat) * c * T) - (q : Rat) * (p1 : Rat) := by grind
  rw [e1] at mb
  refine Rat.le_of_mul_le_mul_right (c := T) ?_ T0
  have e2 : (d * F + 1 / 100) * T = d * T * F + T * (1 / 100) := by grind
  rw [e2]
  generalize (q : Rat) * c * T = x at *
  generalize (q : Rat) * (p1 : Rat) = y at *
  generalize (x1 : Rat) = xx at *
  clear e1 dF1 dF2 dT1 dT2 BP TF TF1 h1 h2 cT g1 g2 P3
  generalize d * T * F = DTF at *
  grind
 ·have mb := mul_bd (p := (q : Rat) + 1) (P := 4294967296 * F) (x := 2 * (c * T) - (p1 : Rat)) (a := 16777216) (by grind) B2 (by grind) (by grind)
  have e1 : ((q : Rat) + 1) * (2 * (c * T) - (p1 : Rat)) = 2 * (((q : Rat) + 1) * c * T) - ((q : Rat) + 1) * (p1 : Rat) := by grind
  rw [e1] at mb
  refine Rat.le_of_mul_le_mul_right (c := T) ?_ T0
  have e2 : (((q : Rat) + 1) * c + 1 / 100) * T = ((q : Rat) + 1) * c * T + T * (1 / 100) := by grind
  have e3 : d * F * T = d * T * F := by grind
  rw [e2, e3]
  generalize ((q : Rat) + 1) * c * T = x at *
  generalize ((q : Rat) + 1) * (p1 : Rat) = y at *
  clear e1 dF1 dF2 dT1 dT2 BP TF TF1 h1 h2 cT g1 g2 P3
  generalize d * T * F = DTF at *
  grind
theorem fx_QuartersE (m ee f : Int) (hf : 8 ≤ f ∧ f ≤ 300) (hm : L (m).natAbs ≤ 20) (he : -440 ≤ ee ∧ ee ≤ 130) (d1 : -4294967296 ≤ dv m ee) (d2 : dv m ee ≤ 4294967296) :
  ∃ q : Int, Impl Tryz.prog Amb 203 [(yV m ee), (.int .i64 f)] (zV q) ∧ L q.natAbs ≤ 70 ∧ (q : Rat) * cQ ≤ dv m ee * ((2 ^ f.toNat : Int) : Rat) + 1 / 100 ∧ dv m ee * ((2 ^ f.toNat : Int) : Rat) ≤ ((q : Rat) + 1) * cQ + 1 / 100 := by
 obtain ⟨t, ht⟩ : ∃ t : Nat, (t : Int) = f + 64 := ⟨(f + 64).toNat, by omega⟩
 have hO := fx_Of m ee (f + 64) oO oO oO
 have lf := flr_LD m ee (f + 64)
 have sc1 := (flr_sc (dv m ee) t).1
 have sc2 := (flr_sc (dv m ee) t).2
 have cl := pq_at (t := t) oO
 rw [ht] at sc1 sc2 cl
 have b := pi_ok (s := f + 64) oO
 have bw : piHi (f + 64) - piLo (f + 64) < 16777216 := by
  have := nbits_lt (piHi (f + 64) - piLo (f + 64)).natAbs
  have p := Nat.pow_le_pow_right (n := 2) oO b.2.2
  omega
 have hP : Impl Tryz.prog Amb 117 [(.int .i64 (f + 64))] (.agg [(.bool (decide ((piLo (f + 64)) < 0))), (N ((piLo (f + 64)).natAbs)), (.bool (decide ((piHi (f + 64)) < 0))), (N ((piHi (f + 64)).natAbs))]) := fx_Pi (f + 64) oO
 generalize piLo (f + 64) = p1 at *
 generalize piHi (f + 64) = p2 at *
 generalize flr (dv m ee) (f + 64) = x1 at *
 generalize cei (dv m ee) (f + 64) = x2 at *
 have hS := int_Shl x1 (f + 1) oO oO
 have l1 := L_abs_shl x1 (f + 1).toNat
 have F0 := two_pos f.toNat
 have F0R : (0 : Rat) < ((2 ^ f.toNat : Int) : Rat) := Rat.intCast_pos.2 F0
 have hTR : ((2 ^ t : Int) : Rat) = ((2 ^ f.toNat : Int) : Rat) * 18446744073709551616 := by
  rw [show t = f.toNat + 64 by omega, Int.pow_add, Rat.intCast_mul]; rfl
 have eF : (2 : Int) ^ (f + 1).toNat = 2 ^ f.toNat * 2 := by rw [show (f + 1).toNat = f.toNat + 1 by omega, Int.pow_succ]
 have e2T : ((2 ^ (t + 1) : Int) : Rat) = 2 * ((2 ^ t : Int) : Rat) := by
  rw [Int.pow_succ, Rat.intCast_mul]
  show _ * (2 : Rat) = _
  rw [Rat.mul_comm]
 rw [e2T] at cl
 have c2 : cQ * (2 * ((2 ^ t : Int) : Rat)) = 2 * (cQ * ((2 ^ t : Int) : Rat)) := by grind
 rw [c2] at cl
 have cb := cQ_b
 have F1 : (1 : Rat) ≤ ((2 ^ f.toNat : Int) : Rat) := Rat.intCast_le_intCast.2 (show (1 : Int) ≤ 2 ^ f.toNat by omega)
 have bwR : (p2 : Rat) ≤ (p1 : Rat) + 16777216 := by
  have : (p2 : Rat) ≤ ((p1 + 16777216 : Int) : Rat) := Rat.intCast_le_intCast.2 oO
  rw [Rat.intCast_add] at this; exact this
 have p0 : 0 < p1 := by
  have : (0 : Rat) < (p1 : Rat) := by
   have m := Rat.mul_le_mul_of_nonneg_right cb.1 (show (0 : Rat) ≤ ((2 ^ t : Int) : Rat) by rw [hTR]; exact Rat.le_of_lt (Rat.mul_pos F0R (by decide)))
   have TT : (18446744073709551616 : Rat) ≤ ((2 ^ t : Int) : Rat) := by rw [hTR]; grind
   grind
  exact Rat.intCast_pos.1 this
 have hD := int_DivMod (x1 * 2 ^ (f + 1).toNat) p1 oO oO oO
 have q1 := Int.ediv_mul_le (x1 * 2 ^ (f + 1).toNat) (show p1 ≠ 0 by omega)
 have q2 := Int.lt_ediv_add_one_mul_self (x1 * 2 ^ (f + 1).toNat) p0
 rw [Int.fdiv_eq_ediv_of_nonneg _ (Int.le_of_lt p0)] at hD
 have ex : ((x1 * 2 ^ (f + 1).toNat : Int) : Rat) = (x1 : Rat) * (2 * ((2 ^ f.toNat : Int) : Rat)) := by
  rw [eF, Rat.intCast_mul, Rat.intCast_mul]
  show (x1 : Rat) * (_ * 2) = _
  grind
 generalize hq : x1 * 2 ^ (f + 1).toNat / p1 = q at *
 have q1 := Rat.intCast_le_intCast.2 q1
 have q2 := Rat.intCast_le_intCast.2 (Int.le_of_lt q2)
 rw [ex, Rat.intCast_mul] at q1 q2
 rw [Rat.intCast_add] at q2
 have r := quarters_b (d := dv m ee) (c := cQ) (F := ((2 ^ f.toNat : Int) : Rat)) F0R hTR sc1 (Rat.le_of_lt sc2) cl.1 (by grind) cb.1 F1 q1 q2 d1 d2
 have Lq : L q.natAbs ≤ 70 := by
  refine abs_big (t := f.toNat + 32) (c := 1) ?_ oO oO
  have e : ((2 ^ (f.toNat + 32) : Nat) : Int) = 4294967296 * 2 ^ f.toNat := by rw [← pow_cast, Int.pow_add, Int.mul_comm]; rfl
  have u1 : -(4294967296 * 2 ^ f.toNat) ≤ q := by
   refine Rat.intCast_le_intCast.1 ?_
   rw [Rat.intCast_neg, Rat.intCast_mul]
   exact r.1.1
  have u2 : q + 1 ≤ 4294967296 * 2 ^ f.toNat := by
   refine Rat.intCast_le_intCast.1 ?_
   rw [Rat.intCast_add, Rat.intCast_mul]
   exact r.1.2
  omega
 exact ⟨q, fx_Quarters0 m ee f x1 x2 _ p1 p2 q _ hO hS hP hD oO, Lq, r.2.1, r.2.2⟩
def Tp (a b : Rat) (w c : Int) (g : Bool) : Prop :=
 (g = true → ∃ k : Int, (k - c) % 4 = 0 ∧ a * ((2 ^ (w + 8).toNat : Int) : Rat) ≤ (k : Rat) * cQ * ((2 ^ (w + 8).toNat : Int) : Rat) + 5 ∧ (k : Rat) * cQ * ((2 ^ (w + 8).toNat : Int) : Rat) ≤ b * ((2 ^ (w + 8).toNat : Int) : Rat) + 5) ∧
 (g = false → ∀ k : Int, (k - c) % 4 = 0 → (k : Rat) * cQ * ((2 ^ (w + 8).toNat : Int) : Rat) + 3 ≤ a * ((2 ^ (w + 8).toNat : Int) : Rat) ∨ b * ((2 ^ (w + 8).toNat : Int) : Rat) + 3 ≤ (k : Rat) * cQ * ((2 ^ (w + 8).toNat : Int) : Rat))
theorem tp_facts {a b : Rat} {x y w c : Int} (h1 : (x : Rat) * cQ ≤ a * ((2 ^ (w + 8).toNat : Int) : Rat) + 1 / 100) (h2 : a * ((2 ^ (w + 8).toNat : Int) : Rat) ≤ ((x : Rat) + 1) * cQ + 1 / 100) (h3 : (y : Rat) * cQ ≤ b * ((2 ^ (w + 8).toNat : Int) : Rat) + 1 / 100) (h4 : b * ((2 ^ (w + 8).toNat : Int) : Rat) ≤ ((y : Rat) + 1) * cQ + 1 / 100) :
  Tp a b w c (decide ((-(-(x - 2) / 2 ^ ((w + 8)).toNat)) + (c - (-(-(x - 2) / 2 ^ ((w + 8)).toNat))) % 4 ≤ ((y + 2) / 2 ^ ((w + 8)).toNat))) := by
 have cb := cQ_b
 have c0 : 0 ≤ cQ := by grind
 unfold Tp
 have F0 := two_pos (w + 8).toNat
 generalize hF : (2 : Int) ^ (w + 8).toNat = F at *
 have a1 := Int.ediv_mul_le (-(x - 2)) (show F ≠ 0 by omega)
 have a2 := Int.lt_ediv_add_one_mul_self (-(x - 2)) F0
 have b1 := Int.ediv_mul_le (y + 2) (show F ≠ 0 by omega)
 have b2 := Int.lt_ediv_add_one_mul_self (y + 2) F0
 generalize -(x - 2) / F = u at *
 generalize (y + 2) / F = v at *
 have cast : ∀ (k z : Int), z ≤ k * F → (z : Rat) * cQ ≤ (k : Rat) * cQ * (F : Rat) := fun k z h => by
  have h := Rat.mul_le_mul_of_nonneg_right (Rat.intCast_le_intCast.2 h) c0
  rw [Rat.intCast_mul] at h
  grind
 have cast2 : ∀ (k z : Int), k * F ≤ z → (k : Rat) * cQ * (F : Rat) ≤ (z : Rat) * cQ := fun k z h => by
  have h := Rat.mul_le_mul_of_nonneg_right (Rat.intCast_le_intCast.2 h) c0
  rw [Rat.intCast_mul] at h
  grind
 constructor
 ·intro g
  have g := of_decide_eq_true g
  refine ⟨-u + (c - -u) % 4, by omega, ?_, ?_⟩
  ·have k := cast (-u + (c - -u) % 4) (x - 2) (by
    have m := Int.mul_le_mul_of_nonneg_right (show -u ≤ -u + (c - -u) % 4 by omega) (Int.le_of_lt F0)
    rw [Int.neg_mul] at m
    omega)
   rw [Rat.intCast_sub x 2] at k
   have k : ((x : Rat) - 2) * cQ ≤ _ := k
   grind
  ·have k := cast2 (-u + (c - -u) % 4) (y + 2) (by
    have m := Int.mul_le_mul_of_nonneg_right g (Int.le_of_lt F0)
    omega)
   rw [Rat.intCast_add y 2] at k
   have k : _ ≤ ((y : Rat) + 2) * cQ := k
   grind
 ·intro g k hk
  have g := of_decide_eq_false g
  by_cases hl : k < -u
  ·left
   have z := cast2 k (x - 3) (by
    have m := Int.mul_le_mul_of_nonneg_right (show u + 1 ≤ -k by omega) (Int.le_of_lt F0)
    rw [Int.neg_mul] at m
    omega)
   rw [Rat.intCast_sub] at z
   have z : _ ≤ ((x : Rat) - 3) * cQ := z
   grind
  ·right
   have z := cast k (y + 3) (by
    have m := Int.mul_le_mul_of_nonneg_right (show v + 1 ≤ k by omega) (Int.le_of_lt F0)
    omega)
   rw [Rat.intCast_add] at z
   have z : ((y : Rat) + 3) * cQ ≤ _ := z
   grind
theorem ci_set1 (m ee n f more w : Int) (hmo : more = 0 ∨ more = 1) (hw : 0 ≤ w ∧ w ≤ 200) (hm : L (m).natAbs ≤ 20) (he : -440 ≤ ee ∧ ee ≤ 130) (hd : -4294967296 ≤ dv m ee ∧ dv m ee ≤ 4294967296) :
  ∃ x1 x2 : Int, Impl Tryz.prog Amb 133 [(.int .i64 w), (.clos 156 [(.pt [(V.bool (decide (m < 0))), (N m.natAbs), (V.int .i64 ee), (V.bool (decide (n < 0))), (N n.natAbs), (V.int .i64 f)] 0), (.pt [(V.int .i64 more)] 0)])] (.agg [(.bool (decide (x1 < 0))), (N x1.natAbs), (.bool (decide (x2 < 0))), (N x2.natAbs)]) ∧ (x1 ≤ x2 ∧ x2 - x1 ≤ 2) ∧ EnE (SC more (dv m ee)) w.toNat x1 x2 (sE * ((2 ^ w.toNat : Int) : Rat)) ∧ L x1.natAbs ≤ 76 ∧ L x2.natAbs ≤ 76 := by
 obtain ⟨u1, u2, hS, u12, uw, hE, l1, l2⟩ := fx_SinE m ee more (w + 24) hmo oO hm he hd.1 hd.2
 have hC := ci_clo1 m ee n f more (w + 24) u1 u2 hS
 have hT := fx_Settle2 156 (.pt [(V.bool (decide (m < 0))), (N m.natAbs), (V.int .i64 ee), (V.bool (decide (n < 0))), (N n.natAbs), (V.int .i64 f)] 0) (.pt [(V.int .i64 more)] 0) u1 u2 w hC oO (nbits_of_lt oO) oO
 have hw3 := half_w (a := u1) (b := u2) (W := 1) (n := 24) oO
 have o1 := L_abs_shr u1 24
 have o2 := L_abs_neg u2
 have o3 := L_abs_shr (-u2) 24
 have o4 := L_abs_neg (-u2 / 2 ^ 24)
 exact ⟨_, _, hT, ⟨by have : (2 : Int) ^ 24 = 16777216 := rfl; rw [this]; omega, hw3⟩, hE.half oO, by omega, by omega⟩
theorem ci_set2 (m ee n f more w : Int) (hmo : more = 0 ∨ more = 1) (hw : 0 ≤ w ∧ w ≤ 200) (hm : L (n).natAbs ≤ 20) (he : -440 ≤ f ∧ f ≤ 130) (hd : -4294967296 ≤ dv n f ∧ dv n f ≤ 4294967296) :
  ∃ x1 x2 : Int, Impl Tryz.prog Amb 133 [(.int .i64 w), (.clos 158 [(.pt [(V.bool (decide (m < 0))), (N m.natAbs), (V.int .i64 ee), (V.bool (decide (n < 0))), (N n.natAbs), (V.int .i64 f)] 0), (.pt [(V.int .i64 more)] 0)])] (.agg [(.bool (decide (x1 < 0))), (N x1.natAbs), (.bool (decide (x2 < 0))), (N x2.natAbs)]) ∧ (x1 ≤ x2 ∧ x2 - x1 ≤ 2) ∧ EnE (SC more (dv n f)) w.toNat x1 x2 (sE * ((2 ^ w.toNat : Int) : Rat)) ∧ L x1.natAbs ≤ 76 ∧ L x2.natAbs ≤ 76 := by
 obtain ⟨u1, u2, hS, u12, uw, hE, l1, l2⟩ := fx_SinE n f more (w + 24) hmo oO hm he hd.1 hd.2
 have hC := ci_clo2 m ee n f more (w + 24) u1 u2 hS
 have hT := fx_Settle2 158 (.pt [(V.bool (decide (m < 0))), (N m.natAbs), (V.int .i64 ee), (V.bool (decide (n < 0))), (N n.natAbs), (V.int .i64 f)] 0) (.pt [(V.int .i64 more)] 0) u1 u2 w hC oO (nbits_of_lt oO) oO
 have hw3 := half_w (a := u1) (b := u2) (W := 1) (n := 24) oO
 have o1 := L_abs_shr u1 24
 have o2 := L_abs_neg u2
 have o3 := L_abs_shr (-u2) 24
 have o4 := L_abs_neg (-u2 / 2 ^ 24)
 exact ⟨_, _, hT, ⟨by have : (2 : Int) ^ 24 = 16777216 := rfl; rw [this]; omega, hw3⟩, hE.half oO, by omega, by omega⟩
theorem dv32 : dv 1 32 = 4294967296 := of_decide_eq_true (by kernel_rfl)
theorem ins_ok (m ee : Int) (hm : L (m).natAbs ≤ 20) (he : -440 ≤ ee ∧ ee ≤ 130) (hd : -4294967296 ≤ dv m ee ∧ dv m ee ≤ 4294967296) : Impl Tryz.prog Amb 93 [(yV m ee)] (.bool true) :=
 ci_insT m ee oO oO (cmpD_le.2 (by rw [dv32]; exact hd.2)) (cmpD_le.2 (by rw [dv32, dv_neg]; have := hd.1; grind))
theorem ci_imgE (m ee n f more w : Int) (hmo : more = 0 ∨ more = 1) (hw : 0 ≤ w ∧ w ≤ 200) (hm : L (m).natAbs ≤ 20) (he : -440 ≤ ee ∧ ee ≤ 130) (hd : -4294967296 ≤ dv m ee ∧ dv m ee ≤ 4294967296) (hn : L (n).natAbs ≤ 20) (hf : -440 ≤ f ∧ f ≤ 130) (hd' : -4294967296 ≤ dv n f ∧ dv n f ≤ 4294967296) :
  ∃ (tp bt : Bool) (x1 x2 y1 y2 : Int), Impl Tryz.prog Amb 92 [(wV m ee n f), (.int .i64 more), (.int .i64 w)] (.tup [(wV (mkM (if bt then -(2 ^ w.toNat) else max (-(2 ^ w.toNat)) (min x1 y1)) (-w)) (mkX (if bt then -(2 ^ w.toNat) else max (-(2 ^ w.toNat)) (min x1 y1)) (-w)) (mkM (if tp then 2 ^ w.toNat else min (2 ^ w.toNat) (max x2 y2)) (-w)) (mkX (if tp then 2 ^ w.toNat else min (2 ^ w.toNat) (max x2 y2)) (-w))), (.int .i64 0)]) ∧
   ((x1 ≤ x2 ∧ x2 - x1 ≤ 2) ∧ EnE (SC more (dv m ee)) w.toNat x1 x2 (sE * ((2 ^ w.toNat : Int) : Rat)) ∧ L x1.natAbs ≤ 76 ∧ L x2.natAbs ≤ 76) ∧ ((y1 ≤ y2 ∧ y2 - y1 ≤ 2) ∧ EnE (SC more (dv n f)) w.toNat y1 y2 (sE * ((2 ^ w.toNat : Int) : Rat)) ∧ L y1.natAbs ≤ 76 ∧ L y2.natAbs ≤ 76) ∧ Tp (dv m ee) (dv n f) w (1 - more) tp ∧ Tp (dv m ee) (dv n f) w (3 - more) bt := by
 obtain ⟨x1, x2, hX, FX⟩ := ci_set1 m ee n f more w hmo hw hm he hd
 obtain ⟨y1, y2, hY, FY⟩ := ci_set2 m ee n f more w hmo hw hn hf hd'
 obtain ⟨x, hQ1, lx, qa, qb⟩ := fx_QuartersE m ee (w + 8) oO hm he hd.1 hd.2
 obtain ⟨y, hQ2, ly, qc, qd⟩ := fx_QuartersE n f (w + 8) oO hn hf hd'.1 hd'.2
 have hI1 := ins_ok m ee hm he hd
 have hI2 := ins_ok n f hn hf hd'
 have hTu := ci_tur m ee n f w x y hQ1 hQ2 oO oO oO
 have z1 := L_lit 2 (by decide)
 have z2 := L_abs_sub x 2
 have z3 := L_abs_neg (x - 2)
 have z4 := L_abs_shr (-(x - 2)) (w + 8).toNat
 have z5 := L_abs_neg (-(x - 2) / 2 ^ (w + 8).toNat)
 have z6 := L_abs_add y 2
 have z7 := L_abs_shr (y + 2) (w + 8).toNat
 have z8 : L (2 : Int).natAbs ≤ 1 := z1
 have hR1 := ci_rea (-(-(x - 2) / 2 ^ ((w + 8)).toNat)) ((y + 2) / 2 ^ ((w + 8)).toNat) (1 - more) oO oO oO
 have hR2 := ci_rea (-(-(x - 2) / 2 ^ ((w + 8)).toNat)) ((y + 2) / 2 ^ ((w + 8)).toNat) (3 - more) oO oO oO
 have RT := tp_facts (c := 1 - more) qa qb qc qd
 have RB := tp_facts (c := 3 - more) qa qb qc qd
 have pw := L_pow1 w.toNat
 rw [Int.one_mul] at pw
 have pn := L_abs_neg (2 ^ w.toNat)
 have mn := L_abs_min x1 y1
 have mx := L_abs_max x2 y2
 have mM := L_abs_max (-(2 ^ w.toNat)) (min x1 y1)
 have mN := L_abs_min (2 ^ w.toNat) (max x2 y2)
 have f1 := FX.2.2
 have f2 := FY.2.2
 generalize ht : decide ((-(-(x - 2) / 2 ^ ((w + 8)).toNat)) + (1 - more - (-(-(x - 2) / 2 ^ ((w + 8)).toNat))) % 4 ≤ ((y + 2) / 2 ^ ((w + 8)).toNat)) = gt at *
 generalize hb : decide ((-(-(x - 2) / 2 ^ ((w + 8)).toNat)) + (3 - more - (-(-(x - 2) / 2 ^ ((w + 8)).toNat))) % 4 ≤ ((y + 2) / 2 ^ ((w + 8)).toNat)) = gb at *
 cases gt with
 | true =>
  cases gb with
  | true =>
  ·have mA := dy_Make (-(2 ^ w.toNat)) (0 - w) oO oO
   have mB := dy_Make (2 ^ w.toNat) (0 - w) oO oO
   rw [Int.zero_sub, mk_fine2 (m := (-(2 ^ w.toNat))) (e := -w) oO oO] at mA
   rw [Int.zero_sub, mk_fine2 (m := (2 ^ w.toNat)) (e := -w) oO oO] at mB
   refine ⟨true, true, x1, x2, y1, y2, ?_, FX, FY, RT, RB⟩
   exact ci_imgTT m ee n f more w _ _ x1 x2 y1 y2 _ _ _ _ oO oO hI1 hI2 hTu hR1 hR2 (by rw [Int.one_mul, Int.zero_sub]; exact mA) (by rw [Int.one_mul, Int.zero_sub]; exact mB) oO oO oO oO
  | false =>
  ·have mA := dy_Make (max (-(2 ^ w.toNat)) (min x1 y1)) (0 - w) oO oO
   have mB := dy_Make (2 ^ w.toNat) (0 - w) oO oO
   rw [Int.zero_sub, mk_fine2 (m := (max (-(2 ^ w.toNat)) (min x1 y1))) (e := -w) oO oO] at mA
   rw [Int.zero_sub, mk_fine2 (m := (2 ^ w.toNat)) (e := -w) oO oO] at mB
   refine ⟨true, false, x1, x2, y1, y2, ?_, FX, FY, RT, RB⟩
   exact ci_imgTF m ee n f more w _ _ x1 x2 y1 y2 _ _ _ _ oO oO hI1 hI2 hTu hR1 hR2 hX hY (by rw [Int.one_mul, Int.zero_sub]; exact mA) (by rw [Int.one_mul, Int.zero_sub]; exact mB) oO oO oO oO
 | false =>
  cases gb with
  | true =>
  ·have mA := dy_Make (-(2 ^ w.toNat)) (0 - w) oO oO
   have mB := dy_Make (min (2 ^ w.toNat) (max x2 y2)) (0 - w) oO oO
   rw [Int.zero_sub, mk_fine2 (m := (-(2 ^ w.toNat))) (e := -w) oO oO] at mA
   rw [Int.zero_sub, mk_fine2 (m := (min (2 ^ w.toNat) (max x2 y2))) (e := -w) oO oO] at mB
   refine ⟨false, true, x1, x2, y1, y2, ?_, FX, FY, RT, RB⟩
   exact ci_imgFT m ee n f more w _ _ x1 x2 y1 y2 _ _ _ _ oO oO hI1 hI2 hTu hR1 hR2 hX hY (by rw [Int.one_mul, Int.zero_sub]; exact mA) (by rw [Int.one_mul, Int.zero_sub]; exact mB) oO oO oO oO
  | false =>
  ·have mA := dy_Make (max (-(2 ^ w.toNat)) (min x1 y1)) (0 - w) oO oO
   have mB := dy_Make (min (2 ^ w.toNat) (max x2 y2)) (0 - w) oO oO
   rw [Int.zero_sub, mk_fine2 (m := (max (-(2 ^ w.toNat)) (min x1 y1))) (e := -w) oO oO] at mA
   rw [Int.zero_sub, mk_fine2 (m := (min (2 ^ w.toNat) (max x2 y2))) (e := -w) oO oO] at mB
   refine ⟨false, false, x1, x2, y1, y2, ?_, FX, FY, RT, RB⟩
   exact ci_imgFF m ee n f more w _ _ x1 x2 y1 y2 _ _ _ _ oO oO hI1 hI2 hTu hR1 hR2 hX hY (by rw [Int.one_mul, Int.zero_sub]; exact mA) (by rw [Int.one_mul, Int.zero_sub]; exact mB) oO oO oO oO
end Go.Proofs.YtcbihoojfakhdaaGreatDoor




namespace Go.Proofs.YtcbihoojfakhdaaGreatDoor
open Go.RowKit
set_option maxRecDepth 100000
set_option maxHeartbeats 2000000
theorem dv_tople {m e t : Int} (h : topD m e ≤ t) : -(dv 1 t) ≤ dv m e ∧ dv m e ≤ dv 1 t := by
 by_cases hm : m = 0
 ·have := dv_ge0 (m := 1) (e := t) |>.2 (by decide)
  rw [hm, dv_zero]; constructor <;> grind
 ·have a := (dv_top (e := e) hm).1
  have u : dv 1 (topD m e) ≤ dv 1 t := by
   rw [dv_at (m := 1) (e := t) (c := topD m e) oO, dv_le, Int.one_mul]
   have := two_pos (t - topD m e).toNat
   omega
  rcases (show (m.natAbs : Int) = m ∨ (m.natAbs : Int) = -m by omega) with q | q
  ·have n0 : 0 ≤ dv m e := dv_ge0.2 oO
   rw [q] at a
   constructor <;> grind
  ·have n0 : 0 ≤ dv (-m) e := dv_ge0.2 oO
   rw [q] at a
   rw [dv_neg] at a n0
   constructor <;> grind
end Go.Proofs.YtcbihoojfakhdaaGreatDoor

