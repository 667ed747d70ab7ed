/-
  Lower layers: what functions of the program compute, and plain facts. Conditions: as the theorems say.
-/
import Derived.Test.YtmbpoibhamlkbaaGreatDoorPpR
set_option linter.unusedVariables false
set_option linter.unusedSimpArgs false
namespace Go.Proofs.YtmbpoibhamlkbaaGreatDoor
open Go.RowKit
set_option maxRecDepth 100000
set_option maxHeartbeats 2000000
theorem r07_PowerP (r : Rat) (k : Int) (c0 : L r.num.natAbs ≤ 60) (c1 : L r.den ≤ 60) (c2 : (0 : Int) ≤ k ∧ k ≤ 64) : Impl Tryz.prog Amb 48 [(.agg [(.bool (decide (r.num < 0))), (N r.num.natAbs), (N r.den)]), (.int .i64 k)] (.tup [(.agg [(.bool (decide ((r ^ k).num < 0))), (N (((r ^ k).num).natAbs)), (N ((r ^ k).den))]), (.int .i64 0)]) := by
  exact impl_ob hP hAmb Tryz.func48 (by kernel_rfl) (.lit <| .no <| .lits 3 <| .no <| .lit <| .no <| .lit <| .both (.lits 7 <| .call (N (r.num.natAbs ^ (k).toNat)) <| .lit <| .call (zV (sgn (iEq (wRem k (2 : Int)) 1) (r.num.natAbs ^ (k).toNat))) <| .lits 2 <| .call (N (r.den ^ (k).toNat)) <| .lits 3 <| .ret) (.lits 5 <| .call (N (r.num.natAbs ^ (k).toNat)) <| .lit <| .call (zV (sgn false (r.num.natAbs ^ (k).toNat))) <| .lits 2 <| .call (N (r.den ^ (k).toNat)) <| .lits 3 <| .ret))
    (cast_ob (aI True.intro (aI (iLt_mkF oA : (iLt k (-64)) = false) (aI (iGt_mkF oA : (iGt k 64) = false) (aI (iLt_mkF oO : (iLt k 0) = false) (aI (fun (h1 : (decide (r.num < 0)) = true) => have _gh1 := of_decide_eq_true h1; aI (r02_Power r.num.natAbs k oA oA) (have f4 := (L_pow64 oA : L (r.num.natAbs ^ (k).toNat) ≤ 64 * L r.num.natAbs + 1); aI (r05_Nat (iEq (wRem k (2 : Int)) 1) (r.num.natAbs ^ (k).toNat) oA) (have f3 := L_sgn (iEq (wRem k (2 : Int)) 1) (r.num.natAbs ^ (k).toNat); aI (r02_Power r.den k oA oA) (have f2 := (L_pow64 oA : L (r.den ^ (k).toNat) ≤ 64 * L r.den + 1); (by rw [(zp_num (r := r) c2.1).1, (zp_num (r := r) c2.1).2, ← sgn_pow (b := (iEq (wRem k (2 : Int)) 1)) (x := r.num) (k := k.toNat) ((by rw [rem_two c2.1, iEq_dec]; have := of_decide_eq_true (p := r.num < 0) (by assumption); rw [decide_eq_true this, Bool.true_and, decide_eq_decide]; omega))]; exact vsub_refl _ : vsub (.tup [(.agg [(.bool (decide ((sgn (iEq (wRem k (2 : Int)) 1) (r.num.natAbs ^ (k).toNat)) < 0))), (N ((sgn (iEq (wRem k (2 : Int)) 1) (r.num.natAbs ^ (k).toNat)).natAbs)), (N (r.den ^ (k).toNat))]), (.int .i64 0)]) (.tup [(.agg [(.bool (decide ((r ^ k).num < 0))), (N (((r ^ k).num).natAbs)), (N ((r ^ k).den))]), (.int .i64 0)])))))) (fun (h5 : (decide (r.num < 0)) = false) => have _gh5 := of_decide_eq_false h5; aI (r02_Power r.num.natAbs k oA oA) (have f8 := (L_pow64 oA : L (r.num.natAbs ^ (k).toNat) ≤ 64 * L r.num.natAbs + 1); aI (r05_Nat false (r.num.natAbs ^ (k).toNat) oA) (have f7 := L_sgn false (r.num.natAbs ^ (k).toNat); aI (r02_Power r.den k oA oA) (have f6 := (L_pow64 oA : L (r.den ^ (k).toNat) ≤ 64 * L r.den + 1); (by rw [(zp_num (r := r) c2.1).1, (zp_num (r := r) c2.1).2, ← sgn_pow (b := false) (x := r.num) (k := k.toNat) ((by have := of_decide_eq_false (p := r.num < 0) (by assumption); rw [decide_eq_false this]; rfl))]; exact vsub_refl _ : vsub (.tup [(.agg [(.bool (decide ((sgn false (r.num.natAbs ^ (k).toNat)) < 0))), (N ((sgn false (r.num.natAbs ^ (k).toNat)).natAbs)), (N (r.den ^ (k).toNat))]), (.int .i64 0)]) (.tup [(.agg [(.bool (decide ((r ^ k).num < 0))), (N (((r ^ k).num).natAbs)), (N ((r ^ k).den))]), (.int .i64 0)]))))))))))) (by kernel_rfl))
theorem r07_PowerN (r : Rat) (k : Int) (c0 : L r.num.natAbs ≤ 58) (c1 : L r.den ≤ 58) (c2 : (-64 : Int) ≤ k ∧ k < 0) (c3 : r ≠ 0) : Impl Tryz.prog Amb 48 [(.agg [(.bool (decide (r.num < 0))), (N r.num.natAbs), (N r.den)]), (.int .i64 k)] (.tup [(.agg [(.bool (decide ((r ^ k).num < 0))), (N (((r ^ k).num).natAbs)), (N ((r ^ k).den))]), (.int .i64 0)]) := by
  exact impl_ob hP hAmb Tryz.func48 (by kernel_rfl) (.lit <| .no <| .lits 3 <| .no <| .lit <| .yes <| .lit <| .call (.agg [(.bool (decide ((Int.cast 1 : Rat).num < 0))), (N (((Int.cast 1 : Rat).num).natAbs)), (N ((Int.cast 1 : Rat).den))]) <| .lits 2 <| .call (.tup [(.agg [(.bool (decide (((Int.cast 1 : Rat) / r).num < 0))), (N ((((Int.cast 1 : Rat) / r).num).natAbs)), (N (((Int.cast 1 : Rat) / r).den))]), (.int .i64 0)]) <| .lits 4 <| .yes <| .lit <| .call (.tup [(.agg [(.bool (decide ((((Int.cast 1 : Rat) / r) ^ ((0 : Int) - k)).num < 0))), (N (((((Int.cast 1 : Rat) / r) ^ ((0 : Int) - k)).num).natAbs)), (N ((((Int.cast 1 : Rat) / r) ^ ((0 : Int) - k)).den))]), (.int .i64 0)]) <| .lits 2 <| .ret)
    (cast_ob (aI True.intro (aI (iLt_mkF oS : (iLt k (-64)) = false) (aI (iGt_mkF oS : (iGt k 64) = false) (aI (iLt_mk oO : (iLt k 0) = true) (aI (r07_Of 1 oS) (have f2 := (q_ofL oS : L (Int.cast 1 : Rat).num.natAbs ≤ 2 ∧ L (Int.cast 1 : Rat).den ≤ 1); aI (r07_Div (Int.cast 1 : Rat) r oS oS oS oS oS) (have f1 := q_divL (r := (Int.cast 1 : Rat)) (show r ≠ 0 by first | assumption | omega | decide); aI (fits_i64 oS : (fits .i64 ((0 : Int) - k)) = true) (aI (r07_PowerP ((Int.cast 1 : Rat) / r) ((0 : Int) - k) oS oS oS) ((by rw [zp_inv c3 oO]; exact vsub_refl _ : vsub (.tup [(.agg [(.bool (decide ((((Int.cast 1 : Rat) / r) ^ ((0 : Int) - k)).num < 0))), (N (((((Int.cast 1 : Rat) / r) ^ ((0 : Int) - k)).num).natAbs)), (N ((((Int.cast 1 : Rat) / r) ^ ((0 : Int) - k)).den))]), (.int .i64 0)]) (.tup [(.agg [(.bool (decide ((r ^ k).num < 0))), (N (((r ^ k).num).natAbs)), (N ((r ^ k).den))]), (.int .i64 0)]))))))))))) (by kernel_rfl))
theorem r07_PowerC (r : Rat) (k : Int) (c0 : L r.num.natAbs ≤ 58) (c1 : L r.den ≤ 58) (c2 : (-64 : Int) ≤ k ∧ k ≤ 64) (c3 : 0 ≤ k ∨ r ≠ 0) : Impl Tryz.prog Amb 48 [(.agg [(.bool (decide (r.num < 0))), (N r.num.natAbs), (N r.den)]), .int .i64 k] (.tup [(.agg [(.bool (decide ((r ^ k).num < 0))), (N (((r ^ k).num).natAbs)), (N ((r ^ k).den))]), (.int .i64 0)]) := by
  by_cases h : 0 ≤ k
  · exact r07_PowerP r k oO oO ⟨h, c2.2⟩
  · exact r07_PowerN r k c0 c1 ⟨c2.1, by omega⟩ (c3.elim (fun q => absurd q h) id)
theorem pw_Lc {r : Rat} {k : Int} (h1 : L r.num.natAbs ≤ 60) (h2 : L r.den ≤ 60) (hk : -64 ≤ k ∧ k ≤ 64) : L (r ^ k).num.natAbs ≤ 3900 ∧ L (r ^ k).den ≤ 3900 := by
  by_cases h : 0 ≤ k
  · have := pw_Ls h1 h2 ⟨h, hk.2⟩; omega
  · by_cases hr : r = 0
    · rw [zp_i oO, hr]
      obtain ⟨j, hj⟩ : ∃ j, (-k).toNat = j + 1 := ⟨(-k).toNat - 1, by omega⟩
      rw [hj, Rat.pow_succ, Rat.mul_zero, Rat.inv_zero]
      have a : L 1 ≤ 1 := L_le (by decide)
      have b : L (0 : Rat).num.natAbs = 0 := L_zero
      have c : L (0 : Rat).den = L 1 := rfl
      omega
    · have a := pw_Ls h1 h2 (k := -k) ⟨by omega, by omega⟩
      have e : r ^ k = 1 / r ^ (-k) := by rw [Rat.zpow_neg, Rat.div_def, Rat.one_mul, Rat.inv_inv]
      have b := q_divL (r := 1) (s := r ^ (-k)) (by rw [zp_n oO]; exact pw_ne hr _)
      have c : L (1 : Rat).num.natAbs ≤ 1 := L_le (by decide)
      have d : L (1 : Rat).den ≤ 1 := L_le (by decide)
      rw [e]; omega
theorem pw_mk {x z w y : Int} (hx : x = y) (hz : z = -w) : mkM y (-w) = mkM x z ∧ mkX y (-w) = mkX x z ∧ mkE y (-w) = mkE x z := by rw [hx, hz]; exact ⟨rfl, rfl, rfl⟩
theorem pw_f0 {m e k w : Int} {up b : Bool} (hb : b = decide (m < 0 ∧ k % 2 ≠ 0)) (h : (!(bEq up b)) = false) : sgn b (mgF m e k w) = pwR m e k w up :=
  pw_fin (g := false) hb (by rw [show (!(up == b)) = false from h]; rfl) rfl
theorem pw_f1 {m e k w : Int} {up b : Bool} (hb : b = decide (m < 0 ∧ k % 2 ≠ 0)) (h : (!mgX m e k w) = false) : sgn b (mgF m e k w) = pwR m e k w up :=
  pw_fin (g := false) hb (by rw [h, Bool.and_false]) rfl
theorem pw_f2 {m e k w : Int} {up b : Bool} (hb : b = decide (m < 0 ∧ k % 2 ≠ 0)) (h : (!(bEq up b)) = true) (h2 : (!mgX m e k w) = true) : sgn b (mgF m e k w + 1) = pwR m e k w up :=
  pw_fin (g := true) hb (by rw [show (!(up == b)) = true from h, h2]; rfl) rfl
theorem pw_b {m k : Int} (h : m < 0) : iNe (wRem k 2) 0 = decide (m < 0 ∧ k % 2 ≠ 0) := by
  have := even_wRem k
  by_cases q : wRem k 2 = 0
  · rw [show iNe (wRem k 2) 0 = false by rw [q]; rfl, decide_eq_false oO]
  · rw [show iNe (wRem k 2) 0 = true from iNe_mk q, decide_eq_true oO]
theorem pw_b0 {m k : Int} (h : ¬ m < 0) : false = decide (m < 0 ∧ k % 2 ≠ 0) := (decide_eq_false oO).symm
theorem mgF_L4 (m e k w : Int) : (L (mgF m e k w) : Int) ≤ 64 * (L m.natAbs : Int) + (k * e + w).toNat / 32 + 4 ∨ k < -64 ∨ 64 < k ∨ (m = 0 ∧ k < 0) := by
  by_cases hk : -64 ≤ k ∧ k ≤ 64
  · by_cases h0 : 0 ≤ k
    · refine .inl ?_
      have hp := L_pow64 (a := m.natAbs) (k := k.toNat) oO
      by_cases h : 0 ≤ k * e + w
      · rw [← (mg_p1 (m := m) h0 h).1]
        have := L_shl (m.natAbs ^ k.toNat) (k * e + w).toNat
        omega
      · rw [← (mg_p2 (m := m) h0 oO).1]
        have := L_div (m.natAbs ^ k.toNat) (2 ^ (0 - (k * e + w)).toNat)
        omega
    · by_cases hm : m = 0
      · exact .inr (.inr (.inr ⟨hm, by omega⟩))
      · refine .inl ?_
        have z1 : L 1 ≤ 1 := L_le (by decide)
        by_cases h : 0 ≤ k * e + w
        · rw [← (mg_n1 (m := m) oO hm h).1]
          have := L_div (1 * 2 ^ (k * e + w).toNat) (m.natAbs ^ (-k).toNat)
          have := L_shl 1 (k * e + w).toNat
          omega
        · rw [← (mg_n2 (m := m) oO hm oO).1]
          have := L_div 1 (m.natAbs ^ (-k).toNat * 2 ^ (0 - (k * e + w)).toNat)
          omega
  · omega
theorem mul_rng {k e : Int} {a b : Nat} (h : -(a : Int) ≤ k ∧ k ≤ a) (g : -(b : Int) ≤ e ∧ e ≤ b) : -((a * b : Nat) : Int) ≤ k * e ∧ k * e ≤ ((a * b : Nat) : Int) := by
  have h1 : (k * e).natAbs ≤ a * b := by
    rw [Int.natAbs_mul]
    exact Nat.mul_le_mul oO oO
  omega
theorem mg_nil {m e k w : Int} (h : 0 = mgF m e k w ∧ false = mgX m e k w) : vsub (.tup [.nil, .bool false]) (.tup [N (mgF m e k w), .bool (mgX m e k w)]) := by
  rw [← h.1, ← h.2, N_zero]
  exact vsub_tup2 (vsub_nil 1) (vsub_refl _)
theorem mg_ret {m e k w : Int} {x : Nat} {b : Bool} (h : x = mgF m e k w ∧ b = mgX m e k w) : vsub (.tup [N x, .bool b]) (.tup [N (mgF m e k w), .bool (mgX m e k w)]) := by
  rw [h.1, h.2]; exact vsub_refl _
end Go.Proofs.YtmbpoibhamlkbaaGreatDoor
