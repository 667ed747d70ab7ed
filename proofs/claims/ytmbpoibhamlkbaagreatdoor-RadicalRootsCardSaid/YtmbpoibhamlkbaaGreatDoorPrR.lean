/-
  Lower layers: what functions of the program compute, and plain facts. Conditions: as the theorems say.
-/
import Derived.Test.YtmbpoibhamlkbaaGreatDoorPrQ
set_option linter.unusedVariables false
set_option linter.unusedSimpArgs false
namespace Go.Proofs.YtmbpoibhamlkbaaGreatDoor
open Go.RowKit
set_option maxRecDepth 100000
set_option maxHeartbeats 2000000
theorem pw_mk {x z w y : Int} (hx : x = y) (hz : z = -w) : mkM y (-w) = mkM x z ∧ mkX y (-w) = mkX x z ∧ mkE y (-w) = mkE x z := by rw [hx, hz]; exact ⟨rfl, rfl, rfl⟩
theorem pw_f0 {m e k w : Int} {up b : Bool} (hb : b = decide (m < 0 ∧ k % 2 ≠ 0)) (h : (!(bEq up b)) = false) : sgn b (mgF m e k w) = pwR m e k w up :=
  pw_fin (g := false) hb (by rw [show (!(up == b)) = false from h]; rfl) rfl
theorem pw_f1 {m e k w : Int} {up b : Bool} (hb : b = decide (m < 0 ∧ k % 2 ≠ 0)) (h : (!mgX m e k w) = false) : sgn b (mgF m e k w) = pwR m e k w up :=
  pw_fin (g := false) hb (by rw [h, Bool.and_false]) rfl
theorem pw_f2 {m e k w : Int} {up b : Bool} (hb : b = decide (m < 0 ∧ k % 2 ≠ 0)) (h : (!(bEq up b)) = true) (h2 : (!mgX m e k w) = true) : sgn b (mgF m e k w + 1) = pwR m e k w up :=
  pw_fin (g := true) hb (by rw [show (!(up == b)) = true from h, h2]; rfl) rfl
theorem pw_b {m k : Int} (h : m < 0) : iNe (wRem k 2) 0 = decide (m < 0 ∧ k % 2 ≠ 0) := by
  have := even_wRem k
  by_cases q : wRem k 2 = 0
  · rw [show iNe (wRem k 2) 0 = false by rw [q]; rfl, decide_eq_false oO]
  · rw [show iNe (wRem k 2) 0 = true from iNe_mk q, decide_eq_true oO]
theorem pw_b0 {m k : Int} (h : ¬ m < 0) : false = decide (m < 0 ∧ k % 2 ≠ 0) := (decide_eq_false oO).symm
theorem mgF_L4 (m e k w : Int) : (L (mgF m e k w) : Int) ≤ 64 * (L m.natAbs : Int) + (k * e + w).toNat / 32 + 4 ∨ k < -64 ∨ 64 < k ∨ (m = 0 ∧ k < 0) := by
  by_cases hk : -64 ≤ k ∧ k ≤ 64
  · by_cases h0 : 0 ≤ k
    · refine .inl ?_
      have hp := L_pow64 (a := m.natAbs) (k := k.toNat) oO
      by_cases h : 0 ≤ k * e + w
      · rw [← (mg_p1 (m := m) h0 h).1]
        have := L_shl (m.natAbs ^ k.toNat) (k * e + w).toNat
        omega
      · rw [← (mg_p2 (m := m) h0 oO).1]
        have := L_div (m.natAbs ^ k.toNat) (2 ^ (0 - (k * e + w)).toNat)
        omega
    · by_cases hm : m = 0
      · exact .inr (.inr (.inr ⟨hm, by omega⟩))
      · refine .inl ?_
        have z1 : L 1 ≤ 1 := L_le (by decide)
        by_cases h : 0 ≤ k * e + w
        · rw [← (mg_n1 (m := m) oO hm h).1]
          have := L_div (1 * 2 ^ (k * e + w).toNat) (m.natAbs ^ (-k).toNat)
          have := L_shl 1 (k * e + w).toNat
          omega
        · rw [← (mg_n2 (m := m) oO hm oO).1]
          have := L_div 1 (m.natAbs ^ (-k).toNat * 2 ^ (0 - (k * e + w)).toNat)
          omega
  · omega
theorem mul_rng {k e : Int} {a b : Nat} (h : -(a : Int) ≤ k ∧ k ≤ a) (g : -(b : Int) ≤ e ∧ e ≤ b) : -((a * b : Nat) : Int) ≤ k * e ∧ k * e ≤ ((a * b : Nat) : Int) := by
  have h1 : (k * e).natAbs ≤ a * b := by
    rw [Int.natAbs_mul]
    exact Nat.mul_le_mul oO oO
  omega
theorem mg_nil {m e k w : Int} (h : 0 = mgF m e k w ∧ false = mgX m e k w) : vsub (.tup [.nil, .bool false]) (.tup [N (mgF m e k w), .bool (mgX m e k w)]) := by
  rw [← h.1, ← h.2, N_zero]
  exact vsub_tup2 (vsub_nil 1) (vsub_refl _)
theorem mg_ret {m e k w : Int} {x : Nat} {b : Bool} (h : x = mgF m e k w ∧ b = mgX m e k w) : vsub (.tup [N x, .bool b]) (.tup [N (mgF m e k w), .bool (mgX m e k w)]) := by
  rw [h.1, h.2]; exact vsub_refl _
end Go.Proofs.YtmbpoibhamlkbaaGreatDoor
