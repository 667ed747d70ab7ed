/-
  Plain facts on grids and intervals. No condition.
-/
import Derived.Test.YtcijnloneigfcaaDoorPvDy
set_option linter.unusedVariables false
set_option linter.unusedSimpArgs false
namespace Go.Proofs.YtcijnloneigfcaaDoor
def ivB (m e n f : Int) : Bool := vdb m e && vdb n f && decide (cmpD m e n f ≤ 0)
def ivCmp (m e n f p g q h : Int) : Int := if cmpD n f p g < 0 then -1 else if 0 < cmpD m e q h then 1 else 0
theorem perm_1 {p : Int} (h : -2048 ≤ p) : iLe p 8192 = decide ((-2048 : Int) ≤ p ∧ p ≤ 8192) := by
  unfold iLe; by_cases q : p ≤ 8192 <;> simp [q, h]
theorem perm_no {p : Int} (h : (-2048 : Int) ≤ p ∧ p ≤ 8192) : (!decide ((-2048 : Int) ≤ p ∧ p ≤ 8192)) = false := by rw [decide_eq_true h]; rfl
theorem on_3 {m e p : Int} (h : (-2048 : Int) ≤ p ∧ p ≤ 8192) (hm : m ≠ 0) : iGe e (0 - p) = decide (((-2048 : Int) ≤ p ∧ p ≤ 8192) ∧ (m = 0 ∨ -p ≤ e)) := by
  unfold iGe
  by_cases q : e ≥ 0 - p
  · rw [decide_eq_true q, decide_eq_true]; omega
  · rw [decide_eq_false q, decide_eq_false]; omega
theorem L_bits {x k n : Nat} (h : nbits x ≤ n) (hn : n ≤ 32 * k) : L x ≤ k := L_le (by rw [B_pow]; exact Nat.lt_of_lt_of_le (nbits_lt _) (Nat.pow_le_pow_right (by omega) (Nat.le_trans h hn)))
theorem L_pow2 {x k n : Nat} (h : x < 2 ^ n) (hn : n ≤ 32 * k) : L x ≤ k := L_le (by rw [B_pow]; exact Nat.lt_of_lt_of_le h (Nat.pow_le_pow_right (by omega) hn))
theorem vdb_range (m e : Int) : vdb m e = true → -65536 ≤ e ∧ e ≤ 65536 ∧ L m.natAbs ≤ 2048 := by
  intro h
  rcases vdb_iff.1 h with ⟨h1, h2⟩ | ⟨h1, h2, h3, h4, _⟩
  · rw [h1, h2]; simp [L_zero]
  · exact ⟨h3, h4, L_bits h2 (by omega)⟩
theorem iv_1 {m e n f : Int} (h : vdb m e = true) (k : vdb n f = true) : iLe (cmpD m e n f) 0 = ivB m e n f := by unfold ivB; rw [h, k]; rfl
theorem iv_2 {m e n f : Int} (h : vdb m e = false) : false = ivB m e n f := by unfold ivB; rw [h]; rfl
theorem iv_3 {m e n f : Int} (h : vdb n f = false) : false = ivB m e n f := by unfold ivB; rw [h]; simp
theorem ivc_1 {m e n f p g q h : Int} (k : cmpD n f p g < 0) : -1 = ivCmp m e n f p g q h := by unfold ivCmp; rw [if_pos k]
theorem ivc_2 {m e n f p g q h : Int} (k : 0 ≤ cmpD n f p g) (l : 0 < cmpD m e q h) : 1 = ivCmp m e n f p g q h := by unfold ivCmp; rw [if_neg (by omega), if_pos l]
theorem ivc_3 {m e n f p g q h : Int} (k : 0 ≤ cmpD n f p g) (l : cmpD m e q h ≤ 0) : 0 = ivCmp m e n f p g q h := by unfold ivCmp; rw [if_neg (by omega), if_neg (by omega)]
theorem wi_1 {a b : Int} (h : a ≤ 0) : iLe b 0 = decide (a ≤ 0 ∧ b ≤ 0) := by unfold iLe; by_cases q : b ≤ 0 <;> simp [q, h]
theorem sm_1 {m n e f : Int} (h : e = f) : decide (m = n) = decide (e = f ∧ m = n) := by by_cases q : m = n <;> simp [q, h]
theorem sm_2 {m n e f p g q h : Int} (k : e = g ∧ m = p) : decide (f = h ∧ n = q) = decide ((e = g ∧ m = p) ∧ (f = h ∧ n = q)) := by simp [k]
/-- the unit of a grid -/
theorem mk_unit {p : Int} (h : (-2048 : Int) ≤ p ∧ p ≤ 8192) : mkM 1 (-p) = 1 ∧ mkX 1 (-p) = -p ∧ mkE 1 (-p) = 0 ∧ L (mkM 1 (-p)).natAbs ≤ 1 := by
  have e1 : dm 1 = 1 := by simp [dm, sgn, tz]
  have e2 : de 1 (-p) = -p := by simp [de, tz]
  have := mk_r4 (m := 1) (e := -p) (by omega) (by omega) (by
    rw [e1, e2, vdb_iff]; refine .inr ⟨by omega, ?_, by omega, by omega, by decide⟩
    show nbits 1 ≤ 65536; unfold nbits; decide)
  rw [e1, e2] at this
  refine ⟨this.1, this.2.1, this.2.2, ?_⟩
  rw [this.1]; exact L_le (by decide)
end Go.Proofs.YtcijnloneigfcaaDoor
