/-
  Plain facts on integers for the reference of the integers. No condition.
-/
import Derived.Test.YtcijnloneigfcaaGreatDoorPvRef1
namespace Go.Proofs.YtcijnloneigfcaaGreatDoor

theorem L_sgn (b : Bool) (a : Nat) : L (sgn b a).natAbs = L a := by rw [sgn_abs]
theorem L_u64 {a : Nat} (h : a < 18446744073709551616) {k : Nat} (hk : 2 ≤ k := by omega) : L a ≤ k := Nat.le_trans (L_le (k := 2) (by omega)) hk
theorem L_i64 {n : Int} (h : (-9223372036854775808 : Int) ≤ n ∧ n ≤ 9223372036854775807) : L n.natAbs ≤ 2 := L_le (by omega)
theorem of5_1 {n : Int} (h : n < 0 ∧ -9223372036854775808 ≤ n) : sgn (iLt n 0) (IntKind.wrap .u64 (0 - IntKind.wrap .u64 n)).toNat = n := by
  rw [show iLt n 0 = true from iLt_mk h.1, wrap_u64, wrap_u64]
  unfold sgn; simp; omega
theorem of5_2 {n : Int} (h : 0 ≤ n ∧ n ≤ 9223372036854775807) : sgn (iLt n 0) (IntKind.wrap .u64 n).toNat = n := by
  rw [show iLt n 0 = false from iLt_mkF h.1, wrap_u64]
  unfold sgn; simp; omega
theorem L_abs_sub (x y : Int) : L (x - y).natAbs ≤ max (L x.natAbs) (L y.natAbs) + 1 := by
  have := L_abs_add x (-y)
  rw [L_abs_neg] at this
  exact this
theorem cmpI_range (x y : Int) : (cmpI x y = -1 ∧ x < y) ∨ (cmpI x y = 1 ∧ y < x) ∨ (cmpI x y = 0 ∧ x = y) := by
  unfold cmpI
  split
  · exact .inl ⟨rfl, by assumption⟩
  · split
    · exact .inr (.inl ⟨rfl, by assumption⟩)
    · exact .inr (.inr ⟨rfl, by omega⟩)
theorem sign_sub (x y : Int) : (x - y).sign = cmpI x y := by
  rcases cmpI_range x y with ⟨h, h1⟩ | ⟨h, h1⟩ | ⟨h, h1⟩ <;> rw [h]
  · exact Int.sign_eq_neg_one_of_neg (by omega)
  · exact Int.sign_eq_one_of_pos (by omega)
  · rw [show x - y = 0 by omega]; rfl
theorem same5_1 {x y : Int} (h : x < 0 ↔ y < 0) : decide (x.natAbs = y.natAbs) = decide (x = y) := by
  by_cases hx : x = y
  · subst hx; simp
  · rw [decide_eq_false hx, decide_eq_false]; omega
theorem same5_2 {x y : Int} (h : ¬ (x < 0 ↔ y < 0)) : false = decide (x = y) := by
  rw [decide_eq_false]; intro e; subst e; exact h Iff.rfl
theorem L_abs_shl (x : Int) (k : Nat) : L (x * 2 ^ k).natAbs ≤ L x.natAbs + k / 32 + 1 := by
  rw [Int.natAbs_mul, Int.natAbs_pow]; exact L_shl _ _
theorem natAbs_div_le (x : Int) (k : Nat) : (x / 2 ^ k).natAbs ≤ x.natAbs := by
  rw [pow_cast]
  have hp : 0 < 2 ^ k := Nat.pow_pos (by omega)
  rcases Int.lt_or_le x 0 with h | h
  · have h1 : x ≤ x / ((2 ^ k : Nat) : Int) := by
      rw [Int.le_ediv_iff_mul_le (by omega)]
      have : x * ((2 ^ k : Nat) : Int) ≤ x * 1 := Int.mul_le_mul_of_nonpos_left (by omega) (by omega)
      omega
    have h2 : x / ((2 ^ k : Nat) : Int) < 0 := Int.ediv_neg_of_neg_of_pos h (by omega)
    omega
  · have h1 : x / ((2 ^ k : Nat) : Int) ≤ x := Int.ediv_le_self _ h
    have h2 : 0 ≤ x / ((2 ^ k : Nat) : Int) := Int.ediv_nonneg h (by omega)
    omega
theorem L_abs_shr (x : Int) (k : Nat) : L (x / 2 ^ k).natAbs ≤ L x.natAbs := L_mono (natAbs_div_le x k)
theorem shr5_1 {x : Int} (hx : x < 0) (k : Nat) (h : x.natAbs / 2 ^ k * 2 ^ k ≠ x.natAbs) : sgn (decide (x < 0)) (x.natAbs / 2 ^ k + 1) = x / 2 ^ k := by
  refine shr_neg1 hx k ?_
  have := Nat.div_add_mod x.natAbs (2 ^ k)
  rw [Nat.mul_comm] at this
  omega
theorem shr5_2 {x : Int} (hx : x < 0) (k : Nat) (h : x.natAbs / 2 ^ k * 2 ^ k = x.natAbs) : sgn (decide (x < 0)) (x.natAbs / 2 ^ k) = x / 2 ^ k := by
  refine shr_neg0 hx k ?_
  have := Nat.div_add_mod x.natAbs (2 ^ k)
  rw [Nat.mul_comm] at this
  omega
/-! ### floor division -/
theorem fdiv_nn (a b : Nat) : Int.fdiv (a : Int) (b : Int) = ((a / b : Nat) : Int) := by
  rw [Int.fdiv_eq_ediv_of_nonneg _ (by omega), Int.natCast_ediv]
theorem fdiv_unique {x y q : Int} (hy : y ≠ 0) (h : (0 < y ∧ q * y ≤ x ∧ x < q * y + y) ∨ (y < 0 ∧ x ≤ q * y ∧ q * y + y < x)) : Int.fdiv x y = q := by
  rcases h with ⟨h0, h1, h2⟩ | ⟨h0, h1, h2⟩
  · rw [Int.fdiv_eq_ediv_of_nonneg _ (by omega)]
    have a := (Int.le_ediv_iff_mul_le h0).2 h1
    have b : x / y < q + 1 := by
      rw [Int.ediv_lt_iff_lt_mul h0, Int.add_mul]; omega
    omega
  · rw [← Int.neg_fdiv_neg, Int.fdiv_eq_ediv_of_nonneg _ (by omega)]
    have e : q * -y = -(q * y) := Int.mul_neg ..
    have a : q ≤ -x / -y := (Int.le_ediv_iff_mul_le (by omega)).2 (by rw [e]; omega)
    have b : -x / -y < q + 1 := by
      rw [Int.ediv_lt_iff_lt_mul (by omega), Int.add_mul, e]; omega
    omega
theorem fdiv_lo {x y : Int} (hy : 0 < y) : Int.fdiv x y = x / y := Int.fdiv_eq_ediv_of_nonneg _ (by omega)
theorem abs_div (x y : Int) (hy : y ≠ 0) : ∃ q r : Int, 0 ≤ q ∧ 0 ≤ r ∧ (x.natAbs / y.natAbs : Nat) = q.toNat ∧ (x.natAbs % y.natAbs : Nat) = r.toNat ∧ r < y.natAbs ∧ (x.natAbs : Int) = q * y.natAbs + r := by
  refine ⟨((x.natAbs / y.natAbs : Nat) : Int), ((x.natAbs % y.natAbs : Nat) : Int), Int.natCast_nonneg _, Int.natCast_nonneg _, (Int.toNat_natCast _).symm, (Int.toNat_natCast _).symm, ?_, ?_⟩
  · have := Nat.mod_lt x.natAbs (show 0 < y.natAbs by omega); omega
  · have := Nat.div_add_mod x.natAbs y.natAbs
    rw [Nat.mul_comm] at this
    rw [← Int.natCast_mul, ← Int.natCast_add, this]
theorem dm5_1 {x y : Int} (hy : y ≠ 0) (hs : (!bEq (decide (x < 0)) (decide (y < 0))) = true) (hr : 0 < x.natAbs % y.natAbs) : sgn (!bEq (decide (x < 0)) (decide (y < 0))) (x.natAbs / y.natAbs) - 1 = Int.fdiv x y := by
  symm
  rw [hs, sgn_t]
  have hs := bEq_f (notb_t hs)
  obtain ⟨q, r, h0, h1, h2, h3, h4, h5⟩ := abs_div x y hy
  rw [h2, Int.toNat_of_nonneg h0]
  apply fdiv_unique hy
  rcases Int.lt_or_le y 0 with h | h
  · refine .inr ⟨h, ?_⟩
    have e : (y.natAbs : Int) = -y := by omega
    rw [e] at h5 h4
    have e2 : (x.natAbs : Int) = x := by omega
    rw [Int.sub_mul, Int.neg_mul, Int.one_mul]
    rw [Int.mul_neg] at h5
    omega
  · refine .inl ⟨by omega, ?_⟩
    have e : (y.natAbs : Int) = y := by omega
    rw [e] at h5 h4
    have e2 : (x.natAbs : Int) = -x := by omega
    rw [Int.sub_mul, Int.neg_mul, Int.one_mul]
    omega
theorem dm5_2 {x y : Int} (hy : y ≠ 0) (hr : x.natAbs % y.natAbs = 0) : sgn (!bEq (decide (x < 0)) (decide (y < 0))) (x.natAbs / y.natAbs) = Int.fdiv x y := by
  symm
  obtain ⟨q, r, h0, h1, h2, h3, h4, h5⟩ := abs_div x y hy
  apply fdiv_unique hy
  have hr0 : r = 0 := by omega
  rw [h2]
  cases hb : bEq (decide (x < 0)) (decide (y < 0)) with
  | true =>
    have hs := bEq_t hb
    simp only [Bool.not_true, sgn_f]
    rw [Int.toNat_of_nonneg h0]
    rcases Int.lt_or_le y 0 with h | h
    · refine .inr ⟨h, ?_⟩
      rw [show (y.natAbs : Int) = -y by omega, Int.mul_neg] at h5
      omega
    · refine .inl ⟨by omega, ?_⟩
      rw [show (y.natAbs : Int) = y by omega] at h5
      omega
  | false =>
    have hs := bEq_f hb
    simp only [Bool.not_false, sgn_t]
    rw [Int.toNat_of_nonneg h0, Int.neg_mul]
    rcases Int.lt_or_le y 0 with h | h
    · refine .inr ⟨h, ?_⟩
      rw [show (y.natAbs : Int) = -y by omega, Int.mul_neg] at h5
      omega
    · refine .inl ⟨by omega, ?_⟩
      rw [show (y.natAbs : Int) = y by omega] at h5
      omega
theorem dm5_3 {x y : Int} (hy : y ≠ 0) (hs : (!bEq (decide (x < 0)) (decide (y < 0))) = false) : sgn (!bEq (decide (x < 0)) (decide (y < 0))) (x.natAbs / y.natAbs) = Int.fdiv x y := by
  symm
  rw [hs, sgn_f]
  have hs := bEq_t (notb_f hs)
  obtain ⟨q, r, h0, h1, h2, h3, h4, h5⟩ := abs_div x y hy
  apply fdiv_unique hy
  rw [h2, Int.toNat_of_nonneg h0]
  rcases Int.lt_or_le y 0 with h | h
  · refine .inr ⟨h, ?_⟩
    rw [show (y.natAbs : Int) = -y by omega, Int.mul_neg] at h5
    rw [show (y.natAbs : Int) = -y by omega] at h4
    omega
  · refine .inl ⟨by omega, ?_⟩
    rw [show (y.natAbs : Int) = y by omega] at h5 h4
    omega
theorem L_fdiv (x y : Int) : L (Int.fdiv x y).natAbs ≤ L x.natAbs + 1 := by
  by_cases hy : y = 0
  · subst hy; rw [Int.fdiv_zero]; simp [L_zero]
  · have l0 := L_div x.natAbs y.natAbs
    have l1 := L_sgn (!bEq (decide (x < 0)) (decide (y < 0))) (x.natAbs / y.natAbs)
    have l2 := L_abs_sub (sgn (!bEq (decide (x < 0)) (decide (y < 0))) (x.natAbs / y.natAbs)) 1
    have l3 := L_le (n := 1) (k := 1) (by decide)
    by_cases hs : (!bEq (decide (x < 0)) (decide (y < 0))) = true
    · by_cases hr : 0 < x.natAbs % y.natAbs
      · rw [← dm5_1 hy hs hr]
        by_cases hx : L x.natAbs = 0
        · have := (L_pos_iff x.natAbs)
          have hx0 : x.natAbs = 0 := by omega
          rw [hx0] at hr; simp at hr
        · simp only [Int.natAbs_one] at l2; omega
      · rw [← dm5_2 hy (by omega)]; omega
    · rw [← dm5_3 hy (by simpa using hs)]; omega
end Go.Proofs.YtcijnloneigfcaaGreatDoor
