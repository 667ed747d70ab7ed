/-
  Plain facts for integers as a sign and a natural. No condition.
-/
import Derived.Test.YtcijnloneigfcaaGreatDoorPvNat4
namespace Go.Proofs.YtcijnloneigfcaaGreatDoor

def sgn (b : Bool) (a : Nat) : Int := if b then -(a : Int) else a
theorem sgn_nat {p : Prop} [Decidable p] {a : Nat} {z : Int} (h1 : p → z = -(a : Int)) (h2 : ¬ p → z = (a : Int)) : sgn (decide p) a = z := by
  unfold sgn
  by_cases h : p
  · simp [h, h1 h]
  · simp [h, h2 h]
theorem sgn_t (a : Nat) : sgn true a = -(a : Int) := rfl
theorem sgn_f (a : Nat) : sgn false a = (a : Int) := rfl
theorem sgn_abs (b : Bool) (a : Nat) : (sgn b a).natAbs = a := by unfold sgn; split <;> omega
theorem bEq_t {p q : Prop} [Decidable p] [Decidable q] (h : bEq (decide p) (decide q) = true) : p ↔ q := by
  unfold bEq at h; simpa using h
theorem bEq_f {p q : Prop} [Decidable p] [Decidable q] (h : bEq (decide p) (decide q) = false) : ¬ (p ↔ q) := by
  unfold bEq at h; simpa using h
theorem Z_mk {b : Bool} {n : Nat} {z : Int} (hb : b = decide (z < 0)) (hn : n = z.natAbs) : V.agg [.bool b, N n] = Z z := by subst hb; subst hn; rfl
theorem Z_of {x y : Int} (h : x = y) : vsub (Z x) (Z y) := vsub_of (congrArg Z h)
theorem L_abs_add (x y : Int) : L (x + y).natAbs ≤ max (L x.natAbs) (L y.natAbs) + 1 := by
  have h := L_add x.natAbs y.natAbs
  have := L_mono (show (x + y).natAbs ≤ x.natAbs + y.natAbs by omega)
  omega
theorem L_abs_mul (x y : Int) : L (x * y).natAbs ≤ L x.natAbs + L y.natAbs := by rw [Int.natAbs_mul]; exact L_mul _ _
theorem L_abs_neg (x : Int) : L (-x).natAbs = L x.natAbs := by rw [Int.natAbs_neg]
def cmpI (x y : Int) : Int := if x < y then -1 else if y < x then 1 else 0
theorem L_pos_iff (n : Nat) : 0 < L n ↔ 0 < n := by
  constructor
  · intro h; rcases Nat.eq_zero_or_pos n with q | q
    · subst q; rw [L_zero] at h; omega
    · exact q
  · intro h; exact L_pos (by omega)
theorem nbits_zero_iff (n : Nat) : nbits n = 0 ↔ n = 0 := by unfold nbits; split <;> omega
theorem cmpN_cmpI (a b : Nat) : cmpN a b = cmpI a b := by unfold cmpN cmpI; split <;> split <;> (try split) <;> omega
theorem sgn_mul (x y : Int) : sgn (!bEq (decide (x < 0)) (decide (y < 0))) (x.natAbs * y.natAbs) = x * y := by
  unfold sgn bEq
  by_cases hx : x < 0 <;> by_cases hy : y < 0 <;> simp [hx, hy]
  · rw [show ((x.natAbs : Nat) : Int) = -x by omega, show ((y.natAbs : Nat) : Int) = -y by omega, Int.neg_mul_neg]
  · rw [show ((x.natAbs : Nat) : Int) = -x by omega, show ((y.natAbs : Nat) : Int) = y by omega, Int.neg_mul, Int.neg_neg]
  · rw [show ((x.natAbs : Nat) : Int) = x by omega, show ((y.natAbs : Nat) : Int) = -y by omega, Int.mul_neg, Int.neg_neg]
  · rw [show ((x.natAbs : Nat) : Int) = x by omega, show ((y.natAbs : Nat) : Int) = y by omega]
theorem sgn_shl (x : Int) (k : Nat) : sgn (decide (x < 0)) (x.natAbs * 2 ^ k) = x * 2 ^ k := by
  have h : ((x.natAbs * 2 ^ k : Nat) : Int) = ((x.natAbs : Nat) : Int) * 2 ^ k := by rw [Int.natCast_mul, pow_cast]
  refine sgn_nat (fun hx => ?_) (fun hx => ?_)
  · rw [h, show ((x.natAbs : Nat) : Int) = -x by omega, Int.neg_mul, Int.neg_neg]
  · rw [h, show ((x.natAbs : Nat) : Int) = x by omega]
theorem shr_pos {x : Int} (hx : ¬ x < 0) (k : Nat) : sgn (decide (x < 0)) (x.natAbs / 2 ^ k) = x / 2 ^ k := by
  rw [show decide (x < 0) = false by simpa using hx, sgn_f, Int.natCast_ediv, ← pow_cast, show ((x.natAbs : Nat) : Int) = x by omega]
theorem shr_neg0 {x : Int} (hx : x < 0) (k : Nat) (h0 : x.natAbs % 2 ^ k = 0) : sgn (decide (x < 0)) (x.natAbs / 2 ^ k) = x / 2 ^ k := by
  obtain ⟨m, hm⟩ := Nat.dvd_of_mod_eq_zero h0
  have hp := Nat.two_pow_pos k
  have e : x = (2 ^ k : Int) * (-(m : Int)) := by
    have : (x.natAbs : Int) = (2 ^ k : Int) * m := by rw [hm, Int.natCast_mul, ← pow_cast]
    rw [Int.mul_neg, ← this]; omega
  have hq : x / 2 ^ k = -(m : Int) := by
    conv => lhs; rw [e]
    exact Int.mul_ediv_cancel_left _ (by rw [pow_cast]; omega)
  rw [hq, hm, Nat.mul_div_cancel_left _ hp, show decide (x < 0) = true by simpa using hx, sgn_t]
theorem shr_neg1 {x : Int} (hx : x < 0) (k : Nat) (h0 : 0 < x.natAbs % 2 ^ k) : sgn (decide (x < 0)) (x.natAbs / 2 ^ k + 1) = x / 2 ^ k := by
  have hp := Nat.two_pow_pos k
  have hdm := Nat.div_add_mod x.natAbs (2 ^ k)
  have hlt := Nat.mod_lt x.natAbs hp
  rw [show decide (x < 0) = true by simpa using hx, sgn_t, pow_cast]
  generalize 2 ^ k = p at *
  generalize x.natAbs / p = q at *
  generalize x.natAbs % p = r at *
  symm
  rw [Int.ediv_eq_iff_of_pos (by omega)]
  have hxe : x = -((p * q + r : Nat) : Int) := by omega
  rw [hxe]
  push_cast
  constructor
  · rw [Int.neg_mul, Int.add_mul, Int.mul_comm (q : Int)]; omega
  · rw [Int.neg_mul, Int.add_mul, Int.mul_comm (q : Int)]; omega
theorem nat_ret1 {b : Bool} (hb : b = true) (a : Nat) : vsub (.agg [.bool (iGt ((lim a).length : Int) 0), N a]) (Z (sgn b a)) := by
  subst hb
  refine vsub_of (Z_mk ?_ (sgn_abs _ _).symm)
  have := L_pos_iff a
  have := L_len a
  rw [sgn_t]
  by_cases h : 0 < a
  · rw [iGt_mk (by omega)]; exact (decide_eq_true (by omega)).symm
  · rw [iGt_mkF (by omega)]; exact (decide_eq_false (by omega)).symm
theorem nat_ret2 {b : Bool} (hb : b = false) (a : Nat) : vsub (.agg [.bool false, N a]) (Z (sgn b a)) := by
  subst hb
  refine vsub_of (Z_mk ?_ (sgn_abs _ _).symm)
  rw [sgn_f]
  exact (decide_eq_false (by omega)).symm
theorem of_neg {n : Int} (h : n < 0) : vsub (.agg [.bool true, N ((0 - (n + 1)) + 1).toNat]) (Z n) := vsub_of (Z_mk (decide_eq_true h).symm (by omega))
theorem of_pos {n : Int} (h : 0 ≤ n) : vsub (.agg [.bool false, N n.toNat]) (Z n) := vsub_of (Z_mk (decide_eq_false (by omega)).symm (by omega))
end Go.Proofs.YtcijnloneigfcaaGreatDoor
