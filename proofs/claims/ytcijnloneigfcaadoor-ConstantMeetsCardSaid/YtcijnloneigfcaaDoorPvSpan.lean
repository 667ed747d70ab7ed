/-
  Plain facts on spans: quotients rounded down and up, and the sums that the constants are. No condition.
-/
import Derived.Test.YtcijnloneigfcaaDoorPvIv
set_option linter.unusedVariables false
set_option linter.unusedSimpArgs false
namespace Go.Proofs.YtcijnloneigfcaaDoor
theorem L_min (a b : Int) : L (min a b).natAbs ≤ max (L a.natAbs) (L b.natAbs) := by
  rcases Int.le_total a b with h | h
  · rw [Int.min_eq_left h]; omega
  · rw [Int.min_eq_right h]; omega
theorem L_max (a b : Int) : L (max a b).natAbs ≤ max (L a.natAbs) (L b.natAbs) := by
  rcases Int.le_total a b with h | h
  · rw [Int.max_eq_right h]; omega
  · rw [Int.max_eq_left h]; omega
theorem tiny_1 {a b : Nat} (h : a ≤ 1) : iLe (cmpN b 1) 0 = decide (a ≤ 1 ∧ b ≤ 1) := by
  have := cmpN_range b 1
  unfold iLe
  by_cases q : b ≤ 1
  · rw [decide_eq_true (show cmpN b 1 ≤ 0 by omega), decide_eq_true]; exact ⟨h, q⟩
  · rw [decide_eq_false (show ¬ cmpN b 1 ≤ 0 by omega), decide_eq_false]; omega
theorem tiny_2 {a b : Nat} (h : 1 < a) : false = decide (a ≤ 1 ∧ b ≤ 1) := by rw [decide_eq_false]; omega
/-! ### quotients shrink -/
theorem fl_le {m n : Int} {B : Nat} (hn : 1 ≤ n) (h : m.natAbs ≤ B) : (Int.fdiv m n).natAbs ≤ B := by
  rw [Int.fdiv_eq_ediv_of_nonneg _ (by omega)]
  have hB : (B : Int) * 1 ≤ (B : Int) * n := Int.mul_le_mul_of_nonneg_left (by omega) (by omega)
  have h1 : -(B : Int) ≤ m / n := (Int.le_ediv_iff_mul_le (by omega)).2 (by rw [Int.neg_mul]; omega)
  have h2 : m / n < (B : Int) + 1 := (Int.ediv_lt_iff_lt_mul (by omega)).2 (by rw [Int.add_mul]; omega)
  omega
theorem fl_half {m n : Int} {B : Nat} (hn : 2 ≤ n) (h : m.natAbs ≤ 2 * B) : (Int.fdiv m n).natAbs ≤ B := by
  rw [Int.fdiv_eq_ediv_of_nonneg _ (by omega)]
  have hB : (B : Int) * 2 ≤ (B : Int) * n := Int.mul_le_mul_of_nonneg_left (by omega) (by omega)
  have h1 : -(B : Int) ≤ m / n := (Int.le_ediv_iff_mul_le (by omega)).2 (by rw [Int.neg_mul]; omega)
  have h2 : m / n < (B : Int) + 1 := (Int.ediv_lt_iff_lt_mul (by omega)).2 (by rw [Int.add_mul]; omega)
  omega
theorem min_abs {a b : Int} {B : Nat} (h : a.natAbs ≤ B) (k : b.natAbs ≤ B) : (min a b).natAbs ≤ B := by
  rcases Int.le_total a b with q | q
  · rw [Int.min_eq_left q]; exact h
  · rw [Int.min_eq_right q]; exact k
theorem max_abs {a b : Int} {B : Nat} (h : a.natAbs ≤ B) (k : b.natAbs ≤ B) : (max a b).natAbs ≤ B := by
  rcases Int.le_total a b with q | q
  · rw [Int.max_eq_right q]; exact k
  · rw [Int.max_eq_left q]; exact h
theorem ov_le {a b n : Int} {B : Nat} (hn : 1 ≤ n) (h : a.natAbs ≤ B) (k : b.natAbs ≤ B) : (Int.fdiv (min a b) n).natAbs ≤ B ∧ (-(Int.fdiv (-(max a b)) n)).natAbs ≤ B := by
  refine ⟨fl_le hn (min_abs h k), ?_⟩
  rw [Int.natAbs_neg]
  exact fl_le hn (by rw [Int.natAbs_neg]; exact max_abs h k)
theorem ov_half {a b n : Int} {B : Nat} (hn : 2 ≤ n) (h : a.natAbs ≤ 2 * B) (k : b.natAbs ≤ 2 * B) : (Int.fdiv (min a b) n).natAbs ≤ B ∧ (-(Int.fdiv (-(max a b)) n)).natAbs ≤ B := by
  refine ⟨fl_half hn (min_abs h k), ?_⟩
  rw [Int.natAbs_neg]
  exact fl_half hn (by rw [Int.natAbs_neg]; exact max_abs h k)
theorem rem_two {k : Int} (h : 0 ≤ k) : wRem k (2 : Int) = k % 2 := Int.tmod_eq_emod_of_nonneg h
/-! ### sums -/
def atanG (n : Int) : Nat → Int → Int → Int → Int → Int → Int × Int
  | 0, _, _, _, a, b => (a, b)
  | f + 1, k, lo, hi, a, b =>
    if lo.natAbs ≤ 1 ∧ hi.natAbs ≤ 1 then (a, b) else
    if k % 2 = 1 then atanG n f (k + 1) (Int.fdiv (min (Int.fdiv (min lo hi) n) (-(Int.fdiv (-(max lo hi)) n))) n) (-(Int.fdiv (-(max (Int.fdiv (min lo hi) n) (-(Int.fdiv (-(max lo hi)) n)))) n))
      (a + -(-(Int.fdiv (-(max lo hi)) (2 * k + 1)))) (b + -(Int.fdiv (min lo hi) (2 * k + 1)))
    else atanG n f (k + 1) (Int.fdiv (min (Int.fdiv (min lo hi) n) (-(Int.fdiv (-(max lo hi)) n))) n) (-(Int.fdiv (-(max (Int.fdiv (min lo hi) n) (-(Int.fdiv (-(max lo hi)) n)))) n))
      (a + (Int.fdiv (min lo hi) (2 * k + 1))) (b + (-(Int.fdiv (-(max lo hi)) (2 * k + 1))))
def atanT (n v : Int) : Int × Int := atanG n (v.toNat + 2) 0 (Int.fdiv (min ((1 : Int) * 2 ^ v.toNat) ((1 : Int) * 2 ^ v.toNat)) n) (-(Int.fdiv (-(max ((1 : Int) * 2 ^ v.toNat) ((1 : Int) * 2 ^ v.toNat))) n)) ((0 : Int) * 2 ^ v.toNat) ((0 : Int) * 2 ^ v.toNat)
def AtInv (n F : Int) (T : Int × Int) (f k lo hi a b A : Int) : Prop :=
  0 ≤ f ∧ 0 ≤ k ∧ k + f = F ∧ atanG n (f.toNat + 1) k lo hi a b = T ∧ lo.natAbs ≤ 2 ^ f.toNat ∧ hi.natAbs ≤ 2 ^ f.toNat ∧ L lo.natAbs ≤ A + 4 * k ∧ L hi.natAbs ≤ A + 4 * k ∧ L a.natAbs ≤ A + 4 * k + 2 ∧ L b.natAbs ≤ A + 4 * k + 2
theorem pow_succ2 {f : Int} (h : 0 ≤ f - 1) : 2 ^ f.toNat = 2 * 2 ^ (f - 1).toNat := by
  rw [show f.toNat = (f - 1).toNat + 1 by omega, Nat.pow_succ, Nat.mul_comm]
theorem pow_tiny {f : Int} {x y : Nat} (h : 0 ≤ f) (hx : x ≤ 2 ^ f.toNat) (hy : y ≤ 2 ^ f.toNat) (hn : ¬ (x ≤ 1 ∧ y ≤ 1)) : 1 ≤ f := by
  refine Decidable.byContradiction fun q => hn ?_
  have : f.toNat = 0 := by omega
  rw [this] at hx hy
  exact ⟨hx, hy⟩
theorem at_end {n F : Int} {T : Int × Int} {f k lo hi a b A : Int} (h : AtInv n F T f k lo hi a b A) (ht : lo.natAbs ≤ 1 ∧ hi.natAbs ≤ 1) : a = T.1 ∧ b = T.2 := by
  obtain ⟨h1, h2, h3, h4, _⟩ := h
  rw [atanG, if_pos ht] at h4
  rw [← h4]; exact ⟨rfl, rfl⟩
theorem at_next {n F : Int} {T : Int × Int} {f k lo hi a b A : Int} (hn : 2 ≤ n) (h : AtInv n F T f k lo hi a b A) (ht : ¬ (lo.natAbs ≤ 1 ∧ hi.natAbs ≤ 1)) (x y : Int)
    (hxy : (wRem k (2 : Int) = 1 ∧ x = a + -(-(Int.fdiv (-(max lo hi)) (2 * k + 1))) ∧ y = b + -(Int.fdiv (min lo hi) (2 * k + 1))) ∨ (wRem k (2 : Int) ≠ 1 ∧ x = a + (Int.fdiv (min lo hi) (2 * k + 1)) ∧ y = b + (-(Int.fdiv (-(max lo hi)) (2 * k + 1))))) :
    AtInv n F T (f - 1) (k + 1) (Int.fdiv (min (Int.fdiv (min lo hi) n) (-(Int.fdiv (-(max lo hi)) n))) n) (-(Int.fdiv (-(max (Int.fdiv (min lo hi) n) (-(Int.fdiv (-(max lo hi)) n)))) n)) x y A := by
  obtain ⟨h1, h2, h3, h4, h5, h6, h7, h8, h9, h10⟩ := h
  have hf := pow_tiny h1 h5 h6 ht
  rw [rem_two h2] at hxy
  rw [pow_succ2 (by omega)] at h5 h6
  obtain ⟨b1, b2⟩ := ov_half hn h5 h6
  obtain ⟨b3, b4⟩ := ov_le (show 1 ≤ n by omega) b1 b2
  have l1 := L_min lo hi
  have l2 := L_max lo hi
  have l3 := L_abs_neg (max lo hi)
  have l4 := L_fdiv (min lo hi) n
  have l5 := L_fdiv (-(max lo hi)) n
  have l6 := L_abs_neg (Int.fdiv (-(max lo hi)) n)
  have l7 := L_min (Int.fdiv (min lo hi) n) (-(Int.fdiv (-(max lo hi)) n))
  have l8 := L_max (Int.fdiv (min lo hi) n) (-(Int.fdiv (-(max lo hi)) n))
  have l9 := L_abs_neg (max (Int.fdiv (min lo hi) n) (-(Int.fdiv (-(max lo hi)) n)))
  have l10 := L_fdiv (min (Int.fdiv (min lo hi) n) (-(Int.fdiv (-(max lo hi)) n))) n
  have l11 := L_fdiv (-(max (Int.fdiv (min lo hi) n) (-(Int.fdiv (-(max lo hi)) n)))) n
  have l12 := L_abs_neg (Int.fdiv (-(max (Int.fdiv (min lo hi) n) (-(Int.fdiv (-(max lo hi)) n)))) n)
  have l13 := L_fdiv (min lo hi) (2 * k + 1)
  have l14 := L_fdiv (-(max lo hi)) (2 * k + 1)
  have l15 := L_abs_neg (Int.fdiv (-(max lo hi)) (2 * k + 1))
  have l16 := L_abs_neg (Int.fdiv (min lo hi) (2 * k + 1))
  have l17 := L_abs_neg (-(Int.fdiv (-(max lo hi)) (2 * k + 1)))
  have hfn : f.toNat = (f - 1).toNat + 1 := by omega
  rw [atanG, if_neg ht, hfn] at h4
  refine ⟨by omega, by omega, by omega, ?_, b3, b4, by omega, by omega, ?_, ?_⟩
  · rcases hxy with ⟨q, rfl, rfl⟩ | ⟨q, rfl, rfl⟩
    · rw [if_pos q] at h4; exact h4
    · rw [if_neg q] at h4; exact h4
  all_goals
    rcases hxy with ⟨q, rfl, rfl⟩ | ⟨q, rfl, rfl⟩
    · have := L_abs_add a (-(-(Int.fdiv (-(max lo hi)) (2 * k + 1))))
      have := L_abs_add b (-(Int.fdiv (min lo hi) (2 * k + 1)))
      omega
    · have := L_abs_add a (Int.fdiv (min lo hi) (2 * k + 1))
      have := L_abs_add b (-(Int.fdiv (-(max lo hi)) (2 * k + 1)))
      omega
theorem L_pow1 (k : Nat) : L ((1 : Int) * 2 ^ k).natAbs ≤ k / 32 + 1 := by
  rw [Int.one_mul, Int.natAbs_pow]; exact L_two_pow k
theorem at_init {n v : Int} (hn : 2 ≤ n) (hv : 0 ≤ v) : AtInv n (v + 1) (atanT n v) (v + 1) 0 (Int.fdiv (min ((1 : Int) * 2 ^ v.toNat) ((1 : Int) * 2 ^ v.toNat)) n) (-(Int.fdiv (-(max ((1 : Int) * 2 ^ v.toNat) ((1 : Int) * 2 ^ v.toNat))) n)) ((0 : Int) * 2 ^ v.toNat) ((0 : Int) * 2 ^ v.toNat) (v / 32 + 2) := by
  have hb : ((1 : Int) * 2 ^ v.toNat).natAbs ≤ 2 ^ (v + 1).toNat := by
    rw [Int.one_mul, Int.natAbs_pow, show (v + 1).toNat = v.toNat + 1 by omega, Nat.pow_succ]
    show 2 ^ v.toNat ≤ _
    omega
  obtain ⟨b1, b2⟩ := ov_le (show 1 ≤ n by omega) hb hb
  have l0 := L_pow1 v.toNat
  have l1 := L_min ((1 : Int) * 2 ^ v.toNat) ((1 : Int) * 2 ^ v.toNat)
  have l2 := L_max ((1 : Int) * 2 ^ v.toNat) ((1 : Int) * 2 ^ v.toNat)
  have l3 := L_abs_neg (max ((1 : Int) * 2 ^ v.toNat) ((1 : Int) * 2 ^ v.toNat))
  have l4 := L_fdiv (min ((1 : Int) * 2 ^ v.toNat) ((1 : Int) * 2 ^ v.toNat)) n
  have l5 := L_fdiv (-(max ((1 : Int) * 2 ^ v.toNat) ((1 : Int) * 2 ^ v.toNat))) n
  have l6 := L_abs_neg (Int.fdiv (-(max ((1 : Int) * 2 ^ v.toNat) ((1 : Int) * 2 ^ v.toNat))) n)
  have z : L ((0 : Int) * 2 ^ v.toNat).natAbs = 0 := by rw [Int.zero_mul]; exact L_zero
  refine ⟨by omega, by omega, by omega, ?_, b1, b2, by omega, by omega, by omega, by omega⟩
  rw [show (v + 1).toNat + 1 = v.toNat + 2 by omega]; rfl
theorem at_bound {n F : Int} {T : Int × Int} {f k lo hi a b A : Int} (h : AtInv n F T f k lo hi a b A) : 0 ≤ k ∧ k ≤ F ∧ L lo.natAbs ≤ A + 4 * F ∧ L hi.natAbs ≤ A + 4 * F ∧ L a.natAbs ≤ A + 4 * F + 2 ∧ L b.natAbs ≤ A + 4 * F + 2 := by
  obtain ⟨h1, h2, h3, h4, h5, h6, h7, h8, h9, h10⟩ := h
  omega
/-! ### the sum of 1 / k! -/
def eG : Nat → Int → Int → Int → Int → Int → Int × Int
  | 0, _, _, _, a, b => (a, b)
  | f + 1, k, lo, hi, a, b =>
    if lo.natAbs ≤ 1 ∧ hi.natAbs ≤ 1 then (a, b) else
    eG f (k + 1) (Int.fdiv (min lo hi) k) (-(Int.fdiv (-(max lo hi)) k)) (a + (Int.fdiv (min lo hi) k)) (b + (-(Int.fdiv (-(max lo hi)) k)))
def eT (v : Int) : Int × Int := eG (v.toNat + 2) 1 ((1 : Int) * 2 ^ v.toNat) ((1 : Int) * 2 ^ v.toNat) ((1 : Int) * 2 ^ v.toNat) ((1 : Int) * 2 ^ v.toNat)
def EInv (v : Int) (T : Int × Int) (f k lo hi a b A : Int) : Prop :=
  0 ≤ f ∧ 1 ≤ k ∧ k + f = v + 2 ∧ eG (f.toNat + 1) k lo hi a b = T ∧ lo.natAbs ≤ 2 ^ f.toNat ∧ hi.natAbs ≤ 2 ^ f.toNat ∧ (k = 1 → lo.natAbs ≤ 2 ^ (f - 1).toNat ∧ hi.natAbs ≤ 2 ^ (f - 1).toNat) ∧
  L lo.natAbs ≤ A + 2 * k ∧ L hi.natAbs ≤ A + 2 * k ∧ L a.natAbs ≤ A + 2 * k + 2 ∧ L b.natAbs ≤ A + 2 * k + 2
theorem e_end {v : Int} {T : Int × Int} {f k lo hi a b A : Int} (h : EInv v T f k lo hi a b A) (ht : lo.natAbs ≤ 1 ∧ hi.natAbs ≤ 1) : a = T.1 ∧ b = T.2 := by
  obtain ⟨h1, h2, h3, h4, _⟩ := h
  rw [eG, if_pos ht] at h4
  rw [← h4]; exact ⟨rfl, rfl⟩
theorem e_next {v : Int} {T : Int × Int} {f k lo hi a b A : Int} (h : EInv v T f k lo hi a b A) (ht : ¬ (lo.natAbs ≤ 1 ∧ hi.natAbs ≤ 1)) :
    EInv v T (f - 1) (k + 1) (Int.fdiv (min lo hi) k) (-(Int.fdiv (-(max lo hi)) k)) (a + (Int.fdiv (min lo hi) k)) (b + (-(Int.fdiv (-(max lo hi)) k))) A := by
  obtain ⟨h1, h2, h3, h4, h5, h6, h7, h8, h9, h10, h11⟩ := h
  have hf := pow_tiny h1 h5 h6 ht
  have hb : (Int.fdiv (min lo hi) k).natAbs ≤ 2 ^ (f - 1).toNat ∧ (-(Int.fdiv (-(max lo hi)) k)).natAbs ≤ 2 ^ (f - 1).toNat := by
    by_cases hk : k = 1
    · obtain ⟨q1, q2⟩ := h7 hk
      exact ov_le h2 q1 q2
    · rw [pow_succ2 (by omega)] at h5 h6
      exact ov_half (by omega) h5 h6
  have l1 := L_min lo hi
  have l2 := L_max lo hi
  have l3 := L_abs_neg (max lo hi)
  have l4 := L_fdiv (min lo hi) k
  have l5 := L_fdiv (-(max lo hi)) k
  have l6 := L_abs_neg (Int.fdiv (-(max lo hi)) k)
  have l7 := L_abs_add a (Int.fdiv (min lo hi) k)
  have l8 := L_abs_add b (-(Int.fdiv (-(max lo hi)) k))
  have hfn : f.toNat = (f - 1).toNat + 1 := by omega
  rw [eG, if_neg ht, hfn] at h4
  exact ⟨by omega, by omega, by omega, h4, hb.1, hb.2, fun q => by omega, by omega, by omega, by omega, by omega⟩
theorem abs_pow1 (v : Nat) : ((1 : Int) * 2 ^ v).natAbs = 2 ^ v := by rw [Int.one_mul, Int.natAbs_pow]; rfl
theorem e_init {v : Int} (hv : 0 ≤ v) : EInv v (eT v) (v + 1) 1 ((1 : Int) * 2 ^ v.toNat) ((1 : Int) * 2 ^ v.toNat) ((1 : Int) * 2 ^ v.toNat) ((1 : Int) * 2 ^ v.toNat) (v / 32 + 2) := by
  have l0 := L_pow1 v.toNat
  have hp : 2 ^ v.toNat ≤ 2 ^ (v + 1).toNat := Nat.pow_le_pow_right (by omega) (by omega)
  refine ⟨by omega, by omega, by omega, ?_, by rw [abs_pow1]; exact hp, by rw [abs_pow1]; exact hp, fun _ => ?_, by omega, by omega, by omega, by omega⟩
  · rw [show (v + 1).toNat + 1 = v.toNat + 2 by omega]; rfl
  · rw [abs_pow1, show (v + 1 - 1).toNat = v.toNat by omega]; exact ⟨Nat.le_refl _, Nat.le_refl _⟩
theorem e_bound {v : Int} {T : Int × Int} {f k lo hi a b A : Int} (h : EInv v T f k lo hi a b A) : 1 ≤ k ∧ k ≤ v + 2 ∧ L lo.natAbs ≤ A + 2 * (v + 2) ∧ L hi.natAbs ≤ A + 2 * (v + 2) ∧ L a.natAbs ≤ A + 2 * (v + 2) + 2 ∧ L b.natAbs ≤ A + 2 * (v + 2) + 2 := by
  obtain ⟨h1, h2, h3, h4, h5, h6, h7, h8, h9, h10, h11⟩ := h
  omega
/-! ### the sum of 1 / ((2 k + 1) 9^k 3) -/
def lnG : Nat → Int → Int → Int → Int → Int → Int × Int
  | 0, _, _, _, a, b => (a, b)
  | f + 1, k, lo, hi, a, b =>
    if lo.natAbs ≤ 1 ∧ hi.natAbs ≤ 1 then (a, b) else
    lnG f (k + 1) (Int.fdiv (min lo hi) 9) (-(Int.fdiv (-(max lo hi)) 9)) (a + (Int.fdiv (min lo hi) (2 * k + 1))) (b + (-(Int.fdiv (-(max lo hi)) (2 * k + 1))))
def lnT (v : Int) : Int × Int := lnG (v.toNat + 2) 0 (Int.fdiv (min ((1 : Int) * 2 ^ v.toNat) ((1 : Int) * 2 ^ v.toNat)) 3) (-(Int.fdiv (-(max ((1 : Int) * 2 ^ v.toNat) ((1 : Int) * 2 ^ v.toNat))) 3)) ((0 : Int) * 2 ^ v.toNat) ((0 : Int) * 2 ^ v.toNat)
def LnInv (v : Int) (T : Int × Int) (f k lo hi a b A : Int) : Prop :=
  0 ≤ f ∧ 0 ≤ k ∧ k + f = v + 1 ∧ lnG (f.toNat + 1) k lo hi a b = T ∧ lo.natAbs ≤ 2 ^ f.toNat ∧ hi.natAbs ≤ 2 ^ f.toNat ∧ L lo.natAbs ≤ A + 2 * k ∧ L hi.natAbs ≤ A + 2 * k ∧ L a.natAbs ≤ A + 2 * k + 2 ∧ L b.natAbs ≤ A + 2 * k + 2
theorem ln_end {v : Int} {T : Int × Int} {f k lo hi a b A : Int} (h : LnInv v T f k lo hi a b A) (ht : lo.natAbs ≤ 1 ∧ hi.natAbs ≤ 1) : a = T.1 ∧ b = T.2 := by
  obtain ⟨h1, h2, h3, h4, _⟩ := h
  rw [lnG, if_pos ht] at h4
  rw [← h4]; exact ⟨rfl, rfl⟩
theorem ln_next {v : Int} {T : Int × Int} {f k lo hi a b A : Int} (h : LnInv v T f k lo hi a b A) (ht : ¬ (lo.natAbs ≤ 1 ∧ hi.natAbs ≤ 1)) :
    LnInv v T (f - 1) (k + 1) (Int.fdiv (min lo hi) 9) (-(Int.fdiv (-(max lo hi)) 9)) (a + (Int.fdiv (min lo hi) (2 * k + 1))) (b + (-(Int.fdiv (-(max lo hi)) (2 * k + 1)))) A := by
  obtain ⟨h1, h2, h3, h4, h5, h6, h8, h9, h10, h11⟩ := h
  have hf := pow_tiny h1 h5 h6 ht
  rw [pow_succ2 (by omega)] at h5 h6
  have hb := ov_half (show (2 : Int) ≤ 9 by omega) h5 h6
  have l1 := L_min lo hi
  have l2 := L_max lo hi
  have l3 := L_abs_neg (max lo hi)
  have l4 := L_fdiv (min lo hi) 9
  have l5 := L_fdiv (-(max lo hi)) 9
  have l6 := L_abs_neg (Int.fdiv (-(max lo hi)) 9)
  have l7 := L_fdiv (min lo hi) (2 * k + 1)
  have l8 := L_fdiv (-(max lo hi)) (2 * k + 1)
  have l9 := L_abs_neg (Int.fdiv (-(max lo hi)) (2 * k + 1))
  have l10 := L_abs_add a (Int.fdiv (min lo hi) (2 * k + 1))
  have l11 := L_abs_add b (-(Int.fdiv (-(max lo hi)) (2 * k + 1)))
  have hfn : f.toNat = (f - 1).toNat + 1 := by omega
  rw [lnG, if_neg ht, hfn] at h4
  exact ⟨by omega, by omega, by omega, h4, hb.1, hb.2, by omega, by omega, by omega, by omega⟩
theorem ln_init {v : Int} (hv : 0 ≤ v) : LnInv v (lnT v) (v + 1) 0 (Int.fdiv (min ((1 : Int) * 2 ^ v.toNat) ((1 : Int) * 2 ^ v.toNat)) 3) (-(Int.fdiv (-(max ((1 : Int) * 2 ^ v.toNat) ((1 : Int) * 2 ^ v.toNat))) 3)) ((0 : Int) * 2 ^ v.toNat) ((0 : Int) * 2 ^ v.toNat) (v / 32 + 2) := by
  have h := at_init (n := 3) (by omega) hv
  obtain ⟨h1, h2, h3, h4, h5, h6, h8, h9, h10, h11⟩ := h
  refine ⟨h1, h2, by omega, ?_, h5, h6, by omega, by omega, by omega, by omega⟩
  rw [show (v + 1).toNat + 1 = v.toNat + 2 by omega]; rfl
theorem ln_bound {v : Int} {T : Int × Int} {f k lo hi a b A : Int} (h : LnInv v T f k lo hi a b A) : 0 ≤ k ∧ k ≤ v + 1 ∧ L lo.natAbs ≤ A + 2 * (v + 2) ∧ L hi.natAbs ≤ A + 2 * (v + 2) ∧ L a.natAbs ≤ A + 2 * (v + 2) + 2 ∧ L b.natAbs ≤ A + 2 * (v + 2) + 2 := by
  obtain ⟨h1, h2, h3, h4, h5, h6, h8, h9, h10, h11⟩ := h
  omega
/-! ### lengths of the results -/
theorem at_T {n F : Int} {T : Int × Int} {A : Int} (hn : 2 ≤ n) : ∀ (m : Nat) (f k lo hi a b : Int), f.toNat = m → AtInv n F T f k lo hi a b A → L T.1.natAbs ≤ A + 4 * F + 2 ∧ L T.2.natAbs ≤ A + 4 * F + 2
  | m, f, k, lo, hi, a, b, hm, h => by
    have hb := at_bound h
    by_cases ht : lo.natAbs ≤ 1 ∧ hi.natAbs ≤ 1
    · obtain ⟨e1, e2⟩ := at_end h ht
      rw [← e1, ← e2]; exact ⟨hb.2.2.2.2.1, hb.2.2.2.2.2⟩
    · have hf := pow_tiny h.1 h.2.2.2.2.1 h.2.2.2.2.2.1 ht
      cases m with
      | zero => omega
      | succ m =>
        by_cases hq : wRem k (2 : Int) = 1
        · exact at_T hn m _ _ _ _ _ _ (by omega) (at_next hn h ht _ _ (.inl ⟨hq, rfl, rfl⟩))
        · exact at_T hn m _ _ _ _ _ _ (by omega) (at_next hn h ht _ _ (.inr ⟨hq, rfl, rfl⟩))
theorem e_T {v : Int} {T : Int × Int} {A : Int} : ∀ (m : Nat) (f k lo hi a b : Int), f.toNat = m → EInv v T f k lo hi a b A → L T.1.natAbs ≤ A + 2 * (v + 2) + 2 ∧ L T.2.natAbs ≤ A + 2 * (v + 2) + 2
  | m, f, k, lo, hi, a, b, hm, h => by
    have hb := e_bound h
    by_cases ht : lo.natAbs ≤ 1 ∧ hi.natAbs ≤ 1
    · obtain ⟨e1, e2⟩ := e_end h ht
      rw [← e1, ← e2]; exact ⟨hb.2.2.2.2.1, hb.2.2.2.2.2⟩
    · have hf := pow_tiny h.1 h.2.2.2.2.1 h.2.2.2.2.2.1 ht
      cases m with
      | zero => omega
      | succ m => exact e_T m _ _ _ _ _ _ (by omega) (e_next h ht)
theorem ln_T {v : Int} {T : Int × Int} {A : Int} : ∀ (m : Nat) (f k lo hi a b : Int), f.toNat = m → LnInv v T f k lo hi a b A → L T.1.natAbs ≤ A + 2 * (v + 2) + 2 ∧ L T.2.natAbs ≤ A + 2 * (v + 2) + 2
  | m, f, k, lo, hi, a, b, hm, h => by
    have hb := ln_bound h
    by_cases ht : lo.natAbs ≤ 1 ∧ hi.natAbs ≤ 1
    · obtain ⟨e1, e2⟩ := ln_end h ht
      rw [← e1, ← e2]; exact ⟨hb.2.2.2.2.1, hb.2.2.2.2.2⟩
    · have hf := pow_tiny h.1 h.2.2.2.2.1 h.2.2.2.2.2.1 ht
      cases m with
      | zero => omega
      | succ m => exact ln_T m _ _ _ _ _ _ (by omega) (ln_next h ht)
theorem L_lit (n : Nat) (h : n < 4294967296) : L n ≤ 1 := L_le (by simpa using h)
theorem atanT_L {n v : Int} (hn : 2 ≤ n) (hv : 0 ≤ v ∧ v ≤ 1500) : L ((atanT n v).1 - 2).natAbs ≤ 6100 ∧ L ((atanT n v).2 + 2).natAbs ≤ 6100 := by
  have h := at_T hn _ _ _ _ _ _ _ rfl (at_init hn hv.1)
  have l0 := L_lit (2 : Int).natAbs (by decide)
  have l1 := L_abs_sub (atanT n v).1 2
  have l2 := L_abs_add (atanT n v).2 2
  omega
theorem eT_L {v : Int} (hv : 0 ≤ v ∧ v ≤ 1500) : L ((eT v).1 - 3).natAbs ≤ 6100 ∧ L ((eT v).2 + 3).natAbs ≤ 6100 := by
  have h := e_T _ _ _ _ _ _ _ rfl (e_init hv.1)
  have l0 := L_lit (3 : Int).natAbs (by decide)
  have l1 := L_abs_sub (eT v).1 3
  have l2 := L_abs_add (eT v).2 3
  omega
theorem lnT_L {v : Int} (hv : 0 ≤ v ∧ v ≤ 1500) : L (((lnT v).1 - 2) * 2).natAbs ≤ 6100 ∧ L (((lnT v).2 + 2) * 2).natAbs ≤ 6100 := by
  have h := ln_T _ _ _ _ _ _ _ rfl (ln_init hv.1)
  have l0 := L_lit (2 : Int).natAbs (by decide)
  have l1 := L_abs_sub (lnT v).1 2
  have l2 := L_abs_add (lnT v).2 2
  have l3 := L_abs_mul ((lnT v).1 - 2) 2
  have l4 := L_abs_mul ((lnT v).2 + 2) 2
  omega
theorem pi_L (v : Int) (h5 : L ((atanT 5 v).1 - 2).natAbs ≤ 6100 ∧ L ((atanT 5 v).2 + 2).natAbs ≤ 6100) (h239 : L ((atanT 239 v).1 - 2).natAbs ≤ 6100 ∧ L ((atanT 239 v).2 + 2).natAbs ≤ 6100) :
    L ((((atanT 5 v).1 - 2) * 16) + (-(((atanT 239 v).2 + 2) * 4))).natAbs ≤ 6110 ∧ L ((((atanT 5 v).2 + 2) * 16) + (-(((atanT 239 v).1 - 2) * 4))).natAbs ≤ 6110 := by
  have l0 := L_lit (16 : Int).natAbs (by decide)
  have l1 := L_lit (4 : Int).natAbs (by decide)
  have l2 := L_abs_mul ((atanT 5 v).1 - 2) 16
  have l3 := L_abs_mul ((atanT 5 v).2 + 2) 16
  have l4 := L_abs_mul ((atanT 239 v).1 - 2) 4
  have l5 := L_abs_mul ((atanT 239 v).2 + 2) 4
  have l6 := L_abs_neg (((atanT 239 v).2 + 2) * 4)
  have l7 := L_abs_neg (((atanT 239 v).1 - 2) * 4)
  have l8 := L_abs_add (((atanT 5 v).1 - 2) * 16) (-(((atanT 239 v).2 + 2) * 4))
  have l9 := L_abs_add (((atanT 5 v).2 + 2) * 16) (-(((atanT 239 v).1 - 2) * 4))
  omega
end Go.Proofs.YtcijnloneigfcaaDoor
