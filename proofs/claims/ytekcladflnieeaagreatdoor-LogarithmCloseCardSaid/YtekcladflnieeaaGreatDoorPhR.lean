/-
  Lower layers: what functions of the program compute, and plain facts. Conditions: as the theorems say.
-/
import Derived.Test.YtekcladflnieeaaGreatDoorPhQ
set_option linter.unusedVariables false
set_option linter.unusedSimpArgs false
namespace Go.Proofs.YtekcladflnieeaaGreatDoor
def mn4 (a b c d : Int) : Int := min (min (min (a * c) (a * d)) (b * c)) (b * d)
def mx4 (a b c d : Int) : Int := max (max (max (a * c) (a * d)) (b * c)) (b * d)
def rm1 (a b c d T : Int) : Int := mn4 a b c d / T
def rm2 (a b c d T : Int) : Int := -(-(mx4 a b c d) / T)
theorem mn4_le (a b c d : Int) : mn4 a b c d ≤ a * c ∧ mn4 a b c d ≤ a * d ∧ mn4 a b c d ≤ b * c ∧ mn4 a b c d ≤ b * d := by unfold mn4; omega
theorem le_mx4 (a b c d : Int) : a * c ≤ mx4 a b c d ∧ a * d ≤ mx4 a b c d ∧ b * c ≤ mx4 a b c d ∧ b * d ≤ mx4 a b c d := by unfold mx4; omega
theorem mn4_abs {a b c d : Int} {B : Nat} (h1 : (a * c).natAbs ≤ B) (h2 : (a * d).natAbs ≤ B) (h3 : (b * c).natAbs ≤ B) (h4 : (b * d).natAbs ≤ B) : (mn4 a b c d).natAbs ≤ B ∧ (mx4 a b c d).natAbs ≤ B := by unfold mn4 mx4; omega
theorem rmul_in {x y : Rat} {a b c d : Int} (h1 : (a : Rat) ≤ x) (h2 : x ≤ (b : Rat)) (h3 : (c : Rat) ≤ y) (h4 : y ≤ (d : Rat)) : ((mn4 a b c d : Int) : Rat) ≤ x * y ∧ x * y ≤ ((mx4 a b c d : Int) : Rat) := by
  obtain ⟨p1, p2, p3, p4⟩ := mn4_le a b c d
  obtain ⟨q1, q2, q3, q4⟩ := le_mx4 a b c d
  rw [← Rat.intCast_le_intCast, Rat.intCast_mul] at p1 p2 p3 p4 q1 q2 q3 q4
  have lo : ∀ {u v w z : Rat}, u ≤ v → 0 ≤ w → u * w ≤ v * w := fun h k => Rat.mul_le_mul_of_nonneg_right h k
  rcases (Rat.le_total : 0 ≤ y ∨ y ≤ 0) with hy | hy
  · have e1 := Rat.mul_le_mul_of_nonneg_right h1 hy
    have e2 := Rat.mul_le_mul_of_nonneg_right h2 hy
    constructor
    · rcases (Rat.le_total : (0 : Rat) ≤ a ∨ (a : Rat) ≤ 0) with ha | ha
      · have := Rat.mul_le_mul_of_nonneg_left h3 ha; grind
      · have := Rat.mul_le_mul_of_nonneg_left h4 (show (0 : Rat) ≤ -a by grind); grind
    · rcases (Rat.le_total : (0 : Rat) ≤ b ∨ (b : Rat) ≤ 0) with ha | ha
      · have := Rat.mul_le_mul_of_nonneg_left h4 ha; grind
      · have := Rat.mul_le_mul_of_nonneg_left h3 (show (0 : Rat) ≤ -b by grind); grind
  · have hy' : (0 : Rat) ≤ -y := by grind
    have e1 := Rat.mul_le_mul_of_nonneg_right h1 hy'
    have e2 := Rat.mul_le_mul_of_nonneg_right h2 hy'
    constructor
    · rcases (Rat.le_total : (0 : Rat) ≤ b ∨ (b : Rat) ≤ 0) with ha | ha
      · have := Rat.mul_le_mul_of_nonneg_left h3 ha; grind
      · have := Rat.mul_le_mul_of_nonneg_left h4 (show (0 : Rat) ≤ -b by grind); grind
    · rcases (Rat.le_total : (0 : Rat) ≤ a ∨ (a : Rat) ≤ 0) with ha | ha
      · have := Rat.mul_le_mul_of_nonneg_left h4 ha; grind
      · have := Rat.mul_le_mul_of_nonneg_left h3 (show (0 : Rat) ≤ -a by grind); grind
theorem rm_in {x y : Rat} {a b c d T : Int} (hT : 0 < T) (h1 : (a : Rat) ≤ x * T) (h2 : x * T ≤ (b : Rat)) (h3 : (c : Rat) ≤ y * T) (h4 : y * T ≤ (d : Rat)) : ((rm1 a b c d T : Int) : Rat) ≤ x * y * T ∧ x * y * T ≤ ((rm2 a b c d T : Int) : Rat) := by
  have T0 : (0 : Rat) < T := Rat.intCast_pos.2 hT
  have m := rmul_in h1 h2 h3 h4
  have f := (fl_R (a := mn4 a b c d) hT).1
  have g := (ce_R (a := mx4 a b c d) hT).1
  unfold rm1 rm2
  constructor
  · exact Rat.le_of_mul_le_mul_right (c := (T : Rat)) (by grind) T0
  · exact Rat.le_of_mul_le_mul_right (c := (T : Rat)) (by grind) T0
theorem rm_abs {a b c d T : Int} {B S C : Nat} (hT : 0 < T) (ha : a.natAbs ≤ B) (hb : b.natAbs ≤ B) (hc : c.natAbs ≤ S) (hd : d.natAbs ≤ S) (h : (B * S : Nat) ≤ C * T.toNat) : (rm1 a b c d T).natAbs ≤ C ∧ (rm2 a b c d T).natAbs ≤ C := by
  have k : ∀ {x y : Int}, x.natAbs ≤ B → y.natAbs ≤ S → (x * y).natAbs ≤ B * S := fun hx hy => by rw [Int.natAbs_mul]; exact Nat.mul_le_mul hx hy
  have m := mn4_abs (k ha hc) (k ha hd) (k hb hc) (k hb hd)
  have e : ((B * S : Nat) : Int) ≤ (C : Int) * T := by
    have : ((B * S : Nat) : Int) ≤ ((C * T.toNat : Nat) : Int) := by omega
    rw [Int.natCast_mul C, Int.toNat_of_nonneg (by omega)] at this
    exact this
  have fd : ∀ {x : Int}, x.natAbs ≤ B * S → (x / T).natAbs ≤ C := by
    intro x hx
    have h1 : x / T ≤ C := Int.ediv_le_of_le_mul hT (by omega)
    have h2 : -(C : Int) ≤ x / T := Int.le_ediv_of_mul_le hT (by rw [Int.neg_mul]; omega)
    omega
  unfold rm1 rm2
  have a1 := fd m.1
  have a2 := fd (x := -(mx4 a b c d)) (by rw [Int.natAbs_neg]; exact m.2)
  exact ⟨a1, by rw [Int.natAbs_neg]; exact a2⟩
def rP (T q1 q2 x1 x2 : Int) : Nat → Int × Int
  | 0 => (x1, x2)
  | j + 1 => (rm1 (rP T q1 q2 x1 x2 j).1 (rP T q1 q2 x1 x2 j).2 q1 q2 T, rm2 (rP T q1 q2 x1 x2 j).1 (rP T q1 q2 x1 x2 j).2 q1 q2 T)
def ovLo (a b n : Int) : Int := Int.fdiv (min a b) n
def ovHi (a b n : Int) : Int := -(Int.fdiv (-(max a b)) n)
def rA (T q1 q2 x1 x2 : Int) : Nat → Int × Int
  | 0 => (0, 0)
  | j + 1 => ((rA T q1 q2 x1 x2 j).1 + ovLo (rP T q1 q2 x1 x2 j).1 (rP T q1 q2 x1 x2 j).2 (odn j), (rA T q1 q2 x1 x2 j).2 + ovHi (rP T q1 q2 x1 x2 j).1 (rP T q1 q2 x1 x2 j).2 (odn j))
structure RrH (v : Nat) (x1 x2 : Int) : Prop where
  hv : 8 ≤ v
  h1 : x1.natAbs ≤ 2 ^ (v - 1)
  h2 : x2.natAbs ≤ 2 ^ (v - 1)
def rq1 (T x1 x2 : Int) : Int := rm1 x1 x2 x1 x2 T
def rq2 (T x1 x2 : Int) : Int := rm2 x1 x2 x1 x2 T
theorem toNat_two (v : Nat) : ((2 : Int) ^ v).toNat = 2 ^ v := by rw [pow_cast]; exact Int.toNat_natCast _
theorem rq_abs {v : Nat} {x1 x2 : Int} (h : RrH v x1 x2) : (rq1 (2 ^ v) x1 x2).natAbs ≤ 2 ^ (v - 2) ∧ (rq2 (2 ^ v) x1 x2).natAbs ≤ 2 ^ (v - 2) := by
  refine rm_abs (two_pos v) h.h1 h.h2 h.h1 h.h2 ?_
  rw [toNat_two, ← Nat.pow_add, ← Nat.pow_add]
  exact Nat.pow_le_pow_right (by omega) (by have := h.hv; omega)
theorem rP_abs {v : Nat} {x1 x2 : Int} (h : RrH v x1 x2) : ∀ j, j ≤ v - 1 → (rP (2 ^ v) (rq1 (2 ^ v) x1 x2) (rq2 (2 ^ v) x1 x2) x1 x2 j).1.natAbs ≤ 2 ^ (v - 1 - j) ∧ (rP (2 ^ v) (rq1 (2 ^ v) x1 x2) (rq2 (2 ^ v) x1 x2) x1 x2 j).2.natAbs ≤ 2 ^ (v - 1 - j)
  | 0, _ => ⟨h.h1, h.h2⟩
  | j + 1, hj => by
    have i := rP_abs h j (by omega)
    have q := rq_abs h
    refine rm_abs (two_pos v) i.1 i.2 q.1 q.2 ?_
    rw [toNat_two, ← Nat.pow_add, ← Nat.pow_add]
    exact Nat.pow_le_pow_right (by omega) (by have := h.hv; omega)
abbrev sP (v : Nat) (x1 x2 : Int) (j : Nat) : Int × Int := rP (2 ^ v) (rq1 (2 ^ v) x1 x2) (rq2 (2 ^ v) x1 x2) x1 x2 j
abbrev sA (v : Nat) (x1 x2 : Int) (j : Nat) : Int × Int := rA (2 ^ v) (rq1 (2 ^ v) x1 x2) (rq2 (2 ^ v) x1 x2) x1 x2 j
theorem sP_small {v : Nat} {x1 x2 : Int} (h : RrH v x1 x2) : ∃ N, N ≤ v - 1 ∧ ((sP v x1 x2 N).1.natAbs ≤ 1 ∧ (sP v x1 x2 N).2.natAbs ≤ 1) ∧ ∀ j, j < N → ¬ ((sP v x1 x2 j).1.natAbs ≤ 1 ∧ (sP v x1 x2 j).2.natAbs ≤ 1) := by
  have k := rP_abs h (v - 1) (Nat.le_refl _)
  rw [Nat.sub_self] at k
  exact least (P := fun m => (sP v x1 x2 m).1.natAbs ≤ 1 ∧ (sP v x1 x2 m).2.natAbs ≤ 1) k
theorem sP_enc {v : Nat} {x1 x2 : Int} {Z : Rat} (e1 : (x1 : Rat) ≤ Z * ((2 ^ v : Int) : Rat)) (e2 : Z * ((2 ^ v : Int) : Rat) ≤ (x2 : Rat)) : ∀ j, ((sP v x1 x2 j).1 : Rat) ≤ Z ^ (2 * j + 1) * ((2 ^ v : Int) : Rat) ∧ Z ^ (2 * j + 1) * ((2 ^ v : Int) : Rat) ≤ ((sP v x1 x2 j).2 : Rat)
  | 0 => by
    rw [show Z ^ (2 * 0 + 1) = Z by rw [Rat.pow_succ, Rat.pow_zero, Rat.one_mul]]
    exact ⟨e1, e2⟩
  | j + 1 => by
    have i := sP_enc e1 e2 j
    have q := rm_in (two_pos v) e1 e2 e1 e2
    rw [odd_succ]
    exact rm_in (two_pos v) i.1 i.2 q.1 q.2
theorem ov_in {a b n : Int} {y : Rat} (hn : 0 < n) (h1 : (a : Rat) ≤ y) (h2 : y ≤ (b : Rat)) : ((ovLo a b n : Int) : Rat) ≤ y / (n : Rat) ∧ y / (n : Rat) ≤ ((ovHi a b n : Int) : Rat) := by
  unfold ovLo ovHi
  rw [Int.fdiv_eq_ediv_of_nonneg _ (show 0 ≤ n by omega), Int.fdiv_eq_ediv_of_nonneg _ (show 0 ≤ n by omega)]
  constructor
  · exact df_lo hn (Rat.le_trans (Rat.intCast_le_intCast.2 (show min a b ≤ a by omega)) h1)
  · exact df_hi hn (Rat.le_trans h2 (Rat.intCast_le_intCast.2 (show b ≤ max a b by omega)))
theorem sA_enc {v : Nat} {x1 x2 : Int} {Z : Rat} (e1 : (x1 : Rat) ≤ Z * ((2 ^ v : Int) : Rat)) (e2 : Z * ((2 ^ v : Int) : Rat) ≤ (x2 : Rat)) : ∀ j, ((sA v x1 x2 j).1 : Rat) ≤ PL Z j * ((2 ^ v : Int) : Rat) ∧ PL Z j * ((2 ^ v : Int) : Rat) ≤ ((sA v x1 x2 j).2 : Rat)
  | 0 => by
    show ((0 : Int) : Rat) ≤ 0 * _ ∧ 0 * _ ≤ ((0 : Int) : Rat)
    rw [Rat.zero_mul]; exact ⟨Rat.le_refl, Rat.le_refl⟩
  | j + 1 => by
    have i := sA_enc e1 e2 j
    have p := sP_enc e1 e2 j
    have d := ov_in (odn_pos j) p.1 p.2
    have e : PL Z (j + 1) * ((2 ^ v : Int) : Rat) = PL Z j * ((2 ^ v : Int) : Rat) + Z ^ (2 * j + 1) * ((2 ^ v : Int) : Rat) / (odn j : Rat) := by
      show (PL Z j + Z ^ (2 * j + 1) / (odn j : Rat)) * ((2 ^ v : Int) : Rat) = _
      rw [Rat.div_def, Rat.div_def]; grind
    rw [e]
    constructor
    · show (((sA v x1 x2 j).1 + ovLo (sP v x1 x2 j).1 (sP v x1 x2 j).2 (odn j) : Int) : Rat) ≤ _
      rw [Rat.intCast_add]; grind
    · show _ ≤ (((sA v x1 x2 j).2 + ovHi (sP v x1 x2 j).1 (sP v x1 x2 j).2 (odn j) : Int) : Rat)
      rw [Rat.intCast_add]; grind
theorem PL_gap0 {z : Rat} (hz : 0 ≤ z) (h2 : 2 * z ≤ 1) (j k : Nat) : PL z j ≤ PL z (j + k) ∧ PL z (j + k) ≤ PL z j + 2 * z ^ (2 * j + 1) := by
  refine ⟨PL_mono hz k, ?_⟩
  have p0 := Rat.pow_nonneg (n := 2 * j + 1) hz
  cases k with
  | zero => show PL z j ≤ _; grind
  | succ k =>
    have h := (PL_hi hz h2 (j := j) (K := j + (k + 1)) (by omega)).2
    have d := (div_nn (j := j) p0).2
    have e : PL z (j + 1) = PL z j + z ^ (2 * j + 1) / (odn j : Rat) := rfl
    grind
theorem PL_gap {z y : Rat} (h1 : 2 * z ≤ 1) (h2 : -1 ≤ 2 * z) {j k : Nat} (hy1 : z ^ (2 * j + 1) ≤ y) (hy2 : -y ≤ z ^ (2 * j + 1)) : PL z (j + k) ≤ PL z j + 2 * y ∧ PL z j ≤ PL z (j + k) + 2 * y := by
  rcases (Rat.le_total : 0 ≤ z ∨ z ≤ 0) with hz | hz
  · have g := PL_gap0 hz h1 j k
    have p0 := Rat.pow_nonneg (n := 2 * j + 1) hz
    constructor <;> grind
  · have g := PL_gap0 (z := -z) (by grind) (by grind) j k
    have p0 := Rat.pow_nonneg (n := 2 * j + 1) (show 0 ≤ -z by grind)
    rw [PL_neg, PL_neg, neg_odd z (by omega)] at g
    rw [neg_odd z (by omega)] at p0
    constructor <;> grind
theorem sum_enc {v : Nat} {x1 x2 : Int} {Z : Rat} (z1 : 2 * Z ≤ 1) (z2 : -1 ≤ 2 * Z) (e1 : (x1 : Rat) ≤ Z * ((2 ^ v : Int) : Rat)) (e2 : Z * ((2 ^ v : Int) : Rat) ≤ (x2 : Rat)) {N K : Nat}
    (hN : (sP v x1 x2 N).1.natAbs ≤ 1 ∧ (sP v x1 x2 N).2.natAbs ≤ 1) (hK : N ≤ K) : (((sA v x1 x2 N).1 - 3 : Int) : Rat) ≤ PL Z K * ((2 ^ v : Int) : Rat) ∧ PL Z K * ((2 ^ v : Int) : Rat) ≤ (((sA v x1 x2 N).2 + 3 : Int) : Rat) := by
  obtain ⟨k, rfl⟩ : ∃ k, K = N + k := ⟨K - N, by omega⟩
  have T0 : (0 : Rat) < ((2 ^ v : Int) : Rat) := Rat.intCast_pos.2 (two_pos v)
  have a := sA_enc e1 e2 N
  have p := sP_enc e1 e2 N
  clear e1 e2
  generalize hT : ((2 ^ v : Int) : Rat) = T at *
  have b1 : (-1 : Rat) ≤ ((sP v x1 x2 N).1 : Rat) := by
    have : ((-1 : Int) : Rat) ≤ ((sP v x1 x2 N).1 : Rat) := Rat.intCast_le_intCast.2 (by omega)
    exact this
  have b2 : ((sP v x1 x2 N).2 : Rat) ≤ (1 : Rat) := by
    have : ((sP v x1 x2 N).2 : Rat) ≤ ((1 : Int) : Rat) := Rat.intCast_le_intCast.2 (by omega)
    exact this
  have u : T⁻¹ * T = 1 := Rat.inv_mul_cancel T (by grind)
  have g := PL_gap (z := Z) (y := T⁻¹) z1 z2 (j := N) (k := k) (Rat.le_of_mul_le_mul_right (c := T) (by grind) T0) (Rat.le_of_mul_le_mul_right (c := T) (by grind) T0)
  have m1 := Rat.mul_le_mul_of_nonneg_right g.1 (Rat.le_of_lt T0)
  have m2 := Rat.mul_le_mul_of_nonneg_right g.2 (Rat.le_of_lt T0)
  rw [Rat.intCast_sub, Rat.intCast_add, show ((3 : Int) : Rat) = 3 from rfl]
  constructor <;> grind
theorem sA_abs {v : Nat} {x1 x2 : Int} (h : RrH v x1 x2) : ∀ j, j ≤ v → (sA v x1 x2 j).1.natAbs ≤ j * 2 ^ v ∧ (sA v x1 x2 j).2.natAbs ≤ j * 2 ^ v
  | 0, _ => ⟨by show (0 : Int).natAbs ≤ _; simp, by show (0 : Int).natAbs ≤ _; simp⟩
  | j + 1, hj => by
    have i := sA_abs h j (by omega)
    have p := rP_abs h j (by omega)
    have l : 2 ^ (v - 1 - j) ≤ 2 ^ v := Nat.pow_le_pow_right (by omega) (by omega)
    have o := ov_le (n := odn j) (by have := odn_pos j; omega) (Nat.le_trans p.1 l) (Nat.le_trans p.2 l)
    have o1 : (ovLo (sP v x1 x2 j).1 (sP v x1 x2 j).2 (odn j)).natAbs ≤ 2 ^ v := o.1
    have o2 : (ovHi (sP v x1 x2 j).1 (sP v x1 x2 j).2 (odn j)).natAbs ≤ 2 ^ v := o.2
    show ((sA v x1 x2 j).1 + ovLo (sP v x1 x2 j).1 (sP v x1 x2 j).2 (odn j)).natAbs ≤ _ ∧ ((sA v x1 x2 j).2 + ovHi (sP v x1 x2 j).1 (sP v x1 x2 j).2 (odn j)).natAbs ≤ _
    rw [Nat.add_mul, Nat.one_mul]
    omega
def rdv (a b c d T : Int) : Int × Int :=
  let x := a * T; let y := b * T
  let p1 := Int.fdiv (min x y) c; let p2 := -(Int.fdiv (-(max x y)) c); let q1 := Int.fdiv (min x y) d; let q2 := -(Int.fdiv (-(max x y)) d)
  (min (min (min p1 p2) q1) q2, max (max (max p1 p2) q1) q2)
theorem rdv_in {a b c d T : Int} {M Z : Rat} (hT : 0 < T) (hc : 0 < c) (hd : 0 < d) (h1 : (a : Rat) ≤ Z * M * T) (h2 : Z * M * T ≤ (b : Rat)) (h3 : (c : Rat) ≤ M * T) (h4 : M * T ≤ (d : Rat)) :
    (((rdv a b c d T).1 : Int) : Rat) ≤ Z * T ∧ Z * T ≤ (((rdv a b c d T).2 : Int) : Rat) := by
  have T0 : (0 : Rat) < T := Rat.intCast_pos.2 hT
  have c0 : (0 : Rat) < c := Rat.intCast_pos.2 hc
  have d0 : (0 : Rat) < d := Rat.intCast_pos.2 hd
  unfold rdv
  simp only [Int.fdiv_eq_ediv_of_nonneg _ (show 0 ≤ c by omega), Int.fdiv_eq_ediv_of_nonneg _ (show 0 ≤ d by omega)]
  have f1 := (fl_R (a := min (a * T) (b * T)) hc).1
  have f2 := (ce_R (a := max (a * T) (b * T)) hc).1
  have g1 := (fl_R (a := min (a * T) (b * T)) hd).1
  have g2 := (ce_R (a := max (a * T) (b * T)) hd).1
  have k1 : ((min (a * T) (b * T) : Int) : Rat) ≤ (a : Rat) * T := by rw [← Rat.intCast_mul]; exact Rat.intCast_le_intCast.2 (by omega)
  have k2 : (b : Rat) * T ≤ ((max (a * T) (b * T) : Int) : Rat) := by rw [← Rat.intCast_mul]; exact Rat.intCast_le_intCast.2 (by omega)
  generalize min (a * T) (b * T) / c = p1 at *
  generalize -(-(max (a * T) (b * T)) / c) = p2 at *
  generalize min (a * T) (b * T) / d = q1 at *
  generalize -(-(max (a * T) (b * T)) / d) = q2 at *
  generalize ((min (a * T) (b * T) : Int) : Rat) = mn at *
  generalize ((max (a * T) (b * T) : Int) : Rat) = mx at *
  have m1 := Rat.mul_le_mul_of_nonneg_right h1 (Rat.le_of_lt T0)
  have m2 := Rat.mul_le_mul_of_nonneg_right h2 (Rat.le_of_lt T0)
  have MT : (0 : Rat) < M * T := by grind
  have l1 : ((min (min (min p1 p2) q1) q2 : Int) : Rat) ≤ p1 := Rat.intCast_le_intCast.2 (by omega)
  have l2 : ((min (min (min p1 p2) q1) q2 : Int) : Rat) ≤ q1 := Rat.intCast_le_intCast.2 (by omega)
  have l3 : (p2 : Rat) ≤ ((max (max (max p1 p2) q1) q2 : Int) : Rat) := Rat.intCast_le_intCast.2 (by omega)
  have l4 : (q2 : Rat) ≤ ((max (max (max p1 p2) q1) q2 : Int) : Rat) := Rat.intCast_le_intCast.2 (by omega)
  constructor
  · rcases (Rat.le_total : (0 : Rat) ≤ Z ∨ Z ≤ 0) with hz | hz
    · -- Z T d >= Z T M T >= a T >= mn >= q1 d
      refine Rat.le_trans l2 (Rat.le_of_mul_le_mul_right (c := (d : Rat)) ?_ d0)
      have n := Rat.mul_le_mul_of_nonneg_left h4 (Rat.mul_nonneg hz (Rat.le_of_lt T0))
      grind
    · refine Rat.le_trans l1 (Rat.le_of_mul_le_mul_right (c := (c : Rat)) ?_ c0)
      have n := Rat.mul_le_mul_of_nonneg_left h3 (Rat.mul_nonneg (show 0 ≤ -Z by grind) (Rat.le_of_lt T0))
      grind
  · rcases (Rat.le_total : (0 : Rat) ≤ Z ∨ Z ≤ 0) with hz | hz
    · refine Rat.le_trans (Rat.le_of_mul_le_mul_right (c := (c : Rat)) ?_ c0) l3
      have n := Rat.mul_le_mul_of_nonneg_left h3 (Rat.mul_nonneg hz (Rat.le_of_lt T0))
      grind
    · refine Rat.le_trans (Rat.le_of_mul_le_mul_right (c := (d : Rat)) ?_ d0) l4
      have n := Rat.mul_le_mul_of_nonneg_left h4 (Rat.mul_nonneg (show 0 ≤ -Z by grind) (Rat.le_of_lt T0))
      grind
theorem rdv_abs {a b c d T : Int} {B : Nat} (hT : 0 < T) (ha : a.natAbs ≤ B) (hb : b.natAbs ≤ B) (hc : T ≤ c) (hd : T ≤ d) : (rdv a b c d T).1.natAbs ≤ B ∧ (rdv a b c d T).2.natAbs ≤ B := by
  have k : ∀ {x n : Int}, x.natAbs ≤ B * T.toNat → T ≤ n → (Int.fdiv x n).natAbs ≤ B := by
    intro x n hx hn
    rw [Int.fdiv_eq_ediv_of_nonneg _ (show 0 ≤ n by omega)]
    have e : ((B * T.toNat : Nat) : Int) = (B : Int) * T := by rw [Int.natCast_mul, Int.toNat_of_nonneg (by omega)]
    have e2 : (B : Int) * T ≤ (B : Int) * n := Int.mul_le_mul_of_nonneg_left hn (by omega)
    have h1 : x / n ≤ B := Int.ediv_le_of_le_mul (by omega) (by omega)
    have h2 : -(B : Int) ≤ x / n := Int.le_ediv_of_mul_le (by omega) (by rw [Int.neg_mul]; omega)
    omega
  have m : ∀ {x : Int}, x.natAbs ≤ B → (x * T).natAbs ≤ B * T.toNat := fun hx => by
    rw [Int.natAbs_mul]; exact Nat.mul_le_mul hx (by omega)
  have mna : (min (a * T) (b * T)).natAbs ≤ B * T.toNat := min_abs (m ha) (m hb)
  have mxa : (-(max (a * T) (b * T))).natAbs ≤ B * T.toNat := by rw [Int.natAbs_neg]; exact max_abs (m ha) (m hb)
  have p1 := k mna hc
  have p2 := k mxa hc
  have q1 := k mna hd
  have q2 := k mxa hd
  unfold rdv
  simp only
  omega
end Go.Proofs.YtekcladflnieeaaGreatDoor

namespace Go.Proofs.YtekcladflnieeaaGreatDoor
theorem of_ge {m e s : Int} (h : 0 ≤ e + s) : m * 2 ^ (e + s).toNat = flr (dv m e) s ∧ m * 2 ^ (e + s).toNat = cei (dv m e) s := by
  have a : flr (dv m e) s = m * 2 ^ (e + s).toNat := by rw [flr_dv, if_pos h]
  have b : flr (dv (-m) e) s = -m * 2 ^ (e + s).toNat := by rw [flr_dv, if_pos h]
  refine ⟨a.symm, ?_⟩
  unfold cei
  rw [← dv_neg, b, Int.neg_mul, Int.neg_neg]
theorem of_lt {m e s : Int} (h : e + s < 0) : m / 2 ^ (0 - (e + s)).toNat = flr (dv m e) s ∧ -(-m / 2 ^ (0 - (e + s)).toNat) = cei (dv m e) s := by
  have a : flr (dv m e) s = m / 2 ^ (-(e + s)).toNat := by rw [flr_dv, if_neg (by omega)]
  have b : flr (dv (-m) e) s = -m / 2 ^ (-(e + s)).toNat := by rw [flr_dv, if_neg (by omega)]
  rw [show (0 : Int) - (e + s) = -(e + s) by omega]
  refine ⟨a.symm, ?_⟩
  unfold cei
  rw [← dv_neg, b]
theorem half_enc {a b : Int} {X : Rat} {t s n : Nat} (h : t = s + n) (h1 : (a : Rat) ≤ X * ((2 ^ t : Int) : Rat)) (h2 : X * ((2 ^ t : Int) : Rat) ≤ (b : Rat)) :
    ((a / 2 ^ n : Int) : Rat) ≤ X * ((2 ^ s : Int) : Rat) ∧ X * ((2 ^ s : Int) : Rat) ≤ ((-(-b / 2 ^ n) : Int) : Rat) := by
  have n0 : (0 : Rat) < ((2 ^ n : Int) : Rat) := Rat.intCast_pos.2 (two_pos n)
  have e : ((2 ^ t : Int) : Rat) = ((2 ^ s : Int) : Rat) * ((2 ^ n : Int) : Rat) := by rw [h, Int.pow_add, Rat.intCast_mul]
  rw [e, ← Rat.mul_assoc] at h1 h2
  have f := (fl_R (a := a) (two_pos n)).1
  have g := (ce_R (a := b) (two_pos n)).1
  exact ⟨Rat.le_of_mul_le_mul_right (Rat.le_trans f h1) n0, Rat.le_of_mul_le_mul_right (Rat.le_trans h2 g) n0⟩
theorem half_w {a b W : Int} {n : Nat} (h : b - a ≤ W * 2 ^ n) : -(-b / 2 ^ n) - a / 2 ^ n ≤ W + 1 := by
  have n0 := two_pos n
  have f1 := Int.lt_ediv_add_one_mul_self a n0
  have f2 := Int.lt_ediv_add_one_mul_self (-b) n0
  generalize a / 2 ^ n = u at *
  generalize -b / 2 ^ n = v at *
  generalize (2 : Int) ^ n = T at *
  refine Decidable.byContradiction fun hn => ?_
  have m := Int.mul_le_mul_of_nonneg_right (show W + 2 ≤ -v - u by omega) (show 0 ≤ T by omega)
  grind
def tmLo (a b k : Int) : Int := if k < 0 then b * k else a * k
def tmHi (a b k : Int) : Int := if k < 0 then a * k else b * k
theorem tm_enc {a b k : Int} {y : Rat} (h1 : (a : Rat) ≤ y) (h2 : y ≤ (b : Rat)) : ((tmLo a b k : Int) : Rat) ≤ y * k ∧ y * k ≤ ((tmHi a b k : Int) : Rat) := by
  unfold tmLo tmHi
  split
  · rename_i h
    have k0 : (0 : Rat) ≤ -(k : Rat) := by rw [← Rat.intCast_neg]; exact Rat.intCast_nonneg.2 (by omega)
    have m1 := Rat.mul_le_mul_of_nonneg_right h1 k0
    have m2 := Rat.mul_le_mul_of_nonneg_right h2 k0
    rw [Rat.intCast_mul, Rat.intCast_mul]
    constructor <;> grind
  · rename_i h
    have k0 : (0 : Rat) ≤ (k : Rat) := Rat.intCast_nonneg.2 (by omega)
    have m1 := Rat.mul_le_mul_of_nonneg_right h1 k0
    have m2 := Rat.mul_le_mul_of_nonneg_right h2 k0
    rw [Rat.intCast_mul, Rat.intCast_mul]
    exact ⟨m1, m2⟩
theorem tm_w {a b k W : Int} (hab : a ≤ b) (hk : -W ≤ k ∧ k ≤ W) (h : b - a < 16777216) : tmHi a b k - tmLo a b k ≤ 16777216 * W := by
  unfold tmLo tmHi
  have key : ∀ {x y : Int}, 0 ≤ x → x ≤ 16777216 → 0 ≤ y → y ≤ W → x * y ≤ 16777216 * W := fun h1 h2 h3 h4 =>
    Int.le_trans (Int.mul_le_mul_of_nonneg_right h2 h3) (Int.mul_le_mul_of_nonneg_left h4 (by omega))
  split
  · have := key (x := b - a) (y := -k) (by omega) (by omega) (by omega) (by omega)
    rw [Int.mul_neg, Int.sub_mul] at this
    omega
  · have := key (x := b - a) (y := k) (by omega) (by omega) (by omega) (by omega)
    rw [Int.sub_mul] at this
    omega
def ptLn : Int := 1921868181103848789005135799070027024580345152612047297481125309024332866685277824573051215291055110282969622901371337173642342478
def cLn : Rat := dv ptLn (-430)
theorem cl_sc {x : Int} {t : Nat} {P : Int} (ht : t ≤ 430) : (x * 2 ^ (430 - t) ≤ P → (x : Rat) ≤ dv P (-430) * ((2 ^ t : Int) : Rat)) ∧ (P ≤ x * 2 ^ (430 - t) → dv P (-430) * ((2 ^ t : Int) : Rat) ≤ (x : Rat)) := by
  have T0 : (0 : Rat) < ((2 ^ t : Int) : Rat) := Rat.intCast_pos.2 (two_pos t)
  have e : dv (x * 2 ^ (430 - t)) (-430) * ((2 ^ t : Int) : Rat) = (x : Rat) := by
    rw [dv_shl, show (-430 : Int) + ((430 - t : Nat) : Int) = -(t : Int) by omega, dv_sc]
  constructor
  · intro h
    have a := Rat.mul_le_mul_of_nonneg_right ((dv_le (c := -430)).2 h) (Rat.le_of_lt T0)
    rwa [e] at a
  · intro h
    have a := Rat.mul_le_mul_of_nonneg_right ((dv_le (c := -430)).2 h) (Rat.le_of_lt T0)
    rwa [e] at a
def LnF (M : Rat) (k : Int) (K : Nat) : Rat := 2 * PL ((M - 1) / (M + 1)) K + (k : Rat) * cLn
def Encl (f : Nat → Rat) (s : Nat) (lo hi : Int) : Prop := ∃ N, ∀ K, N ≤ K → (lo : Rat) ≤ f K * ((2 ^ s : Int) : Rat) ∧ f K * ((2 ^ s : Int) : Rat) ≤ (hi : Rat)
theorem Encl.half {f : Nat → Rat} {t s n : Nat} {a b : Int} (h : Encl f t a b) (e : t = s + n) : Encl f s (a / 2 ^ n) (-(-b / 2 ^ n)) := by
  obtain ⟨N, h⟩ := h
  exact ⟨N, fun K hK => half_enc e (h K hK).1 (h K hK).2⟩
theorem Encl.meet {f : Nat → Rat} {s n : Nat} {a b c d : Int} (h : Encl f s a b) (k : Encl f (s + n) c d) : a * 2 ^ n ≤ d ∧ c ≤ b * 2 ^ n := by
  obtain ⟨N, h⟩ := h
  obtain ⟨N', k⟩ := k
  have x := h (N + N') (by omega)
  have y := k (N + N') (by omega)
  have n0 : (0 : Rat) < ((2 ^ n : Int) : Rat) := Rat.intCast_pos.2 (two_pos n)
  rw [Int.pow_add, Rat.intCast_mul, ← Rat.mul_assoc] at y
  have m1 := Rat.mul_le_mul_of_nonneg_right x.1 (Rat.le_of_lt n0)
  have m2 := Rat.mul_le_mul_of_nonneg_right x.2 (Rat.le_of_lt n0)
  rw [← Rat.intCast_mul] at m1 m2
  exact ⟨Rat.intCast_le_intCast.1 (Rat.le_trans m1 y.2), Rat.intCast_le_intCast.1 (Rat.le_trans y.1 m2)⟩
theorem ln_add {M : Rat} {t : Nat} {k u1 u2 v1 v2 : Int} {g : Bool} {Z : Rat} (hz : (M - 1) / (M + 1) = if g then -Z else Z) {N : Nat}
    (h : ∀ K, N ≤ K → (u1 : Rat) ≤ PL Z K * ((2 ^ t : Int) : Rat) ∧ PL Z K * ((2 ^ t : Int) : Rat) ≤ (u2 : Rat)) (h1 : (v1 : Rat) ≤ cLn * ((2 ^ t : Int) : Rat)) (h2 : cLn * ((2 ^ t : Int) : Rat) ≤ (v2 : Rat)) :
    Encl (LnF M k) t ((if g then -(u2 * 2) else u1 * 2) + tmLo v1 v2 k) ((if g then -(u1 * 2) else u2 * 2) + tmHi v1 v2 k) := by
  have m := tm_enc (k := k) h1 h2
  refine ⟨N, fun K hK => ?_⟩
  have q := h K hK
  unfold LnF
  rw [hz]
  cases g with
  | false =>
    simp only [Bool.false_eq_true, if_false]
    rw [Rat.intCast_add, Rat.intCast_add, Rat.intCast_mul, Rat.intCast_mul, two_R]
    constructor <;> grind
  | true =>
    simp only [if_true]
    rw [PL_neg, Rat.intCast_add, Rat.intCast_add, Rat.intCast_neg, Rat.intCast_neg, Rat.intCast_mul, Rat.intCast_mul, two_R]
    constructor <;> grind
theorem cmpI_le (x y : Int) : cmpI x y ≤ 0 ↔ x ≤ y := by unfold cmpI; split <;> (try split) <;> omega
theorem Sp_of {a b c d : Int} (h1 : a = c) (h2 : b = d) : vsub (.agg [.bool (decide (a < 0)), N a.natAbs, .bool (decide (b < 0)), N b.natAbs]) (.agg [.bool (decide (c < 0)), N c.natAbs, .bool (decide (d < 0)), N d.natAbs]) := by
  subst h1; subst h2; exact vsub_refl _
theorem pt_hi1 {b d : Int} (h : ((b.natAbs % d.toNat : Nat) : Int) ≠ 0) : sgn false (b.natAbs / d.toNat + (1 : Int).toNat) = ptHi b d := by
  unfold ptHi
  rw [if_neg (by omega)]; rfl
theorem pt_hi2 {b d : Int} (h : ((b.natAbs % d.toNat : Nat) : Int) = 0) : sgn false (b.natAbs / d.toNat) = ptHi b d := by
  unfold ptHi
  rw [if_pos (by omega)]; rfl
theorem tiny_8 {b : Int} : iLe (nbits b.natAbs : Int) 3 = decide (b.natAbs < 8) := by
  unfold iLe
  have h : (nbits b.natAbs : Int) ≤ 3 ↔ b.natAbs < 8 := by
    constructor
    · intro h
      have l := nbits_lt b.natAbs
      have := Nat.pow_le_pow_right (n := 2) (by omega) (show nbits b.natAbs ≤ 3 by omega)
      omega
    · intro h
      have := nbits_of_lt (x := b.natAbs) (k := 3) (by omega)
      omega
  exact decide_eq_decide.2 h
theorem arcT_pos (n : Int) (g : Bool) (s : Int) : 0 ≤ (arcT n g s).1 := by
  have key : ∀ (f : Nat) (n : Nat) (k : Int) (p : Nat) (a : Int), 0 ≤ k → 0 ≤ (arcG n g f k p a).1 := by
    intro f
    induction f with
    | zero => intro n k p a h; exact h
    | succ f ih =>
      intro n k p a h
      rw [arcG]
      split
      · exact h
      · exact ih _ _ _ _ (by omega)
  exact key _ _ _ _ _ (Int.le_refl _)
end Go.Proofs.YtekcladflnieeaaGreatDoor

namespace Go.Proofs.YtekcladflnieeaaGreatDoor
open Go.RowKit
set_option maxRecDepth 100000
theorem fx_One (s : Int) (c0 : (0 : Int) ≤ s ∧ s ≤ 20000) : Impl Tryz.prog Amb 210 [(.int .i64 s)] (.agg [(.bool (decide (((1 : Int) * 2 ^ (s).toNat) < 0))), (N (((1 : Int) * 2 ^ (s).toNat).natAbs)), (.bool (decide (((1 : Int) * 2 ^ (s).toNat) < 0))), (N (((1 : Int) * 2 ^ (s).toNat).natAbs))]) := by
  exact impl_ob hP hAmb Tryz.func210 (by kernel_rfl) (.lit <| .call (zV (1 : Int)) <| .lit <| .call (zV ((1 : Int) * 2 ^ (s).toNat)) <| .lit <| .call (.agg [(.bool (decide (((1 : Int) * 2 ^ (s).toNat) < 0))), (N (((1 : Int) * 2 ^ (s).toNat).natAbs)), (.bool (decide (((1 : Int) * 2 ^ (s).toNat) < 0))), (N (((1 : Int) * 2 ^ (s).toNat).natAbs))]) <| .lits 2 <| .ret)
    (cast_ob (aI True.intro (aI (int_Of 1 oO) (have f2 := (L_i64 oO : L (1 : Int).natAbs ≤ 2); aI (int_Shl (1 : Int) s oO oO) (have f1 := L_abs_shl (1 : Int) (s).toNat; aI (fx_Exact ((1 : Int) * 2 ^ (s).toNat) oO) ((vsub_refl (.agg [(.bool (decide (((1 : Int) * 2 ^ (s).toNat) < 0))), (N (((1 : Int) * 2 ^ (s).toNat).natAbs)), (.bool (decide (((1 : Int) * 2 ^ (s).toNat) < 0))), (N (((1 : Int) * 2 ^ (s).toNat).natAbs))]))))))) (by kernel_rfl))
theorem fx_Of (m : Int) (e : Int) (s : Int) (c0 : L (m).natAbs ≤ 8192) (c1 : (-200000 : Int) ≤ e ∧ e ≤ 200000) (c2 : (0 : Int) ≤ s ∧ s ≤ 20000) : Impl Tryz.prog Amb 105 [(yV m e), (.int .i64 s)] (.agg [(.bool (decide ((flr (dv m e) s) < 0))), (N ((flr (dv m e) s).natAbs)), (.bool (decide ((cei (dv m e) s) < 0))), (N ((cei (dv m e) s).natAbs))]) := by
  exact impl_ob hP hAmb Tryz.func105 (by kernel_rfl) (.lits 2 <| .yes <| .lit <| .both (.lits 2 <| .call (zV (m * 2 ^ ((e + s)).toNat)) <| .lit <| .call (.agg [(.bool (decide ((m * 2 ^ ((e + s)).toNat) < 0))), (N ((m * 2 ^ ((e + s)).toNat).natAbs)), (.bool (decide ((m * 2 ^ ((e + s)).toNat) < 0))), (N ((m * 2 ^ ((e + s)).toNat).natAbs))]) <| .lits 2 <| .ret) (.lits 2 <| .call (.agg [(.bool (decide (m < 0))), (N m.natAbs), (.bool (decide (m < 0))), (N m.natAbs)]) <| .lit <| .yes <| .lit <| .call (.agg [(.bool (decide ((m / 2 ^ (((0 : Int) - (e + s))).toNat) < 0))), (N ((m / 2 ^ (((0 : Int) - (e + s))).toNat).natAbs)), (.bool (decide ((-(-m / 2 ^ (((0 : Int) - (e + s))).toNat)) < 0))), (N ((-(-m / 2 ^ (((0 : Int) - (e + s))).toNat)).natAbs))]) <| .lits 2 <| .ret))
    (cast_ob (aI True.intro (aI (fits_i64 oO : (fits .i64 (e + s)) = true) (aI (fun (h1 : (iGe (e + s) 0) = true) => have _gh1 := iGe_t h1; aI (int_Shl m (e + s) oO oO) (have f2 := L_abs_shl m ((e + s)).toNat; aI (fx_Exact (m * 2 ^ ((e + s)).toNat) oO) ((by rw [← (of_ge (m := m) (e := e) (s := s) oO).1, ← (of_ge (m := m) (e := e) (s := s) oO).2]; exact vsub_refl _ : vsub (.agg [(.bool (decide ((m * 2 ^ ((e + s)).toNat) < 0))), (N ((m * 2 ^ ((e + s)).toNat).natAbs)), (.bool (decide ((m * 2 ^ ((e + s)).toNat) < 0))), (N ((m * 2 ^ ((e + s)).toNat).natAbs))]) (.agg [(.bool (decide ((flr (dv m e) s) < 0))), (N ((flr (dv m e) s).natAbs)), (.bool (decide ((cei (dv m e) s) < 0))), (N ((cei (dv m e) s).natAbs))]))))) (fun (h3 : (iGe (e + s) 0) = false) => have _gh3 := iGe_f h3; aI (fx_Exact m oO) (aI (fits_i64 oO : (fits .i64 ((0 : Int) - (e + s))) = true) (aI (fx_Half m m ((0 : Int) - (e + s)) oO oO oO) (have f7 := L_abs_neg (-m / 2 ^ (((0 : Int) - (e + s))).toNat); have f6 := L_abs_shr (-m) (((0 : Int) - (e + s))).toNat; have f5 := L_abs_neg m; have f4 := L_abs_shr m (((0 : Int) - (e + s))).toNat; (by rw [← (of_lt (m := m) (e := e) (s := s) oO).1, ← (of_lt (m := m) (e := e) (s := s) oO).2]; exact vsub_refl _ : vsub (.agg [(.bool (decide ((m / 2 ^ (((0 : Int) - (e + s))).toNat) < 0))), (N ((m / 2 ^ (((0 : Int) - (e + s))).toNat).natAbs)), (.bool (decide ((-(-m / 2 ^ (((0 : Int) - (e + s))).toNat)) < 0))), (N ((-(-m / 2 ^ (((0 : Int) - (e + s))).toNat)).natAbs))]) (.agg [(.bool (decide ((flr (dv m e) s) < 0))), (N ((flr (dv m e) s).natAbs)), (.bool (decide ((cei (dv m e) s) < 0))), (N ((cei (dv m e) s).natAbs))]))))))))) (by kernel_rfl))
theorem fx_Twice (a : Int) (b : Int) (n : Int) (c0 : L (a).natAbs ≤ 65536) (c1 : L (b).natAbs ≤ 65536) (c2 : (0 : Int) ≤ n ∧ n ≤ 20000) : Impl Tryz.prog Amb 213 [(.agg [(.bool (decide (a < 0))), (N a.natAbs), (.bool (decide (b < 0))), (N b.natAbs)]), (.int .i64 n)] (.agg [(.bool (decide ((a * 2 ^ (n).toNat) < 0))), (N ((a * 2 ^ (n).toNat).natAbs)), (.bool (decide ((b * 2 ^ (n).toNat) < 0))), (N ((b * 2 ^ (n).toNat).natAbs))]) := by
  exact impl_ob hP hAmb Tryz.func213 (by kernel_rfl) (.lits 2 <| .call (zV (a * 2 ^ (n).toNat)) <| .lits 2 <| .call (zV (b * 2 ^ (n).toNat)) <| .lits 3 <| .ret)
    (cast_ob (aI True.intro (aI (int_Shl a n oO oO) (have f2 := L_abs_shl a (n).toNat; aI (int_Shl b n oO oO) (have f1 := L_abs_shl b (n).toNat; (vsub_refl (.agg [(.bool (decide ((a * 2 ^ (n).toNat) < 0))), (N ((a * 2 ^ (n).toNat).natAbs)), (.bool (decide ((b * 2 ^ (n).toNat) < 0))), (N ((b * 2 ^ (n).toNat).natAbs))])))))) (by kernel_rfl))
theorem fx_Mul (a : Int) (b : Int) (c : Int) (d : Int) (s : Int) (c0 : L (a).natAbs ≤ 8192) (c1 : L (b).natAbs ≤ 8192) (c2 : L (c).natAbs ≤ 8192) (c3 : L (d).natAbs ≤ 8192) (c4 : (0 : Int) ≤ s ∧ s ≤ 20000) : Impl Tryz.prog Amb 239 [(.agg [(.bool (decide (a < 0))), (N a.natAbs), (.bool (decide (b < 0))), (N b.natAbs)]), (.agg [(.bool (decide (c < 0))), (N c.natAbs), (.bool (decide (d < 0))), (N d.natAbs)]), (.int .i64 s)] (.agg [(.bool (decide ((a * c / 2 ^ (s).toNat) < 0))), (N ((a * c / 2 ^ (s).toNat).natAbs)), (.bool (decide ((-(-(b * d) / 2 ^ (s).toNat)) < 0))), (N ((-(-(b * d) / 2 ^ (s).toNat)).natAbs))]) := by
  exact impl_ob hP hAmb Tryz.func239 (by kernel_rfl) (.lits 3 <| .call (zV (a * c)) <| .lit <| .call (zV ((a * c) / 2 ^ (s).toNat)) <| .lits 3 <| .call (zV (b * d)) <| .lit <| .call (zV (-(-(b * d) / 2 ^ (s).toNat))) <| .lits 3 <| .ret)
    (cast_ob (aI True.intro (aI (int_Mul a c oO oO) (have f6 := L_abs_mul a c; aI (int_Shr (a * c) s oO oO) (have f5 := L_abs_shr (a * c) (s).toNat; aI (int_Mul b d oO oO) (have f4 := L_abs_mul b d; aI (fx_up (b * d) s oO oO) (have f3 := L_abs_neg (-(b * d) / 2 ^ (s).toNat); have f2 := L_abs_shr (-(b * d)) (s).toNat; have f1 := L_abs_neg (b * d); (vsub_of (by first | rfl | simp_all) : vsub (.agg [(.bool (decide (((a * c) / 2 ^ (s).toNat) < 0))), (N (((a * c) / 2 ^ (s).toNat).natAbs)), (.bool (decide ((-(-(b * d) / 2 ^ (s).toNat)) < 0))), (N ((-(-(b * d) / 2 ^ (s).toNat)).natAbs))]) (.agg [(.bool (decide ((a * c / 2 ^ (s).toNat) < 0))), (N ((a * c / 2 ^ (s).toNat).natAbs)), (.bool (decide ((-(-(b * d) / 2 ^ (s).toNat)) < 0))), (N ((-(-(b * d) / 2 ^ (s).toNat)).natAbs))])))))))) (by kernel_rfl))
theorem fx_TimesN (a : Int) (b : Int) (n : Int) (c0 : L (a).natAbs ≤ 65536) (c1 : L (b).natAbs ≤ 65536) (c2 : (-9223372036854775808 : Int) ≤ n ∧ n < 0) : Impl Tryz.prog Amb 110 [(.agg [(.bool (decide (a < 0))), (N a.natAbs), (.bool (decide (b < 0))), (N b.natAbs)]), (.int .i64 n)] (.agg [(.bool (decide ((b * n) < 0))), (N ((b * n).natAbs)), (.bool (decide ((a * n) < 0))), (N ((a * n).natAbs))]) := by
  exact impl_ob hP hAmb Tryz.func110 (by kernel_rfl) (.lit <| .call (zV n) <| .lits 2 <| .yes <| .lits 3 <| .call (zV (b * n)) <| .lits 3 <| .call (zV (a * n)) <| .lits 3 <| .ret)
    (cast_ob (aI True.intro (aI (int_Of n oO) (have f3 := (L_i64 oO : L (n : Int).natAbs ≤ 2); aI (iLt_mk oO : (iLt n 0) = true) (aI (int_Mul b n oO oO) (have f2 := L_abs_mul b n; aI (int_Mul a n oO oO) (have f1 := L_abs_mul a n; (vsub_refl (.agg [(.bool (decide ((b * n) < 0))), (N ((b * n).natAbs)), (.bool (decide ((a * n) < 0))), (N ((a * n).natAbs))])))))))) (by kernel_rfl))
theorem fx_TimesA (a b n : Int) (c0 : L (a).natAbs ≤ 65536) (c1 : L (b).natAbs ≤ 65536) (c2 : (-9223372036854775808 : Int) ≤ n ∧ n ≤ 9223372036854775807) : Impl Tryz.prog Amb 110 [(.agg [(.bool (decide (a < 0))), (N a.natAbs), (.bool (decide (b < 0))), (N b.natAbs)]), .int .i64 n] (.agg [(.bool (decide ((tmLo a b n) < 0))), (N ((tmLo a b n).natAbs)), (.bool (decide ((tmHi a b n) < 0))), (N ((tmHi a b n).natAbs))]) := by
  by_cases h : n < 0
  · unfold tmLo tmHi
    rw [if_pos h, if_pos h]
    exact fx_TimesN a b n c0 c1 ⟨by omega, h⟩
  · unfold tmLo tmHi
    rw [if_neg h, if_neg h]
    exact fx_Times a b n c0 c1 ⟨by omega, by omega⟩
theorem fx_Part (a : Int) (b : Int) (d : Int) (c0 : L (a).natAbs ≤ 65536) (c1 : L (b).natAbs ≤ 65536) (c2 : (0 : Int) < d ∧ d < 4294967296) : Impl Tryz.prog Amb 241 [(.agg [(.bool (decide (a < 0))), (N a.natAbs), (.bool (decide (b < 0))), (N b.natAbs)]), (.int .u32 d)] (.agg [(.bool (decide ((ptLo a d) < 0))), (N ((ptLo a d).natAbs)), (.bool (decide ((ptHi b d) < 0))), (N ((ptHi b d).natAbs))]) := by
  have z1 := L_lit 1 (by decide)
  exact impl_ob hP hAmb Tryz.func241 (by kernel_rfl) (.lits 2 <| .call (.tup [(N (a.natAbs / (d).toNat)), (.int .u32 ((a.natAbs % (d).toNat : Nat) : Int)), (.bool true)]) <| .lits 2 <| .call (.tup [(N (b.natAbs / (d).toNat)), (.int .u32 ((b.natAbs % (d).toNat : Nat) : Int)), (.bool true)]) <| .lit <| .both (.lit <| .call (N 1) <| .lit <| .call (N ((b.natAbs / (d).toNat) + 1)) <| .lit <| .call (zV (sgn false (a.natAbs / (d).toNat))) <| .lit <| .call (zV (sgn false ((b.natAbs / (d).toNat) + 1))) <| .lits 3 <| .ret) (.lit <| .call (zV (sgn false (a.natAbs / (d).toNat))) <| .lit <| .call (zV (sgn false (b.natAbs / (d).toNat))) <| .lits 3 <| .ret))
    (cast_ob (aI True.intro (aI (quot_SmallI a.natAbs d oO oO) (have f9 := L_div a.natAbs (d).toNat; aI (quot_SmallI b.natAbs d oO oO) (have f8 := L_div b.natAbs (d).toNat; aI (fun (h1 : (iNe ((b.natAbs % (d).toNat : Nat) : Int) 0) = true) => have _gh1 := iNe_t h1; aI (nat_Of 1 oO) (aI (nat_Add (b.natAbs / (d).toNat) 1 oO oO) (have f4 := L_add (b.natAbs / (d).toNat) 1; aI (int_Nat false (a.natAbs / (d).toNat) oO) (have f3 := L_sgn false (a.natAbs / (d).toNat); aI (int_Nat false ((b.natAbs / (d).toNat) + 1) oO) (have f2 := L_sgn false ((b.natAbs / (d).toNat) + 1); (Sp_of rfl (pt_hi1 oO) : vsub (.agg [(.bool (decide ((sgn false (a.natAbs / (d).toNat)) < 0))), (N ((sgn false (a.natAbs / (d).toNat)).natAbs)), (.bool (decide ((sgn false ((b.natAbs / (d).toNat) + 1)) < 0))), (N ((sgn false ((b.natAbs / (d).toNat) + 1)).natAbs))]) (.agg [(.bool (decide ((ptLo a d) < 0))), (N ((ptLo a d).natAbs)), (.bool (decide ((ptHi b d) < 0))), (N ((ptHi b d).natAbs))]))))))) (fun (h5 : (iNe ((b.natAbs % (d).toNat : Nat) : Int) 0) = false) => have _gh5 := iNe_f h5; aI (int_Nat false (a.natAbs / (d).toNat) oO) (have f7 := L_sgn false (a.natAbs / (d).toNat); aI (int_Nat false (b.natAbs / (d).toNat) oO) (have f6 := L_sgn false (b.natAbs / (d).toNat); (Sp_of rfl (pt_hi2 oO) : vsub (.agg [(.bool (decide ((sgn false (a.natAbs / (d).toNat)) < 0))), (N ((sgn false (a.natAbs / (d).toNat)).natAbs)), (.bool (decide ((sgn false (b.natAbs / (d).toNat)) < 0))), (N ((sgn false (b.natAbs / (d).toNat)).natAbs))]) (.agg [(.bool (decide ((ptLo a d) < 0))), (N ((ptLo a d).natAbs)), (.bool (decide ((ptHi b d) < 0))), (N ((ptHi b d).natAbs))]))))))))) (by kernel_rfl))
theorem fx_Div (a : Int) (b : Int) (c : Int) (d : Int) (s : Int) (c0 : L (a).natAbs ≤ 8192) (c1 : L (b).natAbs ≤ 8192) (c2 : L (c).natAbs ≤ 8192) (c3 : L (d).natAbs ≤ 8192) (c4 : (0 : Int) ≤ s ∧ s ≤ 20000) (c5 : c ≠ 0) (c6 : d ≠ 0) : Impl Tryz.prog Amb 212 [(.agg [(.bool (decide (a < 0))), (N a.natAbs), (.bool (decide (b < 0))), (N b.natAbs)]), (.agg [(.bool (decide (c < 0))), (N c.natAbs), (.bool (decide (d < 0))), (N d.natAbs)]), (.int .i64 s)] (.agg [(.bool (decide ((Int.fdiv (a * 2 ^ (s).toNat) d) < 0))), (N ((Int.fdiv (a * 2 ^ (s).toNat) d).natAbs)), (.bool (decide ((-(Int.fdiv (-(b * 2 ^ (s).toNat)) c)) < 0))), (N ((-(Int.fdiv (-(b * 2 ^ (s).toNat)) c)).natAbs))]) := by
  exact impl_ob hP hAmb Tryz.func212 (by kernel_rfl) (.lits 2 <| .call (zV (a * 2 ^ (s).toNat)) <| .lits 2 <| .call (.tup [(zV (Int.fdiv (a * 2 ^ (s).toNat) d)), (zV ((a * 2 ^ (s).toNat) - (Int.fdiv (a * 2 ^ (s).toNat) d) * d)), (.bool true)]) <| .lits 2 <| .call (zV (b * 2 ^ (s).toNat)) <| .lit <| .call (zV (-(b * 2 ^ (s).toNat))) <| .lits 2 <| .call (.tup [(zV (Int.fdiv (-(b * 2 ^ (s).toNat)) c)), (zV ((-(b * 2 ^ (s).toNat)) - (Int.fdiv (-(b * 2 ^ (s).toNat)) c) * c)), (.bool true)]) <| .lits 3 <| .call (zV (-(Int.fdiv (-(b * 2 ^ (s).toNat)) c))) <| .lits 3 <| .ret)
    (cast_ob (aI True.intro (aI (int_Shl a s oO oO) (have f8 := L_abs_shl a (s).toNat; aI (int_DivMod (a * 2 ^ (s).toNat) d oO oO oO) (have f7 := L_rm (a * 2 ^ (s).toNat) d; have f6 := L_fdiv (a * 2 ^ (s).toNat) d; aI (int_Shl b s oO oO) (have f5 := L_abs_shl b (s).toNat; aI (int_Neg (b * 2 ^ (s).toNat) oO) (have f4 := L_abs_neg (b * 2 ^ (s).toNat); aI (int_DivMod (-(b * 2 ^ (s).toNat)) c oO oO oO) (have f3 := L_rm (-(b * 2 ^ (s).toNat)) c; have f2 := L_fdiv (-(b * 2 ^ (s).toNat)) c; aI (int_Neg (Int.fdiv (-(b * 2 ^ (s).toNat)) c) oO) (have f1 := L_abs_neg (Int.fdiv (-(b * 2 ^ (s).toNat)) c); (vsub_refl (.agg [(.bool (decide ((Int.fdiv (a * 2 ^ (s).toNat) d) < 0))), (N ((Int.fdiv (a * 2 ^ (s).toNat) d).natAbs)), (.bool (decide ((-(Int.fdiv (-(b * 2 ^ (s).toNat)) c)) < 0))), (N ((-(Int.fdiv (-(b * 2 ^ (s).toNat)) c)).natAbs))])))))))))) (by kernel_rfl))
theorem fx_tiny (b : Int) (c0 : L (b).natAbs ≤ 65536) : Impl Tryz.prog Amb 256 [(zV b)] (.bool (decide ((b).natAbs < 8))) := by
  exact impl_ob hP hAmb Tryz.func256 (by kernel_rfl) (.lits 2 <| .call (.int .i64 (nbits b.natAbs : Int)) <| .lits 2 <| .ret)
    (cast_ob (aI True.intro (aI (nat_Bits b.natAbs oO) (have f1 := nbits_L b.natAbs; (vsub_of (congrArg V.bool tiny_8) : vsub (.bool (iLe (nbits b.natAbs : Int) 3)) (.bool (decide ((b).natAbs < 8))))))) (by kernel_rfl))
theorem fx_Tiny (a : Int) (b : Int) (c0 : L (b).natAbs ≤ 65536) : Impl Tryz.prog Amb 240 [(.agg [(.bool (decide (a < 0))), (N a.natAbs), (.bool (decide (b < 0))), (N b.natAbs)])] (.bool (decide ((b).natAbs < 8))) := by
  exact impl_ob hP hAmb Tryz.func240 (by kernel_rfl) (.lits 2 <| .call (.bool (decide ((b).natAbs < 8))) <| .lit <| .ret)
    (cast_ob (aI True.intro (aI (fx_tiny b oO) ((vsub_refl (.bool (decide ((b).natAbs < 8))))))) (by kernel_rfl))
end Go.Proofs.YtekcladflnieeaaGreatDoor

namespace Go.Proofs.YtekcladflnieeaaGreatDoor
open Go.RowKit
set_option maxRecDepth 100000
def ap1 (x1 x2 s : Int) (j : Nat) : Int := (aP (2 ^ s.toNat) x1 x2 j).1
def ap2 (x1 x2 s : Int) (j : Nat) : Int := (aP (2 ^ s.toNat) x1 x2 j).2
def aa1 (x1 x2 s : Int) (j : Nat) : Int := (aA (2 ^ s.toNat) x1 x2 j).1
def aa2 (x1 x2 s : Int) (j : Nat) : Int := (aA (2 ^ s.toNat) x1 x2 j).2
def at1 (x1 x2 s : Int) (j : Nat) : Int := ptLo (ap1 x1 x2 s (j + 1)) (odn (j + 1))
def at2 (x1 x2 s : Int) (j : Nat) : Int := ptHi (ap2 x1 x2 s (j + 1)) (odn (j + 1))
def fx_area_0_mk (_ : Nat) (x1 x2 sc : Int) (x : Nat × Int) : St := ⟨mkS 36 [(1, (.val (.int .i64 sc))), (4, (.own 1 0)), (5, (.own 2 0)), (6, (.own 3 0)), (7, (.own 4 0)), (8, (.val (.int .u32 x.2)))], [⟨true, false, [(V.bool (decide (x1 < 0))), (N x1.natAbs), (V.bool (decide (x2 < 0))), (N x2.natAbs)]⟩, ⟨true, false, [(V.bool false), V.nil, (V.bool false), V.nil]⟩, ⟨true, false, [(V.bool (decide ((x1 * x1 / 2 ^ (sc).toNat) < 0))), (N ((x1 * x1 / 2 ^ (sc).toNat).natAbs)), (V.bool (decide ((-(-(x2 * x2) / 2 ^ (sc).toNat)) < 0))), (N ((-(-(x2 * x2) / 2 ^ (sc).toNat)).natAbs))]⟩, ⟨true, false, [(V.bool (decide ((ap1 x1 x2 sc x.1) < 0))), (N ((ap1 x1 x2 sc x.1).natAbs)), (V.bool (decide ((ap2 x1 x2 sc x.1) < 0))), (N ((ap2 x1 x2 sc x.1).natAbs))]⟩, ⟨true, false, [(V.bool (decide ((aa1 x1 x2 sc x.1) < 0))), (N ((aa1 x1 x2 sc x.1).natAbs)), (V.bool (decide ((aa2 x1 x2 sc x.1) < 0))), (N ((aa2 x1 x2 sc x.1).natAbs))]⟩]⟩
def fx_area_0_I (nn : Nat) (_ _ _ : Int) (x : Nat × Int) : Prop := x.1 ≤ nn ∧ x.2 = 2 * (x.1 : Int) + 3
def fx_area_0_mu (nn : Nat) (_ _ _ : Int) (x : Nat × Int) : Nat := nn - x.1
def fx_area_0_ex (_ : Nat) (x1 x2 sc : Int) (y : Nat) : Ex × St := (.exit 0, ⟨mkS 36 [(4, (.own 1 0)), (6, (.own 3 0)), (7, (.own 4 0))], [⟨true, false, [(V.bool (decide (x1 < 0))), (N x1.natAbs), (V.bool (decide (x2 < 0))), (N x2.natAbs)]⟩, ⟨true, false, [(V.bool false), V.nil, (V.bool false), V.nil]⟩, ⟨true, false, [(V.bool (decide ((x1 * x1 / 2 ^ (sc).toNat) < 0))), (N ((x1 * x1 / 2 ^ (sc).toNat).natAbs)), (V.bool (decide ((-(-(x2 * x2) / 2 ^ (sc).toNat)) < 0))), (N ((-(-(x2 * x2) / 2 ^ (sc).toNat)).natAbs))]⟩, ⟨true, false, [(V.bool (decide ((ap1 x1 x2 sc y) < 0))), (N ((ap1 x1 x2 sc y).natAbs)), (V.bool (decide ((ap2 x1 x2 sc y) < 0))), (N ((ap2 x1 x2 sc y).natAbs))]⟩, ⟨true, false, [(V.bool (decide ((aa1 x1 x2 sc y) < 0))), (N ((aa1 x1 x2 sc y).natAbs)), (V.bool (decide ((aa2 x1 x2 sc y) < 0))), (N ((aa2 x1 x2 sc y).natAbs))]⟩]⟩)
def fx_area_0_J (nn : Nat) (_ _ _ : Int) (y : Nat) : Prop := y = nn
abbrev fx_area_0_N (nn : Nat) (x1 x2 sc : Int) := NX (fx_area_0_mk nn x1 x2 sc) (fx_area_0_I nn x1 x2 sc) (fx_area_0_mu nn x1 x2 sc) (fx_area_0_ex nn x1 x2 sc) (fx_area_0_J nn x1 x2 sc)
theorem fx_area_0 (nn : Nat) (x1 x2 sc : Int) (c0 : nn ≤ 10000)(c1 : ∀ j, j ≤ nn → Impl Tryz.prog Amb 240 [(.agg [(.bool (decide ((ap1 x1 x2 sc j) < 0))), (N ((ap1 x1 x2 sc j).natAbs)), (.bool (decide ((ap2 x1 x2 sc j) < 0))), (N ((ap2 x1 x2 sc j).natAbs))])] (.bool (decide (nn ≤ j))))(c2 : ∀ j, j < nn → Impl Tryz.prog Amb 239 [(.agg [(.bool (decide ((ap1 x1 x2 sc j) < 0))), (N ((ap1 x1 x2 sc j).natAbs)), (.bool (decide ((ap2 x1 x2 sc j) < 0))), (N ((ap2 x1 x2 sc j).natAbs))]), (.agg [(.bool (decide ((x1 * x1 / 2 ^ (sc).toNat) < 0))), (N ((x1 * x1 / 2 ^ (sc).toNat).natAbs)), (.bool (decide ((-(-(x2 * x2) / 2 ^ (sc).toNat)) < 0))), (N ((-(-(x2 * x2) / 2 ^ (sc).toNat)).natAbs))]), (.int .i64 sc)] (.agg [(.bool (decide ((ap1 x1 x2 sc (j + 1)) < 0))), (N ((ap1 x1 x2 sc (j + 1)).natAbs)), (.bool (decide ((ap2 x1 x2 sc (j + 1)) < 0))), (N ((ap2 x1 x2 sc (j + 1)).natAbs))]))(c3 : ∀ (j : Nat) (k : Int), j < nn → k = odn (j + 1) → Impl Tryz.prog Amb 241 [(.agg [(.bool (decide ((ap1 x1 x2 sc (j + 1)) < 0))), (N ((ap1 x1 x2 sc (j + 1)).natAbs)), (.bool (decide ((ap2 x1 x2 sc (j + 1)) < 0))), (N ((ap2 x1 x2 sc (j + 1)).natAbs))]), (.int .u32 k)] (.agg [(.bool (decide ((at1 x1 x2 sc j) < 0))), (N ((at1 x1 x2 sc j).natAbs)), (.bool (decide ((at2 x1 x2 sc j) < 0))), (N ((at2 x1 x2 sc j).natAbs))]))(c4 : ∀ j, j < nn → Impl Tryz.prog Amb 173 [(.agg [(.bool (decide ((aa1 x1 x2 sc j) < 0))), (N ((aa1 x1 x2 sc j).natAbs)), (.bool (decide ((aa2 x1 x2 sc j) < 0))), (N ((aa2 x1 x2 sc j).natAbs))]), (.agg [(.bool (decide ((at1 x1 x2 sc j) < 0))), (N ((at1 x1 x2 sc j).natAbs)), (.bool (decide ((at2 x1 x2 sc j) < 0))), (N ((at2 x1 x2 sc j).natAbs))])] (.agg [(.bool (decide ((aa1 x1 x2 sc (j + 1)) < 0))), (N ((aa1 x1 x2 sc (j + 1)).natAbs)), (.bool (decide ((aa2 x1 x2 sc (j + 1)) < 0))), (N ((aa2 x1 x2 sc (j + 1)).natAbs))]))(c5 : ∀ j, j ≤ nn → L (aa2 x1 x2 sc j).natAbs ≤ 8000 ∧ L (ap2 x1 x2 sc j).natAbs ≤ 8000) (x0 : Nat × Int) (hI : fx_area_0_I nn x1 x2 sc x0) : LoopOk Tryz.prog Amb (loopN Tryz.f211 0) (fx_area_0_mk nn x1 x2 sc x0) (fun e st_ => ∃ y, fx_area_0_J nn x1 x2 sc y ∧ fx_area_0_ex nn x1 x2 sc y = (e, st_)) :=
  loop_ob hP hAmb ⟨[1, 4, 5, 6, 7, 8], 5, []⟩ (fx_area_0_mk nn x1 x2 sc) (fx_area_0_I nn x1 x2 sc) (fx_area_0_mu nn x1 x2 sc) (fx_area_0_ex nn x1 x2 sc) (fx_area_0_J nn x1 x2 sc) x0 hI (fun (j, k) => .lits 2 <| .call (.bool (decide (nn ≤ j))) <| .lit <| .both (.lits 3 <| .call (.agg [(.bool (decide ((ap1 x1 x2 sc (j + 1)) < 0))), (N ((ap1 x1 x2 sc (j + 1)).natAbs)), (.bool (decide ((ap2 x1 x2 sc (j + 1)) < 0))), (N ((ap2 x1 x2 sc (j + 1)).natAbs))]) <| .lits 4 <| .call (.agg [(.bool (decide ((at1 x1 x2 sc j) < 0))), (N ((at1 x1 x2 sc j).natAbs)), (.bool (decide ((at2 x1 x2 sc j) < 0))), (N ((at2 x1 x2 sc j).natAbs))]) <| .lit <| .call (.agg [(.bool (decide ((aa1 x1 x2 sc (j + 1)) < 0))), (N ((aa1 x1 x2 sc (j + 1)).natAbs)), (.bool (decide ((aa2 x1 x2 sc (j + 1)) < 0))), (N ((aa2 x1 x2 sc (j + 1)).natAbs))]) <| .lits 2 <| .yes <| .fin2 ⟨[1, 4, 5, 6, 7, 8], 5, []⟩) (.fin2 ⟨[4, 6, 7], 5, []⟩)) (by
    rintro ⟨j, k⟩ hI
    have hI : j ≤ nn ∧ k = 2 * (j : Int) + 3 := hI
    obtain ⟨h1, h2⟩ := hI
    exact cast_ob (aI True.intro (aI (c1 j h1 ) (aI (fun (h101 : (!(decide (nn ≤ j))) = true) => have _gh101 := of_decide_eq_false (notb_t h101); aI (c2 j oO ) (aI (c3 j k oO (by unfold odn; omega) ) (aI (c4 j oO ) (aI (fits_u32 oO : (fits .u32 (k + 2)) = true) (aI tT ((nx_next ((j + 1), (k + 2)) (show (j + 1) ≤ nn ∧ (k + 2) = 2 * ((j + 1) : Int) + 3 from ⟨by omega, by omega⟩) (show nn - (j + 1) < nn - j by omega) : fx_area_0_N nn x1 x2 sc (j, k) .normal (fx_area_0_mk nn x1 x2 sc ((j + 1), (k + 2)))))))))) (fun (h102 : (!(decide (nn ≤ j))) = false) => have _gh102 := of_decide_eq_true (notb_f h102); aI tT ((nx_exit 0 ((fx_area_0_ex nn x1 x2 sc j).2) j (show j = nn from show j = nn by omega) rfl : fx_area_0_N nn x1 x2 sc (j, k) (.exit 0) ((fx_area_0_ex nn x1 x2 sc j).2))))))) (by kernel_rfl))
theorem fx_area0 (nn : Nat) (x1 : Int) (x2 : Int) (sc : Int) (c0 : nn ≤ 10000) (c1 : ∀ j, j ≤ nn → Impl Tryz.prog Amb 240 [(.agg [(.bool (decide ((ap1 x1 x2 sc j) < 0))), (N ((ap1 x1 x2 sc j).natAbs)), (.bool (decide ((ap2 x1 x2 sc j) < 0))), (N ((ap2 x1 x2 sc j).natAbs))])] (.bool (decide (nn ≤ j)))) (c2 : ∀ j, j < nn → Impl Tryz.prog Amb 239 [(.agg [(.bool (decide ((ap1 x1 x2 sc j) < 0))), (N ((ap1 x1 x2 sc j).natAbs)), (.bool (decide ((ap2 x1 x2 sc j) < 0))), (N ((ap2 x1 x2 sc j).natAbs))]), (.agg [(.bool (decide ((x1 * x1 / 2 ^ (sc).toNat) < 0))), (N ((x1 * x1 / 2 ^ (sc).toNat).natAbs)), (.bool (decide ((-(-(x2 * x2) / 2 ^ (sc).toNat)) < 0))), (N ((-(-(x2 * x2) / 2 ^ (sc).toNat)).natAbs))]), (.int .i64 sc)] (.agg [(.bool (decide ((ap1 x1 x2 sc (j + 1)) < 0))), (N ((ap1 x1 x2 sc (j + 1)).natAbs)), (.bool (decide ((ap2 x1 x2 sc (j + 1)) < 0))), (N ((ap2 x1 x2 sc (j + 1)).natAbs))])) (c3 : ∀ (j : Nat) (k : Int), j < nn → k = odn (j + 1) → Impl Tryz.prog Amb 241 [(.agg [(.bool (decide ((ap1 x1 x2 sc (j + 1)) < 0))), (N ((ap1 x1 x2 sc (j + 1)).natAbs)), (.bool (decide ((ap2 x1 x2 sc (j + 1)) < 0))), (N ((ap2 x1 x2 sc (j + 1)).natAbs))]), (.int .u32 k)] (.agg [(.bool (decide ((at1 x1 x2 sc j) < 0))), (N ((at1 x1 x2 sc j).natAbs)), (.bool (decide ((at2 x1 x2 sc j) < 0))), (N ((at2 x1 x2 sc j).natAbs))])) (c4 : ∀ j, j < nn → Impl Tryz.prog Amb 173 [(.agg [(.bool (decide ((aa1 x1 x2 sc j) < 0))), (N ((aa1 x1 x2 sc j).natAbs)), (.bool (decide ((aa2 x1 x2 sc j) < 0))), (N ((aa2 x1 x2 sc j).natAbs))]), (.agg [(.bool (decide ((at1 x1 x2 sc j) < 0))), (N ((at1 x1 x2 sc j).natAbs)), (.bool (decide ((at2 x1 x2 sc j) < 0))), (N ((at2 x1 x2 sc j).natAbs))])] (.agg [(.bool (decide ((aa1 x1 x2 sc (j + 1)) < 0))), (N ((aa1 x1 x2 sc (j + 1)).natAbs)), (.bool (decide ((aa2 x1 x2 sc (j + 1)) < 0))), (N ((aa2 x1 x2 sc (j + 1)).natAbs))])) (c5 : ∀ j, j ≤ nn → L (aa2 x1 x2 sc j).natAbs ≤ 8000 ∧ L (ap2 x1 x2 sc j).natAbs ≤ 8000) (c6 : L (x1).natAbs ≤ 8000) (c7 : L (x2).natAbs ≤ 8000) (c8 : (0 : Int) ≤ sc ∧ sc ≤ 20000) : Impl Tryz.prog Amb 211 [(.agg [(.bool (decide (x1 < 0))), (N x1.natAbs), (.bool (decide (x2 < 0))), (N x2.natAbs)]), (.int .i64 sc)] (.agg [(.bool (decide ((aa1 x1 x2 sc nn) < 0))), (N ((aa1 x1 x2 sc nn).natAbs)), (.bool (decide (((aa2 x1 x2 sc nn) + (ap2 x1 x2 sc nn)) < 0))), (N (((aa2 x1 x2 sc nn) + (ap2 x1 x2 sc nn)).natAbs))]) := by
  exact impl_ob hP hAmb Tryz.func211 (by kernel_rfl) (.lits 3 <| .call (.agg [(.bool (decide ((x1 * x1 / 2 ^ (sc).toNat) < 0))), (N ((x1 * x1 / 2 ^ (sc).toNat).natAbs)), (.bool (decide ((-(-(x2 * x2) / 2 ^ (sc).toNat)) < 0))), (N ((-(-(x2 * x2) / 2 ^ (sc).toNat)).natAbs))]) <| .lits 3 <| .loop ⟨[1, 4, 5, 6, 7, 8], 5, []⟩ ((fx_area_0_mk nn x1 x2 sc (0, 3))) (Nat) (fx_area_0_ex nn x1 x2 sc) (fx_area_0_J nn x1 x2 sc) (fun y => .lits 3 <| .call (zV ((aa2 x1 x2 sc y) + (ap2 x1 x2 sc y))) <| .lits 4 <| .ret))
    (cast_ob (aI True.intro (aI (fx_Mul x1 x2 x1 x2 sc oS oS oS oS oS) (aI tT (aI (rfl : (fx_area_0_mk nn x1 x2 sc (0, 3)) = (fx_area_0_mk nn x1 x2 sc (0, 3))) (aI (fx_area_0 nn x1 x2 sc c0 c1 c2 c3 c4 c5 (0, 3) (show 0 ≤ nn ∧ 3 = 2 * (0 : Int) + 3 from ⟨by omega, by omega⟩)) (fun y (hJ : fx_area_0_J nn x1 x2 sc y) => have hJ : y = nn := hJ; have b1 := c5 y oO; aI (int_Add (aa2 x1 x2 sc y) (ap2 x1 x2 sc y) oS oS) (have f1 := L_abs_add (aa2 x1 x2 sc y) (ap2 x1 x2 sc y); (by rw [show y = nn from hJ]; exact vsub_refl _ : vsub (.agg [(.bool (decide ((aa1 x1 x2 sc y) < 0))), (N ((aa1 x1 x2 sc y).natAbs)), (.bool (decide (((aa2 x1 x2 sc y) + (ap2 x1 x2 sc y)) < 0))), (N (((aa2 x1 x2 sc y) + (ap2 x1 x2 sc y)).natAbs))]) (.agg [(.bool (decide ((aa1 x1 x2 sc nn) < 0))), (N ((aa1 x1 x2 sc nn).natAbs)), (.bool (decide (((aa2 x1 x2 sc nn) + (ap2 x1 x2 sc nn)) < 0))), (N (((aa2 x1 x2 sc nn) + (ap2 x1 x2 sc nn)).natAbs))]))))))))) (by kernel_rfl))
theorem fx_LnN (m : Int) (e : Int) (k : Int) (s : Int) (xa : Int) (xb : Int) (z1 : Int) (z2 : Int) (y1 : Int) (y2 : Int) (v1 : Int) (v2 : Int) (r1 : Int) (r2 : Int) (c0 : 0 ≤ s ∧ s ≤ 5900) (c1 : Impl Tryz.prog Amb 105 [(yV m e), (.int .i64 (s + 32))] (.agg [(.bool (decide (xa < 0))), (N xa.natAbs), (.bool (decide (xb < 0))), (N xb.natAbs)])) (c2 : Impl Tryz.prog Amb 212 [(.agg [(.bool (decide ((-(xb + (-((1 : Int) * 2 ^ ((s + 32)).toNat)))) < 0))), (N ((-(xb + (-((1 : Int) * 2 ^ ((s + 32)).toNat)))).natAbs)), (.bool (decide ((-(xa + (-((1 : Int) * 2 ^ ((s + 32)).toNat)))) < 0))), (N ((-(xa + (-((1 : Int) * 2 ^ ((s + 32)).toNat)))).natAbs))]), (.agg [(.bool (decide ((xa + ((1 : Int) * 2 ^ ((s + 32)).toNat)) < 0))), (N ((xa + ((1 : Int) * 2 ^ ((s + 32)).toNat)).natAbs)), (.bool (decide ((xb + ((1 : Int) * 2 ^ ((s + 32)).toNat)) < 0))), (N ((xb + ((1 : Int) * 2 ^ ((s + 32)).toNat)).natAbs))]), (.int .i64 (s + 32))] (.agg [(.bool (decide (z1 < 0))), (N z1.natAbs), (.bool (decide (z2 < 0))), (N z2.natAbs)])) (c3 : Impl Tryz.prog Amb 211 [(.agg [(.bool (decide (z1 < 0))), (N z1.natAbs), (.bool (decide (z2 < 0))), (N z2.natAbs)]), (.int .i64 (s + 32))] (.agg [(.bool (decide (y1 < 0))), (N y1.natAbs), (.bool (decide (y2 < 0))), (N y2.natAbs)])) (c4 : Impl Tryz.prog Amb 106 [(.int .i64 (s + 32))] (.agg [(.bool (decide (v1 < 0))), (N v1.natAbs), (.bool (decide (v2 < 0))), (N v2.natAbs)])) (c5 : Impl Tryz.prog Amb 110 [(.agg [(.bool (decide (v1 < 0))), (N v1.natAbs), (.bool (decide (v2 < 0))), (N v2.natAbs)]), (.int .i64 k)] (.agg [(.bool (decide (r1 < 0))), (N r1.natAbs), (.bool (decide (r2 < 0))), (N r2.natAbs)])) (c6 : L (xa).natAbs ≤ 1000) (c7 : L (xb).natAbs ≤ 1000) (c8 : L (y1).natAbs ≤ 20000) (c9 : L (y2).natAbs ≤ 20000) (c10 : L (r1).natAbs ≤ 20000) (c11 : L (r2).natAbs ≤ 20000) (c12 : xb ≤ ((1 : Int) * 2 ^ ((s + 32)).toNat)) (c13 : 0 ≤ (-(xb + (-((1 : Int) * 2 ^ ((s + 32)).toNat))))) : Impl Tryz.prog Amb 147 [(yV m e), (.int .i64 k), (.int .i64 s)] (.agg [(.bool (decide ((((-(y2 * 2 ^ 1)) + r1) / 2 ^ 32) < 0))), (N ((((-(y2 * 2 ^ 1)) + r1) / 2 ^ 32).natAbs)), (.bool (decide ((-(-((-(y1 * 2 ^ 1)) + r2) / 2 ^ 32)) < 0))), (N ((-(-((-(y1 * 2 ^ 1)) + r2) / 2 ^ 32)).natAbs))]) := by
  have lo := L_pow1 ((s + 32)).toNat
  have cr := cmpI_range xb ((1 : Int) * 2 ^ ((s + 32)).toNat)
  have ci := cmpI_le xb ((1 : Int) * 2 ^ ((s + 32)).toNat)
  exact impl_ob hP hAmb Tryz.func147 (by kernel_rfl) (.lit <| .yes <| .lit <| .call (.agg [(.bool (decide (((1 : Int) * 2 ^ ((s + 32)).toNat) < 0))), (N (((1 : Int) * 2 ^ ((s + 32)).toNat).natAbs)), (.bool (decide (((1 : Int) * 2 ^ ((s + 32)).toNat) < 0))), (N (((1 : Int) * 2 ^ ((s + 32)).toNat).natAbs))]) <| .lits 2 <| .call (.agg [(.bool (decide (xa < 0))), (N xa.natAbs), (.bool (decide (xb < 0))), (N xb.natAbs)]) <| .lits 3 <| .call (.agg [(.bool (decide ((xa + (-((1 : Int) * 2 ^ ((s + 32)).toNat))) < 0))), (N ((xa + (-((1 : Int) * 2 ^ ((s + 32)).toNat))).natAbs)), (.bool (decide ((xb + (-((1 : Int) * 2 ^ ((s + 32)).toNat))) < 0))), (N ((xb + (-((1 : Int) * 2 ^ ((s + 32)).toNat))).natAbs))]) <| .lits 4 <| .call (.int .i64 (cmpI xb ((1 : Int) * 2 ^ ((s + 32)).toNat))) <| .lit <| .yes <| .lits 2 <| .call (.agg [(.bool (decide ((-(xb + (-((1 : Int) * 2 ^ ((s + 32)).toNat)))) < 0))), (N ((-(xb + (-((1 : Int) * 2 ^ ((s + 32)).toNat)))).natAbs)), (.bool (decide ((-(xa + (-((1 : Int) * 2 ^ ((s + 32)).toNat)))) < 0))), (N ((-(xa + (-((1 : Int) * 2 ^ ((s + 32)).toNat)))).natAbs))]) <| .lits 2 <| .no <| .lits 4 <| .call (.agg [(.bool (decide ((xa + ((1 : Int) * 2 ^ ((s + 32)).toNat)) < 0))), (N ((xa + ((1 : Int) * 2 ^ ((s + 32)).toNat)).natAbs)), (.bool (decide ((xb + ((1 : Int) * 2 ^ ((s + 32)).toNat)) < 0))), (N ((xb + ((1 : Int) * 2 ^ ((s + 32)).toNat)).natAbs))]) <| .lit <| .call (.agg [(.bool (decide (z1 < 0))), (N z1.natAbs), (.bool (decide (z2 < 0))), (N z2.natAbs)]) <| .lit <| .call (.agg [(.bool (decide (y1 < 0))), (N y1.natAbs), (.bool (decide (y2 < 0))), (N y2.natAbs)]) <| .lit <| .call (.agg [(.bool (decide ((y1 * 2 ^ 1) < 0))), (N ((y1 * 2 ^ 1).natAbs)), (.bool (decide ((y2 * 2 ^ 1) < 0))), (N ((y2 * 2 ^ 1).natAbs))]) <| .lits 3 <| .call (.agg [(.bool (decide ((-(y2 * 2 ^ 1)) < 0))), (N ((-(y2 * 2 ^ 1)).natAbs)), (.bool (decide ((-(y1 * 2 ^ 1)) < 0))), (N ((-(y1 * 2 ^ 1)).natAbs))]) <| .lits 3 <| .call (.agg [(.bool (decide (v1 < 0))), (N v1.natAbs), (.bool (decide (v2 < 0))), (N v2.natAbs)]) <| .lit <| .call (.agg [(.bool (decide (r1 < 0))), (N r1.natAbs), (.bool (decide (r2 < 0))), (N r2.natAbs)]) <| .lit <| .call (.agg [(.bool (decide (((-(y2 * 2 ^ 1)) + r1) < 0))), (N (((-(y2 * 2 ^ 1)) + r1).natAbs)), (.bool (decide (((-(y1 * 2 ^ 1)) + r2) < 0))), (N (((-(y1 * 2 ^ 1)) + r2).natAbs))]) <| .lit <| .yes <| .lit <| .call (.agg [(.bool (decide ((((-(y2 * 2 ^ 1)) + r1) / 2 ^ (((s + 32) - s)).toNat) < 0))), (N ((((-(y2 * 2 ^ 1)) + r1) / 2 ^ (((s + 32) - s)).toNat).natAbs)), (.bool (decide ((-(-((-(y1 * 2 ^ 1)) + r2) / 2 ^ (((s + 32) - s)).toNat)) < 0))), (N ((-(-((-(y1 * 2 ^ 1)) + r2) / 2 ^ (((s + 32) - s)).toNat)).natAbs))]) <| .lits 2 <| .ret)
    (cast_ob (aI True.intro (aI (fits_i64 oS : (fits .i64 (s + 32)) = true) (aI (fx_One (s + 32) oS) (have f20 := L_pow1 ((s + 32)).toNat; aI (c1 ) (aI (fx_Sub xa xb ((1 : Int) * 2 ^ ((s + 32)).toNat) ((1 : Int) * 2 ^ ((s + 32)).toNat) oS oS oS oS) (have f19 := L_abs_neg ((1 : Int) * 2 ^ ((s + 32)).toNat); have f18 := L_abs_neg ((1 : Int) * 2 ^ ((s + 32)).toNat); have f17 := L_abs_add xb (-((1 : Int) * 2 ^ ((s + 32)).toNat)); have f16 := L_abs_add xa (-((1 : Int) * 2 ^ ((s + 32)).toNat)); aI (int_Cmp xb ((1 : Int) * 2 ^ ((s + 32)).toNat) oS oS) (have f15 := cmpI_range xb ((1 : Int) * 2 ^ ((s + 32)).toNat); aI (iLe_mk oO : (iLe (cmpI xb ((1 : Int) * 2 ^ ((s + 32)).toNat)) 0) = true) (aI (fx_Neg (xa + (-((1 : Int) * 2 ^ ((s + 32)).toNat))) (xb + (-((1 : Int) * 2 ^ ((s + 32)).toNat))) oS oS) (have f14 := L_abs_neg (xb + (-((1 : Int) * 2 ^ ((s + 32)).toNat))); have f13 := L_abs_neg (xa + (-((1 : Int) * 2 ^ ((s + 32)).toNat))); aI (decide_eq_false oO : (decide ((-(xb + (-((1 : Int) * 2 ^ ((s + 32)).toNat)))) < 0)) = false) (aI (fx_Add xa xb ((1 : Int) * 2 ^ ((s + 32)).toNat) ((1 : Int) * 2 ^ ((s + 32)).toNat) oS oS oS oS) (have f12 := L_abs_add xb ((1 : Int) * 2 ^ ((s + 32)).toNat); have f11 := L_abs_add xa ((1 : Int) * 2 ^ ((s + 32)).toNat); aI (c2 ) (aI (c3 ) (aI (fx_Twice y1 y2 1 oS oS oS) (have f10 := L_abs_shl y2 1; have f9 := L_abs_shl y1 1; aI (fx_Neg (y1 * 2 ^ 1) (y2 * 2 ^ 1) oS oS) (have f8 := L_abs_neg (y2 * 2 ^ 1); have f7 := L_abs_neg (y1 * 2 ^ 1); aI (c4 ) (aI (c5 ) (aI (fx_Add (-(y2 * 2 ^ 1)) (-(y1 * 2 ^ 1)) r1 r2 oS oS oS oS) (have f6 := L_abs_add (-(y1 * 2 ^ 1)) r2; have f5 := L_abs_add (-(y2 * 2 ^ 1)) r1; aI (fits_i64 oS : (fits .i64 ((s + 32) - s)) = true) (aI (fx_Half ((-(y2 * 2 ^ 1)) + r1) ((-(y1 * 2 ^ 1)) + r2) ((s + 32) - s) oS oS oS) (have f4 := L_abs_neg (-((-(y1 * 2 ^ 1)) + r2) / 2 ^ (((s + 32) - s)).toNat); have f3 := L_abs_shr (-((-(y1 * 2 ^ 1)) + r2)) (((s + 32) - s)).toNat; have f2 := L_abs_neg ((-(y1 * 2 ^ 1)) + r2); have f1 := L_abs_shr ((-(y2 * 2 ^ 1)) + r1) (((s + 32) - s)).toNat; (by rw [show ((s + 32) - s).toNat = 32 by omega]; exact vsub_refl _ : vsub (.agg [(.bool (decide ((((-(y2 * 2 ^ 1)) + r1) / 2 ^ (((s + 32) - s)).toNat) < 0))), (N ((((-(y2 * 2 ^ 1)) + r1) / 2 ^ (((s + 32) - s)).toNat).natAbs)), (.bool (decide ((-(-((-(y1 * 2 ^ 1)) + r2) / 2 ^ (((s + 32) - s)).toNat)) < 0))), (N ((-(-((-(y1 * 2 ^ 1)) + r2) / 2 ^ (((s + 32) - s)).toNat)).natAbs))]) (.agg [(.bool (decide ((((-(y2 * 2 ^ 1)) + r1) / 2 ^ 32) < 0))), (N ((((-(y2 * 2 ^ 1)) + r1) / 2 ^ 32).natAbs)), (.bool (decide ((-(-((-(y1 * 2 ^ 1)) + r2) / 2 ^ 32)) < 0))), (N ((-(-((-(y1 * 2 ^ 1)) + r2) / 2 ^ 32)).natAbs))])))))))))))))))))))))) (by kernel_rfl))
theorem fx_LnP (m : Int) (e : Int) (k : Int) (s : Int) (xa : Int) (xb : Int) (z1 : Int) (z2 : Int) (y1 : Int) (y2 : Int) (v1 : Int) (v2 : Int) (r1 : Int) (r2 : Int) (c0 : 0 ≤ s ∧ s ≤ 5900) (c1 : Impl Tryz.prog Amb 105 [(yV m e), (.int .i64 (s + 32))] (.agg [(.bool (decide (xa < 0))), (N xa.natAbs), (.bool (decide (xb < 0))), (N xb.natAbs)])) (c2 : Impl Tryz.prog Amb 212 [(.agg [(.bool (decide ((xa + (-((1 : Int) * 2 ^ ((s + 32)).toNat))) < 0))), (N ((xa + (-((1 : Int) * 2 ^ ((s + 32)).toNat))).natAbs)), (.bool (decide ((xb + (-((1 : Int) * 2 ^ ((s + 32)).toNat))) < 0))), (N ((xb + (-((1 : Int) * 2 ^ ((s + 32)).toNat))).natAbs))]), (.agg [(.bool (decide ((xa + ((1 : Int) * 2 ^ ((s + 32)).toNat)) < 0))), (N ((xa + ((1 : Int) * 2 ^ ((s + 32)).toNat)).natAbs)), (.bool (decide ((xb + ((1 : Int) * 2 ^ ((s + 32)).toNat)) < 0))), (N ((xb + ((1 : Int) * 2 ^ ((s + 32)).toNat)).natAbs))]), (.int .i64 (s + 32))] (.agg [(.bool (decide (z1 < 0))), (N z1.natAbs), (.bool (decide (z2 < 0))), (N z2.natAbs)])) (c3 : Impl Tryz.prog Amb 211 [(.agg [(.bool (decide (z1 < 0))), (N z1.natAbs), (.bool (decide (z2 < 0))), (N z2.natAbs)]), (.int .i64 (s + 32))] (.agg [(.bool (decide (y1 < 0))), (N y1.natAbs), (.bool (decide (y2 < 0))), (N y2.natAbs)])) (c4 : Impl Tryz.prog Amb 106 [(.int .i64 (s + 32))] (.agg [(.bool (decide (v1 < 0))), (N v1.natAbs), (.bool (decide (v2 < 0))), (N v2.natAbs)])) (c5 : Impl Tryz.prog Amb 110 [(.agg [(.bool (decide (v1 < 0))), (N v1.natAbs), (.bool (decide (v2 < 0))), (N v2.natAbs)]), (.int .i64 k)] (.agg [(.bool (decide (r1 < 0))), (N r1.natAbs), (.bool (decide (r2 < 0))), (N r2.natAbs)])) (c6 : L (xa).natAbs ≤ 1000) (c7 : L (xb).natAbs ≤ 1000) (c8 : L (y1).natAbs ≤ 20000) (c9 : L (y2).natAbs ≤ 20000) (c10 : L (r1).natAbs ≤ 20000) (c11 : L (r2).natAbs ≤ 20000) (c12 : ((1 : Int) * 2 ^ ((s + 32)).toNat) < xb) (c13 : 0 ≤ (xa + (-((1 : Int) * 2 ^ ((s + 32)).toNat)))) : Impl Tryz.prog Amb 147 [(yV m e), (.int .i64 k), (.int .i64 s)] (.agg [(.bool (decide ((((y1 * 2 ^ 1) + r1) / 2 ^ 32) < 0))), (N ((((y1 * 2 ^ 1) + r1) / 2 ^ 32).natAbs)), (.bool (decide ((-(-((y2 * 2 ^ 1) + r2) / 2 ^ 32)) < 0))), (N ((-(-((y2 * 2 ^ 1) + r2) / 2 ^ 32)).natAbs))]) := by
  have lo := L_pow1 ((s + 32)).toNat
  have cr := cmpI_range xb ((1 : Int) * 2 ^ ((s + 32)).toNat)
  have ci := cmpI_le xb ((1 : Int) * 2 ^ ((s + 32)).toNat)
  exact impl_ob hP hAmb Tryz.func147 (by kernel_rfl) (.lit <| .yes <| .lit <| .call (.agg [(.bool (decide (((1 : Int) * 2 ^ ((s + 32)).toNat) < 0))), (N (((1 : Int) * 2 ^ ((s + 32)).toNat).natAbs)), (.bool (decide (((1 : Int) * 2 ^ ((s + 32)).toNat) < 0))), (N (((1 : Int) * 2 ^ ((s + 32)).toNat).natAbs))]) <| .lits 2 <| .call (.agg [(.bool (decide (xa < 0))), (N xa.natAbs), (.bool (decide (xb < 0))), (N xb.natAbs)]) <| .lits 3 <| .call (.agg [(.bool (decide ((xa + (-((1 : Int) * 2 ^ ((s + 32)).toNat))) < 0))), (N ((xa + (-((1 : Int) * 2 ^ ((s + 32)).toNat))).natAbs)), (.bool (decide ((xb + (-((1 : Int) * 2 ^ ((s + 32)).toNat))) < 0))), (N ((xb + (-((1 : Int) * 2 ^ ((s + 32)).toNat))).natAbs))]) <| .lits 4 <| .call (.int .i64 (cmpI xb ((1 : Int) * 2 ^ ((s + 32)).toNat))) <| .lit <| .no <| .lit <| .no <| .lits 4 <| .call (.agg [(.bool (decide ((xa + ((1 : Int) * 2 ^ ((s + 32)).toNat)) < 0))), (N ((xa + ((1 : Int) * 2 ^ ((s + 32)).toNat)).natAbs)), (.bool (decide ((xb + ((1 : Int) * 2 ^ ((s + 32)).toNat)) < 0))), (N ((xb + ((1 : Int) * 2 ^ ((s + 32)).toNat)).natAbs))]) <| .lit <| .call (.agg [(.bool (decide (z1 < 0))), (N z1.natAbs), (.bool (decide (z2 < 0))), (N z2.natAbs)]) <| .lit <| .call (.agg [(.bool (decide (y1 < 0))), (N y1.natAbs), (.bool (decide (y2 < 0))), (N y2.natAbs)]) <| .lit <| .call (.agg [(.bool (decide ((y1 * 2 ^ 1) < 0))), (N ((y1 * 2 ^ 1).natAbs)), (.bool (decide ((y2 * 2 ^ 1) < 0))), (N ((y2 * 2 ^ 1).natAbs))]) <| .lits 3 <| .call (.agg [(.bool (decide (v1 < 0))), (N v1.natAbs), (.bool (decide (v2 < 0))), (N v2.natAbs)]) <| .lit <| .call (.agg [(.bool (decide (r1 < 0))), (N r1.natAbs), (.bool (decide (r2 < 0))), (N r2.natAbs)]) <| .lit <| .call (.agg [(.bool (decide (((y1 * 2 ^ 1) + r1) < 0))), (N (((y1 * 2 ^ 1) + r1).natAbs)), (.bool (decide (((y2 * 2 ^ 1) + r2) < 0))), (N (((y2 * 2 ^ 1) + r2).natAbs))]) <| .lit <| .yes <| .lit <| .call (.agg [(.bool (decide ((((y1 * 2 ^ 1) + r1) / 2 ^ (((s + 32) - s)).toNat) < 0))), (N ((((y1 * 2 ^ 1) + r1) / 2 ^ (((s + 32) - s)).toNat).natAbs)), (.bool (decide ((-(-((y2 * 2 ^ 1) + r2) / 2 ^ (((s + 32) - s)).toNat)) < 0))), (N ((-(-((y2 * 2 ^ 1) + r2) / 2 ^ (((s + 32) - s)).toNat)).natAbs))]) <| .lits 2 <| .ret)
    (cast_ob (aI True.intro (aI (fits_i64 oS : (fits .i64 (s + 32)) = true) (aI (fx_One (s + 32) oS) (have f16 := L_pow1 ((s + 32)).toNat; aI (c1 ) (aI (fx_Sub xa xb ((1 : Int) * 2 ^ ((s + 32)).toNat) ((1 : Int) * 2 ^ ((s + 32)).toNat) oS oS oS oS) (have f15 := L_abs_neg ((1 : Int) * 2 ^ ((s + 32)).toNat); have f14 := L_abs_neg ((1 : Int) * 2 ^ ((s + 32)).toNat); have f13 := L_abs_add xb (-((1 : Int) * 2 ^ ((s + 32)).toNat)); have f12 := L_abs_add xa (-((1 : Int) * 2 ^ ((s + 32)).toNat)); aI (int_Cmp xb ((1 : Int) * 2 ^ ((s + 32)).toNat) oS oS) (have f11 := cmpI_range xb ((1 : Int) * 2 ^ ((s + 32)).toNat); aI (iLe_mkF oO : (iLe (cmpI xb ((1 : Int) * 2 ^ ((s + 32)).toNat)) 0) = false) (aI (decide_eq_false oO : (decide ((xa + (-((1 : Int) * 2 ^ ((s + 32)).toNat))) < 0)) = false) (aI (fx_Add xa xb ((1 : Int) * 2 ^ ((s + 32)).toNat) ((1 : Int) * 2 ^ ((s + 32)).toNat) oS oS oS oS) (have f10 := L_abs_add xb ((1 : Int) * 2 ^ ((s + 32)).toNat); have f9 := L_abs_add xa ((1 : Int) * 2 ^ ((s + 32)).toNat); aI (c2 ) (aI (c3 ) (aI (fx_Twice y1 y2 1 oS oS oS) (have f8 := L_abs_shl y2 1; have f7 := L_abs_shl y1 1; aI (c4 ) (aI (c5 ) (aI (fx_Add (y1 * 2 ^ 1) (y2 * 2 ^ 1) r1 r2 oS oS oS oS) (have f6 := L_abs_add (y2 * 2 ^ 1) r2; have f5 := L_abs_add (y1 * 2 ^ 1) r1; aI (fits_i64 oS : (fits .i64 ((s + 32) - s)) = true) (aI (fx_Half ((y1 * 2 ^ 1) + r1) ((y2 * 2 ^ 1) + r2) ((s + 32) - s) oS oS oS) (have f4 := L_abs_neg (-((y2 * 2 ^ 1) + r2) / 2 ^ (((s + 32) - s)).toNat); have f3 := L_abs_shr (-((y2 * 2 ^ 1) + r2)) (((s + 32) - s)).toNat; have f2 := L_abs_neg ((y2 * 2 ^ 1) + r2); have f1 := L_abs_shr ((y1 * 2 ^ 1) + r1) (((s + 32) - s)).toNat; (by rw [show ((s + 32) - s).toNat = 32 by omega]; exact vsub_refl _ : vsub (.agg [(.bool (decide ((((y1 * 2 ^ 1) + r1) / 2 ^ (((s + 32) - s)).toNat) < 0))), (N ((((y1 * 2 ^ 1) + r1) / 2 ^ (((s + 32) - s)).toNat).natAbs)), (.bool (decide ((-(-((y2 * 2 ^ 1) + r2) / 2 ^ (((s + 32) - s)).toNat)) < 0))), (N ((-(-((y2 * 2 ^ 1) + r2) / 2 ^ (((s + 32) - s)).toNat)).natAbs))]) (.agg [(.bool (decide ((((y1 * 2 ^ 1) + r1) / 2 ^ 32) < 0))), (N ((((y1 * 2 ^ 1) + r1) / 2 ^ 32).natAbs)), (.bool (decide ((-(-((y2 * 2 ^ 1) + r2) / 2 ^ 32)) < 0))), (N ((-(-((y2 * 2 ^ 1) + r2) / 2 ^ 32)).natAbs))])))))))))))))))))))) (by kernel_rfl))
theorem L_T {x : Int} {t : Nat} (h0 : 0 ≤ x) (h : x ≤ 8192 * 2 ^ t) (ht : t ≤ 6000) : L x.natAbs ≤ 200 := by
  refine L_pow2 (n := t + 14) ?_ oO
  have e : (2 : Nat) ^ (t + 14) = 16384 * 2 ^ t := by rw [Nat.pow_add, Nat.mul_comm]
  have p : ((2 ^ t : Nat) : Int) = (2 : Int) ^ t := (pow_cast t).symm
  have := two_pos t
  rw [e]; omega
theorem fx_area (x1 x2 s : Int) (hs : 8 ≤ s ∧ s ≤ 6000) (h : ArH (2 ^ s.toNat) x1 x2) (hd : x2 - x1 ≤ 4) :
    ∃ y1 y2 : Int, Impl Tryz.prog Amb 211 [(.agg [(.bool (decide (x1 < 0))), (N x1.natAbs), (.bool (decide (x2 < 0))), (N x2.natAbs)]), (.int .i64 s)] (.agg [(.bool (decide (y1 < 0))), (N y1.natAbs), (.bool (decide (y2 < 0))), (N y2.natAbs)]) ∧ 0 ≤ y1 ∧ y1 ≤ y2 ∧ y2 - y1 ≤ 100000 ∧ y2 ≤ 8192 * 2 ^ s.toNat ∧
      ∀ X : Rat, (x1 : Rat) ≤ X * ((2 ^ s.toNat : Int) : Rat) → X * ((2 ^ s.toNat : Int) : Rat) ≤ (x2 : Rat) → ∃ N0, ∀ K, N0 ≤ K → (y1 : Rat) ≤ PL X K * ((2 ^ s.toNat : Int) : Rat) ∧ PL X K * ((2 ^ s.toNat : Int) : Rat) ≤ (y2 : Rat) := by
  generalize ht : s.toNat = t at *
  have T0 : (0 : Rat) < ((2 ^ t : Int) : Rat) := Rat.intCast_pos.2 (two_pos t)
  obtain ⟨N, hN, hs8, hl⟩ := aP_small h
  have pf := aP_facts h
  have af := aA_facts h
  have eX : (x1 : Rat) * ((2 ^ t : Int) : Rat)⁻¹ * ((2 ^ t : Int) : Rat) = x1 := by rw [Rat.mul_assoc, Rat.inv_mul_cancel _ (by grind), Rat.mul_one]
  have pe := aP_enc (X := (x1 : Rat) * ((2 ^ t : Int) : Rat)⁻¹) h (by rw [eX]; exact Rat.le_refl) (by rw [eX]; exact Rat.intCast_le_intCast.2 h.h2)
  have ae := aA_enc (X := (x1 : Rat) * ((2 ^ t : Int) : Rat)⁻¹) h (by rw [eX]; exact Rat.le_refl) (by rw [eX]; exact Rat.intCast_le_intCast.2 h.h2)
  have po : ∀ j, (aP (2 ^ t) x1 x2 j).1 ≤ (aP (2 ^ t) x1 x2 j).2 := fun j => Rat.intCast_le_intCast.1 (Rat.le_trans (pe j).1 (pe j).2)
  have ao : ∀ j, (aA (2 ^ t) x1 x2 j).1 ≤ (aA (2 ^ t) x1 x2 j).2 := fun j => Rat.intCast_le_intCast.1 (Rat.le_trans (ae j).1 (ae j).2)
  have t6 : t ≤ 6000 := by omega
  have p1 : ∀ j, L (ap1 x1 x2 s j).natAbs ≤ 200 := fun j => by
    unfold ap1; rw [ht]; have a := pf j; have b := po j
    exact L_T a.1 oO t6
  have p2 : ∀ j, L (ap2 x1 x2 s j).natAbs ≤ 200 := fun j => by
    unfold ap2; rw [ht]; have a := pf j
    exact L_T a.2.1 oO t6
  have am : ∀ j, j ≤ N → (aA (2 ^ t) x1 x2 j).2 ≤ 8000 * 2 ^ t := fun j hj => by
    have a := (af j).2.1
    have m := Int.mul_le_mul_of_nonneg_right (show (j : Int) + 1 ≤ 8000 by omega) (Int.le_of_lt (two_pos t))
    omega
  have a1 : ∀ j, j ≤ N → L (aa1 x1 x2 s j).natAbs ≤ 200 := fun j hj => by
    unfold aa1; rw [ht]; have a := af j; have b := ao j; have c := am j hj
    exact L_T a.1 oO t6
  have a2 : ∀ j, j ≤ N → L (aa2 x1 x2 s j).natAbs ≤ 200 := fun j hj => by
    unfold aa2; rw [ht]; have a := af j; have c := am j hj
    exact L_T a.2.2.2 oO t6
  have q := ar_q (T := 2 ^ t) (two_pos t) h.h1 h.h2 h.h3
  have lq1 : L (x1 * x1 / 2 ^ s.toNat).natAbs ≤ 200 := by rw [ht]; exact L_T q.1 oO t6
  have lq2 : L (-(-(x2 * x2) / 2 ^ s.toNat)).natAbs ≤ 200 := by rw [ht]; exact L_T q.2.2.2.1 (by have := h.hT; omega) t6
  have lx1 : L x1.natAbs ≤ 200 := L_T h.h1 (by have := h.h2; have := h.h3; omega) t6
  have lx2 : L x2.natAbs ≤ 200 := L_T (by have := h.h1; have := h.h2; omega) (by have := h.h3; have := h.h1; have := h.h2; omega) t6
  have lt : ∀ j, L (at1 x1 x2 s j).natAbs ≤ 200 ∧ L (at2 x1 x2 s j).natAbs ≤ 201 := fun j => by
    have b1 := p1 (j + 1)
    have b2 := p2 (j + 1)
    have l1 := L_div (ap1 x1 x2 s (j + 1)).natAbs (odn (j + 1)).toNat
    have l2 := L_div (ap2 x1 x2 s (j + 1)).natAbs (odn (j + 1)).toNat
    have l3 := L_add ((ap2 x1 x2 s (j + 1)).natAbs / (odn (j + 1)).toNat) 1
    have l4 := L_lit 1 (by decide)
    unfold at1 at2 ptLo ptHi
    rw [Int.natAbs_natCast, Int.natAbs_natCast]
    refine ⟨by omega, ?_⟩
    split
    · rw [Nat.add_zero]; omega
    · omega
  refine ⟨_, _, fx_area0 N x1 x2 s oO ?_ ?_ ?_ ?_ ?_ oO oO oO, ?_, ?_, ?_, ?_, ?_⟩
  · intro j hj
    refine impl_eq (congrArg V.bool (decide_eq_decide.2 ?_)) (fx_Tiny (ap1 x1 x2 s j) (ap2 x1 x2 s j) (by have := p2 j; omega))
    unfold ap2
    rw [ht]
    constructor
    · intro hq
      refine Decidable.byContradiction fun hn => hl j oO ?_
      omega
    · intro hq
      rw [show j = N by omega]
      have := (pf N).2.1
      omega
  · intro j hj
    exact fx_Mul (ap1 x1 x2 s j) (ap2 x1 x2 s j) (x1 * x1 / 2 ^ s.toNat) (-(-(x2 * x2) / 2 ^ s.toNat)) s (by have := p1 j; omega) (by have := p2 j; omega) oO oO oO
  · intro j k hj hk
    subst hk
    exact fx_Part (ap1 x1 x2 s (j + 1)) (ap2 x1 x2 s (j + 1)) (odn (j + 1)) (by have := p1 (j + 1); omega) (by have := p2 (j + 1); omega) (by unfold odn; omega)
  · intro j hj
    have b := lt j
    exact fx_Add (aa1 x1 x2 s j) (aa2 x1 x2 s j) (at1 x1 x2 s j) (at2 x1 x2 s j) (by have := a1 j oO; omega) (by have := a2 j oO; omega) oO oO
  · intro j hj
    have := a2 j hj
    have := p2 j
    omega
  · unfold aa1; rw [ht]; exact (af N).1
  · unfold aa1 aa2 ap2; rw [ht]; have := ao N; have := (pf N).2.1; omega
  · unfold aa1 aa2 ap2; rw [ht]
    have a := (af N).2.2.1
    have d0 := h.h2
    have m := Int.mul_le_mul_of_nonneg_left (show (x2 - x1) + 8 ≤ 12 by omega) (show (0 : Int) ≤ (N : Int) by omega)
    omega
  · unfold aa2 ap2; rw [ht]
    have := am N (Nat.le_refl _)
    have := h.hT
    omega
  · intro X e1 e2
    unfold aa1 aa2 ap2; rw [ht]
    exact ⟨N + 1, fun K hK => area_enc h e1 e2 N hK⟩
end Go.Proofs.YtekcladflnieeaaGreatDoor

namespace Go.Proofs.YtekcladflnieeaaGreatDoor
theorem cmpD_le {m e n f : Int} : cmpD m e n f ≤ 0 ↔ dv m e ≤ dv n f := by rw [cmpD_dv, cmpQ_le]
theorem dv_fine {a b : Int} {w n : Nat} : dv a (-(w : Int)) ≤ dv b (-((w : Int) + (n : Int))) ↔ a * 2 ^ n ≤ b := by
  rw [dv_at (m := a) (e := -(w : Int)) (c := -((w : Int) + (n : Int))) (by omega), show (-(w : Int) - -((w : Int) + (n : Int))).toNat = n by omega, dv_le]
theorem dv_fine2 {a b : Int} {w n : Nat} : dv b (-((w : Int) + (n : Int))) ≤ dv a (-(w : Int)) ↔ b ≤ a * 2 ^ n := by
  rw [dv_at (m := a) (e := -(w : Int)) (c := -((w : Int) + (n : Int))) (by omega), show (-(w : Int) - -((w : Int) + (n : Int))).toNat = n by omega, dv_le]
end Go.Proofs.YtekcladflnieeaaGreatDoor

namespace Go.Proofs.YtekcladflnieeaaGreatDoor
open Go.RowKit
set_option maxRecDepth 100000
set_option maxHeartbeats 8000000
theorem r13_At (m : Int) (e : Int) (v : Int) (c0 : L (m).natAbs ≤ 4000) (c1 : (-65536 : Int) ≤ e ∧ e ≤ 65536) (c2 : vdb m e = true) (c3 : (0 : Int) ≤ v ∧ v ≤ 1500) : Impl Tryz.prog Amb 46 [(yV m e), (.int .i64 v)] (.agg [(.bool (decide ((flr (dv m e) v) < 0))), (N ((flr (dv m e) v).natAbs)), (.bool (decide ((cei (dv m e) v) < 0))), (N ((cei (dv m e) v).natAbs))]) := by
  have lm := L_abs_neg m
  have q1 := dv_L c2 oO
  have q3 : vdb (-m) e = true := by rw [vdb_opp]; exact c2
  have q2 := dv_L q3 oO
  exact impl_ob hP hAmb Tryz.func46 (by kernel_rfl) (.lits 2 <| .call (.agg [(.bool (decide ((dv m e).num < 0))), (N (((dv m e).num).natAbs)), (N ((dv m e).den))]) <| .lits 3 <| .call (zV (flr (dv m e) v)) <| .lits 4 <| .call (yV (-m) e) <| .lit <| .call (.agg [(.bool (decide ((dv (-m) e).num < 0))), (N (((dv (-m) e).num).natAbs)), (N ((dv (-m) e).den))]) <| .lit <| .call (zV (flr (dv (-m) e) v)) <| .lit <| .call (zV (-(flr (dv (-m) e) v))) <| .lits 3 <| .ret)
    (cast_ob (aI True.intro (aI (r08_Rat m e oU oU oU) (have f6 := (dv_L ‹vdb m e = true› oU : L (dv m e).num.natAbs ≤ L (m).natAbs + 2050 ∧ L (dv m e).den ≤ 2050); aI (r08_Cut (dv m e) v oU oU oU) (have f5 := flr_L (dv m e) v; aI (r08_Neg m e oU) (have f4 := L_abs_neg m; aI (r08_Rat (-m) e oU oU oU) (have f3 := (dv_L ‹vdb (-m) e = true› oU : L (dv (-m) e).num.natAbs ≤ L ((-m)).natAbs + 2050 ∧ L (dv (-m) e).den ≤ 2050); aI (r08_Cut (dv (-m) e) v oU oU oU) (have f2 := flr_L (dv (-m) e) v; aI (r05_Neg (flr (dv (-m) e) v) oU) (have f1 := L_abs_neg (flr (dv (-m) e) v); (Sp_of rfl (by unfold cei; rw [dv_neg]) : vsub (.agg [(.bool (decide ((flr (dv m e) v) < 0))), (N ((flr (dv m e) v).natAbs)), (.bool (decide ((-(flr (dv (-m) e) v)) < 0))), (N ((-(flr (dv (-m) e) v)).natAbs))]) (.agg [(.bool (decide ((flr (dv m e) v) < 0))), (N ((flr (dv m e) v).natAbs)), (.bool (decide ((cei (dv m e) v) < 0))), (N ((cei (dv m e) v).natAbs))])))))))))) (by kernel_rfl))
theorem r13_Mul (a : Int) (b : Int) (c : Int) (d : Int) (v : Int) (c0 : L (a).natAbs ≤ 4000) (c1 : L (b).natAbs ≤ 4000) (c2 : L (c).natAbs ≤ 4000) (c3 : L (d).natAbs ≤ 4000) (c4 : (0 : Int) ≤ v ∧ v ≤ 1500) : Impl Tryz.prog Amb 83 [(.agg [(.bool (decide (a < 0))), (N a.natAbs), (.bool (decide (b < 0))), (N b.natAbs)]), (.agg [(.bool (decide (c < 0))), (N c.natAbs), (.bool (decide (d < 0))), (N d.natAbs)]), (.int .i64 v)] (.agg [(.bool (decide ((rm1 a b c d (2 ^ (v).toNat)) < 0))), (N ((rm1 a b c d (2 ^ (v).toNat)).natAbs)), (.bool (decide ((rm2 a b c d (2 ^ (v).toNat)) < 0))), (N ((rm2 a b c d (2 ^ (v).toNat)).natAbs))]) := by
  have l0 := L_abs_mul a c
  have l1 := L_abs_mul a d
  have l2 := L_abs_mul b c
  have l3 := L_abs_mul b d
  exact impl_ob hP hAmb Tryz.func83 (by kernel_rfl) (.lits 3 <| .call (zV (a * c)) <| .lits 3 <| .call (zV (a * d)) <| .lits 3 <| .call (zV (b * c)) <| .lits 3 <| .call (zV (b * d)) <| .lit <| .call (zV (1 : Int)) <| .lit <| .call (.agg [(.bool (decide ((Int.fdiv (min (min (min (a * c) (a * d)) (b * c)) (b * d)) (1 : Int)) < 0))), (N ((Int.fdiv (min (min (min (a * c) (a * d)) (b * c)) (b * d)) (1 : Int)).natAbs)), (.bool (decide ((-(Int.fdiv (-(max (max (max (a * c) (a * d)) (b * c)) (b * d))) (1 : Int))) < 0))), (N ((-(Int.fdiv (-(max (max (max (a * c) (a * d)) (b * c)) (b * d))) (1 : Int))).natAbs))]) <| .lits 2 <| .call (zV ((Int.fdiv (min (min (min (a * c) (a * d)) (b * c)) (b * d)) (1 : Int)) / 2 ^ (v).toNat)) <| .lits 2 <| .call (zV (-(-(Int.fdiv (-(max (max (max (a * c) (a * d)) (b * c)) (b * d))) (1 : Int))))) <| .lit <| .call (zV ((-(-(Int.fdiv (-(max (max (max (a * c) (a * d)) (b * c)) (b * d))) (1 : Int)))) / 2 ^ (v).toNat)) <| .lit <| .call (zV (-((-(-(Int.fdiv (-(max (max (max (a * c) (a * d)) (b * c)) (b * d))) (1 : Int)))) / 2 ^ (v).toNat))) <| .lits 3 <| .ret)
    (cast_ob (aI True.intro (aI (r05_Mul a c oO oO) (have f19 := L_abs_mul a c; aI (r05_Mul a d oO oO) (have f18 := L_abs_mul a d; aI (r05_Mul b c oO oO) (have f17 := L_abs_mul b c; aI (r05_Mul b d oO oO) (have f16 := L_abs_mul b d; aI (r05_Of 1 oO) (have f15 := (L_i64 oO : L (1 : Int).natAbs ≤ 2); aI (r13_hull4 (a * c) (a * d) (b * c) (b * d) (1 : Int) oO oO oO oO oO oO) (have f14 := L_abs_neg (Int.fdiv (-(max (max (max (a * c) (a * d)) (b * c)) (b * d))) (1 : Int)); have f13 := L_abs_neg (max (max (max (a * c) (a * d)) (b * c)) (b * d)); have f12 := L_fdiv (-(max (max (max (a * c) (a * d)) (b * c)) (b * d))) (1 : Int); have f11 := L_fdiv (min (min (min (a * c) (a * d)) (b * c)) (b * d)) (1 : Int); have f10 := L_max (max (max (a * c) (a * d)) (b * c)) (b * d); have f9 := L_max (max (a * c) (a * d)) (b * c); have f8 := L_max (a * c) (a * d); have f7 := L_min (min (min (a * c) (a * d)) (b * c)) (b * d); have f6 := L_min (min (a * c) (a * d)) (b * c); have f5 := L_min (a * c) (a * d); aI (r05_Shr (Int.fdiv (min (min (min (a * c) (a * d)) (b * c)) (b * d)) (1 : Int)) v oO oO) (have f4 := L_abs_shr (Int.fdiv (min (min (min (a * c) (a * d)) (b * c)) (b * d)) (1 : Int)) (v).toNat; aI (r05_Neg (-(Int.fdiv (-(max (max (max (a * c) (a * d)) (b * c)) (b * d))) (1 : Int))) oO) (have f3 := L_abs_neg (-(Int.fdiv (-(max (max (max (a * c) (a * d)) (b * c)) (b * d))) (1 : Int))); aI (r05_Shr (-(-(Int.fdiv (-(max (max (max (a * c) (a * d)) (b * c)) (b * d))) (1 : Int)))) v oO oO) (have f2 := L_abs_shr (-(-(Int.fdiv (-(max (max (max (a * c) (a * d)) (b * c)) (b * d))) (1 : Int)))) (v).toNat; aI (r05_Neg ((-(-(Int.fdiv (-(max (max (max (a * c) (a * d)) (b * c)) (b * d))) (1 : Int)))) / 2 ^ (v).toNat) oO) (have f1 := L_abs_neg ((-(-(Int.fdiv (-(max (max (max (a * c) (a * d)) (b * c)) (b * d))) (1 : Int)))) / 2 ^ (v).toNat); (Sp_of (by simp only [Int.fdiv_one]; rfl) (by simp only [Int.fdiv_one, Int.neg_neg]; rfl) : vsub (.agg [(.bool (decide (((Int.fdiv (min (min (min (a * c) (a * d)) (b * c)) (b * d)) (1 : Int)) / 2 ^ (v).toNat) < 0))), (N (((Int.fdiv (min (min (min (a * c) (a * d)) (b * c)) (b * d)) (1 : Int)) / 2 ^ (v).toNat).natAbs)), (.bool (decide ((-((-(-(Int.fdiv (-(max (max (max (a * c) (a * d)) (b * c)) (b * d))) (1 : Int)))) / 2 ^ (v).toNat)) < 0))), (N ((-((-(-(Int.fdiv (-(max (max (max (a * c) (a * d)) (b * c)) (b * d))) (1 : Int)))) / 2 ^ (v).toNat)).natAbs))]) (.agg [(.bool (decide ((rm1 a b c d (2 ^ (v).toNat)) < 0))), (N ((rm1 a b c d (2 ^ (v).toNat)).natAbs)), (.bool (decide ((rm2 a b c d (2 ^ (v).toNat)) < 0))), (N ((rm2 a b c d (2 ^ (v).toNat)).natAbs))])))))))))))))) (by kernel_rfl))
theorem r13_Div (a : Int) (b : Int) (c : Int) (d : Int) (v : Int) (c0 : L (a).natAbs ≤ 4000) (c1 : L (b).natAbs ≤ 4000) (c2 : L (c).natAbs ≤ 4000) (c3 : L (d).natAbs ≤ 4000) (c4 : (0 : Int) ≤ v ∧ v ≤ 1500) (c5 : c ≠ 0) (c6 : d ≠ 0) : Impl Tryz.prog Amb 81 [(.agg [(.bool (decide (a < 0))), (N a.natAbs), (.bool (decide (b < 0))), (N b.natAbs)]), (.agg [(.bool (decide (c < 0))), (N c.natAbs), (.bool (decide (d < 0))), (N d.natAbs)]), (.int .i64 v)] (.agg [(.bool (decide ((rdv a b c d (2 ^ (v).toNat)).1 < 0))), (N (((rdv a b c d (2 ^ (v).toNat)).1).natAbs)), (.bool (decide ((rdv a b c d (2 ^ (v).toNat)).2 < 0))), (N (((rdv a b c d (2 ^ (v).toNat)).2).natAbs))]) := by
  exact impl_ob hP hAmb Tryz.func81 (by kernel_rfl) (.lits 2 <| .call (zV (a * 2 ^ (v).toNat)) <| .lits 2 <| .call (zV (b * 2 ^ (v).toNat)) <| .lits 4 <| .call (.agg [(.bool (decide ((Int.fdiv (min (a * 2 ^ (v).toNat) (b * 2 ^ (v).toNat)) c) < 0))), (N ((Int.fdiv (min (a * 2 ^ (v).toNat) (b * 2 ^ (v).toNat)) c).natAbs)), (.bool (decide ((-(Int.fdiv (-(max (a * 2 ^ (v).toNat) (b * 2 ^ (v).toNat))) c)) < 0))), (N ((-(Int.fdiv (-(max (a * 2 ^ (v).toNat) (b * 2 ^ (v).toNat))) c)).natAbs))]) <| .lits 4 <| .call (.agg [(.bool (decide ((Int.fdiv (min (a * 2 ^ (v).toNat) (b * 2 ^ (v).toNat)) d) < 0))), (N ((Int.fdiv (min (a * 2 ^ (v).toNat) (b * 2 ^ (v).toNat)) d).natAbs)), (.bool (decide ((-(Int.fdiv (-(max (a * 2 ^ (v).toNat) (b * 2 ^ (v).toNat))) d)) < 0))), (N ((-(Int.fdiv (-(max (a * 2 ^ (v).toNat) (b * 2 ^ (v).toNat))) d)).natAbs))]) <| .lits 5 <| .call (zV (1 : Int)) <| .lit <| .call (.agg [(.bool (decide ((Int.fdiv (min (min (min (Int.fdiv (min (a * 2 ^ (v).toNat) (b * 2 ^ (v).toNat)) c) (-(Int.fdiv (-(max (a * 2 ^ (v).toNat) (b * 2 ^ (v).toNat))) c))) (Int.fdiv (min (a * 2 ^ (v).toNat) (b * 2 ^ (v).toNat)) d)) (-(Int.fdiv (-(max (a * 2 ^ (v).toNat) (b * 2 ^ (v).toNat))) d))) (1 : Int)) < 0))), (N ((Int.fdiv (min (min (min (Int.fdiv (min (a * 2 ^ (v).toNat) (b * 2 ^ (v).toNat)) c) (-(Int.fdiv (-(max (a * 2 ^ (v).toNat) (b * 2 ^ (v).toNat))) c))) (Int.fdiv (min (a * 2 ^ (v).toNat) (b * 2 ^ (v).toNat)) d)) (-(Int.fdiv (-(max (a * 2 ^ (v).toNat) (b * 2 ^ (v).toNat))) d))) (1 : Int)).natAbs)), (.bool (decide ((-(Int.fdiv (-(max (max (max (Int.fdiv (min (a * 2 ^ (v).toNat) (b * 2 ^ (v).toNat)) c) (-(Int.fdiv (-(max (a * 2 ^ (v).toNat) (b * 2 ^ (v).toNat))) c))) (Int.fdiv (min (a * 2 ^ (v).toNat) (b * 2 ^ (v).toNat)) d)) (-(Int.fdiv (-(max (a * 2 ^ (v).toNat) (b * 2 ^ (v).toNat))) d)))) (1 : Int))) < 0))), (N ((-(Int.fdiv (-(max (max (max (Int.fdiv (min (a * 2 ^ (v).toNat) (b * 2 ^ (v).toNat)) c) (-(Int.fdiv (-(max (a * 2 ^ (v).toNat) (b * 2 ^ (v).toNat))) c))) (Int.fdiv (min (a * 2 ^ (v).toNat) (b * 2 ^ (v).toNat)) d)) (-(Int.fdiv (-(max (a * 2 ^ (v).toNat) (b * 2 ^ (v).toNat))) d)))) (1 : Int))).natAbs))]) <| .lits 2 <| .ret)
    (cast_ob (aI True.intro (aI (r05_Shl a v oO oO) (have f25 := L_abs_shl a (v).toNat; aI (r05_Shl b v oO oO) (have f24 := L_abs_shl b (v).toNat; aI (r13_hull2 (a * 2 ^ (v).toNat) (b * 2 ^ (v).toNat) c oO oO oO oO) (have f23 := L_abs_neg (Int.fdiv (-(max (a * 2 ^ (v).toNat) (b * 2 ^ (v).toNat))) c); have f22 := L_abs_neg (max (a * 2 ^ (v).toNat) (b * 2 ^ (v).toNat)); have f21 := L_fdiv (-(max (a * 2 ^ (v).toNat) (b * 2 ^ (v).toNat))) c; have f20 := L_fdiv (min (a * 2 ^ (v).toNat) (b * 2 ^ (v).toNat)) c; have f19 := L_max (a * 2 ^ (v).toNat) (b * 2 ^ (v).toNat); have f18 := L_min (a * 2 ^ (v).toNat) (b * 2 ^ (v).toNat); aI (r13_hull2 (a * 2 ^ (v).toNat) (b * 2 ^ (v).toNat) d oO oO oO oO) (have f17 := L_abs_neg (Int.fdiv (-(max (a * 2 ^ (v).toNat) (b * 2 ^ (v).toNat))) d); have f16 := L_abs_neg (max (a * 2 ^ (v).toNat) (b * 2 ^ (v).toNat)); have f15 := L_fdiv (-(max (a * 2 ^ (v).toNat) (b * 2 ^ (v).toNat))) d; have f14 := L_fdiv (min (a * 2 ^ (v).toNat) (b * 2 ^ (v).toNat)) d; have f13 := L_max (a * 2 ^ (v).toNat) (b * 2 ^ (v).toNat); have f12 := L_min (a * 2 ^ (v).toNat) (b * 2 ^ (v).toNat); aI (r05_Of 1 oO) (have f11 := (L_i64 oO : L (1 : Int).natAbs ≤ 2); aI (r13_hull4 (Int.fdiv (min (a * 2 ^ (v).toNat) (b * 2 ^ (v).toNat)) c) (-(Int.fdiv (-(max (a * 2 ^ (v).toNat) (b * 2 ^ (v).toNat))) c)) (Int.fdiv (min (a * 2 ^ (v).toNat) (b * 2 ^ (v).toNat)) d) (-(Int.fdiv (-(max (a * 2 ^ (v).toNat) (b * 2 ^ (v).toNat))) d)) (1 : Int) oO oO oO oO oO oO) (have f10 := L_abs_neg (Int.fdiv (-(max (max (max (Int.fdiv (min (a * 2 ^ (v).toNat) (b * 2 ^ (v).toNat)) c) (-(Int.fdiv (-(max (a * 2 ^ (v).toNat) (b * 2 ^ (v).toNat))) c))) (Int.fdiv (min (a * 2 ^ (v).toNat) (b * 2 ^ (v).toNat)) d)) (-(Int.fdiv (-(max (a * 2 ^ (v).toNat) (b * 2 ^ (v).toNat))) d)))) (1 : Int)); have f9 := L_abs_neg (max (max (max (Int.fdiv (min (a * 2 ^ (v).toNat) (b * 2 ^ (v).toNat)) c) (-(Int.fdiv (-(max (a * 2 ^ (v).toNat) (b * 2 ^ (v).toNat))) c))) (Int.fdiv (min (a * 2 ^ (v).toNat) (b * 2 ^ (v).toNat)) d)) (-(Int.fdiv (-(max (a * 2 ^ (v).toNat) (b * 2 ^ (v).toNat))) d))); have f8 := L_fdiv (-(max (max (max (Int.fdiv (min (a * 2 ^ (v).toNat) (b * 2 ^ (v).toNat)) c) (-(Int.fdiv (-(max (a * 2 ^ (v).toNat) (b * 2 ^ (v).toNat))) c))) (Int.fdiv (min (a * 2 ^ (v).toNat) (b * 2 ^ (v).toNat)) d)) (-(Int.fdiv (-(max (a * 2 ^ (v).toNat) (b * 2 ^ (v).toNat))) d)))) (1 : Int); have f7 := L_fdiv (min (min (min (Int.fdiv (min (a * 2 ^ (v).toNat) (b * 2 ^ (v).toNat)) c) (-(Int.fdiv (-(max (a * 2 ^ (v).toNat) (b * 2 ^ (v).toNat))) c))) (Int.fdiv (min (a * 2 ^ (v).toNat) (b * 2 ^ (v).toNat)) d)) (-(Int.fdiv (-(max (a * 2 ^ (v).toNat) (b * 2 ^ (v).toNat))) d))) (1 : Int); have f6 := L_max (max (max (Int.fdiv (min (a * 2 ^ (v).toNat) (b * 2 ^ (v).toNat)) c) (-(Int.fdiv (-(max (a * 2 ^ (v).toNat) (b * 2 ^ (v).toNat))) c))) (Int.fdiv (min (a * 2 ^ (v).toNat) (b * 2 ^ (v).toNat)) d)) (-(Int.fdiv (-(max (a * 2 ^ (v).toNat) (b * 2 ^ (v).toNat))) d)); have f5 := L_max (max (Int.fdiv (min (a * 2 ^ (v).toNat) (b * 2 ^ (v).toNat)) c) (-(Int.fdiv (-(max (a * 2 ^ (v).toNat) (b * 2 ^ (v).toNat))) c))) (Int.fdiv (min (a * 2 ^ (v).toNat) (b * 2 ^ (v).toNat)) d); have f4 := L_max (Int.fdiv (min (a * 2 ^ (v).toNat) (b * 2 ^ (v).toNat)) c) (-(Int.fdiv (-(max (a * 2 ^ (v).toNat) (b * 2 ^ (v).toNat))) c)); have f3 := L_min (min (min (Int.fdiv (min (a * 2 ^ (v).toNat) (b * 2 ^ (v).toNat)) c) (-(Int.fdiv (-(max (a * 2 ^ (v).toNat) (b * 2 ^ (v).toNat))) c))) (Int.fdiv (min (a * 2 ^ (v).toNat) (b * 2 ^ (v).toNat)) d)) (-(Int.fdiv (-(max (a * 2 ^ (v).toNat) (b * 2 ^ (v).toNat))) d)); have f2 := L_min (min (Int.fdiv (min (a * 2 ^ (v).toNat) (b * 2 ^ (v).toNat)) c) (-(Int.fdiv (-(max (a * 2 ^ (v).toNat) (b * 2 ^ (v).toNat))) c))) (Int.fdiv (min (a * 2 ^ (v).toNat) (b * 2 ^ (v).toNat)) d); have f1 := L_min (Int.fdiv (min (a * 2 ^ (v).toNat) (b * 2 ^ (v).toNat)) c) (-(Int.fdiv (-(max (a * 2 ^ (v).toNat) (b * 2 ^ (v).toNat))) c)); (Sp_of (by unfold rdv; simp only [Int.fdiv_one]) (by unfold rdv; simp only [Int.fdiv_one, Int.neg_neg]) : vsub (.agg [(.bool (decide ((Int.fdiv (min (min (min (Int.fdiv (min (a * 2 ^ (v).toNat) (b * 2 ^ (v).toNat)) c) (-(Int.fdiv (-(max (a * 2 ^ (v).toNat) (b * 2 ^ (v).toNat))) c))) (Int.fdiv (min (a * 2 ^ (v).toNat) (b * 2 ^ (v).toNat)) d)) (-(Int.fdiv (-(max (a * 2 ^ (v).toNat) (b * 2 ^ (v).toNat))) d))) (1 : Int)) < 0))), (N ((Int.fdiv (min (min (min (Int.fdiv (min (a * 2 ^ (v).toNat) (b * 2 ^ (v).toNat)) c) (-(Int.fdiv (-(max (a * 2 ^ (v).toNat) (b * 2 ^ (v).toNat))) c))) (Int.fdiv (min (a * 2 ^ (v).toNat) (b * 2 ^ (v).toNat)) d)) (-(Int.fdiv (-(max (a * 2 ^ (v).toNat) (b * 2 ^ (v).toNat))) d))) (1 : Int)).natAbs)), (.bool (decide ((-(Int.fdiv (-(max (max (max (Int.fdiv (min (a * 2 ^ (v).toNat) (b * 2 ^ (v).toNat)) c) (-(Int.fdiv (-(max (a * 2 ^ (v).toNat) (b * 2 ^ (v).toNat))) c))) (Int.fdiv (min (a * 2 ^ (v).toNat) (b * 2 ^ (v).toNat)) d)) (-(Int.fdiv (-(max (a * 2 ^ (v).toNat) (b * 2 ^ (v).toNat))) d)))) (1 : Int))) < 0))), (N ((-(Int.fdiv (-(max (max (max (Int.fdiv (min (a * 2 ^ (v).toNat) (b * 2 ^ (v).toNat)) c) (-(Int.fdiv (-(max (a * 2 ^ (v).toNat) (b * 2 ^ (v).toNat))) c))) (Int.fdiv (min (a * 2 ^ (v).toNat) (b * 2 ^ (v).toNat)) d)) (-(Int.fdiv (-(max (a * 2 ^ (v).toNat) (b * 2 ^ (v).toNat))) d)))) (1 : Int))).natAbs))]) (.agg [(.bool (decide ((rdv a b c d (2 ^ (v).toNat)).1 < 0))), (N (((rdv a b c d (2 ^ (v).toNat)).1).natAbs)), (.bool (decide ((rdv a b c d (2 ^ (v).toNat)).2 < 0))), (N (((rdv a b c d (2 ^ (v).toNat)).2).natAbs))])))))))))) (by kernel_rfl))
theorem r13_Near0 (m : Int) (e : Int) (n : Int) (f : Int) (l1 : Int) (l2 : Int) (l3 : Int) (l4 : Int) (g1 : Int) (g2 : Int) (g3 : Int) (g4 : Int) (w : Int) (b1 : Int) (b2 : Int) (d1 : Int) (d2 : Int) (u1 : Int) (u2 : Int) (k1 : Int) (k2 : Int) (k3 : Int) (k4 : Int) (c0 : (0 : Int) ≤ w ∧ w ≤ 4096) (c1 : Impl Tryz.prog Amb 39 [(wV m e n f)] (.bool true)) (c2 : Impl Tryz.prog Amb 40 [(yV m e), (.int .i64 w)] (.bool true)) (c3 : Impl Tryz.prog Amb 40 [(yV n f), (.int .i64 w)] (.bool true)) (c4 : Impl Tryz.prog Amb 41 [(.int .i64 (w - 1))] (.tup [(yV u1 u2), (.int .i64 0)])) (c5 : Impl Tryz.prog Amb 80 [(yV l1 l2), (yV u1 u2)] (.tup [(yV b1 b2), (.int .i64 0)])) (c6 : Impl Tryz.prog Amb 35 [(yV g3 g4), (yV u1 u2)] (.tup [(yV d1 d2), (.int .i64 0)])) (c7 : Impl Tryz.prog Amb 43 [(yV m e), (yV l3 l4)] (.int .i64 k1)) (c8 : Impl Tryz.prog Amb 43 [(yV b1 b2), (yV m e)] (.int .i64 k2)) (c9 : Impl Tryz.prog Amb 43 [(yV g1 g2), (yV n f)] (.int .i64 k3)) (c10 : Impl Tryz.prog Amb 43 [(yV n f), (yV d1 d2)] (.int .i64 k4)) (c11 : k1 ≤ 0 ∧ k2 ≤ 0 ∧ k3 ≤ 0 ∧ k4 ≤ 0) : Impl Tryz.prog Amb 20 [(wV m e n f), (wV l1 l2 l3 l4), (wV g1 g2 g3 g4), (.int .i64 w)] (.bool true) := by
  exact impl_ob hP hAmb Tryz.func20 (by kernel_rfl) (.lits 2 <| .call (.bool true) <| .lits 7 <| .call (.bool true) <| .lits 9 <| .call (.bool true) <| .lits 5 <| .yes <| .lit <| .call (.tup [(yV u1 u2), (.int .i64 0)]) <| .lits 4 <| .call (.tup [(yV b1 b2), (.int .i64 0)]) <| .lits 4 <| .call (.tup [(yV d1 d2), (.int .i64 0)]) <| .lits 14 <| .call (.int .i64 k1) <| .lits 3 <| .yes <| .lits 6 <| .call (.int .i64 k2) <| .lits 3 <| .yes <| .lits 7 <| .call (.int .i64 k3) <| .lits 3 <| .yes <| .lits 6 <| .call (.int .i64 k4) <| .lits 4 <| .ret)
    (cast_ob (aI True.intro (aI (c1 ) (aI (c2 ) (aI (c3 ) (aI (fits_i64 oS : (fits .i64 (w - 1)) = true) (aI (c4 ) (aI (c5 ) (aI (c6 ) (aI (c7 ) (aI (iLe_mk oS : (iLe k1 0) = true) (aI (c8 ) (aI (iLe_mk oS : (iLe k2 0) = true) (aI (c9 ) (aI (iLe_mk oS : (iLe k3 0) = true) (aI (c10 ) ((vsub_of (congrArg V.bool (iLe_mk oO)) : vsub (.bool (iLe k4 0)) (.bool true)))))))))))))))))) (by kernel_rfl))
theorem r13_Near (lo hi a1 b1 a2 b2 w : Int) (hw : 0 ≤ w ∧ w ≤ 1500) (L1 : L lo.natAbs ≤ 300) (L2 : L hi.natAbs ≤ 300) (L3 : L a1.natAbs ≤ 300) (L4 : L b1.natAbs ≤ 300) (L5 : L a2.natAbs ≤ 300) (L6 : L b2.natAbs ≤ 300)
    (o : lo ≤ hi) (h1 : lo * 2 ^ 16 ≤ b1) (h2 : a1 ≤ (lo + 2) * 2 ^ 16) (h3 : a2 ≤ hi * 2 ^ 16) (h4 : (hi - 2) * 2 ^ 16 ≤ b2) :
    Impl Tryz.prog Amb 20 [(wV (mkM lo (-w)) (mkX lo (-w)) (mkM hi (-w)) (mkX hi (-w))), (wV (mkM a1 (-(w + 16))) (mkX a1 (-(w + 16))) (mkM b1 (-(w + 16))) (mkX b1 (-(w + 16)))), (wV (mkM a2 (-(w + 16))) (mkX a2 (-(w + 16))) (mkM b2 (-(w + 16))) (mkX b2 (-(w + 16)))), .int .i64 w] (.bool true) := by
  have f1 := mk_fit (m := lo) (e := -w) oO oO
  have f2 := mk_fit (m := hi) (e := -w) oO oO
  have f3 := mk_fit (m := a1) (e := -(w + 16)) oO oO
  have f4 := mk_fit (m := b1) (e := -(w + 16)) oO oO
  have f5 := mk_fit (m := a2) (e := -(w + 16)) oO oO
  have f6 := mk_fit (m := b2) (e := -(w + 16)) oO oO
  have ev : ivB (mkM lo (-w)) (mkX lo (-w)) (mkM hi (-w)) (mkX hi (-w)) = true := by
    unfold ivB
    rw [f1.2.2.2.2.1, f2.2.2.2.2.1, decide_eq_true (cmpD_le.2 (by rw [f1.2.2.2.2.2, f2.2.2.2.2.2]; exact dv_le.2 o))]; rfl
  have n1 := mk_on (p := w) f1.1 oO oO
  have n2 := mk_on (p := w) f2.1 oO oO
  have u := mk_unit (p := w - 1) oO
  have hU := r09_Unit (w - 1) oO
  rw [u.1, u.2.1, u.2.2.1] at hU
  have i1 := iMin_range (-w) 0
  have i2 : iMax (-w) 0 ≤ 0 := by unfold iMax; split <;> omega
  have i3 := iMin_range (-(w + 16)) 0
  have i4 : iMax (-(w + 16)) 0 ≤ 0 := by unfold iMax; split <;> omega
  have z1 := L_lit 1 (by decide)
  have du : dv 1 (-(w - 1)) = dv 2 (-w) := by
    have := dv_shl 1 (-w) 1
    rw [show (1 : Int) * 2 ^ 1 = 2 from rfl, show -w + ((1 : Nat) : Int) = -(w - 1) by omega] at this
    exact this.symm
  have xw : ((w.toNat : Nat) : Int) = w := Int.toNat_of_nonneg hw.1
  have dn : ∀ {a b : Int} {n : Nat}, a * 2 ^ n ≤ b → dv a (-w) ≤ dv b (-(w + (n : Int))) := fun h => by
    have := (dv_fine (w := w.toNat)).2 h
    rwa [xw] at this
  have dm2 : ∀ {a b : Int} {n : Nat}, b ≤ a * 2 ^ n → dv b (-(w + (n : Int))) ≤ dv a (-w) := fun h => by
    have := (dv_fine2 (w := w.toNat)).2 h
    rwa [xw] at this
  have sb := r08_Sub (mkM a1 (-(w + 16))) (mkX a1 (-(w + 16))) 1 (-(w - 1)) oO (by show L 1 ≤ 8192; omega) oO oO
  have ab := r08_Add (mkM b2 (-(w + 16))) (mkX b2 (-(w + 16))) 1 (-(w - 1)) oO (by show L 1 ≤ 8192; omega) oO oO
  have m1 := iMin_range (mkX a1 (-(w + 16))) (-(w - 1))
  have m2 := iMin_range (mkX b2 (-(w + 16))) (-(w - 1))
  have ln1 : L (-1 : Int).natAbs ≤ 300 := by show L 1 ≤ 300; omega
  have s1 := adS_L (m := mkM a1 (-(w + 16))) (e := mkX a1 (-(w + 16))) (n := -1) (f := -(w - 1)) (a := 300) (c := 400) oO ln1 oO oO
  have s2 := adS_L (m := mkM b2 (-(w + 16))) (e := mkX b2 (-(w + 16))) (n := 1) (f := -(w - 1)) (a := 300) (c := 400) oO (by show L 1 ≤ 300; omega) oO oO
  have e1 := mk_fit (m := adS (mkM a1 (-(w + 16))) (mkX a1 (-(w + 16))) (-1) (-(w - 1))) (e := iMin (mkX a1 (-(w + 16))) (-(w - 1))) oO oO
  have e2 := mk_fit (m := adS (mkM b2 (-(w + 16))) (mkX b2 (-(w + 16))) 1 (-(w - 1))) (e := iMin (mkX b2 (-(w + 16))) (-(w - 1))) oO oO
  have j1 := iMin_range (iMin (mkX a1 (-(w + 16))) (-(w - 1))) 0
  have j2 : iMax (iMin (mkX a1 (-(w + 16))) (-(w - 1))) 0 ≤ 20000 := by unfold iMax; split <;> omega
  have j3 := iMin_range (iMin (mkX b2 (-(w + 16))) (-(w - 1))) 0
  have j4 : iMax (iMin (mkX b2 (-(w + 16))) (-(w - 1))) 0 ≤ 20000 := by unfold iMax; split <;> omega
  rw [e1.1] at sb
  rw [e2.1] at ab
  have hd1 := e1.2.2.2.2.2
  have hd2 := e2.2.2.2.2.2
  rw [dv_ad, f3.2.2.2.2.2, dv_neg, du] at hd1
  rw [dv_ad, f6.2.2.2.2.2, du] at hd2
  refine r13_Near0 _ _ _ _ _ _ _ _ _ _ _ _ w _ _ _ _ 1 (-(w - 1)) _ _ _ _ oO ?_ ?_ ?_ hU sb ab (r08_Cmp _ _ _ _ oO oO oO oO) (r08_Cmp _ _ _ _ oO oO oO oO) (r08_Cmp _ _ _ _ oO oO oO oO) (r08_Cmp _ _ _ _ oO oO oO oO) ⟨?_, ?_, ?_, ?_⟩
  · exact impl_eq (congrArg V.bool ev) (r10_Valid _ _ _ _ oO oO)
  · exact impl_eq (congrArg V.bool n1) (r09_On _ _ w oO oO)
  · exact impl_eq (congrArg V.bool n2) (r09_On _ _ w oO oO)
  · rw [cmpD_le, f1.2.2.2.2.2, f4.2.2.2.2.2]
    exact dn h1
  · rw [cmpD_le, hd1, f1.2.2.2.2.2]
    have := dm2 h2
    rw [dv_add] at this
    grind
  · rw [cmpD_le, f5.2.2.2.2.2, f2.2.2.2.2.2]
    exact dm2 h3
  · rw [cmpD_le, hd2, f2.2.2.2.2.2]
    have := dn h4
    rw [Int.sub_eq_add_neg, dv_add, dv_neg] at this
    grind
end Go.Proofs.YtekcladflnieeaaGreatDoor

namespace Go.Proofs.YtekcladflnieeaaGreatDoor
theorem dv_ge0 {m e : Int} : 0 ≤ dv m e ↔ 0 ≤ m := by rw [← dv_zero e, dv_le]
theorem dv_top {m e : Int} (hm : m ≠ 0) : dv (m.natAbs : Int) e < dv 1 (topD m e) ∧ dv 1 (topD m e - 1) ≤ dv (m.natAbs : Int) e := by
  have h1 := nbits_lt m.natAbs
  have h2 := nbits_le (show m.natAbs ≠ 0 by omega)
  have h3 := nbits_pos (show m.natAbs ≠ 0 by omega)
  have ht : topD m e = (nbits m.natAbs : Int) + e := by unfold topD; rw [if_neg hm]
  constructor
  · rw [dv_at (m := 1) (show e ≤ topD m e by omega), dv_lt, Int.one_mul, pow_cast, show (topD m e - e).toNat = nbits m.natAbs by omega]; omega
  · rw [dv_at (m := 1) (show e ≤ topD m e - 1 by omega), dv_le, Int.one_mul, pow_cast, show (topD m e - 1 - e).toNat = nbits m.natAbs - 1 by omega]; omega
theorem dv1_le {a b : Int} (h : a ≤ b) : dv 1 a ≤ dv 1 b := by
  rw [dv_at h, dv_le, Int.one_mul, pow_cast]
  have := Nat.pow_pos (n := (b - a).toNat) (show 0 < 2 by omega); omega
theorem dv1_pos (t : Int) : 0 < dv 1 t := dv_pos.2 (by decide)
end Go.Proofs.YtekcladflnieeaaGreatDoor

namespace Go.Proofs.YtekcladflnieeaaGreatDoor
theorem PL_odd {y z : Rat} (h : y ≤ z) : ∀ k, PL y k ≤ PL z k
  | 0 => Rat.le_refl
  | k + 1 => by
    have i := PL_odd h k
    have p := odd_mono h (k := 2 * k + 1) (by omega)
    have n0 : (0 : Rat) < (odn k : Rat) := Rat.intCast_pos.2 (odn_pos k)
    have d : y ^ (2 * k + 1) / (odn k : Rat) ≤ z ^ (2 * k + 1) / (odn k : Rat) := by
      rw [Rat.div_def, Rat.div_def]
      exact Rat.mul_le_mul_of_nonneg_right p (Rat.le_of_lt (Rat.inv_pos.2 n0))
    show PL y k + y ^ (2 * k + 1) / (odn k : Rat) ≤ PL z k + z ^ (2 * k + 1) / (odn k : Rat)
    grind
theorem PL_cap {z c : Rat} (hz : 0 ≤ z) (h2 : 2 * z ≤ 1) (h : PL z 100 + z ^ 199 ≤ c) (K : Nat) : PL z K ≤ c := by
  have t := (PL_hi hz h2 (j := 99) (K := 100 + K) (by omega)).2
  have m := PL_mono hz (j := K) 100
  rw [Nat.add_comm] at m
  exact Rat.le_trans m (Rat.le_trans t h)
theorem PL_num : 2 * (PL (1 / 5) 100 + (1 / 5) ^ 199) + 2 * (PL (1 / 7) 100 + (1 / 7) ^ 199) ≤ cLn + dv 1 (-420) := of_decide_eq_true (by kernel_rfl)
theorem z_mono {M N : Rat} (hM : 0 < M) (h : M ≤ N) : (M - 1) / (M + 1) ≤ (N - 1) / (N + 1) := by
  have a : (0 : Rat) < M + 1 := by grind
  have b : (0 : Rat) < N + 1 := by grind
  have e1 := Rat.div_mul_cancel (a := M - 1) (b := M + 1) (by grind)
  have e2 := Rat.div_mul_cancel (a := N - 1) (b := N + 1) (by grind)
  generalize (M - 1) / (M + 1) = x at *
  generalize (N - 1) / (N + 1) = y at *
  refine Decidable.byContradiction fun hn => ?_
  have hn := Rat.not_le.1 hn
  have m := Rat.mul_lt_mul_of_pos_right hn (Rat.mul_pos a b)
  have a1 : y * ((M + 1) * (N + 1)) = (N - 1) * (M + 1) := by rw [← e2]; grind
  have a2 : x * ((M + 1) * (N + 1)) = (M - 1) * (N + 1) := by rw [← e1]; grind
  rw [a1, a2] at m
  grind
theorem zp_step {k1 k2 : Int} (h : k1 < k2) : (2 : Rat) * 2 ^ k1 ≤ 2 ^ k2 := by
  have e : (2 : Rat) ^ (k1 + 1) = 2 ^ k1 * 2 := by
    rw [zp_add]; rfl
  have l := dv1_le (a := k1 + 1) (b := k2) (by omega)
  unfold dv at l
  rw [Rat.intCast_one, Rat.one_mul, Rat.one_mul] at l
  grind
theorem ln_mono {M N : Rat} {k1 k2 : Int} (hM : 3 ≤ 4 * M) (hM2 : 2 * M < 3) (hN : 3 ≤ 4 * N) (hN2 : 2 * N < 3) (h : M * 2 ^ k1 ≤ N * 2 ^ k2) (K : Nat) : LnF M k1 K ≤ LnF N k2 K + dv 1 (-420) := by
  have p1 := zp_pos k1
  have p2 := zp_pos k2
  have e0 : (0 : Rat) < dv 1 (-420) := dv1_pos _
  unfold LnF
  rcases Int.lt_trichotomy k1 k2 with hk | hk | hk
  · have z1 := z_mono (M := M) (N := 3 / 2) (by grind) (by grind)
    have z2 := z_mono (M := 3 / 4) (N := N) (by grind) (by grind)
    rw [show ((3 : Rat) / 2 - 1) / (3 / 2 + 1) = 1 / 5 by grind] at z1
    rw [show ((3 : Rat) / 4 - 1) / (3 / 4 + 1) = -(1 / 7) by grind] at z2
    have q1 := PL_odd z1 K
    have q2 := PL_odd z2 K
    rw [PL_neg] at q2
    have c1 := PL_cap (z := 1 / 5) (by grind) (by grind) Rat.le_refl K
    have c2 := PL_cap (z := 1 / 7) (by grind) (by grind) Rat.le_refl K
    have nm := PL_num
    have c0 : (0 : Rat) ≤ cLn := dv_ge0.2 (by decide)
    have kk : ((k1 + 1 : Int) : Rat) ≤ (k2 : Rat) := Rat.intCast_le_intCast.2 (by omega)
    rw [Rat.intCast_add, Rat.intCast_one] at kk
    have mk := Rat.mul_le_mul_of_nonneg_right kk c0
    grind
  · subst hk
    have hMN : M ≤ N := Rat.le_of_mul_le_mul_right h p1
    have q := PL_odd (z_mono (by grind) hMN) K
    grind
  · exfalso
    have s := zp_step hk
    have a := Rat.mul_le_mul_of_nonneg_left s (show (0 : Rat) ≤ M by grind)
    have b := Rat.mul_le_mul_of_nonneg_right hM (Rat.le_of_lt p2)
    have c := Rat.mul_lt_mul_of_pos_right hN2 p2
    grind
theorem grid_le {a b : Int} {F G : Rat} {s : Nat} (hs : s ≤ 400) (h1 : (a : Rat) ≤ F * ((2 ^ s : Int) : Rat)) (h2 : G * ((2 ^ s : Int) : Rat) ≤ (b : Rat)) (h : F ≤ G + dv 1 (-420)) : a ≤ b := by
  have T0 : (0 : Rat) < ((2 ^ s : Int) : Rat) := Rat.intCast_pos.2 (two_pos s)
  have m := Rat.mul_le_mul_of_nonneg_right h (Rat.le_of_lt T0)
  have e : dv 1 (-420) * ((2 ^ s : Int) : Rat) < 1 := by
    have l := dv1_le (a := -420) (b := -(s : Int) - 1) (by omega)
    have m2 := Rat.mul_le_mul_of_nonneg_right l (Rat.le_of_lt T0)
    have d : dv 1 (-(s : Int) - 1) * ((2 ^ s : Int) : Rat) = 1 / 2 := by
      have e1 : dv 1 (-(s : Int)) = 2 * dv 1 (-(s : Int) - 1) := by
        have := dv_shl 1 (-(s : Int) - 1) 1
        rw [show -(s : Int) - 1 + ((1 : Nat) : Int) = -(s : Int) by omega] at this
        rw [← this]
        unfold dv
        rw [Rat.intCast_mul]
        show (1 * 2 : Rat) * _ = 2 * (1 * _)
        grind
      have e2 := dv_sc 1 s
      rw [e1, Rat.intCast_one] at e2
      generalize dv 1 (-(s : Int) - 1) = u at *
      generalize ((2 ^ s : Int) : Rat) = T at *
      grind
    rw [d] at m2
    generalize dv 1 (-420) * ((2 ^ s : Int) : Rat) = u at *
    grind
  generalize ((2 ^ s : Int) : Rat) = T at *
  refine Decidable.byContradiction fun hn => ?_
  have : ((b + 1 : Int) : Rat) ≤ (a : Rat) := Rat.intCast_le_intCast.2 (by omega)
  rw [Rat.intCast_add, Rat.intCast_one] at this
  grind
theorem ln_grid {M N : Rat} {k1 k2 a b c d : Int} {s : Nat} (hs : s ≤ 400) (hM : 3 ≤ 4 * M) (hM2 : 2 * M < 3) (hN : 3 ≤ 4 * N) (hN2 : 2 * N < 3) (h : M * 2 ^ k1 ≤ N * 2 ^ k2) (h1 : Encl (LnF M k1) s a b) (h2 : Encl (LnF N k2) s c d) : a ≤ d := by
  obtain ⟨A, h1⟩ := h1
  obtain ⟨C, h2⟩ := h2
  exact grid_le hs (h1 (A + C) (by omega)).1 (h2 (A + C) (by omega)).2 (ln_mono hM hM2 hN hN2 h (A + C))
end Go.Proofs.YtekcladflnieeaaGreatDoor

namespace Go.Proofs.YtekcladflnieeaaGreatDoor
def spl (m e : Int) : Int := topD m e - (if cmpD m (e - topD m e) 3 (-2) < 0 then 1 else 0)
theorem sp_y {m e : Int} (h : cmpD m (e - topD m e) 3 (-2) < 0) : topD m e - 1 = spl m e ∧ e - topD m e + 1 = e - spl m e := by
  unfold spl; rw [if_pos h]; omega
theorem sp_n {m e : Int} (h : 0 ≤ cmpD m (e - topD m e) 3 (-2)) : topD m e = spl m e ∧ e - topD m e = e - spl m e := by
  unfold spl; rw [if_neg (by omega)]; omega
theorem dv_exp (m e k : Int) : dv m e = dv m (e - k) * 2 ^ k := by
  unfold dv
  rw [Rat.mul_assoc, ← zp_add, show e - k + k = e by omega]
theorem dv_three : dv 3 (-2) = 3 / 4 := by
  have h : dv 3 (-2) * 2 ^ (2 : Int) = 3 := by
    rw [show dv 3 (-2) * 2 ^ (2 : Int) = dv 3 0 from (dv_exp 3 0 2).symm, dv_int]; rfl
  rw [show (2 : Rat) ^ (2 : Int) = 4 from rfl] at h
  grind
theorem dv_half (m e : Int) : dv m e = 2 * dv m (e - 1) := by
  have := dv_exp m e 1
  rw [show (2 : Rat) ^ (1 : Int) = 2 from rfl] at this
  grind
theorem sp_top {m e : Int} (h : 0 < m) : 1 ≤ 2 * dv m (e - topD m e) ∧ dv m (e - topD m e) < 1 := by
  have t := dv_top (m := m) (e := e) (by omega)
  rw [show (m.natAbs : Int) = m by omega] at t
  have p := zp_pos (topD m e)
  have e1 := dv_exp m e (topD m e)
  have e2 := dv_half 1 (topD m e)
  have e3 : dv 1 (topD m e) = 2 ^ topD m e := by unfold dv; rw [Rat.intCast_one, Rat.one_mul]
  rw [e3] at e2 t
  rw [e1] at t
  constructor
  · refine Rat.le_of_mul_le_mul_right (c := (2 : Rat) ^ topD m e) ?_ p
    grind
  · exact (Rat.mul_lt_mul_right p).1 (by rw [Rat.one_mul]; exact t.1)
theorem sp_facts {m e : Int} (h : 0 < m) : 3 ≤ 4 * dv m (e - spl m e) ∧ 2 * dv m (e - spl m e) < 3 ∧ dv m e = dv m (e - spl m e) * 2 ^ spl m e ∧ e ≤ spl m e ∧ spl m e ≤ 32 * (L m.natAbs : Int) + e := by
  have t := sp_top (e := e) h
  have r := topD_range m e
  have e1 := dv_exp m e (spl m e)
  have three := dv_three
  by_cases c : cmpD m (e - topD m e) 3 (-2) < 0
  · have s := sp_y c
    have l := cmpD_neg.1 c
    have d := dv_half m (e - spl m e)
    rw [show e - spl m e - 1 = e - topD m e by omega] at d
    refine ⟨by grind, by grind, e1, by omega, by omega⟩
  · have s := sp_n (m := m) (e := e) (by omega)
    have l : 3 / 4 ≤ dv m (e - topD m e) := by
      rw [← three]
      exact Rat.not_lt.1 fun q => c (cmpD_neg.2 q)
    rw [← s.2]
    refine ⟨by grind, by grind, by rw [s.2]; exact e1, by omega, by omega⟩
theorem rs_y {m e M X : Int} (h : 0 < m) (hl : dv M X = 3 / 2) (c : 0 ≤ cmpD m (1 - (nbits m.natAbs : Int)) M X) : e + (nbits m.natAbs : Int) - 1 + 1 = spl m e ∧ 1 - (nbits m.natAbs : Int) - 1 = e - spl m e := by
  have tt : topD m e = (nbits m.natAbs : Int) + e := by unfold topD; rw [if_neg (by omega)]
  have d := dv_half m (1 - (nbits m.natAbs : Int))
  have three := dv_three
  have l : 3 / 2 ≤ dv m (1 - (nbits m.natAbs : Int)) := by
    rw [← hl]
    exact Rat.not_lt.1 fun q => by have := cmpD_neg.2 q; omega
  have n : ¬ cmpD m (e - topD m e) 3 (-2) < 0 := fun q => by
    have q := cmpD_neg.1 q
    rw [tt, show e - ((nbits m.natAbs : Int) + e) = 1 - (nbits m.natAbs : Int) - 1 by omega] at q
    grind
  have s := sp_n (m := m) (e := e) (by omega)
  omega
theorem rs_n {m e M X : Int} (h : 0 < m) (hl : dv M X = 3 / 2) (c : cmpD m (1 - (nbits m.natAbs : Int)) M X < 0) : e + (nbits m.natAbs : Int) - 1 = spl m e ∧ 1 - (nbits m.natAbs : Int) = e - spl m e := by
  have tt : topD m e = (nbits m.natAbs : Int) + e := by unfold topD; rw [if_neg (by omega)]
  have d := dv_half m (1 - (nbits m.natAbs : Int))
  have three := dv_three
  have l := cmpD_neg.1 c
  have n : cmpD m (e - topD m e) 3 (-2) < 0 := cmpD_neg.2 (by
    rw [tt, show e - ((nbits m.natAbs : Int) + e) = 1 - (nbits m.natAbs : Int) - 1 by omega]
    grind)
  have s := sp_y n
  omega
theorem spl_r1 {m z k k' e e' c : Int} (hs : z = m) (h : k = k' ∧ e = e') : vsub (.tup [.int .i64 k, .agg [.bool (decide (z < 0)), N z.natAbs, .int .i64 e], .int .i64 c]) (.tup [.int .i64 k', .agg [.bool (decide (m < 0)), N m.natAbs, .int .i64 e'], .int .i64 c]) := by
  obtain ⟨rfl, rfl⟩ := h
  subst hs
  exact vsub_refl _
theorem spl_r3 {m k k' e e' c : Int} (h : k = k' ∧ e = e') : vsub (.tup [.int .i64 k, .agg [.bool (decide (m < 0)), N m.natAbs, .int .i64 e], .int .i64 c]) (.tup [.int .i64 k', .agg [.bool (decide (m < 0)), N m.natAbs, .int .i64 e'], .int .i64 c]) := spl_r1 rfl h
theorem three_half : dv (mkM (mkM 3 0) (-1)) (mkX (mkM 3 0) (-1)) = 3 / 2 := by
  have l := L_lit (3 : Int).natAbs (by decide)
  have f := mk_fit (m := 3) (e := 0) (by omega) (by omega)
  have l2 := f.2.1
  have g := mk_fit (m := mkM 3 0) (e := -1) (by omega) (by omega)
  have m3 : mkM 3 0 = 3 := by kernel_rfl
  rw [g.2.2.2.2.2, m3]
  have d := dv_half 3 0
  rw [dv_int, show ((3 : Int) : Rat) = 3 from rfl, show (0 : Int) - 1 = -1 from rfl] at d
  grind
end Go.Proofs.YtekcladflnieeaaGreatDoor
