/-
  Lower layers: what functions of the program compute, and plain facts. Conditions: as the theorems say.
-/
import Derived.Test.YtekcladflnieeaaGreatDoorChecked
import Derived.Test.YtekcladflnieeaaGreatDoorRows
import Derived.WalkKit
import Derived.ProofKit
import Derived.OpenShut
import Derived.Deep.DeepHandedRow
import Derived.Lib.LaidTab
import Derived.Lib.SmallJoins
import Derived.ChangeSlices
import Derived.Carry
import Derived.Test.YtekcladflnieeaaGreatDoorCards
import Derived.Test.YtekcladflnieeaaGreatDoorTie
import Derived.Test.YtekcladflnieeaaGreatDoorPkQ
set_option linter.unusedVariables false
set_option linter.unusedSimpArgs false
namespace Go.Proofs.YtekcladflnieeaaGreatDoor
open Go.RowKit
set_option maxRecDepth 100000
set_option maxHeartbeats 2000000
theorem ln32 : lnLo 32 = 2977044084 ∧ lnHi 32 = 2977044804 := ⟨by kernel_rfl, by kernel_rfl⟩
theorem e32 : ((2 ^ 32 : Int) : Rat) = 4294967296 := by rw [show (2 : Int) ^ 32 = 4294967296 from by kernel_rfl]; rfl
theorem near_k32 {d c : Rat} {p1 p2 k : Int} (hp1 : (p1 : Rat) ≤ d * 4294967296) (hp2 : d * 4294967296 ≤ (p2 : Rat)) (hp : p2 ≤ p1 + 1) (hq1 : (2977044084 : Rat) ≤ c * 4294967296) (hq2 : c * 4294967296 ≤ (2977044804 : Rat))
    (hk : k = Int.fdiv (((p1 + p2) * 2 ^ 1) + (2977044084 + 2977044804)) ((2977044084 + 2977044804) * 2 ^ 1)) (d1 : -512 ≤ d) (d2 : d ≤ 512) : (-900 ≤ k ∧ k ≤ 900) ∧ -36 ≤ 100 * (d - (k : Rat) * c) ∧ 100 * (d - (k : Rat) * c) ≤ 36 := by
  have P1 : -512 * 4294967296 ≤ p2 := by
    refine Rat.intCast_le_intCast.1 ?_
    rw [Rat.intCast_mul]
    show (-512 : Rat) * 4294967296 ≤ p2
    grind
  have P2 : p1 ≤ 512 * 4294967296 := by
    refine Rat.intCast_le_intCast.1 ?_
    rw [Rat.intCast_mul]
    show (p1 : Rat) ≤ 512 * 4294967296
    grind
  rw [Int.fdiv_eq_ediv_of_nonneg _ oO] at hk
  have f1 := Int.ediv_mul_le (((p1 + p2) * 2 ^ 1) + (2977044084 + 2977044804)) (show ((2977044084 : Int) + 2977044804) * 2 ^ 1 ≠ 0 by omega)
  have f2 := Int.lt_ediv_add_one_mul_self (((p1 + p2) * 2 ^ 1) + (2977044084 + 2977044804)) (show 0 < ((2977044084 : Int) + 2977044804) * 2 ^ 1 by omega)
  rw [← hk] at f1 f2
  rw [show (2 : Int) ^ 1 = 2 from rfl] at f1 f2
  have f1 : k * 11908177776 ≤ 2 * p1 + 2 * p2 + 5954088888 := by omega
  have f2 : 2 * p1 + 2 * p2 + 5954088888 ≤ (k + 1) * 11908177776 := by omega
  have K1 : k ≤ 900 := by omega
  have K2 : -900 ≤ k := by omega
  refine ⟨⟨K2, K1⟩, ?_⟩
  have g1 := Rat.intCast_le_intCast.2 f1
  have g2 := Rat.intCast_le_intCast.2 f2
  simp only [Rat.intCast_mul, Rat.intCast_add] at g1 g2
  have g1 : (k : Rat) * 11908177776 ≤ 2 * (p1 : Rat) + 2 * (p2 : Rat) + 5954088888 := g1
  have g2 : 2 * (p1 : Rat) + 2 * (p2 : Rat) + 5954088888 ≤ ((k : Rat) + 1) * 11908177776 := g2
  have hpR : (p2 : Rat) ≤ (p1 : Rat) + 1 := by
    have : (p2 : Rat) ≤ ((p1 + 1 : Int) : Rat) := Rat.intCast_le_intCast.2 hp
    rw [Rat.intCast_add] at this; exact this
  have k1R : (k : Rat) ≤ 1000 := by
    have : (k : Rat) ≤ ((1000 : Int) : Rat) := Rat.intCast_le_intCast.2 (Int.le_trans K1 (by decide))
    exact this
  have k2R : (-1000 : Rat) ≤ (k : Rat) := by
    have : ((-1000 : Int) : Rat) ≤ (k : Rat) := Rat.intCast_le_intCast.2 (Int.le_trans (by decide) K2)
    exact this
  generalize (k : Rat) = K at *
  generalize (p1 : Rat) = p at *
  generalize (p2 : Rat) = p' at *
  clear f1 f2 hk K1 K2 P1 P2 hp
  rcases (Rat.le_total : 0 ≤ K ∨ K ≤ 0) with hK | hK
  · have m1 := Rat.mul_le_mul_of_nonneg_left hq1 hK
    have m2 := Rat.mul_le_mul_of_nonneg_left hq2 hK
    constructor <;> grind
  · have m1 := Rat.mul_le_mul_of_nonneg_left hq1 (show 0 ≤ -K by grind)
    have m2 := Rat.mul_le_mul_of_nonneg_left hq2 (show 0 ≤ -K by grind)
    constructor <;> grind
theorem ex_span (m ee k ss : Int) (hs : 0 ≤ ss ∧ ss ≤ 380) (hm : L (m).natAbs ≤ 20) (he : -440 ≤ ee ∧ ee ≤ 130) (hk : -1000 ≤ k ∧ k ≤ 1000) :
    ∃ a1 a2 u1 u2 t1 t2 d1 d2 x1 x2 : Int, (Impl Tryz.prog Amb 105 [(yV m ee), (.int .i64 (ss + 16))] (.agg [(.bool (decide (a1 < 0))), (N a1.natAbs), (.bool (decide (a2 < 0))), (N a2.natAbs)]) ∧ Impl Tryz.prog Amb 106 [(.int .i64 (ss + 16))] (.agg [(.bool (decide (u1 < 0))), (N u1.natAbs), (.bool (decide (u2 < 0))), (N u2.natAbs)]) ∧ Impl Tryz.prog Amb 110 [(.agg [(.bool (decide (u1 < 0))), (N u1.natAbs), (.bool (decide (u2 < 0))), (N u2.natAbs)]), (.int .i64 k)] (.agg [(.bool (decide (t1 < 0))), (N t1.natAbs), (.bool (decide (t2 < 0))), (N t2.natAbs)]) ∧ Impl Tryz.prog Amb 109 [(.agg [(.bool (decide (a1 < 0))), (N a1.natAbs), (.bool (decide (a2 < 0))), (N a2.natAbs)]), (.agg [(.bool (decide (t1 < 0))), (N t1.natAbs), (.bool (decide (t2 < 0))), (N t2.natAbs)])] (.agg [(.bool (decide (d1 < 0))), (N d1.natAbs), (.bool (decide (d2 < 0))), (N d2.natAbs)]) ∧ Impl Tryz.prog Amb 111 [(.agg [(.bool (decide (d1 < 0))), (N d1.natAbs), (.bool (decide (d2 < 0))), (N d2.natAbs)]), (.int .i64 16)] (.agg [(.bool (decide (x1 < 0))), (N x1.natAbs), (.bool (decide (x2 < 0))), (N x2.natAbs)])) ∧
      x1 ≤ x2 ∧ x2 - x1 ≤ 300001 ∧ (x1 : Rat) ≤ (dv m ee - (k : Rat) * cLn) * ((2 ^ ss.toNat : Int) : Rat) ∧ (dv m ee - (k : Rat) * cLn) * ((2 ^ ss.toNat : Int) : Rat) ≤ (x2 : Rat) := by
  obtain ⟨t, ht⟩ : ∃ t : Nat, (t : Int) = ss + 16 := ⟨(ss + 16).toNat, by omega⟩
  have hO := fx_Of m ee (ss + 16) oO oO oO
  have lf := flr_LD m ee (ss + 16)
  have sc1 := flr_sc (dv m ee) t
  have sc2 := cei_sc (dv m ee) t
  have fc := flr_cei1 (dv m ee) t
  have cl := cln_at (t := t) oO
  rw [ht] at sc1 sc2 fc cl
  have b := ln_ok (s := ss + 16) oO
  have bl := ln_le (ss + 16)
  have bw : lnHi (ss + 16) - lnLo (ss + 16) < 16777216 := by
    have := nbits_lt (lnHi (ss + 16) - lnLo (ss + 16)).natAbs
    have p := Nat.pow_le_pow_right (n := 2) oO b.2.2
    omega
  have hL := fx_Ln2 (ss + 16) oO
  have hL : Impl Tryz.prog Amb 106 [(.int .i64 (ss + 16))] (.agg [(.bool (decide ((lnLo (ss + 16)) < 0))), (N ((lnLo (ss + 16)).natAbs)), (.bool (decide ((lnHi (ss + 16)) < 0))), (N ((lnHi (ss + 16)).natAbs))]) := hL
  generalize lnLo (ss + 16) = q1 at *
  generalize lnHi (ss + 16) = q2 at *
  generalize flr (dv m ee) (ss + 16) = p1 at *
  generalize cei (dv m ee) (ss + 16) = p2 at *
  have m1 := L_abs_mul q1 k
  have m2 := L_abs_mul q2 k
  have lk := L_i64 (n := k) oO
  have hT := fx_TimesA q1 q2 k oO oO oO
  have te := tm_enc (k := k) cl.1 cl.2
  have tw := tm_w (W := 1000) bl oO bw
  have tL : L (tmLo q1 q2 k).natAbs ≤ 440 ∧ L (tmHi q1 q2 k).natAbs ≤ 440 := by unfold tmLo tmHi; split <;> omega
  generalize tmLo q1 q2 k = t1 at *
  generalize tmHi q1 q2 k = t2 at *
  have n1 := L_abs_neg t1
  have n2 := L_abs_neg t2
  have a1 := L_abs_add p1 (-t2)
  have a2 := L_abs_add p2 (-t1)
  have hS := fx_Sub p1 p2 t1 t2 oO oO oO oO
  have hH := fx_Half (p1 + -t2) (p2 + -t1) 16 oO oO oO
  have hw := half_w (a := p1 + -t2) (b := p2 + -t1) (W := 300000) (n := 16) oO
  have he := half_enc (a := p1 + -t2) (b := p2 + -t1) (X := dv m ee - (k : Rat) * cLn) (t := t) (s := ss.toNat) (n := 16) oO (by rw [Rat.intCast_add, Rat.intCast_neg]; grind) (by rw [Rat.intCast_add, Rat.intCast_neg]; grind)
  exact ⟨p1, p2, q1, q2, t1, t2, _, _, _, _, ⟨hO, hL, hT, hS, hH⟩, Rat.intCast_le_intCast.1 (Rat.le_trans he.1 he.2), hw, he.1, he.2⟩
end Go.Proofs.YtekcladflnieeaaGreatDoor

namespace Go.Proofs.YtekcladflnieeaaGreatDoor
open Go.RowKit
set_option maxRecDepth 100000
set_option maxHeartbeats 2000000
theorem cLn_b : 69 ≤ 100 * cLn ∧ 100 * cLn ≤ 70 := ⟨of_decide_eq_true (by kernel_rfl), of_decide_eq_true (by kernel_rfl)⟩
def XF (d : Rat) (k : Int) (K : Nat) : Rat := EP (d - (k : Rat) * cLn) K * (2 : Rat) ^ k
theorem fx_ExpE (m ee s1 D : Int) (hs : 24 ≤ s1 ∧ s1 ≤ 300) (hm : L (m).natAbs ≤ 20) (he : -440 ≤ ee ∧ ee ≤ 130) (d1 : -512 ≤ dv m ee) (d2 : dv m ee ≤ 512) (hD : 100 * dv m ee + 36 ≤ 69 * (D : Rat)) (D0 : 0 ≤ D) (hD2 : s1 + D + 24 ≤ 380) :
    ∃ k r1 r2 : Int, Impl Tryz.prog Amb 217 [(yV m ee), (.int .i64 s1)] (.agg [(.bool (decide (r1 < 0))), (N r1.natAbs), (.bool (decide (r2 < 0))), (N r2.natAbs)]) ∧ (-1000 ≤ k ∧ k ≤ D) ∧ (33 ≤ 100 * (dv m ee - (k : Rat) * cLn) ∧ 100 * (dv m ee - (k : Rat) * cLn) ≤ 106) ∧ Encl (XF (dv m ee) k) s1.toNat r1 r2 ∧ r2 - r1 ≤ 2 ∧ 0 ≤ r1 ∧ L r2.natAbs ≤ 20 := by
  have hO := fx_Of m ee 32 oO oO oO
  have hN : Impl Tryz.prog Amb 106 [(.int .i64 32)] (.agg [(.bool (decide ((2977044084 : Int) < 0))), (N ((2977044084 : Int).natAbs)), (.bool (decide ((2977044804 : Int) < 0))), (N ((2977044804 : Int).natAbs))]) := by
    have h : Impl Tryz.prog Amb 106 [(.int .i64 32)] (.agg [(.bool (decide ((lnLo 32) < 0))), (N ((lnLo 32).natAbs)), (.bool (decide ((lnHi 32) < 0))), (N ((lnHi 32).natAbs))]) := fx_Ln2 32 oO
    rw [ln32.1, ln32.2] at h
    exact h
  have lf := flr_LD m ee 32
  have sc1 := (flr_sc (dv m ee) 32).1
  have sc2 := (cei_sc (dv m ee) 32).1
  have fc := (flr_cei1 (dv m ee) 32).1
  have cl := cln_at (t := 32) oO
  rw [e32] at sc1 sc2 cl
  have sc1 : ((flr (dv m ee) 32 : Int) : Rat) ≤ dv m ee * 4294967296 := sc1
  have sc2 : dv m ee * 4294967296 ≤ ((cei (dv m ee) 32 : Int) : Rat) := sc2
  have fc : cei (dv m ee) 32 ≤ flr (dv m ee) 32 + 1 := fc
  have cl : ((lnLo 32 : Int) : Rat) ≤ cLn * 4294967296 ∧ cLn * 4294967296 ≤ ((lnHi 32 : Int) : Rat) := cl
  rw [ln32.1, ln32.2] at cl
  generalize flr (dv m ee) 32 = p1 at *
  generalize cei (dv m ee) 32 = p2 at *
  have nk := near_k32 (k := Int.fdiv (((p1 + p2) * 2 ^ 1) + (2977044084 + 2977044804)) ((2977044084 + 2977044804) * 2 ^ 1)) sc1 sc2 fc cl.1 cl.2 rfl d1 d2
  have lq1 : L ((2977044084 : Int)).natAbs ≤ 2 := Nat.le_trans (L_lit 2977044084 (by decide)) oO
  have lq2 : L ((2977044804 : Int)).natAbs ≤ 2 := Nat.le_trans (L_lit 2977044804 (by decide)) oO
  have NE := fx_Nearest p1 p2 2977044084 2977044804 oO oO oO oO oO oO
  generalize Int.fdiv (((p1 + p2) * 2 ^ 1) + (2977044084 + 2977044804)) ((2977044084 + 2977044804) * 2 ^ 1) = k0 at nk NE
  clear sc1 sc2 fc cl lf
  have cb := cLn_b
  obtain ⟨k, hk⟩ : ∃ k, k = k0 - 1 := ⟨_, rfl⟩
  have kR : (k : Rat) = (k0 : Rat) - 1 := by rw [hk, Rat.intCast_sub]; rfl
  have xb : 33 ≤ 100 * (dv m ee - (k : Rat) * cLn) ∧ 100 * (dv m ee - (k : Rat) * cLn) ≤ 106 := by rw [kR]; constructor <;> grind
  have kD : k ≤ D := by
    refine Decidable.byContradiction fun hn => ?_
    have a : (D : Rat) + 1 ≤ (k : Rat) := by
      have := Rat.intCast_le_intCast.2 (show D + 1 ≤ k by omega)
      rw [Rat.intCast_add] at this; exact this
    have b : (0 : Rat) ≤ (D : Rat) := Rat.intCast_nonneg.2 D0
    have c := Rat.mul_le_mul_of_nonneg_left cb.1 (show (0 : Rat) ≤ (k : Rat) by grind)
    have x36 : -36 ≤ 100 * (dv m ee - (k0 : Rat) * cLn) := nk.2.1
    grind
  have im := iMax_range k 0
  have hL1 : iMax k 0 ≤ D := by omega
  obtain ⟨t, ht⟩ : ∃ t : Nat, (t : Int) = ((s1 + (iMax k (0 : Int))) + 24) := ⟨(((s1 + (iMax k (0 : Int))) + 24)).toNat, by omega⟩
  have htn : (((s1 + (iMax k (0 : Int))) + 24)).toNat = t := by omega
  obtain ⟨a1, a2, u1, u2, t1, t2, q1, q2, x1, x2, ⟨C1, C2, C3, C4, C5⟩, x12, xw, xe1, xe2⟩ := ex_span m ee k ((s1 + (iMax k (0 : Int))) + 24) oO hm he oO
  have P48 : (2 : Int) ^ 48 ≤ 2 ^ (((s1 + (iMax k (0 : Int))) + 24)).toNat := by
    rw [htn, pow_cast, pow_cast]
    exact Int.ofNat_le.2 (Nat.pow_le_pow_right oO oO)
  rw [show (2 : Int) ^ 48 = 281474976710656 from rfl] at P48
  have PR : (281474976710656 : Rat) ≤ ((2 ^ (((s1 + (iMax k (0 : Int))) + 24)).toNat : Int) : Rat) := Rat.intCast_le_intCast.2 P48
  have X1 : 33 * 2 ^ (((s1 + (iMax k (0 : Int))) + 24)).toNat ≤ 100 * x2 := by
    refine Rat.intCast_le_intCast.1 ?_
    rw [Rat.intCast_mul, Rat.intCast_mul]
    have m1 := Rat.mul_le_mul_of_nonneg_right xb.1 (show (0 : Rat) ≤ ((2 ^ (((s1 + (iMax k (0 : Int))) + 24)).toNat : Int) : Rat) by grind)
    show (33 : Rat) * _ ≤ 100 * _
    grind
  have X2 : 100 * x1 ≤ 106 * 2 ^ (((s1 + (iMax k (0 : Int))) + 24)).toNat := by
    refine Rat.intCast_le_intCast.1 ?_
    rw [Rat.intCast_mul, Rat.intCast_mul]
    have m1 := Rat.mul_le_mul_of_nonneg_right xb.2 (show (0 : Rat) ≤ ((2 ^ (((s1 + (iMax k (0 : Int))) + 24)).toNat : Int) : Rat) by grind)
    show (100 : Rat) * _ ≤ 106 * _
    grind
  obtain ⟨y1, y2, CE, EE, yw, y0, y9⟩ := fx_expE x1 x2 ((s1 + (iMax k (0 : Int))) + 24) (dv m ee - (k : Rat) * cLn) oO xe1 xe2 oO oO oO
  obtain ⟨n, hn⟩ : ∃ n : Nat, (n : Int) = (((s1 + (iMax k (0 : Int))) + 24) - s1) - k := ⟨((((s1 + (iMax k (0 : Int))) + 24) - s1) - k).toNat, by omega⟩
  have hnn : ((((s1 + (iMax k (0 : Int))) + 24) - s1) - k).toNat = n := by omega
  rw [htn] at EE y9
  have ly : ∀ y : Int, 0 ≤ y → y ≤ 9 * 2 ^ t → L y.natAbs ≤ 20 := fun y z0 z1 => by
    refine L_pow2 (n := t + 4) ?_ oO
    have e : ((2 ^ (t + 4) : Nat) : Int) = 2 ^ t * 16 := by rw [← pow_cast, Int.pow_add]; rfl
    have := two_pos t
    omega
  have y12 := EE.le
  have l1 := ly y1 y0 oO
  have l2 := ly y2 oO y9
  have CH := fx_Half y1 y2 ((((s1 + (iMax k (0 : Int))) + 24) - s1) - k) oO oO oO
  rw [hnn] at CH
  have pn : (16777216 : Int) ≤ 2 ^ n := by
    rw [pow_cast, show (16777216 : Int) = ((2 ^ 24 : Nat) : Int) from rfl]
    exact Int.ofNat_le.2 (Nat.pow_le_pow_right oO oO)
  have hw := half_w (a := y1) (b := y2) (W := 1) (n := n) oO
  have hE : Encl (XF (dv m ee) k) s1.toNat (y1 / 2 ^ n) (-(-y2 / 2 ^ n)) := by
    obtain ⟨N, EE⟩ := EE
    have z : (2 : Rat) ^ k * ((2 ^ (s1.toNat + n) : Int) : Rat) = ((2 ^ t : Int) : Rat) := by
      rw [← zp_nat, ← zp_nat, ← zp_add]
      congr 1
      omega
    refine ⟨N, fun K hK => half_enc (t := s1.toNat + n) rfl ?_ ?_⟩
    · unfold XF; rw [Rat.mul_assoc, z]; exact (EE K hK).1
    · unfold XF; rw [Rat.mul_assoc, z]; exact (EE K hK).2
  have o1 := L_abs_neg y2
  have o2 := L_abs_shr (-y2) n
  have r0 : 0 ≤ y1 / 2 ^ n := Int.ediv_nonneg y0 oO
  have r2 : -(-y2 / 2 ^ n) ≤ 9 * 2 ^ t := by
    have g := Int.lt_ediv_add_one_mul_self (-y2) (two_pos n)
    refine Decidable.byContradiction fun hn' => ?_
    have m1 := Int.mul_le_mul_of_nonneg_right (show -y2 / 2 ^ n + 1 ≤ -(9 * 2 ^ t) by omega) (Int.le_of_lt (two_pos n))
    have m2 := Int.mul_le_mul_of_nonneg_left (show (1 : Int) ≤ 2 ^ n by omega) (show 0 ≤ 9 * (2 : Int) ^ t by omega)
    rw [Int.neg_mul] at m1
    omega
  have rle := hE.le
  have lr := ly (-(-y2 / 2 ^ n)) oO r2
  have W := fx_ExpW m ee s1 p1 p2 2977044084 2977044804 k0 a1 a2 u1 u2 t1 t2 q1 q2 x1 x2 y1 y2 (y1 / 2 ^ n) (-(-y2 / 2 ^ n)) oO oO hO hN NE
  rw [← hk] at W
  exact ⟨k, _, _, W C1 C2 C3 C4 C5 CE CH, ⟨by omega, kD⟩, xb, hE, hw, r0, lr⟩
end Go.Proofs.YtekcladflnieeaaGreatDoor

namespace Go.Proofs.YtekcladflnieeaaGreatDoor
open Go.RowKit
set_option maxRecDepth 100000
set_option maxHeartbeats 2000000
theorem ex_valueE (m ee w D : Int) (hw : 0 ≤ w ∧ w ≤ 276) (hm : L (m).natAbs ≤ 20) (he : -440 ≤ ee ∧ ee ≤ 130) (hd : (-512 ≤ dv m ee ∧ dv m ee ≤ 512) ∧ 100 * dv m ee + 36 ≤ 69 * (D : Rat) ∧ -dv m ee ≤ (w : Rat) + 1) (D0 : 0 ≤ D) (hD2 : w + D + 48 ≤ 380) :
    ∃ k lo hi : Int, Impl Tryz.prog Amb 95 [(yV m ee), (.int .i64 w)] (.agg [(.bool (decide (lo < 0))), (N lo.natAbs), (.bool (decide (hi < 0))), (N hi.natAbs)]) ∧ (-1000 ≤ k ∧ k ≤ D) ∧ (33 ≤ 100 * (dv m ee - (k : Rat) * cLn) ∧ 100 * (dv m ee - (k : Rat) * cLn) ≤ 106) ∧ Encl (XF (dv m ee) k) w.toNat lo hi ∧ hi - lo ≤ 2 ∧ 0 ≤ lo ∧ L hi.natAbs ≤ 30 := by
  obtain ⟨⟨d1, d2⟩, d3, d4⟩ := hd
  obtain ⟨k, r1, r2, hC, hk, hx, hE, hw2, h0, hl⟩ := fx_ExpE m ee (w + 24) D oO hm he d1 d2 d3 D0 oO
  have r12 := hE.le
  have l1 : L r1.natAbs ≤ 20 := Nat.le_trans (L_mono oO) hl
  have hA := ex_at m ee (w + 24) r1 r2 hC
  have hT := fx_SettleB 158 (yV m ee) r1 r2 w hA oO (nbits_of_lt oO) oO
  have n1 := L_abs_neg m
  have hB := ex_beyond (-m) ee (w + 1) oO oO oO
  have hB : Impl Tryz.prog Amb 94 [(yV (-m) ee), (.int .i64 (w + 1))] (.bool false) := by
    refine impl_eq (congrArg V.bool (decide_eq_false fun q => ?_)) hB
    have q := cmpD_pos.1 q
    rw [(of_fit (n := w + 1) oO).2.2.2.2.2, dv_neg, Rat.intCast_add] at q
    have q : (w : Rat) + 1 < -dv m ee := q
    grind
  have o1 := L_abs_shr r1 24
  have o2 := L_abs_neg r2
  have o3 := L_abs_shr (-r2) 24
  have o4 := L_abs_neg (-r2 / 2 ^ 24)
  have hw3 := half_w (a := r1) (b := r2) (W := 1) (n := 24) oO
  exact ⟨k, _, _, ex_value0 m ee w _ _ oO oO hB hT, hk, hx, hE.half oO, hw3, Int.ediv_nonneg h0 (by decide), by omega⟩
theorem ex_ExpE (m ee n f w D : Int) (hw : 0 ≤ w ∧ w ≤ 276) (hm : L (m).natAbs ≤ 20) (he : -440 ≤ ee ∧ ee ≤ 130) (hd : (-512 ≤ dv m ee ∧ dv m ee ≤ 512) ∧ 100 * dv m ee + 36 ≤ 69 * (D : Rat) ∧ -dv m ee ≤ (w : Rat) + 1) (hn : L (n).natAbs ≤ 20) (hf : -440 ≤ f ∧ f ≤ 130) (hd' : (-512 ≤ dv n f ∧ dv n f ≤ 512) ∧ 100 * dv n f + 36 ≤ 69 * (D : Rat) ∧ -dv n f ≤ (w : Rat) + 1) (D0 : 0 ≤ D) (hD2 : w + D + 48 ≤ 380) :
    ∃ k l1 h1 k' l2 h2 : Int, Impl Tryz.prog Amb 31 [(wV m ee n f), (.int .i64 w)] (.tup [(wV (mkM l1 (-w)) (mkX l1 (-w)) (mkM h2 (-w)) (mkX h2 (-w))), (.int .i64 0)]) ∧ ((-1000 ≤ k ∧ k ≤ D) ∧ (33 ≤ 100 * (dv m ee - (k : Rat) * cLn) ∧ 100 * (dv m ee - (k : Rat) * cLn) ≤ 106) ∧ Encl (XF (dv m ee) k) w.toNat l1 h1 ∧ h1 - l1 ≤ 2 ∧ 0 ≤ l1 ∧ L h1.natAbs ≤ 30) ∧ ((-1000 ≤ k' ∧ k' ≤ D) ∧ (33 ≤ 100 * (dv n f - (k' : Rat) * cLn) ∧ 100 * (dv n f - (k' : Rat) * cLn) ≤ 106) ∧ Encl (XF (dv n f) k') w.toNat l2 h2 ∧ h2 - l2 ≤ 2 ∧ 0 ≤ l2 ∧ L h2.natAbs ≤ 30) ∧ L l1.natAbs ≤ 30 := by
  obtain ⟨k, l1, h1, hA, FA⟩ := ex_valueE m ee w D hw hm he hd D0 hD2
  obtain ⟨k', l2, h2, hB, FB⟩ := ex_valueE n f w D hw hn hf hd' D0 hD2
  have le1 := FA.2.2.1.le
  have z1 : L l1.natAbs ≤ 30 := Nat.le_trans (L_mono oO) FA.2.2.2.2.2
  have z2 := FB.2.2.2.2.2
  have mA := dy_Make l1 (0 - w) oO oO
  have mB := dy_Make h2 (0 - w) oO oO
  rw [Int.zero_sub, mk_fine2 (m := l1) (e := -w) oO oO] at mA
  rw [Int.zero_sub, mk_fine2 (m := h2) (e := -w) oO oO] at mB
  have hb : Impl Tryz.prog Amb 94 [(yV n f), (.int .i64 1000)] (.bool false) := by
    refine impl_eq (congrArg V.bool (decide_eq_false fun q => ?_)) (ex_beyond n f 1000 oO oO oO)
    have q := cmpD_pos.1 q
    rw [(of_fit (n := 1000) oO).2.2.2.2.2] at q
    have q : (1000 : Rat) < dv n f := q
    have := hd'.1.2
    grind
  exact ⟨k, l1, h1, k', l2, h2, ex_Exp0 m ee n f w l1 h1 l2 h2 _ _ _ _ oO hb hA hB (by rw [Int.zero_sub]; exact mA) (by rw [Int.zero_sub]; exact mB), FA, FB, z1⟩
end Go.Proofs.YtekcladflnieeaaGreatDoor

namespace Go.Proofs.YtekcladflnieeaaGreatDoor
theorem tE_monox {x y : Rat} (h0 : 0 ≤ x) (h : x ≤ y) : ∀ n, tE x n ≤ tE y n
  | 0 => Rat.le_refl
  | n + 1 => by
    have a := tE_monox h0 h n
    have m1 := Rat.mul_le_mul_of_nonneg_left h (tE_nonneg h0 n)
    have m2 := Rat.mul_le_mul_of_nonneg_right a (show 0 ≤ y by grind)
    refine Rat.le_of_mul_le_mul_right (c := (nx n : Rat)) ?_ (nx_pos n)
    have e1 := tE_mul x n
    have e2 := tE_mul y n
    grind
theorem EP_monox {x y : Rat} (h0 : 0 ≤ x) (h : x ≤ y) (K : Nat) : EP x K ≤ EP y K := Sm_le fun i _ => tE_monox h0 h i
theorem EP_one {x : Rat} (h0 : 0 ≤ x) {K : Nat} (hK : 1 ≤ K) : 1 ≤ EP x K := by
  have a := EP_mono h0 hK
  have b : EP x 1 = 1 := by show (0 : Rat) + 1 = 1; grind
  grind
def ptE : Int := 7536897645847710281658400746411203897022699015640208818735815763089643812155578169777067305208053024815465040202349145265063243460
def eps : Rat := dv 1 (-400)
theorem EPc_num : 2 - eps ≤ EP cLn 91 ∧ EP cLn 91 + tE cLn 90 ≤ 2 + eps := ⟨of_decide_eq_true (by kernel_rfl), of_decide_eq_true (by kernel_rfl)⟩
theorem EPe_num : dv ptE (-430) - eps ≤ EP 1 91 ∧ EP 1 91 + tE 1 90 ≤ dv ptE (-430) + eps := ⟨of_decide_eq_true (by kernel_rfl), of_decide_eq_true (by kernel_rfl)⟩
theorem EPc {K : Nat} : (91 ≤ K → 2 - eps ≤ EP cLn K) ∧ EP cLn K ≤ 2 + eps := by
  have c0 : 0 ≤ cLn := of_decide_eq_true (by kernel_rfl)
  have c1 : 2 * cLn ≤ (nx 90 : Rat) := of_decide_eq_true (by kernel_rfl)
  have n := EPc_num
  exact ⟨fun h => Rat.le_trans n.1 (EP_mono c0 h), Rat.le_trans (EP_tail c0 c1 K) n.2⟩
theorem EPe {K : Nat} : (91 ≤ K → dv ptE (-430) - eps ≤ EP 1 K) ∧ EP 1 K ≤ dv ptE (-430) + eps := by
  have c1 : 2 * (1 : Rat) ≤ (nx 90 : Rat) := of_decide_eq_true (by kernel_rfl)
  have n := EPe_num
  exact ⟨fun h => Rat.le_trans n.1 (EP_mono (by decide) h), Rat.le_trans (EP_tail (by decide) c1 K) n.2⟩
end Go.Proofs.YtekcladflnieeaaGreatDoor

namespace Go.Proofs.YtekcladflnieeaaGreatDoor
open Go.RowKit
set_option maxRecDepth 100000
set_option maxHeartbeats 2000000
theorem l14_Points0 (w : Int) (m : Int) (ee : Int) (ya : Int) (yb : Int) (yc : Int) (yd : Int) (ea : Int) (eb : Int) (ec : Int) (ed : Int) (na : Int) (nb : Int) (nc : Int) (nd : Int) (za : Int) (zb : Int) (zc : Int) (zd : Int) (qq : Rat) (c0 : (-9223372036854775808 : Int) ≤ w ∧ w ≤ 9223372036854775807) (c1 : Impl Tryz.prog Amb 29 [] (.bool true)) (c2 : Impl Tryz.prog Amb 53 [(.int .i64 1), (.int .i64 1)] (wV m ee m ee)) (c3 : Impl Tryz.prog Amb 31 [(wV m ee m ee), (.int .i64 (w % 200))] (.tup [(wV ya yb yc yd), (.int .i64 0)])) (c4 : Impl Tryz.prog Amb 54 [(.int .i64 (w % 200))] (.tup [(wV ea eb ec ed), (.int .i64 0)])) (c5 : Impl Tryz.prog Amb 55 [(.int .i64 (w % 200))] (.tup [(wV na nb nc nd), (.int .i64 0)])) (c6 : Impl Tryz.prog Amb 31 [(wV na nb nc nd), (.int .i64 (w % 200))] (.tup [(wV za zb zc zd), (.int .i64 0)])) (c7 : Impl Tryz.prog Amb 56 [(wV ya yb yc yd), (wV ea eb ec ed)] (.int .i64 0)) (c8 : Impl Tryz.prog Amb 58 [(.int .i64 2)] (.agg [(.bool (decide (qq.num < 0))), (N qq.num.natAbs), (N qq.den)])) (c9 : Impl Tryz.prog Amb 57 [(wV za zb zc zd), (.agg [(.bool (decide (qq.num < 0))), (N qq.num.natAbs), (N qq.den)])] (.bool true)) : Impl Tryz.prog Amb 10 [(.int .i64 w)] (.bool true) := by
  exact impl_ob hP hAmb Tryz.func10 (by kernel_rfl) (.lit <| .call (.bool true) <| .lits 3 <| .call (.int .i64 (w % 200)) <| .lit <| .call (wV m ee m ee) <| .lit <| .call (.tup [(wV ya yb yc yd), (.int .i64 0)]) <| .lits 2 <| .call (.tup [(wV ea eb ec ed), (.int .i64 0)]) <| .lits 2 <| .call (.tup [(wV na nb nc nd), (.int .i64 0)]) <| .lits 3 <| .call (.tup [(wV za zb zc zd), (.int .i64 0)]) <| .lits 20 <| .call (.int .i64 0) <| .lits 7 <| .call (.agg [(.bool (decide (qq.num < 0))), (N qq.num.natAbs), (N qq.den)]) <| .lits 2 <| .call (.bool true) <| .lits 2 <| .ret)
    (cast_ob (aI True.intro (aI (c1 ) (aI (mill_Mod w 200 oS oS) (have f2 := Int.emod_lt_of_pos w (show (0 : Int) < 200 by first | omega | assumption); have f1 := Int.emod_nonneg w (show (200 : Int) ≠ 0 by first | omega | assumption); aI (c2 ) (aI (c3 ) (aI (c4 ) (aI (c5 ) (aI (c6 ) (aI (c7 ) (aI (c8 ) (aI (c9 ) ((vsub_refl (.bool true)))))))))))))) (by kernel_rfl))
theorem ex_ExpT (m ee w D : Int) (hw : 0 ≤ w ∧ w ≤ 276) (hm : L (m).natAbs ≤ 20) (he : -440 ≤ ee ∧ ee ≤ 130) (hd : (-512 ≤ dv m ee ∧ dv m ee ≤ 512) ∧ 100 * dv m ee + 36 ≤ 69 * (D : Rat) ∧ -dv m ee ≤ (w : Rat) + 1) (D0 : 0 ≤ D) (hD2 : w + D + 48 ≤ 380) :
    ∃ k l1 h1 : Int, Impl Tryz.prog Amb 31 [(wV m ee m ee), (.int .i64 w)] (.tup [(wV (mkM l1 (-w)) (mkX l1 (-w)) (mkM h1 (-w)) (mkX h1 (-w))), (.int .i64 0)]) ∧ ((-1000 ≤ k ∧ k ≤ D) ∧ (33 ≤ 100 * (dv m ee - (k : Rat) * cLn) ∧ 100 * (dv m ee - (k : Rat) * cLn) ≤ 106) ∧ Encl (XF (dv m ee) k) w.toNat l1 h1 ∧ h1 - l1 ≤ 2 ∧ 0 ≤ l1 ∧ L h1.natAbs ≤ 30) ∧ L l1.natAbs ≤ 30 := by
  obtain ⟨k, l1, h1, hA, FA⟩ := ex_valueE m ee w D hw hm he hd D0 hD2
  have le1 := FA.2.2.1.le
  have z1 : L l1.natAbs ≤ 30 := Nat.le_trans (L_mono oO) FA.2.2.2.2.2
  have z2 := FA.2.2.2.2.2
  have mA := dy_Make l1 (0 - w) oO oO
  have mB := dy_Make h1 (0 - w) oO oO
  rw [Int.zero_sub, mk_fine2 (m := l1) (e := -w) oO oO] at mA
  rw [Int.zero_sub, mk_fine2 (m := h1) (e := -w) oO oO] at mB
  have hb : Impl Tryz.prog Amb 94 [(yV m ee), (.int .i64 1000)] (.bool false) := by
    refine impl_eq (congrArg V.bool (decide_eq_false fun q => ?_)) (ex_beyond m ee 1000 oO oO oO)
    have q := cmpD_pos.1 q
    rw [(of_fit (n := 1000) oO).2.2.2.2.2] at q
    have q : (1000 : Rat) < dv m ee := q
    have := hd.1.2
    grind
  exact ⟨k, l1, h1, ex_Exp0 m ee m ee w l1 h1 l1 h1 _ _ _ _ oO hb hA hA (by rw [Int.zero_sub]; exact mA) (by rw [Int.zero_sub]; exact mB), FA, z1⟩
theorem e_all : (List.range 400).all (fun t => decide (eLo (t : Int) * 2 ^ (430 - t) ≤ ptE) && decide (ptE ≤ eHi (t : Int) * 2 ^ (430 - t))) = true := by kernel_rfl
theorem e_at {t : Nat} (ht : t < 400) : ((eLo (t : Int) : Int) : Rat) ≤ dv ptE (-430) * ((2 ^ t : Int) : Rat) ∧ dv ptE (-430) * ((2 ^ t : Int) : Rat) ≤ ((eHi (t : Int) : Int) : Rat) := by
  have h := List.all_eq_true.1 e_all t (List.mem_range.2 ht)
  simp only [Bool.and_eq_true, decide_eq_true_eq] at h
  exact ⟨(cl_sc oO).1 h.1, (cl_sc oO).2 h.2⟩
theorem int_gap {l h : Int} {X Y : Rat} (h1 : (l : Rat) ≤ X) (h2 : Y ≤ (h : Rat)) (g : X < Y + 1) : l ≤ h := by
  refine Decidable.byContradiction fun hn => ?_
  have : ((h + 1 : Int) : Rat) ≤ (l : Rat) := Rat.intCast_le_intCast.2 oO
  rw [Rat.intCast_add, show ((1 : Int) : Rat) = 1 from rfl] at this
  grind
theorem eps_sc {t : Nat} (ht : t ≤ 390) : 0 ≤ eps * ((2 ^ t : Int) : Rat) ∧ 16 * (eps * ((2 ^ t : Int) : Rat)) ≤ 1 := by
  have e : ((2 ^ 390 : Int) : Rat) = ((2 ^ t : Int) : Rat) * ((2 ^ (390 - t) : Int) : Rat) := by rw [← Rat.intCast_mul, ← Int.pow_add]; congr 2; omega
  have a : (1 : Rat) ≤ ((2 ^ (390 - t) : Int) : Rat) := by
    have := two_pos (390 - t)
    exact Rat.intCast_le_intCast.2 (show (1 : Int) ≤ 2 ^ (390 - t) by omega)
  have p0 : (0 : Rat) ≤ ((2 ^ t : Int) : Rat) := Rat.intCast_nonneg.2 (Int.le_of_lt (two_pos t))
  have b : 0 ≤ eps := of_decide_eq_true (by kernel_rfl)
  have c : 16 * (eps * ((2 ^ 390 : Int) : Rat)) ≤ 1 := of_decide_eq_true (by kernel_rfl)
  have m := Rat.mul_le_mul_of_nonneg_left a (Rat.mul_nonneg b p0)
  rw [e] at c
  exact ⟨Rat.mul_nonneg b p0, by grind⟩
end Go.Proofs.YtekcladflnieeaaGreatDoor

namespace Go.Proofs.YtekcladflnieeaaGreatDoor
open Go.RowKit
set_option maxRecDepth 100000
set_option maxHeartbeats 2000000
theorem two_zp {k : Int} (h : 1 ≤ k) : (2 : Rat) ≤ 2 ^ k := by
  obtain ⟨n, rfl⟩ : ∃ n : Nat, k = (n : Int) + 1 := ⟨(k - 1).toNat, by omega⟩
  rw [zp_add, zp_nat]
  have a : (1 : Rat) ≤ ((2 ^ n : Int) : Rat) := by
    have := two_pos n
    exact Rat.intCast_le_intCast.2 (show (1 : Int) ≤ 2 ^ n by omega)
  have b : (2 : Rat) ^ (1 : Int) = 2 := of_decide_eq_true (by kernel_rfl)
  rw [b]; grind
theorem zp_m1 : (2 : Rat) ^ (-1 : Int) = 1 / 2 := of_decide_eq_true (by kernel_rfl)
theorem k_ge {k : Int} {a : Int} (h : a ≤ k) : (a : Rat) * cLn ≤ (k : Rat) * cLn := Rat.mul_le_mul_of_nonneg_right (Rat.intCast_le_intCast.2 h) (by have := cLn_b; grind)
theorem k_one {k : Int} {d : Rat} (hd : d = 1) (h : 33 ≤ 100 * (d - (k : Rat) * cLn) ∧ 100 * (d - (k : Rat) * cLn) ≤ 106) : k = 0 := by
  have c := cLn_b
  refine Decidable.byContradiction fun hn => ?_
  rcases (show 1 ≤ k ∨ k ≤ -1 by omega) with q | q
  · have := k_ge q
    rw [show ((1 : Int) : Rat) = 1 from rfl] at this
    grind
  · have := k_ge q
    rw [show ((-1 : Int) : Rat) = -1 from rfl] at this
    grind
theorem XF_zero (d : Rat) (K : Nat) : XF d 0 K = EP d K := by
  unfold XF
  rw [show ((0 : Int) : Rat) = 0 from rfl, zp_zero]
  rw [Rat.zero_mul, Rat.sub_eq_add_neg, Rat.neg_zero, Rat.add_zero, Rat.mul_one]
theorem eps_b : 0 ≤ eps ∧ eps ≤ 1 := ⟨of_decide_eq_true (by kernel_rfl), of_decide_eq_true (by kernel_rfl)⟩
theorem low_two {d : Rat} {k : Int} {K : Nat} (d0 : 0 ≤ d) (dc : d ≤ cLn) (h : 33 ≤ 100 * (d - (k : Rat) * cLn) ∧ 100 * (d - (k : Rat) * cLn) ≤ 106) : XF d k K ≤ 2 + 4 * eps := by
  have c := cLn_b
  have e := eps_b
  have hc := (EPc (K := K)).2
  have kk : k = 0 ∨ k = -1 := by
    refine Decidable.byContradiction fun hn => ?_
    rcases (show 1 ≤ k ∨ k ≤ -2 by omega) with q | q
    · have := k_ge q
      rw [show ((1 : Int) : Rat) = 1 from rfl] at this
      grind
    · have := k_ge q
      rw [show ((-2 : Int) : Rat) = -2 from rfl] at this
      grind
  rcases kk with rfl | rfl
  · rw [XF_zero]
    have := EP_monox d0 dc K
    grind
  · unfold XF
    rw [zp_m1, show ((-1 : Int) : Rat) = -1 from rfl]
    have a : EP (d - -1 * cLn) K ≤ EP (cLn + cLn) K := EP_monox (by grind) (by grind) K
    have b := (EP_mul (show 0 ≤ cLn by grind) (show 0 ≤ cLn by grind) K).1
    have p := EP_nonneg (show 0 ≤ cLn by grind) K
    have m1 := Rat.mul_le_mul_of_nonneg_left hc p
    have m2 := Rat.mul_le_mul_of_nonneg_right hc (show 0 ≤ 2 + eps by grind)
    have m3 := Rat.mul_le_mul_of_nonneg_left e.2 e.1
    have r : EP (d - -1 * cLn) K ≤ (2 + eps) * (2 + eps) := Rat.le_trans a (Rat.le_trans b (Rat.le_trans m1 m2))
    generalize EP (d - -1 * cLn) K = z at *
    grind
theorem high_two {d : Rat} {k : Int} {K : Nat} (hK : 91 ≤ K) (cd : cLn ≤ d) (h : 33 ≤ 100 * (d - (k : Rat) * cLn) ∧ 100 * (d - (k : Rat) * cLn) ≤ 106) : 2 - eps ≤ XF d k K := by
  have c := cLn_b
  have e := eps_b
  rcases (show 1 ≤ k ∨ k = 0 ∨ k ≤ -1 by omega) with q | q | q
  · have z := two_zp q
    have o := EP_one (x := d - (k : Rat) * cLn) (by grind) (show 1 ≤ K by omega)
    unfold XF
    have m := Rat.mul_le_mul_of_nonneg_right o (show (0 : Rat) ≤ 2 ^ k by grind)
    grind
  · subst q
    rw [XF_zero]
    have a := EP_monox (show 0 ≤ cLn by grind) cd K
    have b := (EPc (K := K)).1 hK
    grind
  · have := k_ge q
    rw [show ((-1 : Int) : Rat) = -1 from rfl] at this
    grind
theorem ln_chk : (List.range 200).all (fun w => decide (0 ≤ lnLo ((w : Int) + 24) / 2 ^ 24) && decide ((lnLo ((w : Int) + 24) / 2 ^ 24).natAbs < 2 ^ 210) && decide ((-(-(lnHi ((w : Int) + 24)) / 2 ^ 24)).natAbs < 2 ^ 210) && decide (-(-(lnHi ((w : Int) + 24)) / 2 ^ 24) ≤ 2 ^ w) &&
    decide (mkX (lnLo ((w : Int) + 24) / 2 ^ 24) (-(w : Int)) ≤ 130) && decide (mkX (-(-(lnHi ((w : Int) + 24)) / 2 ^ 24)) (-(w : Int)) ≤ 130)) = true := by kernel_rfl
theorem L210 {x : Int} (h : x.natAbs < 2 ^ 210) : L x.natAbs ≤ 7 := L_pow2 h (by decide)
theorem ln_arg (w : Int) (hw : 0 ≤ w ∧ w < 200) : ∃ a b : Int, a = (lnLo (w + 24) / 2 ^ 24) ∧ b = (-(-(lnHi (w + 24)) / 2 ^ 24)) ∧ (L a.natAbs ≤ 7 ∧ L b.natAbs ≤ 7) ∧ (mkX a (-w) ≤ 130 ∧ mkX b (-w) ≤ 130) ∧ (0 ≤ dv a (-w) ∧ dv a (-w) ≤ cLn) ∧ (cLn ≤ dv b (-w) ∧ dv b (-w) ≤ 1) := by
  obtain ⟨t, rfl⟩ : ∃ t : Nat, w = (t : Int) := ⟨w.toNat, by omega⟩
  have h := List.all_eq_true.1 ln_chk t (List.mem_range.2 oO)
  simp only [Bool.and_eq_true, decide_eq_true_eq] at h
  obtain ⟨⟨⟨⟨⟨h1, h2⟩, h3⟩, h4⟩, h5⟩, h6⟩ := h
  have cl := cln_at (t := t + 24) oO
  rw [show ((t + 24 : Nat) : Int) = (t : Int) + 24 from rfl] at cl
  have he := half_enc (X := cLn) (t := t + 24) (s := t) (n := 24) rfl cl.1 cl.2
  have P : (0 : Rat) < ((2 ^ t : Int) : Rat) := Rat.intCast_pos.2 (two_pos t)
  refine ⟨_, _, rfl, rfl, ⟨L210 h2, L210 h3⟩, ⟨h5, h6⟩, ⟨?_, ?_⟩, ?_, ?_⟩
  · exact dv_ge0.2 h1
  · refine Rat.le_of_mul_le_mul_right (c := ((2 ^ t : Int) : Rat)) ?_ P
    rw [dv_sc]; exact he.1
  · refine Rat.le_of_mul_le_mul_right (c := ((2 ^ t : Int) : Rat)) ?_ P
    rw [dv_sc]; exact he.2
  · refine Rat.le_of_mul_le_mul_right (c := ((2 ^ t : Int) : Rat)) ?_ P
    rw [dv_sc, Rat.one_mul]; exact Rat.intCast_le_intCast.2 h4
theorem l14_ExponentialPoints (w0 : Int) (c0 : (-9223372036854775808 : Int) ≤ w0 ∧ w0 ≤ 9223372036854775807) : Impl Tryz.prog Amb 10 [.int .i64 w0] (.bool true) := by
  have w1 := Int.emod_nonneg w0 (show (200 : Int) ≠ 0 by omega)
  have w2 := Int.emod_lt_of_pos w0 (show (0 : Int) < 200 by omega)
  have f1 := of_fit (n := 1) oO
  have hOf := l14_of 1 1 oO oO
  have hOf2 := r07_Of 2 oO
  have q2 := q_ofL (n := 2) oO
  have d1 : dv (mkM 1 0) (mkX 1 0) = 1 := dv_one
  have hP := fun ya yb yc yd ea eb ec ed na nb nc nd za zb zc zd x1 x2 x3 x4 x5 x6 => l14_Points0 w0 (mkM 1 0) (mkX 1 0) ya yb yc yd ea eb ec ed na nb nc nd za zb zc zd _ c0 l14_awake hOf x1 x2 x3 x4 x5 hOf2 x6
  generalize w0 % 200 = w at *
  obtain ⟨t, ht⟩ : ∃ t : Nat, w = (t : Int) := ⟨w.toNat, by omega⟩
  have htn : w.toNat = t := by omega
  have P : (0 : Rat) < ((2 ^ w.toNat : Int) : Rat) := Rat.intCast_pos.2 (two_pos _)
  have ep := eps_sc (t := w.toNat) oO
  have eb_ := eps_b
  obtain ⟨k, l1, h1, hE, ⟨_, hx, ⟨N, hN⟩, hw_, z1, z2⟩, z3⟩ := ex_ExpT (mkM 1 0) (mkX 1 0) w 2 oO oO oO (by
    rw [d1]
    have : (0 : Rat) ≤ (w : Rat) := Rat.intCast_nonneg.2 w1
    have c2 : ((2 : Int) : Rat) = 2 := rfl
    rw [c2]
    refine ⟨⟨by grind, by grind⟩, by grind, by grind⟩) oO oO
  have kz := k_one d1 hx
  subst kz
  have hN := hN (N + 91) oO
  rw [XF_zero, d1] at hN
  have e1 := (EPe (K := N + 91)).1 oO
  have e2 := (EPe (K := N + 91)).2
  have hEc := ct_E w oO
  have eat := e_at (t := t + 24) oO
  rw [show ((t + 24 : Nat) : Int) = w + 24 by omega] at eat
  have he := half_enc (X := dv ptE (-430)) (t := t + 24) (s := w.toNat) (n := 24) oO eat.1 eat.2
  have eok := e_ok (s := w + 24) oO
  have o1 := L_abs_shr (eLo (w + 24)) 24
  have o2 := L_abs_neg (eHi (w + 24))
  have o3 := L_abs_shr (-(eHi (w + 24))) 24
  have o4 := L_abs_neg (-(eHi (w + 24)) / 2 ^ 24)
  generalize eLo (w + 24) / 2 ^ 24 = a at *
  generalize -(-(eHi (w + 24)) / 2 ^ 24) = b at *
  have m1 := Rat.mul_le_mul_of_nonneg_right e1 (Rat.le_of_lt P)
  have m2 := Rat.mul_le_mul_of_nonneg_right e2 (Rat.le_of_lt P)
  have g1 : a ≤ h1 := int_gap he.1 hN.2 (by grind)
  have g2 : l1 ≤ b := int_gap hN.1 he.2 (by grind)
  have fa := mk_facts l1 (-w)
  have fb := mk_facts h1 (-w)
  have fc := mk_facts a (-w)
  have fd := mk_facts b (-w)
  have hCmp := r10_Cmp (mkM l1 (-w)) (mkX l1 (-w)) (mkM h1 (-w)) (mkX h1 (-w)) (mkM a (-w)) (mkX a (-w)) (mkM b (-w)) (mkX b (-w)) oO oO oO oO oO oO oO oO
  rw [meets_ok (mk_fine2 oO oO) (mk_fine2 oO oO) (mk_fine2 oO oO) (mk_fine2 oO oO) oO (by rw [show (-w - -w).toNat = 0 by omega, Int.pow_zero, Int.mul_one]; exact g1) (by rw [show (-w - -w).toNat = 0 by omega, Int.pow_zero, Int.mul_one]; exact g2)] at hCmp
  have hLn := ct_Ln2 w oO
  obtain ⟨na, nb, ea, eb, ⟨la, lb⟩, ⟨xa, xb⟩, ⟨da0, dac⟩, dbc, db1⟩ := ln_arg w oO
  rw [← ea, ← eb] at hLn
  have ma := mk_fit (m := na) (e := -w) oO oO
  have mb := mk_fit (m := nb) (e := -w) oO oO
  have i1 := iMin_range (-w) 0
  have cb := cLn_b
  have w0R : (0 : Rat) ≤ (w : Rat) := Rat.intCast_nonneg.2 w1
  have c2 : ((2 : Int) : Rat) = 2 := rfl
  obtain ⟨k1, l2, h2, k2, l3, h3, hE2, ⟨_, hx2, ⟨N2, hN2⟩, _, y1, y2⟩, ⟨_, hx3, ⟨N3, hN3⟩, _, y3, y4⟩, y5⟩ := ex_ExpE (mkM na (-w)) (mkX na (-w)) (mkM nb (-w)) (mkX nb (-w)) w 2 oO oO oO (by rw [ma.2.2.2.2.2, c2]; refine ⟨⟨?_, ?_⟩, ?_, ?_⟩ <;> grind)
    oO oO (by rw [mb.2.2.2.2.2, c2]; refine ⟨⟨?_, ?_⟩, ?_, ?_⟩ <;> grind) oO oO
  rw [ma.2.2.2.2.2] at hx2 hN2
  rw [mb.2.2.2.2.2] at hx3 hN3
  have s2 := (hN2 N2 (Nat.le_refl _)).1
  have s3 := (hN3 (N3 + 91) oO).2
  have t2 := Rat.mul_le_mul_of_nonneg_right (low_two (K := N2) da0 dac hx2) (Rat.le_of_lt P)
  have t3 := Rat.mul_le_mul_of_nonneg_right (high_two (K := N3 + 91) oO dbc hx3) (Rat.le_of_lt P)
  have two : ((2 * 2 ^ w.toNat : Int) : Rat) = 2 * ((2 ^ w.toNat : Int) : Rat) := by rw [Rat.intCast_mul]; rfl
  have u2 : l2 ≤ 2 * 2 ^ w.toNat := int_gap (X := (2 + 4 * eps) * ((2 ^ w.toNat : Int) : Rat)) (Y := 2 * ((2 ^ w.toNat : Int) : Rat)) (Rat.le_trans s2 t2) (by rw [two]; exact Rat.le_refl) (by grind)
  have u3 : 2 * 2 ^ w.toNat ≤ h3 := int_gap (X := 2 * ((2 ^ w.toNat : Int) : Rat)) (Y := (2 - eps) * ((2 ^ w.toNat : Int) : Rat)) (by rw [two]; exact Rat.le_refl) (Rat.le_trans t3 s3) (by grind)
  have dv2 : dv (2 * 2 ^ w.toNat) (-w) = 2 := by
    refine Rat.le_antisymm ?_ ?_
    · refine Rat.le_of_mul_le_mul_right (c := ((2 ^ w.toNat : Int) : Rat)) ?_ P
      rw [htn, ht, dv_sc, ← htn, two]; exact Rat.le_refl
    · refine Rat.le_of_mul_le_mul_right (c := ((2 ^ w.toNat : Int) : Rat)) ?_ P
      rw [htn, ht, dv_sc, ← htn, two]; exact Rat.le_refl
  have f2 := mk_fit (m := l2) (e := -w) oO oO
  have f3 := mk_fit (m := h3) (e := -w) oO oO
  have ff2 := mk_facts l2 (-w)
  have ff3 := mk_facts h3 (-w)
  have hHas := r10_Has (mkM l2 (-w)) (mkX l2 (-w)) (mkM h3 (-w)) (mkX h3 (-w)) ((2 : Int) : Rat) oO oO oO oO f2.2.2.2.2.1 f3.2.2.2.2.1 oO oO
  have hHas := impl_eq (congrArg V.bool (decide_eq_true ⟨cmpQ_le.2 (by rw [f2.2.2.2.2.2, c2, ← dv2, dv_le]; exact u2), cmpQ_le.2 (by rw [f3.2.2.2.2.2, c2, ← dv2, dv_le]; exact u3)⟩)) hHas
  exact hP _ _ _ _ _ _ _ _ _ _ _ _ _ _ _ _ hE hEc hLn hE2 hCmp hHas
end Go.Proofs.YtekcladflnieeaaGreatDoor

namespace Go.Proofs.YtekcladflnieeaaGreatDoor
open Go.ChangeShapes Go.WideShapes Go.ChangeAt Go.RowKit
theorem ownNone : ownKnob Tryz.prog.godebug = none := by kernel_rfl
theorem gTab : Tryz.prog.globalNamed "math/bits.deBruijn32tab" = some 0 := by kernel_rfl
theorem gTabType : (Tryz.prog.globals[0]?).map (·.type) = some 173 := by kernel_rfl
theorem cellsTab : Tryz.prog.cellsOf 173 = 32 := by kernel_rfl
theorem cellsU8 : Tryz.prog.cellsOf 5 = 1 := by kernel_rfl
theorem amb_of {W : World} (h : laidMetH Tryz.prog [("math/bits.deBruijn32tab", Rows.laid_math_bits_deBruijn32tab)] W) : Amb W := by
  have t : Lib.TabIs Tryz.prog W "math/bits.deBruijn32tab" .u8 tab32 := Lib.tabIs_of_head (rest := []) gTab gTabType Tryz.underlying173 Tryz.underlying5 cellsU8 cellsTab h
  intro i v hi
  have hlt : i < tab32.length := by
    rcases Nat.lt_or_ge i tab32.length with q | q
    · exact q
    · rw [List.getElem?_eq_none q] at hi; cases hi
  have h1 := t.cell gTab i hlt
  rw [List.getD_eq_getElem?_getD, hi] at h1
  exact h1
theorem int_wf {n : Int} (h : (Lit.int .i64 n).wf = true) : (-9223372036854775808 : Int) ≤ n ∧ n ≤ 9223372036854775807 := by
  simp only [Lit.wf, Bool.and_eq_true, decide_eq_true_eq] at h
  simp [IntKind.min, IntKind.max, IntKind.signed, IntKind.bits] at h
  omega
noncomputable def laidWorld (os : Os) : World :=
  { World.holding Tryz.prog os ⟨#[], #[], []⟩ with heap := (World.holding Tryz.prog os ⟨#[], #[], []⟩).heap.modify 0 fun
      | .cells _ t frozen => .cells (tab32.map (Value.int .u8)).toArray t frozen
      | o => o }
theorem post_of_below {H : Type} {enc : TypeId × Value → H} {P : Program} {f : Func} {s : ChangeSpec} {apart fresh handsOn again : Bool} {W W' : World} {args : Array Value} {v : Value} {ds gs : List (DataW H)} {before pa pv : List MemPlace}
    (hW : DataW.Whole enc P f.params.toList s.vars apart W args.toList ds gs before)
    (hres : ∀ (b : Nat) (sp : Nat → Bool) (hd : Bool), DataW.TrodAll enc P W' b sp hd f.resultTypes.toList (v.resultList f.resultTypes.size) (s.fn H (ds ++ gs)).results [])
    (hargs : ∀ sp : Nat → Bool, (∀ p ∈ before, sp p.block = true) → DataW.TrodAll enc P W' 0 sp true f.params.toList args.toList (s.fn H (ds ++ gs)).args pa)
    (hvars : ∀ sp : Nat → Bool, (∀ p ∈ before, sp p.block = true) → DataW.TrodVars enc P W' sp s.vars (s.fn H (ds ++ gs)).vars pv)
    (hps : before = pa ++ pv) (hb : Below W.heap.size W W')
    (hok : ∀ (j : Nat) (t : TypeId) (r : Value), f.resultTypes[j]? = some t → (v.resultList f.resultTypes.size)[j]? = some r → Value.okWide P W' .any 0 t r) : s.post enc P f apart fresh handsOn again W args v W' := by
  have lt := hW.lt
  have old : ∀ p ∈ before, (fun b => decide (b < W.heap.size)) p.block = true := fun p hp => decide_eq_true (lt p hp)
  subst hps
  refine ⟨ds, gs, pa ++ pv, [], pa, pv, hW, hres _ _ _, hargs _ old, hvars _ old, hb.frame _, fun _ => ?_⟩
  obtain ⟨_, _, _, _, _, hz, hn⟩ := hW
  have h1 := trodAll_append (hargs (fun _ => true) fun _ _ => rfl) (hres 0 (fun _ => true) true)
  refine ⟨hok, _, _, _, ⟨_, pv, h1, hvars _ fun _ _ => rfl, rfl, fun b off hp => ?_, fun ha => ?_⟩, fun p hp _ => ?_⟩
  · have hp' : MemPlace.cell b off ∈ pa ++ pv := by simpa using hp
    rw [hb.frozen (lt _ hp')]
    exact hz b off hp'
  · simpa using hn ha
  · simpa using hp
end Go.Proofs.YtekcladflnieeaaGreatDoor


namespace Go.Proofs.YtekcladflnieeaaGreatDoor.exponentialPoints
open Go.ChangeShapes Go.WideShapes Go.ChangeAt Go.RowKit
set_option maxRecDepth 100000 in
theorem contract (H : Type) (enc : TypeId × Value → H) (W : World) (base : Nat) (args : Array Value) (ds gs : List (DataW H)) (before : List MemPlace)
    (hval : ∀ (j : Nat) t v, Tryz.f10.params[j]? = some t → args[j]? = some v → Value.okWide Tryz.prog W .any base t v)
    (hW : DataW.Whole enc Tryz.prog Tryz.f10.params.toList Rows.exponentialPointsSpec.vars false W args.toList ds gs before) (hL : laidMetH Tryz.prog Rows.exponentialPointsRow.laid W) :
    Calls Tryz.prog 10 args W fun e W' => ∃ v, e = .returned v ∧ Rows.exponentialPointsSpec.post enc Tryz.prog Tryz.f10 false true false false W args v W' := by
  have hW' := hW
  obtain ⟨p, q, hA0, hV, rfl, hfz, hnd⟩ := hW
  have hA : DataW.TrodAll enc Tryz.prog W 0 (fun _ => true) true Tryz.f10.params.toList args.toList ds p := hA0
  rw [Tryz.params10] at hA hval
  obtain ⟨v0, vs0, d0, ds0, p0, q0, hargs0, rfl, rfl, h0, r0⟩ := trodAll_cons hA
  obtain ⟨rfl, rfl, rfl⟩ := trodAll_nil r0
  obtain rfl : args = #[v0] := by cases args; simp_all
  obtain ⟨rfl, rfl⟩ := trodVars_none hV
  have k0 := h0
  obtain ⟨x0, rfl, rfl, rfl, w0⟩ := open_int Tryz.underlying3 (hval 0 3 v0 rfl rfl) h0
  have b0 := int_wf w0
  clear hA0
  have hlt := hW'.lt
  have hI := l14_ExponentialPoints x0 b0
  have hC := hI.2 W (fun _ => True) [.int .i64 x0] (amb_of hL) (fun _ _ => trivial) (.cons .int (.nil))
  refine hC.mono fun e W' hh => ?_
  obtain ⟨v, rfl, hv, hb⟩ := hh
  have hv := hv.bool_inv
  subst hv
  exact ⟨_, rfl, post_of_below (pa := ([] ++ [])) (pv := []) hW' (fun _ _ _ => trodAll_cons_mk (shut_bool Tryz.underlying4 _) trodAll_mk0) (fun sp hsp => (trodAll_cons_mk (shut_int Tryz.underlying3 w0) trodAll_mk0)) (fun _ _ => rfl) rfl
    hb (ok_one (by kernel_rfl) rfl (okWide_bool_mk Tryz.underlying4 _))⟩
theorem laid_met (os : Os) : laidMet Tryz.prog Rows.exponentialPointsRow.laid ((laidWorld os).forCall (fun _ _ => 0) ⟨#[], #[.int .i64 0], []⟩).memory :=
  laidMet_of_run' 64 (by kernel_rfl) (by kernel_rfl)
theorem reads (os : Os) {H : Type} (enc : TypeId × Value → H) : ∃ places, DataW.whole enc Tryz.prog ((laidWorld os).forCall (fun _ _ => 0) ⟨#[], #[.int .i64 0], []⟩).memory Tryz.f10.params.toList Rows.exponentialPointsSpec.vars false #[Value.int .i64 0].toList 64 = some ([.lit (.int .i64 0)], [], places) :=
  ⟨[], by kernel_rfl⟩
set_option maxRecDepth 100000 in
theorem lifted (os : Os) (started : os.Started) (H : Type) (enc : TypeId × Value → H) (F : Stop.Interp) :
    ReturnsInHanded {} Tryz.checked os 10 .any ((OpenSpec.ofChange Rows.exponentialPointsSpec).preRow enc Tryz.prog Tryz.f10 Rows.exponentialPointsRow.domain false Rows.exponentialPointsRow.laid) (((OpenSpec.ofChange Rows.exponentialPointsSpec).at F).post enc Tryz.prog Tryz.f10 false true false false) := by
  obtain ⟨places, hx⟩ := reads os enc
  refine returnsInHanded_of_row (C := Tryz.checked) (s := OpenSpec.ofChange Rows.exponentialPointsSpec) ownNone started (by kernel_rfl) Tryz.func10
    (witness_row_at (enc := enc) (C := Tryz.checked) false (laidWorld os) #[.int .i64 0] rfl (by kernel_rfl) (by kernel_rfl) (by kernel_rfl)
      (OpenSpec.preRow_of_cond 64 hx (by kernel_rfl) (fun k hk => by cases hk) (by kernel_rfl) (laid_met os))) ?_
  intro W base args ds gs before hval hW _ _ _ hL _ _
  exact contract H enc W base args ds gs before hval hW hL
end Go.Proofs.YtekcladflnieeaaGreatDoor.exponentialPoints
