/-
  Lower layers: what functions of the program compute, and plain facts. Conditions: as the theorems say.
-/
import Derived.Test.YtlaciaoiihannaaGreatDoorXcR
set_option linter.unusedVariables false
set_option linter.unusedSimpArgs false
namespace Go.Proofs.YtlaciaoiihannaaGreatDoor
open Go.RowKit
set_option maxRecDepth 100000
set_option maxHeartbeats 2000000
theorem sqS_facts {a b T : Int} (hT : 0 < T) (i : Nat) : (sqS a b T (i + 1)).1 * T ≤ (sqS a b T i).1 * (sqS a b T i).1 ∧ (sqS a b T i).1 * (sqS a b T i).1 < ((sqS a b T (i + 1)).1 + 1) * T ∧
  (sqS a b T i).2 * (sqS a b T i).2 ≤ (sqS a b T (i + 1)).2 * T ∧ ((sqS a b T (i + 1)).2 - 1) * T ≤ (sqS a b T i).2 * (sqS a b T i).2 := by
 show (sqS a b T i).1 * (sqS a b T i).1 / T * T ≤ _ ∧ _ < ((sqS a b T i).1 * (sqS a b T i).1 / T + 1) * T ∧ _ ≤ -(-((sqS a b T i).2 * (sqS a b T i).2) / T) * T ∧ (-(-((sqS a b T i).2 * (sqS a b T i).2) / T) - 1) * T ≤ _
 generalize (sqS a b T i).1 * (sqS a b T i).1 = A
 generalize (sqS a b T i).2 * (sqS a b T i).2 = B
 have f1 := Int.ediv_mul_le A (show T ≠ 0 by omega)
 have f2 := Int.lt_ediv_add_one_mul_self A hT
 have g1 := Int.ediv_mul_le (-B) (show T ≠ 0 by omega)
 have g2 := Int.lt_ediv_add_one_mul_self (-B) hT
 generalize -B / T = z at *
 have e1 : -z * T = -(z * T) := Int.neg_mul _ _
 have e2 : (-z - 1) * T = -((z + 1) * T) := by rw [← Int.neg_mul]; congr 1; omega
 omega
theorem sqS_ge {a b T : Int} (hT : 0 < T) (ha : T ≤ a) (hb : T ≤ b) : ∀ i, T ≤ (sqS a b T i).1 ∧ T ≤ (sqS a b T i).2
 | 0 => ⟨ha, hb⟩
 | i + 1 => by
  obtain ⟨x, y⟩ := sqS_ge hT ha hb i
  have f := sqS_facts (a := a) (b := b) hT i
  have m1 := Int.mul_le_mul x x (Int.le_of_lt hT) oO
  have m2 := Int.mul_le_mul y y (Int.le_of_lt hT) oO
  generalize (sqS a b T i).1 * (sqS a b T i).1 = A at *
  generalize (sqS a b T i).2 * (sqS a b T i).2 = B at *
  constructor
  ·refine Decidable.byContradiction fun hn => ?_
   have m := Int.mul_le_mul_of_nonneg_right (show (sqS a b T (i + 1)).1 + 1 ≤ T by omega) (Int.le_of_lt hT)
   omega
  ·refine Decidable.byContradiction fun hn => ?_
   have m3 := Int.mul_le_mul_of_nonneg_right (show (sqS a b T (i + 1)).2 ≤ T - 1 by omega) (Int.le_of_lt hT)
   rw [Int.sub_mul] at m3
   omega
theorem saS_le {p : Nat → Int} {T : Int} (h : ∀ j, 0 ≤ p j ∧ p j ≤ T) : ∀ j : Nat, 0 ≤ saS p j ∧ saS p j ≤ ((j : Int) + 1) * T ∧ p 0 ≤ saS p j
 | 0 => by have := h 0; show 0 ≤ p 0 ∧ p 0 ≤ ((0 : Int) + 1) * T ∧ p 0 ≤ p 0; omega
 | j + 1 => by
  have a := saS_le h j
  have b := h (j + 1)
  show 0 ≤ saS p j + p (j + 1) ∧ saS p j + p (j + 1) ≤ (((j + 1 : Nat) : Int) + 1) * T ∧ p 0 ≤ saS p j + p (j + 1)
  have e : (((j + 1 : Nat) : Int) + 1) * T = ((j : Int) + 1) * T + T := by
   rw [show ((j + 1 : Nat) : Int) = (j : Int) + 1 from rfl, Int.add_mul _ 1 T, Int.one_mul]
  omega
end Go.Proofs.YtlaciaoiihannaaGreatDoor

namespace Go.Proofs.YtlaciaoiihannaaGreatDoor
open Go.RowKit
set_option maxRecDepth 100000
set_option maxHeartbeats 2000000
theorem dbl_mono {v : Rat} (hv : 0 ≤ v) {h : Nat} : ∀ k i, i + k = h → dbl v i ≤ dbl v h
 | 0, i, e => by rw [Nat.add_zero] at e; rw [e]; exact Rat.le_refl
 | k + 1, i, e => by
  have a := dbl_mono hv (h := h) k (i + 1) oO
  have b := dbl_nonneg hv i
  have c : dbl v (i + 1) = dbl v i + dbl v i := rfl
  grind
theorem ex_sums {T v1 v2 : Int} {nn : Nat} {v : Rat} (hT : 16 ≤ T) (hv1 : 0 ≤ v1) (h12 : v1 ≤ v2) (h8 : 8 * v2 ≤ T) (e1 : (v1 : Rat) ≤ v * (T : Rat)) (e2 : v * (T : Rat) ≤ (v2 : Rat)) (hv0 : 0 ≤ v) :
  (((saS (fun j => (exM T v1 v2 T j).1) nn) : Int) : Rat) ≤ EP v (nn + 1) * (T : Rat) ∧ (∀ K, EP v K * (T : Rat) ≤ (((saS (fun j => (exM T v1 v2 T j).2) nn + (exM T v1 v2 T nn).2) : Int) : Rat)) ∧ 7 * (saS (fun j => (exM T v1 v2 T j).2) nn - saS (fun j => (exM T v1 v2 T j).1) nn) ≤ 32 * (v2 - v1) + 32 * (nn : Int) := by
 have T0 : (0 : Rat) < (T : Rat) := Rat.intCast_pos.2 oO
 have v1R : (0 : Rat) ≤ (v1 : Rat) := Rat.intCast_nonneg.2 hv1
 have nxt := fun j => exm_next hT hv1 h12 h8 j
 have v8 : 8 * v ≤ 1 := by
  have a : (8 : Rat) * (v2 : Rat) ≤ (T : Rat) := by
   have := Rat.intCast_le_intCast.2 h8
   rw [Rat.intCast_mul] at this; exact this
  refine Rat.le_of_mul_le_mul_right (c := (T : Rat)) ?_ T0
  grind
 have vD : (0 : Rat) ≤ (v2 : Rat) - (v1 : Rat) := by have := Rat.intCast_le_intCast.2 h12; grind
 have z0 : (exM T v1 v2 T 0).1 = T ∧ (exM T v1 v2 T 0).2 = T := ⟨rfl, rfl⟩
 have L1 := lowT (p := (fun j => (exM T v1 v2 T j).1)) (T := (T : Rat)) (v1 := (v1 : Rat)) (v := v) (n := nn) T0 Rat.le_refl v1R e1 hv0 (fun j _ => by
  have a := Rat.intCast_le_intCast.2 (nxt j).1.1
  simp only [Rat.intCast_mul] at a; exact a)
 have H1 := highT (p := (fun j => (exM T v1 v2 T j).2)) (T := (T : Rat)) (v2 := (v2 : Rat)) (v := v) (n := nn) T0 Rat.le_refl e2 hv0 (fun j _ => by
  have a := Rat.intCast_le_intCast.2 (nxt j).2.1.1
  simp only [Rat.intCast_mul] at a; exact a)
 have SL := sumLow (p := (fun j => (exM T v1 v2 T j).1)) (s := saS (fun j => (exM T v1 v2 T j).1)) (n := nn) rfl (fun j _ => rfl) L1 nn (Nat.le_refl _)
 have SH := sumHigh (p := (fun j => (exM T v1 v2 T j).2)) (s := saS (fun j => (exM T v1 v2 T j).2)) (n := nn) rfl (fun j _ => rfl) H1 nn (Nat.le_refl _)
 have HL := H1 nn (Nat.le_refl _)
 have W := sumWidth (p := (fun j => (exM T v1 v2 T j).1)) (q := (fun j => (exM T v1 v2 T j).2)) (s := saS (fun j => (exM T v1 v2 T j).1)) (r := saS (fun j => (exM T v1 v2 T j).2)) (T := (T : Rat)) (v1 := (v1 : Rat)) (v2 := (v2 : Rat)) (v := v) (n := nn) T0 (by
   have := Rat.intCast_le_intCast.2 h8
   rw [Rat.intCast_mul] at this; exact this) (Rat.intCast_le_intCast.2 h12) hv0 rfl (fun j _ => rfl) rfl (fun j _ => rfl) rfl L1 H1
  (fun j _ => by
   have a := Rat.intCast_le_intCast.2 (nxt j).1.2
   simp only [Rat.intCast_mul, Rat.intCast_add] at a; exact a)
  (fun j _ => by
   have a := Rat.intCast_le_intCast.2 (nxt j).2.1.2
   simp only [Rat.intCast_mul, Rat.intCast_sub] at a; exact a) nn (Nat.le_refl _)
 have LL := L1 nn (Nat.le_refl _)
 refine ⟨SL, fun K => ?_, ?_⟩
 ·have t := EP_tail hv0 (n := nn) (Rat.le_trans (show 2 * v ≤ 1 by grind) (show (1 : Rat) ≤ (nx nn : Rat) from nx_mono (a := 0) oO)) K
  have m := Rat.mul_le_mul_of_nonneg_right t (Rat.le_of_lt T0)
  rw [Rat.intCast_add]
  have HL : tE v nn * (T : Rat) ≤ (((exM T v1 v2 T nn).2 : Int) : Rat) := HL
  grind
 ·have f := EP_four hv0 (show 10 * v ≤ 11 by grind) nn
  have m := Rat.mul_le_mul_of_nonneg_right f vD
  refine Rat.intCast_le_intCast.1 ?_
  simp only [Rat.intCast_mul, Rat.intCast_add, Rat.intCast_sub]
  have HL : tE v nn * (T : Rat) ≤ (((exM T v1 v2 T nn).2 : Int) : Rat) := HL
  have LL : (((exM T v1 v2 T nn).1 : Int) : Rat) ≤ tE v nn * (T : Rat) := LL
  have W : 7 * (((saS (fun j => (exM T v1 v2 T j).2) nn : Int) : Rat) - ((saS (fun j => (exM T v1 v2 T j).1) nn : Int) : Rat)) + ((((exM T v1 v2 T nn).2 : Int) : Rat) - (((exM T v1 v2 T nn).1 : Int) : Rat)) ≤ 8 * (EP v nn * ((v2 : Rat) - (v1 : Rat))) + 32 * (nn : Rat) := W
  have c7 : ((7 : Int) : Rat) = 7 := rfl
  have c32 : ((32 : Int) : Rat) = 32 := rfl
  have cn : (((nn : Int)) : Rat) = (nn : Rat) := rfl
  rw [c7, c32, cn]
  grind
theorem ex_plain {T v1 v2 K0 : Int} {h nn : Nat} {v : Rat} (hT : 16 ≤ T) (hv1 : 0 ≤ v1) (h12 : v1 ≤ v2) (h8 : 8 * v2 ≤ T) (e1 : (v1 : Rat) ≤ v * (T : Rat)) (e2 : v * (T : Rat) ≤ (v2 : Rat)) (hv0 : 0 ≤ v) (hx : 10 * dbl v h ≤ 11)
  (hl : (exM T v1 v2 T nn).2 ≤ 8) (hK : 5 * (v2 - v1) + 5 * (nn : Int) + 8 ≤ K0) (hm : 2 * (2 ^ h * (K0 + 10)) ≤ T) :
  (∀ i, i ≤ h → (T ≤ (sqS (saS (fun j => (exM T v1 v2 T j).1) nn) (saS (fun j => (exM T v1 v2 T j).2) nn + (exM T v1 v2 T nn).2) T i).1 ∧ (sqS (saS (fun j => (exM T v1 v2 T j).1) nn) (saS (fun j => (exM T v1 v2 T j).2) nn + (exM T v1 v2 T nn).2) T i).1 ≤ 4 * T) ∧ T ≤ (sqS (saS (fun j => (exM T v1 v2 T j).1) nn) (saS (fun j => (exM T v1 v2 T j).2) nn + (exM T v1 v2 T nn).2) T i).2 ∧ (sqS (saS (fun j => (exM T v1 v2 T j).1) nn) (saS (fun j => (exM T v1 v2 T j).2) nn + (exM T v1 v2 T nn).2) T i).2 ≤ 8 * T) ∧ (∃ N, (((sqS (saS (fun j => (exM T v1 v2 T j).1) nn) (saS (fun j => (exM T v1 v2 T j).2) nn + (exM T v1 v2 T nn).2) T h).1 : Int) : Rat) ≤ EP (dbl v h) N * (T : Rat)) ∧ (∀ K, EP (dbl v h) K * (T : Rat) ≤ (((sqS (saS (fun j => (exM T v1 v2 T j).1) nn) (saS (fun j => (exM T v1 v2 T j).2) nn + (exM T v1 v2 T nn).2) T h).2 : Int) : Rat)) ∧ (sqS (saS (fun j => (exM T v1 v2 T j).1) nn) (saS (fun j => (exM T v1 v2 T j).2) nn + (exM T v1 v2 T nn).2) T h).2 - (sqS (saS (fun j => (exM T v1 v2 T j).1) nn) (saS (fun j => (exM T v1 v2 T j).2) nn + (exM T v1 v2 T nn).2) T h).1 ≤ 8 * (2 ^ h * (K0 + 10)) := by
 obtain ⟨SL, SH, W⟩ := ex_sums (nn := nn) hT hv1 h12 h8 e1 e2 hv0
 have T0 : (0 : Rat) < (T : Rat) := Rat.intCast_pos.2 oO
 have f1 := saS_le (p := (fun j => (exM T v1 v2 T j).1)) (T := T) (fun j => by have := exm_facts hT hv1 h12 h8 j; exact ⟨this.1, this.2.1⟩) nn
 have f2 := saS_le (p := (fun j => (exM T v1 v2 T j).2)) (T := T) (fun j => by have := exm_facts hT hv1 h12 h8 j; exact ⟨this.2.2.1, this.2.2.2⟩) nn
 have f3 := (exm_facts hT hv1 h12 h8 nn).2.2.1
 have f1 : T ≤ (saS (fun j => (exM T v1 v2 T j).1) nn) := f1.2.2
 have f2 : T ≤ (saS (fun j => (exM T v1 v2 T j).2) nn + (exM T v1 v2 T nn).2) := by have := f2.2.2; have : T ≤ saS (fun j => (exM T v1 v2 T j).2) nn := this; omega
 have w : (saS (fun j => (exM T v1 v2 T j).2) nn + (exM T v1 v2 T nn).2) ≤ (saS (fun j => (exM T v1 v2 T j).1) nn) + K0 := by omega
 generalize (saS (fun j => (exM T v1 v2 T j).1) nn) = fa at *
 generalize (saS (fun j => (exM T v1 v2 T j).2) nn + (exM T v1 v2 T nn).2) = fb at *
 have TI : 0 < T := by omega
 have ge := fun i => sqS_ge (a := fa) (b := fb) TI f1 f2 i
 have sf := fun i => sqS_facts (a := fa) (b := fb) TI i
 have geR1 : ∀ i, (T : Rat) ≤ (((sqS fa fb T i).1 : Int) : Rat) := fun i => Rat.intCast_le_intCast.2 (ge i).1
 have geR2 : ∀ i, (T : Rat) ≤ (((sqS fa fb T i).2 : Int) : Rat) := fun i => Rat.intCast_le_intCast.2 (ge i).2
 have lo := sqLow (a := fun i => (sqS fa fb T i).1) (T := (T : Rat)) (v := v) (K := nn + 1) (h := h) T0 hv0 (fun i _ => Rat.le_trans (Rat.le_of_lt T0) (geR1 i)) SL (fun i _ => by
  have a := Rat.intCast_le_intCast.2 (sf i).1
  simp only [Rat.intCast_mul] at a; exact a)
 have hi := sqHigh (b := fun i => (sqS fa fb T i).2) (T := (T : Rat)) (v := v) (h := h) T0 hv0 SH (fun i _ => by
  have a := Rat.intCast_le_intCast.2 (sf i).2.2.1
  simp only [Rat.intCast_mul] at a; exact a)
 have four : ∀ i, i ≤ h → (((sqS fa fb T i).1 : Int) : Rat) ≤ 4 * (T : Rat) := fun i hi => by
  have a := lo i hi
  have b := dbl_mono hv0 (h := h) (h - i) i oO
  have c := EP_four (dbl_nonneg hv0 i) (show 10 * dbl v i ≤ 11 by grind) (2 ^ i * (nn + 1))
  exact Rat.le_trans a (Rat.mul_le_mul_of_nonneg_right c (Rat.le_of_lt T0))
 have u0 : (0 : Rat) < (T : Rat)⁻¹ := Rat.inv_pos.2 T0
 have uT : (T : Rat)⁻¹ * (T : Rat) = 1 := Rat.inv_mul_cancel _ (by grind)
 have p0 := two_pos h
 have K00 : 0 ≤ K0 := by omega
 have kT : K0 ≤ T := by
  have := Int.mul_le_mul_of_nonneg_right (show (1 : Int) ≤ 2 ^ h by omega) (show 0 ≤ K0 + 10 by omega)
  omega
 have mR : ∀ i, i ≤ h → 2 * (((2 ^ i : Nat) : Rat) * (((K0 : Rat) + 10) * (T : Rat)⁻¹)) ≤ 1 := fun i hi => by
  have a : 2 * ((((2 ^ i : Nat) : Int) : Rat) * ((K0 : Rat) + 10)) ≤ (T : Rat) := by
   have q : 2 * (((2 ^ i : Nat) : Int) * (K0 + 10)) ≤ T := by
    have := Int.mul_le_mul_of_nonneg_right (Int.ofNat_le.2 (Nat.pow_le_pow_right (n := 2) oO hi)) (show 0 ≤ K0 + 10 by omega)
    rw [pow_cast] at hm
    omega
   have := Rat.intCast_le_intCast.2 q
   simp only [Rat.intCast_mul, Rat.intCast_add] at this
   exact this
  have b := Rat.mul_le_mul_of_nonneg_right a (Rat.le_of_lt u0)
  have c : (((2 ^ i : Nat) : Int) : Rat) = ((2 ^ i : Nat) : Rat) := rfl
  rw [c] at b
  grind
 have wid : ∀ i, i ≤ h → (((sqS fa fb T i).2 : Int) : Rat) ≤ (((sqS fa fb T i).1 : Int) : Rat) * (1 + 2 * (((2 ^ i : Nat) : Rat) * (((K0 : Rat) + 10) * (T : Rat)⁻¹))) := fun i hi =>
  sqWidth (a := fun i => (sqS fa fb T i).1) (b := fun i => (sqS fa fb T i).2) (T := (T : Rat)) (u := (T : Rat)⁻¹) (K0 := (K0 : Rat)) (h := i) (Rat.intCast_le_intCast.2 (show (3 : Int) ≤ T by omega)) u0 uT (fun i _ => geR1 i) (fun i _ => geR2 i)
   (fun i _ => by
    have a := Rat.intCast_le_intCast.2 (Int.le_of_lt (sf i).2.1)
    simp only [Rat.intCast_mul, Rat.intCast_add] at a; exact a)
   (fun i _ => by
    have a := Rat.intCast_le_intCast.2 (sf i).2.2.2
    simp only [Rat.intCast_mul, Rat.intCast_sub] at a; exact a)
   (Rat.intCast_nonneg.2 K00) (Rat.intCast_le_intCast.2 kT) (by
    have a := Rat.intCast_le_intCast.2 w
    rw [Rat.intCast_add] at a; exact a) (mR i hi)
 refine ⟨fun i hi' => ⟨⟨(ge i).1, ?_⟩, (ge i).2, ?_⟩, ⟨_, lo h (Nat.le_refl _)⟩, hi h (Nat.le_refl _), ?_⟩
 ·refine Rat.intCast_le_intCast.1 ?_
  rw [Rat.intCast_mul]; exact four i hi'
 ·refine Rat.intCast_le_intCast.1 ?_
  rw [Rat.intCast_mul, show ((8 : Int) : Rat) = 8 from rfl]
  have a := wid i hi'
  have b := Rat.mul_le_mul_of_nonneg_left (mR i hi') (Rat.le_trans (Rat.le_of_lt T0) (geR1 i))
  have c := four i hi'
  grind
 ·refine Rat.intCast_le_intCast.1 ?_
  have a := wid h (Nat.le_refl _)
  have c := four h (Nat.le_refl _)
  have q0 : (0 : Rat) ≤ 2 * (((2 ^ h : Nat) : Rat) * (((K0 : Rat) + 10) * (T : Rat)⁻¹)) := by
   have k0 : (0 : Rat) ≤ (K0 : Rat) := Rat.intCast_nonneg.2 K00
   have := Rat.mul_nonneg (Rat.natCast_nonneg (a := 2 ^ h)) (Rat.mul_nonneg (show (0 : Rat) ≤ (K0 : Rat) + 10 by grind) (Rat.le_of_lt u0))
   grind
  have m := Rat.mul_le_mul_of_nonneg_right c q0
  have e : 4 * (T : Rat) * (2 * (((2 ^ h : Nat) : Rat) * (((K0 : Rat) + 10) * (T : Rat)⁻¹))) = 8 * (((2 ^ h : Nat) : Rat) * ((K0 : Rat) + 10)) := by grind
  rw [e] at m
  rw [pow_cast]
  simp only [Rat.intCast_mul, Rat.intCast_add, Rat.intCast_sub]
  have c8 : ((8 : Int) : Rat) = 8 := rfl
  have c10 : ((10 : Int) : Rat) = 10 := rfl
  have cp : (((2 ^ h : Nat) : Int) : Rat) = ((2 ^ h : Nat) : Rat) := rfl
  rw [c8, c10, cp]
  grind
end Go.Proofs.YtlaciaoiihannaaGreatDoor

namespace Go.Proofs.YtlaciaoiihannaaGreatDoor
open Go.RowKit
set_option maxRecDepth 100000
set_option maxHeartbeats 2000000
theorem shl_half (x : Int) (h : Nat) : x * 2 ^ (h + 24) / 2 ^ h = x * 16777216 ∧ -(-(x * 2 ^ (h + 24)) / 2 ^ h) = x * 16777216 := by
 have e : x * 2 ^ (h + 24) = x * 16777216 * 2 ^ h := by
  rw [Int.pow_add, show (2 : Int) ^ 24 = 16777216 from rfl, Int.mul_comm (2 ^ h), Int.mul_assoc]
 have p := two_pos h
 rw [e]
 constructor
 ·exact Int.mul_ediv_cancel _ oO
 ·rw [← Int.neg_mul, Int.mul_ediv_cancel _ oO]; omega
theorem hh_of (sc : Int) (hs : 0 ≤ sc ∧ sc ≤ 9000) : ∃ hh : Int, (4 ≤ hh ∧ hh ≤ 100) ∧ (∀ i : Int, 4 ≤ i → i < hh → i * i < sc) ∧ sc ≤ hh * hh := by
 obtain ⟨n, h1, h2, h3⟩ := least (P := fun n : Nat => sc ≤ ((n : Int) + 4) * ((n : Int) + 4)) (n := 96) (show sc ≤ (((96 : Nat) : Int) + 4) * (((96 : Nat) : Int) + 4) by omega)
 refine ⟨(n : Int) + 4, by omega, fun i a b => ?_, h2⟩
 obtain ⟨j, hj⟩ : ∃ j : Nat, (j : Int) + 4 = i := ⟨(i - 4).toNat, by omega⟩
 have := h3 j oO
 rw [hj] at this
 omega
theorem fx_expE (x1 x2 sc : Int) (x : Rat) (hs : 0 ≤ sc ∧ sc ≤ 9000) (e1 : (x1 : Rat) ≤ x * ((2 ^ sc.toNat : Int) : Rat)) (e2 : x * ((2 ^ sc.toNat : Int) : Rat) ≤ (x2 : Rat)) (hx1 : 0 ≤ x1) (hx2 : 10 * x2 ≤ 11 * 2 ^ sc.toNat) (hW : 16 * (x2 - x1 + 1) ≤ 2 ^ sc.toNat) :
  ∃ r1 r2 : Int, Impl Tryz.prog Amb 243 [(.agg [(.bool (decide (x1 < 0))), (N x1.natAbs), (.bool (decide (x2 < 0))), (N x2.natAbs)]), (.int .i64 sc)] (.agg [(.bool (decide (r1 < 0))), (N r1.natAbs), (.bool (decide (r2 < 0))), (N r2.natAbs)]) ∧ Encl (EP x) sc.toNat r1 r2 ∧ r2 - r1 ≤ 40 * (x2 - x1) + 4 ∧ (0 ≤ r1 ∧ r2 ≤ 9 * 2 ^ sc.toNat) := by
 obtain ⟨hh, h4, h5, h6⟩ := hh_of sc hs
 obtain ⟨h, hh_⟩ : ∃ h : Nat, (h : Int) = hh := ⟨hh.toNat, by omega⟩
 have hhn : hh.toNat = h := by omega
 have tn : ((sc + hh) + 24).toNat = sc.toNat + h + 24 := by omega
 have tsn : (((sc + hh) + 24) - sc).toNat = h + 24 := by omega
 have P0 := two_pos sc.toNat
 have Q0 := two_pos h
 have Q16 : (16 : Int) ≤ 2 ^ h := by
  have := Int.ofNat_le.2 (Nat.pow_le_pow_right (n := 2) oO (show 4 ≤ h by omega))
  rw [← pow_cast, ← pow_cast] at this
  exact this
 have TF : (2 : Int) ^ ((sc + hh) + 24).toNat = 2 ^ sc.toNat * 2 ^ h * 16777216 := by
  rw [tn, Int.pow_add, Int.pow_add]; rfl
 have PQ := Int.mul_le_mul_of_nonneg_left Q16 (Int.le_of_lt P0)
 have x12 : x1 ≤ x2 := Rat.intCast_le_intCast.1 (Rat.le_trans e1 e2)
 have hT16 : (16 : Int) ≤ (2 ^ ((sc + hh) + 24).toNat) := by rw [TF]; omega
 have h8 : 8 * (x2 * 16777216) ≤ (2 ^ ((sc + hh) + 24).toNat) := by rw [TF]; omega
 have hv1 : 0 ≤ (x1 * 16777216) := by omega
 have h12 : (x1 * 16777216) ≤ (x2 * 16777216) := by omega
 -- the number of terms
 obtain ⟨nn, n1, n2, n3⟩ := sum_end (q := (fun i => (exM (2 ^ ((sc + hh) + 24).toNat) (x1 * 16777216) (x2 * 16777216) (2 ^ ((sc + hh) + 24).toNat) i).2)) (t := ((sc + hh) + 24).toNat) oO rfl (fun j _ => (exm_next hT16 hv1 h12 h8 j).2.2.1)
 have hl : (exM (2 ^ ((sc + hh) + 24).toNat) (x1 * 16777216) (x2 * 16777216) (2 ^ ((sc + hh) + 24).toNat) nn).2 ≤ 8 := by
  have := (n3 (nn - 1) oO).2 oO
  rw [show nn - 1 + 1 = nn by omega] at this
  have : (exM (2 ^ ((sc + hh) + 24).toNat) (x1 * 16777216) (x2 * 16777216) (2 ^ ((sc + hh) + 24).toNat) nn).2 < 8 := this
  omega
 -- the argument of the sum
 have PR : (0 : Rat) < ((2 ^ sc.toNat : Int) : Rat) := Rat.intCast_pos.2 P0
 have QR : (0 : Rat) < ((2 ^ h : Int) : Rat) := Rat.intCast_pos.2 Q0
 have TR : (((2 ^ ((sc + hh) + 24).toNat) : Int) : Rat) = ((2 ^ sc.toNat : Int) : Rat) * ((2 ^ h : Int) : Rat) * 16777216 := by rw [TF, Rat.intCast_mul, Rat.intCast_mul]; rfl
 have x0 : 0 ≤ x := by
  refine Rat.le_of_mul_le_mul_right (c := ((2 ^ sc.toNat : Int) : Rat)) ?_ PR
  rw [Rat.zero_mul]
  exact Rat.le_trans (Rat.intCast_nonneg.2 hx1) e1
 have x11 : 10 * x ≤ 11 := by
  refine Rat.le_of_mul_le_mul_right (c := ((2 ^ sc.toNat : Int) : Rat)) ?_ PR
  have := Rat.intCast_le_intCast.2 hx2
  simp only [Rat.intCast_mul] at this
  have : (10 : Rat) * (x2 : Rat) ≤ 11 * ((2 ^ sc.toNat : Int) : Rat) := this
  grind
 have vq : x / ((2 ^ h : Int) : Rat) * ((2 ^ h : Int) : Rat) = x := Rat.div_mul_cancel (by grind)
 have v0 : 0 ≤ x / ((2 ^ h : Int) : Rat) := by rw [Rat.div_def]; exact Rat.mul_nonneg x0 (Rat.le_of_lt (Rat.inv_pos.2 QR))
 generalize hv : x / ((2 ^ h : Int) : Rat) = v at *
 have dv_ : dbl v h = x := by rw [dbl_pow]; exact vq
 have g1 : (((x1 * 16777216) : Int) : Rat) ≤ v * (((2 ^ ((sc + hh) + 24).toNat) : Int) : Rat) := by
  rw [TR, Rat.intCast_mul, show ((16777216 : Int) : Rat) = 16777216 from rfl]
  have e : v * (((2 ^ sc.toNat : Int) : Rat) * ((2 ^ h : Int) : Rat) * 16777216) = x * ((2 ^ sc.toNat : Int) : Rat) * 16777216 := by rw [← vq]; grind
  rw [e]; exact Rat.mul_le_mul_of_nonneg_right e1 (by decide)
 have g2 : v * (((2 ^ ((sc + hh) + 24).toNat) : Int) : Rat) ≤ (((x2 * 16777216) : Int) : Rat) := by
  rw [TR, Rat.intCast_mul, show ((16777216 : Int) : Rat) = 16777216 from rfl]
  have e : v * (((2 ^ sc.toNat : Int) : Rat) * ((2 ^ h : Int) : Rat) * 16777216) = x * ((2 ^ sc.toNat : Int) : Rat) * 16777216 := by rw [← vq]; grind
  rw [e]; exact Rat.mul_le_mul_of_nonneg_right e2 (by decide)
 have hm : 2 * (2 ^ h * ((5 * ((x2 * 16777216) - (x1 * 16777216)) + 5 * (nn : Int) + 8) + 10)) ≤ (2 ^ ((sc + hh) + 24).toNat) := by
  have a : 2 * ((5 * ((x2 * 16777216) - (x1 * 16777216)) + 5 * (nn : Int) + 8) + 10) ≤ 2 ^ sc.toNat * 16777216 := by omega
  have b := Int.mul_le_mul_of_nonneg_left a (Int.le_of_lt Q0)
  rw [TF]
  have c1 : (2 : Int) ^ h * (2 * ((5 * ((x2 * 16777216) - (x1 * 16777216)) + 5 * (nn : Int) + 8) + 10)) = 2 * (2 ^ h * ((5 * ((x2 * 16777216) - (x1 * 16777216)) + 5 * (nn : Int) + 8) + 10)) := by rw [← Int.mul_assoc, Int.mul_comm (2 ^ h) 2, Int.mul_assoc]
  have c2 : (2 : Int) ^ h * (2 ^ sc.toNat * 16777216) = 2 ^ sc.toNat * 2 ^ h * 16777216 := by rw [← Int.mul_assoc, Int.mul_comm (2 ^ h)]
  omega
 have R := ex_plain (h := h) (nn := nn) (K0 := 5 * ((x2 * 16777216) - (x1 * 16777216)) + 5 * (nn : Int) + 8) hT16 hv1 h12 h8 g1 g2 v0 (by rw [dv_]; exact x11) hl (Int.le_refl _) hm
 rw [dv_] at R
 obtain ⟨sz, ⟨N, lo⟩, hi, wd⟩ := R
 have ef := fun j => exm_facts hT16 hv1 h12 h8 j
 have en := fun j => exm_next hT16 hv1 h12 h8 j
 have s1 := fun j => saS_le (p := (fun i => (exM (2 ^ ((sc + hh) + 24).toNat) (x1 * 16777216) (x2 * 16777216) (2 ^ ((sc + hh) + 24).toNat) i).1)) (T := (2 ^ ((sc + hh) + 24).toNat)) (fun j => ⟨(ef j).1, (ef j).2.1⟩) j
 have s2 := fun j => saS_le (p := (fun i => (exM (2 ^ ((sc + hh) + 24).toNat) (x1 * 16777216) (x2 * 16777216) (2 ^ ((sc + hh) + 24).toNat) i).2)) (T := (2 ^ ((sc + hh) + 24).toNat)) (fun j => ⟨(ef j).2.2.1, (ef j).2.2.2⟩) j
 have sT : ∀ j : Nat, j ≤ nn → ((j : Int) + 1) * (2 ^ ((sc + hh) + 24).toNat) ≤ 10000 * (2 ^ ((sc + hh) + 24).toNat) := fun j hj => Int.mul_le_mul_of_nonneg_right oO oO
 have Lb : ∀ y : Int, -(20000 * (2 ^ ((sc + hh) + 24).toNat)) ≤ y → y ≤ 20000 * (2 ^ ((sc + hh) + 24).toNat) → L y.natAbs ≤ 700 := fun y a b => by
  refine L_big (t := ((sc + hh) + 24).toNat) ?_ oO
  have e : ((2 ^ (((sc + hh) + 24).toNat + 20) : Nat) : Int) = (2 ^ ((sc + hh) + 24).toNat) * 1048576 := by rw [← pow_cast, Int.pow_add]; rfl
  omega
 have hTw := fx_Twice x1 x2 (((sc + hh) + 24) - sc) (Nat.le_trans (Lb x1 oO oO) oO) (Nat.le_trans (Lb x2 oO oO) oO) oO
 rw [tsn] at hTw
 have wb : 0 ≤ x1 * 2 ^ (h + 24) ∧ x1 * 2 ^ (h + 24) ≤ 2 * (2 ^ ((sc + hh) + 24).toNat) ∧ 0 ≤ x2 * 2 ^ (h + 24) ∧ x2 * 2 ^ (h + 24) ≤ 2 * (2 ^ ((sc + hh) + 24).toNat) := by
  have w := two_pos (h + 24)
  have a := Int.mul_nonneg hx1 (Int.le_of_lt w)
  have b := Int.mul_le_mul_of_nonneg_right x12 (Int.le_of_lt w)
  have c := Int.mul_le_mul_of_nonneg_right (show x2 ≤ 2 * 2 ^ sc.toNat by omega) (Int.le_of_lt w)
  have d : (2 : Int) * 2 ^ sc.toNat * 2 ^ (h + 24) = 2 * (2 ^ ((sc + hh) + 24).toNat) := by rw [tn, Int.mul_assoc, ← Int.pow_add, Nat.add_assoc]
  omega
 have hHf := fx_Half (x1 * 2 ^ (h + 24)) (x2 * 2 ^ (h + 24)) hh (Nat.le_trans (Lb _ oO oO) oO) (Nat.le_trans (Lb _ oO oO) oO) oO
 rw [hhn, (shl_half x1 h).1, (shl_half x2 h).2] at hHf
 have hO := fx_One ((sc + hh) + 24) oO
 rw [Int.one_mul] at hO
 have lv1 : L (x1 * 16777216).natAbs ≤ 700 := Lb _ oO oO
 have lv2 : L (x2 * 16777216).natAbs ≤ 700 := Lb _ oO oO
 have l1 : ∀ j, L ((exM (2 ^ ((sc + hh) + 24).toNat) (x1 * 16777216) (x2 * 16777216) (2 ^ ((sc + hh) + 24).toNat) j).1).natAbs ≤ 700 := fun j => by have := ef j; exact Lb _ oO oO
 have l2 : ∀ j, L ((exM (2 ^ ((sc + hh) + 24).toNat) (x1 * 16777216) (x2 * 16777216) (2 ^ ((sc + hh) + 24).toNat) j).2).natAbs ≤ 700 := fun j => by have := ef j; exact Lb _ oO oO
 have m1 : ∀ j, L ((exM (2 ^ ((sc + hh) + 24).toNat) (x1 * 16777216) (x2 * 16777216) (2 ^ ((sc + hh) + 24).toNat) j).1 * (x1 * 16777216) / (2 ^ ((sc + hh) + 24).toNat)).natAbs ≤ 700 := fun j => by have := (en j).2.2.2; exact Lb _ oO oO
 have m2 : ∀ j, L (-(-((exM (2 ^ ((sc + hh) + 24).toNat) (x1 * 16777216) (x2 * 16777216) (2 ^ ((sc + hh) + 24).toNat) j).2 * (x2 * 16777216)) / (2 ^ ((sc + hh) + 24).toNat))).natAbs ≤ 700 := fun j => by have := (en j).2.2.2; exact Lb _ oO oO
 have a1 : ∀ j, j ≤ nn → L (saS (fun i => (exM (2 ^ ((sc + hh) + 24).toNat) (x1 * 16777216) (x2 * 16777216) (2 ^ ((sc + hh) + 24).toNat) i).1) j).natAbs ≤ 700 := fun j hj => by have := s1 j; have := sT j hj; exact Lb _ oO oO
 have a2 : ∀ j, j ≤ nn → L (saS (fun i => (exM (2 ^ ((sc + hh) + 24).toNat) (x1 * 16777216) (x2 * 16777216) (2 ^ ((sc + hh) + 24).toNat) i).2) j).natAbs ≤ 700 := fun j hj => by have := s2 j; have := sT j hj; exact Lb _ oO oO
 have q1 : ∀ i, i ≤ h → L ((sqS (saS (fun i => (exM (2 ^ ((sc + hh) + 24).toNat) (x1 * 16777216) (x2 * 16777216) (2 ^ ((sc + hh) + 24).toNat) i).1) nn) (saS (fun i => (exM (2 ^ ((sc + hh) + 24).toNat) (x1 * 16777216) (x2 * 16777216) (2 ^ ((sc + hh) + 24).toNat) i).2) nn + (exM (2 ^ ((sc + hh) + 24).toNat) (x1 * 16777216) (x2 * 16777216) (2 ^ ((sc + hh) + 24).toNat) nn).2) (2 ^ ((sc + hh) + 24).toNat) i).1).natAbs ≤ 700 := fun i hi => by have := sz i hi; exact Lb _ oO oO
 have q2 : ∀ i, i ≤ h → L ((sqS (saS (fun i => (exM (2 ^ ((sc + hh) + 24).toNat) (x1 * 16777216) (x2 * 16777216) (2 ^ ((sc + hh) + 24).toNat) i).1) nn) (saS (fun i => (exM (2 ^ ((sc + hh) + 24).toNat) (x1 * 16777216) (x2 * 16777216) (2 ^ ((sc + hh) + 24).toNat) i).2) nn + (exM (2 ^ ((sc + hh) + 24).toNat) (x1 * 16777216) (x2 * 16777216) (2 ^ ((sc + hh) + 24).toNat) nn).2) (2 ^ ((sc + hh) + 24).toNat) i).2).natAbs ≤ 700 := fun i hi => by have := sz i hi; exact Lb _ oO oO
 have C := fx_exp0 x1 x2 sc hh _ _ _ _ ((sqS (saS (fun i => (exM (2 ^ ((sc + hh) + 24).toNat) (x1 * 16777216) (x2 * 16777216) (2 ^ ((sc + hh) + 24).toNat) i).1) nn) (saS (fun i => (exM (2 ^ ((sc + hh) + 24).toNat) (x1 * 16777216) (x2 * 16777216) (2 ^ ((sc + hh) + 24).toNat) i).2) nn + (exM (2 ^ ((sc + hh) + 24).toNat) (x1 * 16777216) (x2 * 16777216) (2 ^ ((sc + hh) + 24).toNat) nn).2) (2 ^ ((sc + hh) + 24).toNat) h).1 / 2 ^ (h + 24)) (-(-((sqS (saS (fun i => (exM (2 ^ ((sc + hh) + 24).toNat) (x1 * 16777216) (x2 * 16777216) (2 ^ ((sc + hh) + 24).toNat) i).1) nn) (saS (fun i => (exM (2 ^ ((sc + hh) + 24).toNat) (x1 * 16777216) (x2 * 16777216) (2 ^ ((sc + hh) + 24).toNat) i).2) nn + (exM (2 ^ ((sc + hh) + 24).toNat) (x1 * 16777216) (x2 * 16777216) (2 ^ ((sc + hh) + 24).toNat) nn).2) (2 ^ ((sc + hh) + 24).toNat) h).2) / 2 ^ (h + 24))) nn (fun i => (exM (2 ^ ((sc + hh) + 24).toNat) (x1 * 16777216) (x2 * 16777216) (2 ^ ((sc + hh) + 24).toNat) i).1) (fun i => (exM (2 ^ ((sc + hh) + 24).toNat) (x1 * 16777216) (x2 * 16777216) (2 ^ ((sc + hh) + 24).toNat) i).2) (fun i => (exM (2 ^ ((sc + hh) + 24).toNat) (x1 * 16777216) (x2 * 16777216) (2 ^ ((sc + hh) + 24).toNat) i).1 * (x1 * 16777216) / (2 ^ ((sc + hh) + 24).toNat)) (fun i => -(-((exM (2 ^ ((sc + hh) + 24).toNat) (x1 * 16777216) (x2 * 16777216) (2 ^ ((sc + hh) + 24).toNat) i).2 * (x2 * 16777216)) / (2 ^ ((sc + hh) + 24).toNat))) oO oO h5 h6 hTw hHf hO
  (fun j _ => fx_Mul _ _ (x1 * 16777216) (x2 * 16777216) ((sc + hh) + 24) (Nat.le_trans (l1 j) oO) (Nat.le_trans (l2 j) oO) oO oO oO)
  (fun j kk _ hk => by subst hk; exact fx_Part _ _ ((j : Int) + 1) (Nat.le_trans (m1 j) oO) (Nat.le_trans (m2 j) oO) oO)
  (fun j hj => fx_Add _ _ _ _ (Nat.le_trans (a1 j oO) oO) (Nat.le_trans (a2 j oO) oO) (Nat.le_trans (l1 (j + 1)) oO) (Nat.le_trans (l2 (j + 1)) oO))
  (fun j hj => by
   have c : decide (((exM (2 ^ ((sc + hh) + 24).toNat) (x1 * 16777216) (x2 * 16777216) (2 ^ ((sc + hh) + 24).toNat) (j + 1)).2).natAbs < 8) = decide (nn ≤ j + 1) := decide_eq_decide.2 (by have := n3 j hj; have := (ef (j + 1)).2.2.1; omega)
   exact impl_eq (congrArg V.bool c) (fx_Tiny _ _ (Nat.le_trans (l2 (j + 1)) oO)))
  ⟨Nat.le_trans (a2 nn (Nat.le_refl _)) oO, Nat.le_trans (l2 nn) oO⟩ ⟨n1, by omega⟩
  (fun i hi => fx_Mul _ _ _ _ ((sc + hh) + 24) (Nat.le_trans (q1 i oO) oO) (Nat.le_trans (q2 i oO) oO) (Nat.le_trans (q1 i oO) oO) (Nat.le_trans (q2 i oO) oO) oO)
  (fun i hi => by
   have e : i = h := by omega
   subst e
   have r := fx_Half (sqS (saS (fun i => (exM (2 ^ ((sc + hh) + 24).toNat) (x1 * 16777216) (x2 * 16777216) (2 ^ ((sc + hh) + 24).toNat) i).1) nn) (saS (fun i => (exM (2 ^ ((sc + hh) + 24).toNat) (x1 * 16777216) (x2 * 16777216) (2 ^ ((sc + hh) + 24).toNat) i).2) nn + (exM (2 ^ ((sc + hh) + 24).toNat) (x1 * 16777216) (x2 * 16777216) (2 ^ ((sc + hh) + 24).toNat) nn).2) (2 ^ ((sc + hh) + 24).toNat) i).1 (sqS (saS (fun i => (exM (2 ^ ((sc + hh) + 24).toNat) (x1 * 16777216) (x2 * 16777216) (2 ^ ((sc + hh) + 24).toNat) i).1) nn) (saS (fun i => (exM (2 ^ ((sc + hh) + 24).toNat) (x1 * 16777216) (x2 * 16777216) (2 ^ ((sc + hh) + 24).toNat) i).2) nn + (exM (2 ^ ((sc + hh) + 24).toNat) (x1 * 16777216) (x2 * 16777216) (2 ^ ((sc + hh) + 24).toNat) nn).2) (2 ^ ((sc + hh) + 24).toNat) i).2 (((sc + hh) + 24) - sc) (Nat.le_trans (q1 i (Nat.le_refl _)) oO) (Nat.le_trans (q2 i (Nat.le_refl _)) oO) oO
   rw [tsn] at r
   exact r)
 have szh := sz h (Nat.le_refl _)
 have tT : (((2 ^ ((sc + hh) + 24).toNat) : Int) : Rat) = ((2 ^ (sc.toNat + (h + 24)) : Int) : Rat) := by rw [tn, Nat.add_assoc]
 rw [tT] at lo
 have hi := fun K => (show EP x K * ((2 ^ (sc.toNat + (h + 24)) : Int) : Rat) ≤ _ from by have := hi K; rw [tT] at this; exact this)
 generalize (sqS (saS (fun i => (exM (2 ^ ((sc + hh) + 24).toNat) (x1 * 16777216) (x2 * 16777216) (2 ^ ((sc + hh) + 24).toNat) i).1) nn) (saS (fun i => (exM (2 ^ ((sc + hh) + 24).toNat) (x1 * 16777216) (x2 * 16777216) (2 ^ ((sc + hh) + 24).toNat) i).2) nn + (exM (2 ^ ((sc + hh) + 24).toNat) (x1 * 16777216) (x2 * 16777216) (2 ^ ((sc + hh) + 24).toNat) nn).2) (2 ^ ((sc + hh) + 24).toNat) h).1 = A at *
 generalize (sqS (saS (fun i => (exM (2 ^ ((sc + hh) + 24).toNat) (x1 * 16777216) (x2 * 16777216) (2 ^ ((sc + hh) + 24).toNat) i).1) nn) (saS (fun i => (exM (2 ^ ((sc + hh) + 24).toNat) (x1 * 16777216) (x2 * 16777216) (2 ^ ((sc + hh) + 24).toNat) i).2) nn + (exM (2 ^ ((sc + hh) + 24).toNat) (x1 * 16777216) (x2 * 16777216) (2 ^ ((sc + hh) + 24).toNat) nn).2) (2 ^ ((sc + hh) + 24).toNat) h).2 = B at *
 have z0 : (0 : Rat) ≤ ((2 ^ (sc.toNat + (h + 24)) : Int) : Rat) := Rat.intCast_nonneg.2 (Int.le_of_lt (two_pos _))
 have W24 : (2 : Int) ^ (h + 24) = 2 ^ h * 16777216 := by rw [Int.pow_add]; rfl
 have D0 := two_pos (h + 24)
 have wf : B - A ≤ (40 * (x2 - x1) + 3) * 2 ^ (h + 24) := by
  have a := Int.mul_le_mul_of_nonneg_left (show 8 * ((5 * ((x2 * 16777216) - (x1 * 16777216)) + 5 * (nn : Int) + 8) + 10) ≤ (40 * (x2 - x1) + 3) * 16777216 by omega) (Int.le_of_lt Q0)
  have c1 : (2 : Int) ^ h * (8 * ((5 * ((x2 * 16777216) - (x1 * 16777216)) + 5 * (nn : Int) + 8) + 10)) = 8 * (2 ^ h * ((5 * ((x2 * 16777216) - (x1 * 16777216)) + 5 * (nn : Int) + 8) + 10)) := by rw [← Int.mul_assoc, Int.mul_comm (2 ^ h) 8, Int.mul_assoc]
  have c2 : (40 * (x2 - x1) + 3) * (2 : Int) ^ (h + 24) = 2 ^ h * ((40 * (x2 - x1) + 3) * 16777216) := by rw [W24, Int.mul_comm, Int.mul_assoc, Int.mul_comm 16777216]
  omega
 have hw := half_w (a := A) (b := B) (W := 40 * (x2 - x1) + 3) (n := h + 24) wf
 have hE : Encl (EP x) (sc.toNat + (h + 24)) A B := ⟨N, fun K hK => ⟨Rat.le_trans lo (Rat.mul_le_mul_of_nonneg_right (EP_mono x0 hK) z0), hi K⟩⟩
 refine ⟨_, _, C, hE.half rfl, by omega, Int.ediv_nonneg oO (Int.le_of_lt D0), ?_⟩
 have T8 : ((2 ^ ((sc + hh) + 24).toNat) : Int) = 2 ^ sc.toNat * 2 ^ (h + 24) := by rw [tn, Nat.add_assoc, Int.pow_add]
 rw [T8] at szh
 have u := Int.lt_ediv_add_one_mul_self (-B) D0
 refine Decidable.byContradiction fun hn => ?_
 have m := Int.mul_le_mul_of_nonneg_right (show -B / 2 ^ (h + 24) + 1 ≤ -(9 * 2 ^ sc.toNat) + 1 - 1 by omega) (Int.le_of_lt D0)
 have m' : (-(9 * 2 ^ sc.toNat) + 1 - 1 : Int) * 2 ^ (h + 24) = -(9 * (2 ^ sc.toNat * 2 ^ (h + 24))) := by rw [Int.add_sub_cancel, Int.neg_mul, Int.mul_assoc]
 have := Int.mul_pos P0 D0
 omega
end Go.Proofs.YtlaciaoiihannaaGreatDoor

namespace Go.Proofs.YtlaciaoiihannaaGreatDoor
open Go.RowKit
set_option maxRecDepth 100000
set_option maxHeartbeats 2000000
theorem fx_ExpW (m : Int) (ee : Int) (s1 : Int) (p1 : Int) (p2 : Int) (q1 : Int) (q2 : Int) (k0 : Int) (a1 : Int) (a2 : Int) (u1 : Int) (u2 : Int) (t1 : Int) (t2 : Int) (d1 : Int) (d2 : Int) (x1 : Int) (x2 : Int) (y1 : Int) (y2 : Int) (r1 : Int) (r2 : Int) (c0 : 0 ≤ s1 ∧ s1 ≤ 9000) (c1 : -20000 ≤ k0 ∧ k0 ≤ 20000) (c2 : Impl Tryz.prog Amb 173 [(yV m ee), (.int .i64 32)] (.agg [(.bool (decide (p1 < 0))), (N p1.natAbs), (.bool (decide (p2 < 0))), (N p2.natAbs)])) (c3 : Impl Tryz.prog Amb 230 [(.int .i64 32)] (.agg [(.bool (decide (q1 < 0))), (N q1.natAbs), (.bool (decide (q2 < 0))), (N q2.natAbs)])) (c4 : Impl Tryz.prog Amb 175 [(.agg [(.bool (decide (p1 < 0))), (N p1.natAbs), (.bool (decide (p2 < 0))), (N p2.natAbs)]), (.agg [(.bool (decide (q1 < 0))), (N q1.natAbs), (.bool (decide (q2 < 0))), (N q2.natAbs)])] (.int .i64 k0)) (c5 : Impl Tryz.prog Amb 173 [(yV m ee), (.int .i64 (((s1 + (iMax (k0 - 1) (0 : Int))) + 24) + 16))] (.agg [(.bool (decide (a1 < 0))), (N a1.natAbs), (.bool (decide (a2 < 0))), (N a2.natAbs)])) (c6 : Impl Tryz.prog Amb 230 [(.int .i64 (((s1 + (iMax (k0 - 1) (0 : Int))) + 24) + 16))] (.agg [(.bool (decide (u1 < 0))), (N u1.natAbs), (.bool (decide (u2 < 0))), (N u2.natAbs)])) (c7 : Impl Tryz.prog Amb 177 [(.agg [(.bool (decide (u1 < 0))), (N u1.natAbs), (.bool (decide (u2 < 0))), (N u2.natAbs)]), (.int .i64 (k0 - 1))] (.agg [(.bool (decide (t1 < 0))), (N t1.natAbs), (.bool (decide (t2 < 0))), (N t2.natAbs)])) (c8 : Impl Tryz.prog Amb 176 [(.agg [(.bool (decide (a1 < 0))), (N a1.natAbs), (.bool (decide (a2 < 0))), (N a2.natAbs)]), (.agg [(.bool (decide (t1 < 0))), (N t1.natAbs), (.bool (decide (t2 < 0))), (N t2.natAbs)])] (.agg [(.bool (decide (d1 < 0))), (N d1.natAbs), (.bool (decide (d2 < 0))), (N d2.natAbs)])) (c9 : Impl Tryz.prog Amb 174 [(.agg [(.bool (decide (d1 < 0))), (N d1.natAbs), (.bool (decide (d2 < 0))), (N d2.natAbs)]), (.int .i64 16)] (.agg [(.bool (decide (x1 < 0))), (N x1.natAbs), (.bool (decide (x2 < 0))), (N x2.natAbs)])) (c10 : Impl Tryz.prog Amb 243 [(.agg [(.bool (decide (x1 < 0))), (N x1.natAbs), (.bool (decide (x2 < 0))), (N x2.natAbs)]), (.int .i64 ((s1 + (iMax (k0 - 1) (0 : Int))) + 24))] (.agg [(.bool (decide (y1 < 0))), (N y1.natAbs), (.bool (decide (y2 < 0))), (N y2.natAbs)])) (c11 : Impl Tryz.prog Amb 174 [(.agg [(.bool (decide (y1 < 0))), (N y1.natAbs), (.bool (decide (y2 < 0))), (N y2.natAbs)]), (.int .i64 ((((s1 + (iMax (k0 - 1) (0 : Int))) + 24) - s1) - (k0 - 1)))] (.agg [(.bool (decide (r1 < 0))), (N r1.natAbs), (.bool (decide (r2 < 0))), (N r2.natAbs)])) : Impl Tryz.prog Amb 205 [(yV m ee), (.int .i64 s1)] (.agg [(.bool (decide (r1 < 0))), (N r1.natAbs), (.bool (decide (r2 < 0))), (N r2.natAbs)]) := by
 have im1 := iMax_range (k0 - 1) 0
 exact impl_ob hP hAmb Tryz.func205 (by kernel_rfl) (.lits 2 <| .call (.agg [(.bool (decide (p1 < 0))), (N p1.natAbs), (.bool (decide (p2 < 0))), (N p2.natAbs)]) <| .lit <| .call (.agg [(.bool (decide (q1 < 0))), (N q1.natAbs), (.bool (decide (q2 < 0))), (N q2.natAbs)]) <| .lit <| .call (.int .i64 k0) <| .lit <| .yes <| .lits 2 <| .yes <| .lit <| .yes <| .lits 2 <| .yes <| .lit <| .call (.agg [(.bool (decide (a1 < 0))), (N a1.natAbs), (.bool (decide (a2 < 0))), (N a2.natAbs)]) <| .lit <| .yes <| .lit <| .call (.agg [(.bool (decide (u1 < 0))), (N u1.natAbs), (.bool (decide (u2 < 0))), (N u2.natAbs)]) <| .lit <| .call (.agg [(.bool (decide (t1 < 0))), (N t1.natAbs), (.bool (decide (t2 < 0))), (N t2.natAbs)]) <| .lit <| .call (.agg [(.bool (decide (d1 < 0))), (N d1.natAbs), (.bool (decide (d2 < 0))), (N d2.natAbs)]) <| .lit <| .call (.agg [(.bool (decide (x1 < 0))), (N x1.natAbs), (.bool (decide (x2 < 0))), (N x2.natAbs)]) <| .lits 3 <| .call (.agg [(.bool (decide (y1 < 0))), (N y1.natAbs), (.bool (decide (y2 < 0))), (N y2.natAbs)]) <| .lits 3 <| .yes <| .lit <| .yes <| .lit <| .call (.agg [(.bool (decide (r1 < 0))), (N r1.natAbs), (.bool (decide (r2 < 0))), (N r2.natAbs)]) <| .lits 2 <| .ret)
  (cast_ob (aI True.intro (aI (c2 ) (aI (c3 ) (aI (c4 ) (aI (fits_i64 oS : (fits .i64 (k0 - 1)) = true) (aI (fits_i64 oS : (fits .i64 (s1 + (iMax (k0 - 1) (0 : Int)))) = true) (aI (fits_i64 oS : (fits .i64 ((s1 + (iMax (k0 - 1) (0 : Int))) + 24)) = true) (aI (fits_i64 oS : (fits .i64 (((s1 + (iMax (k0 - 1) (0 : Int))) + 24) + 16)) = true) (aI (c5 ) (aI (fits_i64 oS : (fits .i64 (((s1 + (iMax (k0 - 1) (0 : Int))) + 24) + 16)) = true) (aI (c6 ) (aI (c7 ) (aI (c8 ) (aI (c9 ) (aI (c10 ) (aI (fits_i64 oS : (fits .i64 (((s1 + (iMax (k0 - 1) (0 : Int))) + 24) - s1)) = true) (aI (fits_i64 oS : (fits .i64 ((((s1 + (iMax (k0 - 1) (0 : Int))) + 24) - s1) - (k0 - 1))) = true) (aI (c11 ) ((vsub_refl (.agg [(.bool (decide (r1 < 0))), (N r1.natAbs), (.bool (decide (r2 < 0))), (N r2.natAbs)]))))))))))))))))))))) (by kernel_rfl))
end Go.Proofs.YtlaciaoiihannaaGreatDoor

namespace Go.Proofs.YtlaciaoiihannaaGreatDoor
open Go.RowKit
set_option maxRecDepth 100000
set_option maxHeartbeats 2000000
def fx_SettleB_0_mk (fk : Nat) (u1 : V) (_ _ w : Int) (x : Int) : St := ⟨mkS 27 [(0, (.val (.int .i64 w))), (1, (.val (.bnd fk [u1]))), (4, (.own 0 0)), (5, (.val (.int .i64 24)))], [⟨true, false, [(V.bool false), V.nil, (V.bool false), V.nil]⟩]⟩
def fx_SettleB_0_I (_ : Nat) (_ : V) (_ _ _ : Int) (x : Int) : Prop := x = x
def fx_SettleB_0_mu (_ : Nat) (_ : V) (_ _ _ : Int) (x : Int) : Nat := 0
def fx_SettleB_0_ex (_ : Nat) (_ : V) (ka kb _ : Int) (y : Int) : Ex × St := (.ret, ⟨mkS 27 [(4, (.own 0 0))], [⟨true, false, [(V.bool (decide ((ka / 2 ^ 24) < 0))), (N ((ka / 2 ^ 24).natAbs)), (V.bool (decide ((-(-kb / 2 ^ 24)) < 0))), (N ((-(-kb / 2 ^ 24)).natAbs))]⟩]⟩)
def fx_SettleB_0_J (_ : Nat) (_ : V) (_ _ _ : Int) (y : Int) : Prop := y = y
theorem fx_SettleB_0 (fk : Nat) (u1 : V) (ka kb w : Int) (c0 : Impl Tryz.prog Amb fk [u1, (.int .i64 (w + 24))] (.agg [(.bool (decide (ka < 0))), (N ka.natAbs), (.bool (decide (kb < 0))), (N kb.natAbs)]))(c1 : L ka.natAbs ≤ 8192 ∧ L kb.natAbs ≤ 8192)(c2 : nbits (kb - ka).natAbs ≤ 24)(c3 : (0 : Int) ≤ w ∧ w ≤ 5000) (x0 : Int) (hI : fx_SettleB_0_I fk u1 ka kb w x0) : LoopOk Tryz.prog Amb (loopN Tryz.f130 0) (fx_SettleB_0_mk fk u1 ka kb w x0) (fun e st_ => ∃ y, fx_SettleB_0_J fk u1 ka kb w y ∧ fx_SettleB_0_ex fk u1 ka kb w y = (e, st_)) :=
 loop_ob hP hAmb ⟨[0, 1, 4, 5], 1, []⟩ (fx_SettleB_0_mk fk u1 ka kb w) (fx_SettleB_0_I fk u1 ka kb w) (fx_SettleB_0_mu fk u1 ka kb w) (fx_SettleB_0_ex fk u1 ka kb w) (fx_SettleB_0_J fk u1 ka kb w) x0 hI (fun j => .lit <| .yes <| .lit <| .call (.agg [(.bool (decide (ka < 0))), (N ka.natAbs), (.bool (decide (kb < 0))), (N kb.natAbs)]) <| .lits 3 <| .call (zV (kb - ka)) <| .lits 2 <| .call (.int .i64 (nbits ((kb - ka).natAbs) : Int)) <| .lit <| .yes <| .lits 5 <| .call (.agg [(.bool (decide ((ka / 2 ^ 24) < 0))), (N ((ka / 2 ^ 24).natAbs)), (.bool (decide ((-(-kb / 2 ^ 24)) < 0))), (N ((-(-kb / 2 ^ 24)).natAbs))]) <| .lit <| .fin3 ⟨[4], [0]⟩) (by
  rintro j hI
  have hI : j = j := hI
  have h1 := hI
  exact cast_ob (aI True.intro (aI (fits_i64 oS : (fits .i64 (w + 24)) = true) (aI (c0 ) (aI (fx_Width ka kb oS oS) (have f106 := L_abs_sub kb ka; aI (nat_Bits ((kb - ka).natAbs) oS) (have f105 := nbits_L ((kb - ka).natAbs); aI (iLe_mk oO : (iLe (nbits ((kb - ka).natAbs) : Int) 24) = true) (aI (fx_Half ka kb 24 oS oS oS) (have f104 := L_abs_neg (-kb / 2 ^ 24); have f103 := L_abs_shr (-kb) 24; have f102 := L_abs_neg kb; have f101 := L_abs_shr ka 24; aI tT ((nx_ret ((fx_SettleB_0_ex fk u1 ka kb w j).2) j (show j = j from rfl) rfl : NX (fx_SettleB_0_mk fk u1 ka kb w) (fx_SettleB_0_I fk u1 ka kb w) (fx_SettleB_0_mu fk u1 ka kb w) (fx_SettleB_0_ex fk u1 ka kb w) (fx_SettleB_0_J fk u1 ka kb w) j .ret ((fx_SettleB_0_ex fk u1 ka kb w j).2))))))))))) (by kernel_rfl))
theorem fx_SettleB (fk : Nat) (u1 : V) (ka : Int) (kb : Int) (w : Int) (c0 : Impl Tryz.prog Amb fk [u1, (.int .i64 (w + 24))] (.agg [(.bool (decide (ka < 0))), (N ka.natAbs), (.bool (decide (kb < 0))), (N kb.natAbs)])) (c1 : L ka.natAbs ≤ 8192 ∧ L kb.natAbs ≤ 8192) (c2 : nbits (kb - ka).natAbs ≤ 24) (c3 : (0 : Int) ≤ w ∧ w ≤ 5000) : Impl Tryz.prog Amb 130 [(.int .i64 w), (.bnd fk [u1])] (.agg [(.bool (decide ((ka / 2 ^ 24) < 0))), (N ((ka / 2 ^ 24).natAbs)), (.bool (decide ((-(-kb / 2 ^ 24)) < 0))), (N ((-(-kb / 2 ^ 24)).natAbs))]) := by
 exact impl_ob hP hAmb Tryz.func130 (by kernel_rfl) (.loop ⟨[0, 1, 4, 5], 1, []⟩ ((fx_SettleB_0_mk fk u1 ka kb w (0 : Int))) (Int) (fx_SettleB_0_ex fk u1 ka kb w) (fx_SettleB_0_J fk u1 ka kb w) (fun y => .lit <| .ret))
  (cast_ob (aI True.intro (aI tT (aI (rfl : (fx_SettleB_0_mk fk u1 ka kb w (0 : Int)) = (fx_SettleB_0_mk fk u1 ka kb w (0 : Int))) (aI (fx_SettleB_0 fk u1 ka kb w c0 c1 c2 c3 (0 : Int) (show (0 : Int) = (0 : Int) from rfl)) (fun y (hJ : fx_SettleB_0_J fk u1 ka kb w y) => have hJ : y = y := hJ; (vsub_refl (.agg [(.bool (decide ((ka / 2 ^ 24) < 0))), (N ((ka / 2 ^ 24).natAbs)), (.bool (decide ((-(-kb / 2 ^ 24)) < 0))), (N ((-(-kb / 2 ^ 24)).natAbs))]))))))) (by kernel_rfl))
theorem ex_value0 (m : Int) (ee : Int) (w : Int) (lo : Int) (hi : Int) (c0 : L (m).natAbs ≤ 8000) (c1 : -4096 ≤ w ∧ w ≤ 4096) (c2 : Impl Tryz.prog Amb 74 [(yV (-m) ee), (.int .i64 (w + 1))] (.bool false)) (c3 : Impl Tryz.prog Amb 130 [(.int .i64 w), (.bnd 140 [(yV m ee)])] (.agg [(.bool (decide (lo < 0))), (N lo.natAbs), (.bool (decide (hi < 0))), (N hi.natAbs)])) : Impl Tryz.prog Amb 76 [(yV m ee), (.int .i64 w)] (.agg [(.bool (decide (lo < 0))), (N lo.natAbs), (.bool (decide (hi < 0))), (N hi.natAbs)]) := by
 exact impl_ob hP hAmb Tryz.func76 (by kernel_rfl) (.lits 2 <| .call (yV (-m) ee) <| .lit <| .yes <| .lit <| .call (.bool false) <| .lits 4 <| .call (.agg [(.bool (decide (lo < 0))), (N lo.natAbs), (.bool (decide (hi < 0))), (N hi.natAbs)]) <| .lits 2 <| .ret)
  (cast_ob (aI True.intro (aI (dy_Neg m ee oS) (have f1 := L_abs_neg m; aI (fits_i64 oS : (fits .i64 (w + 1)) = true) (aI (c2 ) (aI (c3 ) ((vsub_refl (.agg [(.bool (decide (lo < 0))), (N lo.natAbs), (.bool (decide (hi < 0))), (N hi.natAbs)])))))))) (by kernel_rfl))
theorem ex_Exp0 (m : Int) (ee : Int) (n : Int) (f : Int) (w : Int) (l1 : Int) (h1 : Int) (l2 : Int) (h2 : Int) (a1 : Int) (a2 : Int) (b1 : Int) (b2 : Int) (c0 : 0 ≤ w ∧ w ≤ 4096) (c1 : Impl Tryz.prog Amb 74 [(yV n f), (.int .i64 1000)] (.bool false)) (c2 : Impl Tryz.prog Amb 76 [(yV m ee), (.int .i64 w)] (.agg [(.bool (decide (l1 < 0))), (N l1.natAbs), (.bool (decide (h1 < 0))), (N h1.natAbs)])) (c3 : Impl Tryz.prog Amb 76 [(yV n f), (.int .i64 w)] (.agg [(.bool (decide (l2 < 0))), (N l2.natAbs), (.bool (decide (h2 < 0))), (N h2.natAbs)])) (c4 : Impl Tryz.prog Amb 75 [(zV l1), (.int .i64 ((0 : Int) - w))] (.tup [(yV a1 a2), (.int .i64 0)])) (c5 : Impl Tryz.prog Amb 75 [(zV h2), (.int .i64 ((0 : Int) - w))] (.tup [(yV b1 b2), (.int .i64 0)])) : Impl Tryz.prog Amb 19 [(wV m ee n f), (.int .i64 w)] (.tup [(wV a1 a2 b1 b2), (.int .i64 0)]) := by
 exact impl_ob hP hAmb Tryz.func19 (by kernel_rfl) (.lit <| .no <| .lits 3 <| .no <| .lits 2 <| .call (.bool false) <| .lits 3 <| .call (.agg [(.bool (decide (l1 < 0))), (N l1.natAbs), (.bool (decide (h1 < 0))), (N h1.natAbs)]) <| .lits 2 <| .yes <| .lit <| .call (.tup [(yV a1 a2), (.int .i64 0)]) <| .lits 3 <| .call (.agg [(.bool (decide (l2 < 0))), (N l2.natAbs), (.bool (decide (h2 < 0))), (N h2.natAbs)]) <| .lits 2 <| .yes <| .lit <| .call (.tup [(yV b1 b2), (.int .i64 0)]) <| .lits 12 <| .ret)
  (cast_ob (aI True.intro (aI (iLt_mkF oS : (iLt w 0) = false) (aI (iGt_mkF oS : (iGt w 4096) = false) (aI (c1 ) (aI (c2 ) (aI (fits_i64 oS : (fits .i64 ((0 : Int) - w)) = true) (aI (c4 ) (aI (c3 ) (aI (fits_i64 oS : (fits .i64 ((0 : Int) - w)) = true) (aI (c5 ) ((vsub_refl (.tup [(wV a1 a2 b1 b2), (.int .i64 0)]))))))))))))) (by kernel_rfl))
theorem ex_ExpL (m : Int) (ee : Int) (n : Int) (f : Int) (w : Int) (c0 : 0 ≤ w ∧ w ≤ 4096) (c1 : Impl Tryz.prog Amb 74 [(yV n f), (.int .i64 1000)] (.bool true)) : Impl Tryz.prog Amb 19 [(wV m ee n f), (.int .i64 w)] (e0T 3) := by
 exact impl_ob hP hAmb Tryz.func19 (by kernel_rfl) (.lit <| .no <| .lits 3 <| .no <| .lits 2 <| .call (.bool true) <| .lits 4 <| .ret)
  (cast_ob (aI True.intro (aI (iLt_mkF oS : (iLt w 0) = false) (aI (iGt_mkF oS : (iGt w 4096) = false) (aI (c1 ) ((vsub_refl (e0T 3))))))) (by kernel_rfl))
theorem l14_awake0 (a1 : Int) (a2 : Int) (b1 : Int) (b2 : Int) (m : Int) (ee : Int) (qq : Rat) (c0 : Impl Tryz.prog Amb 72 [(.int .i64 0), (.int .i64 0)] (wV (0 : Int) 0 (0 : Int) 0)) (c1 : Impl Tryz.prog Amb 19 [(wV (0 : Int) 0 (0 : Int) 0), (.int .i64 3)] (.tup [(wV a1 a2 b1 b2), (.int .i64 0)])) (c2 : Impl Tryz.prog Amb 72 [(.int .i64 2000), (.int .i64 2000)] (wV m ee m ee)) (c3 : Impl Tryz.prog Amb 19 [(wV m ee m ee), (.int .i64 3)] (e0T 3)) (c4 : Impl Tryz.prog Amb 30 [(.int .i64 1)] (.agg [(.bool (decide (qq.num < 0))), (N qq.num.natAbs), (N qq.den)])) (c5 : Impl Tryz.prog Amb 68 [(wV a1 a2 b1 b2), (.agg [(.bool (decide (qq.num < 0))), (N qq.num.natAbs), (N qq.den)])] (.bool true)) : Impl Tryz.prog Amb 15 [] (.bool true) := by
 exact impl_ob hP hAmb Tryz.func15 (by kernel_rfl) (.lit <| .call (wV (0 : Int) 0 (0 : Int) 0) <| .lit <| .call (.tup [(wV a1 a2 b1 b2), (.int .i64 0)]) <| .lits 2 <| .call (wV m ee m ee) <| .lit <| .call (e0T 3) <| .lits 10 <| .call (.agg [(.bool (decide (qq.num < 0))), (N qq.num.natAbs), (N qq.den)]) <| .lits 2 <| .call (.bool true) <| .lits 2 <| .ret)
  (cast_ob (aI True.intro (aI (c0 ) (aI (c1 ) (aI (c2 ) (aI (c3 ) (aI (c4 ) (aI (c5 ) ((vsub_refl (.bool true)))))))))) (by kernel_rfl))
theorem l14_of (a : Int) (b : Int) (c0 : (-9223372036854775808 : Int) ≤ a ∧ a ≤ 9223372036854775807) (c1 : (-9223372036854775808 : Int) ≤ b ∧ b ≤ 9223372036854775807) : Impl Tryz.prog Amb 72 [(.int .i64 a), (.int .i64 b)] (wV (mkM a 0) (mkX a 0) (mkM b 0) (mkX b 0)) := by
 exact impl_ob hP hAmb Tryz.func72 (by kernel_rfl) (.lit <| .call (yV (mkM a 0) (mkX a 0)) <| .lit <| .call (yV (mkM b 0) (mkX b 0)) <| .lits 3 <| .ret)
  (cast_ob (aI True.intro (aI (r08_Of a oO) (have f4 := (L_i64 oO : L (a : Int).natAbs ≤ 2); have f3 := mk_facts a 0; aI (r08_Of b oO) (have f2 := (L_i64 oO : L (b : Int).natAbs ≤ 2); have f1 := mk_facts b 0; (vsub_refl (wV (mkM a 0) (mkX a 0) (mkM b 0) (mkX b 0))))))) (by kernel_rfl))
end Go.Proofs.YtlaciaoiihannaaGreatDoor

namespace Go.Proofs.YtlaciaoiihannaaGreatDoor
open Go.RowKit
set_option maxRecDepth 100000
def ivM (b : Bool) (l : List Nat) (e : Int) (c : Bool) (r : List Nat) (f n k : Int) : Int := (swM (mkM (rawI b l n) (e % (2 * k + 1) - k)) (mkX (rawI b l n) (e % (2 * k + 1) - k)) (mkM (rawI c r n) (f % (2 * k + 1) - k)) (mkX (rawI c r n) (f % (2 * k + 1) - k)))
def ivX (b : Bool) (l : List Nat) (e : Int) (c : Bool) (r : List Nat) (f n k : Int) : Int := (swX (mkM (rawI b l n) (e % (2 * k + 1) - k)) (mkX (rawI b l n) (e % (2 * k + 1) - k)) (mkM (rawI c r n) (f % (2 * k + 1) - k)) (mkX (rawI c r n) (f % (2 * k + 1) - k)))
def ivN (b : Bool) (l : List Nat) (e : Int) (c : Bool) (r : List Nat) (f n k : Int) : Int := (swN (mkM (rawI b l n) (e % (2 * k + 1) - k)) (mkX (rawI b l n) (e % (2 * k + 1) - k)) (mkM (rawI c r n) (f % (2 * k + 1) - k)) (mkX (rawI c r n) (f % (2 * k + 1) - k)))
def ivF (b : Bool) (l : List Nat) (e : Int) (c : Bool) (r : List Nat) (f n k : Int) : Int := (swF (mkM (rawI b l n) (e % (2 * k + 1) - k)) (mkX (rawI b l n) (e % (2 * k + 1) - k)) (mkM (rawI c r n) (f % (2 * k + 1) - k)) (mkX (rawI c r n) (f % (2 * k + 1) - k)))
theorem iv_fit {b : Bool} {l : List Nat} {e : Int} {c : Bool} {r : List Nat} {f n k : Int} (hl : Dig l) (hr : Dig r) (hn : 0 ≤ n ∧ n ≤ 800) (hk : 0 ≤ k ∧ k ≤ 20000) : ((L (ivM b l e c r f n k).natAbs ≤ n ∧ -k ≤ (ivX b l e c r f n k) ∧ (ivX b l e c r f n k) ≤ k + 32 * n) ∧ (L (ivN b l e c r f n k).natAbs ≤ n ∧ -k ≤ (ivF b l e c r f n k) ∧ (ivF b l e c r f n k) ≤ k + 32 * n)) ∧ vdb (ivM b l e c r f n k) (ivX b l e c r f n k) = true ∧ vdb (ivN b l e c r f n k) (ivF b l e c r f n k) = true ∧ dv (ivM b l e c r f n k) (ivX b l e c r f n k) ≤ dv (ivN b l e c r f n k) (ivF b l e c r f n k) := by
 have h := rawI_fit (b := b) (c := c) (e := e) (f := f) hl hr hn hk rfl rfl rfl rfl
 exact ⟨⟨h.1, h.2.1⟩, h.2.2⟩
theorem mill_Iv (b : Bool) (l : List Nat) (e : Int) (c : Bool) (r : List Nat) (f n k : Int) (c0 : Dig l) (c1 : l.length ≤ 9223372036854775807) (c2 : Dig r) (c3 : r.length ≤ 9223372036854775807) (c4 : (-9223372036854775808 : Int) ≤ e ∧ e ≤ 9223372036854775807) (c5 : (-9223372036854775808 : Int) ≤ f ∧ f ≤ 9223372036854775807) (c6 : (0 : Int) ≤ n ∧ n ≤ 800) (c7 : (0 : Int) ≤ k ∧ k ≤ 20000) : Impl Tryz.prog Amb 33 [(.agg [(.bool b), (.sl 1 (U l)), (.int .i64 e), (.bool c), (.sl 1 (U r)), (.int .i64 f)]), (.int .i64 n), (.int .i64 k)] (.tup [(wV (ivM b l e c r f n k) (ivX b l e c r f n k) (ivN b l e c r f n k) (ivF b l e c r f n k)), (.bool (decide ((l.length : Int) ≤ n ∧ (r.length : Int) ≤ n)))]) :=
 mill_Interval b l e c r f n k c0 c1 c2 c3 c4 c5 c6 c7
theorem r10_Has (m : Int) (e : Int) (n : Int) (f : Int) (r : Rat) (c0 : L (m).natAbs ≤ 9000) (c1 : L (n).natAbs ≤ 9000) (c2 : (-65536 : Int) ≤ e ∧ e ≤ 65536) (c3 : (-65536 : Int) ≤ f ∧ f ≤ 65536) (c4 : vdb m e = true) (c5 : vdb n f = true) (c6 : L r.num.natAbs ≤ 6000) (c7 : L r.den ≤ 6000) : Impl Tryz.prog Amb 68 [(wV m e n f), (.agg [(.bool (decide (r.num < 0))), (N r.num.natAbs), (N r.den)])] (.bool (decide (cmpQ (dv m e) r ≤ 0 ∧ cmpQ r (dv n f) ≤ 0))) := by
 exact impl_ob hP hAmb Tryz.func68 (by kernel_rfl) (.lits 2 <| .call (.agg [(.bool (decide ((dv m e).num < 0))), (N (((dv m e).num).natAbs)), (N ((dv m e).den))]) <| .lits 2 <| .call (.int .i64 (cmpQ (dv m e) r)) <| .lit <| .both (.lits 6 <| .call (.agg [(.bool (decide ((dv n f).num < 0))), (N (((dv n f).num).natAbs)), (N ((dv n f).den))]) <| .lits 2 <| .call (.int .i64 (cmpQ r (dv n f))) <| .lits 4 <| .ret) (.lits 7 <| .ret))
  (cast_ob (aI True.intro (aI (r08_Rat m e oA oA oA) (have f6 := (dv_L ‹vdb m e = true› oA : L (dv m e).num.natAbs ≤ L (m).natAbs + 2050 ∧ L (dv m e).den ≤ 2050); aI (r07_Cmp (dv m e) r oA oA oA oA) (have f5 := cmpQ_range (dv m e) r; aI (fun (h1 : (iLe (cmpQ (dv m e) r) 0) = true) => have _gh1 := iLe_t h1; aI (r08_Rat n f oA oA oA) (have f3 := (dv_L ‹vdb n f = true› oA : L (dv n f).num.natAbs ≤ L (n).natAbs + 2050 ∧ L (dv n f).den ≤ 2050); aI (r07_Cmp r (dv n f) oA oA oA oA) (have f2 := cmpQ_range r (dv n f); (vsub_of (congrArg V.bool (has_1 oO)) : vsub (.bool (iLe (cmpQ r (dv n f)) 0)) (.bool (decide (cmpQ (dv m e) r ≤ 0 ∧ cmpQ r (dv n f) ≤ 0))))))) (fun (h4 : (iLe (cmpQ (dv m e) r) 0) = false) => have _gh4 := iLe_f h4; (vsub_of (congrArg V.bool ((decide_eq_false oO).symm)) : vsub (.bool false) (.bool (decide (cmpQ (dv m e) r ≤ 0 ∧ cmpQ r (dv n f) ≤ 0))))))))) (by kernel_rfl))
end Go.Proofs.YtlaciaoiihannaaGreatDoor

namespace Go.Proofs.YtlaciaoiihannaaGreatDoor
open Go.RowKit
set_option maxRecDepth 100000
set_option maxHeartbeats 2000000
theorem flr0 {s : Int} (h : 0 ≤ s) : flr (dv 0 0) s = 0 ∧ cei (dv 0 0) s = 0 := by
 have z := of_ge (m := 0) (e := 0) (s := s) oO
 rw [Int.zero_mul] at z
 exact ⟨z.1.symm, z.2.symm⟩
theorem of0 (s : Int) (h : 0 ≤ s ∧ s ≤ 20000) : Impl Tryz.prog Amb 173 [(yV (0 : Int) 0), (.int .i64 s)] (.agg [(.bool (decide ((0 : Int) < 0))), (N ((0 : Int).natAbs)), (.bool (decide ((0 : Int) < 0))), (N ((0 : Int).natAbs))]) := by
 have a := fx_Of 0 0 s (by simp [L_zero]) oO h
 rw [(flr0 h.1).1, (flr0 h.1).2] at a
 exact a
theorem expo_aw : Impl Tryz.prog Amb 243 [(.agg [(.bool (decide ((1560828692041339 : Int) < 0))), (N ((1560828692041339 : Int).natAbs)), (.bool (decide ((1560828692041340 : Int) < 0))), (N ((1560828692041340 : Int).natAbs))]), (.int .i64 51)] (.agg [(.bool (decide ((4503599627370494 : Int) < 0))), (N ((4503599627370494 : Int).natAbs)), (.bool (decide ((4503599627370497 : Int) < 0))), (N ((4503599627370497 : Int).natAbs))]) :=
 impl_eq (by kernel_rfl) (fx_expG 1560828692041339 1560828692041340 51 8 6703708186976006485049344 6703708186976010780016640 26186360105375025332224 26186360105375042109440 9697628400215167260647547 9697628400215167277470259 8 oO oO (by intro i a b; rcases (show i = 4 ∨ i = 5 ∨ i = 6 ∨ i = 7 by omega) with rfl | rfl | rfl | rfl <;> decide) (by decide) oO
  (Nat.le_trans (L500 (of_decide_eq_true (by kernel_rfl))) oO) (Nat.le_trans (L500 (of_decide_eq_true (by kernel_rfl))) oO) (by kernel_rfl) (by kernel_rfl) (by kernel_rfl) (by kernel_rfl) (Nat.le_trans (L500 (of_decide_eq_true (by kernel_rfl))) oO) (Nat.le_trans (L500 (of_decide_eq_true (by kernel_rfl))) oO)
  (by kernel_rfl) (by kernel_rfl) (by kernel_rfl) (by kernel_rfl))
theorem L_c {x : Int} (h : x.natAbs < 2 ^ 500) : L x.natAbs ≤ 3000 := Nat.le_trans (L500 h) oO
theorem exp_aw : Impl Tryz.prog Amb 205 [(yV (0 : Int) 0), (.int .i64 27)] (.agg [(.bool (decide ((134217727 : Int) < 0))), (N ((134217727 : Int).natAbs)), (.bool (decide ((134217729 : Int) < 0))), (N ((134217729 : Int).natAbs))]) := by
 have n0 : (Int.fdiv (((0 + 0) * 2 ^ 1) + ((lnLo 32) + (lnHi 32))) (((lnLo 32) + (lnHi 32)) * 2 ^ 1)) = 0 := by kernel_rfl
 have hN := fx_Nearest 0 0 (lnLo 32) (lnHi 32) (by simp [L_zero]) (by simp [L_zero]) (L_c (of_decide_eq_true (by kernel_rfl))) (L_c (of_decide_eq_true (by kernel_rfl))) (of_decide_eq_true (by kernel_rfl)) (by rw [n0]; omega)
 rw [n0] at hN
 exact fx_Exp_aw (lnLo 32) (lnHi 32) (lnLo 67) (lnHi 67) (tmLo (lnLo 67) (lnHi 67) (-1)) (tmHi (lnLo 67) (lnHi 67) (-1)) _ _ 1560828692041339 1560828692041340 4503599627370494 4503599627370497 134217727 134217729 (of0 32 oO) (fx_Ln2 32 oO) hN (of0 67 oO) (fx_Ln2 67 oO)
  (fx_TimesA (lnLo 67) (lnHi 67) (-1) (Nat.le_trans (L_c (of_decide_eq_true (by kernel_rfl))) oO) (Nat.le_trans (L_c (of_decide_eq_true (by kernel_rfl))) oO) oO)
  (fx_Sub 0 0 (tmLo (lnLo 67) (lnHi 67) (-1)) (tmHi (lnLo 67) (lnHi 67) (-1)) (by simp [L_zero]) (by simp [L_zero]) (Nat.le_trans (L_c (of_decide_eq_true (by kernel_rfl))) oO) (Nat.le_trans (L_c (of_decide_eq_true (by kernel_rfl))) oO))
  (impl_eq (by kernel_rfl) (fx_Half (0 + -(tmHi (lnLo 67) (lnHi 67) (-1))) (0 + -(tmLo (lnLo 67) (lnHi 67) (-1))) 16 (Nat.le_trans (L_c (of_decide_eq_true (by kernel_rfl))) oO) (Nat.le_trans (L_c (of_decide_eq_true (by kernel_rfl))) oO) oO))
  expo_aw (impl_eq (by kernel_rfl) (fx_Half 4503599627370494 4503599627370497 25 (Nat.le_trans (L_c (of_decide_eq_true (by kernel_rfl))) oO) (Nat.le_trans (L_c (of_decide_eq_true (by kernel_rfl))) oO) oO))
theorem value_aw : Impl Tryz.prog Amb 76 [(yV (0 : Int) 0), (.int .i64 3)] (.agg [(.bool (decide ((7 : Int) < 0))), (N ((7 : Int).natAbs)), (.bool (decide ((9 : Int) < 0))), (N ((9 : Int).natAbs))]) :=
 ex_value0 0 0 3 7 9 (by simp [L_zero]) oO (impl_eq (by kernel_rfl) (ex_beyond (-0) 0 (3 + 1) (by simp [L_zero]) oO oO))
  (impl_eq (by kernel_rfl) (fx_SettleB 140 (yV (0 : Int) 0) 134217727 134217729 3 (ex_at 0 0 (3 + 24) 134217727 134217729 exp_aw) ⟨Nat.le_trans (L_c (of_decide_eq_true (by kernel_rfl))) oO, Nat.le_trans (L_c (of_decide_eq_true (by kernel_rfl))) oO⟩ (of_decide_eq_true (by kernel_rfl)) oO))
theorem l14_awake : Impl Tryz.prog Amb 15 [] (.bool true) := by
 have one := r07_Of 1 oO
 have hE : Impl Tryz.prog Amb 19 [(wV (0 : Int) 0 (0 : Int) 0), (.int .i64 3)] (.tup [(wV (mkM 7 (0 - 3)) (mkX 7 (0 - 3)) (mkM 9 (0 - 3)) (mkX 9 (0 - 3))), (.int .i64 0)]) :=
  ex_Exp0 0 0 0 0 3 7 9 7 9 _ _ _ _ oO (impl_eq (by kernel_rfl) (ex_beyond 0 0 1000 (by simp [L_zero]) oO oO)) value_aw value_aw
   (impl_eq (by kernel_rfl) (dy_Make 7 (0 - 3) (Nat.le_trans (L_c (of_decide_eq_true (by kernel_rfl))) oO) oO)) (impl_eq (by kernel_rfl) (dy_Make 9 (0 - 3) (Nat.le_trans (L_c (of_decide_eq_true (by kernel_rfl))) oO) oO))
 have f2 := of_fit (n := 2000) oO
 exact l14_awake0 _ _ _ _ (mkM 2000 0) (mkX 2000 0) _ (impl_eq (by kernel_rfl) (l14_of 0 0 oO oO)) hE (l14_of 2000 2000 oO oO)
  (ex_ExpL _ _ _ _ 3 oO (impl_eq (by kernel_rfl) (ex_beyond (mkM 2000 0) (mkX 2000 0) 1000 oO oO oO))) one
  (impl_eq (by kernel_rfl) (r10_Has (mkM 7 (0 - 3)) (mkX 7 (0 - 3)) (mkM 9 (0 - 3)) (mkX 9 (0 - 3)) ((1 : Int) : Rat) (Nat.le_trans (L_c (of_decide_eq_true (by kernel_rfl))) oO) (Nat.le_trans (L_c (of_decide_eq_true (by kernel_rfl))) oO) (of_decide_eq_true (by kernel_rfl)) (of_decide_eq_true (by kernel_rfl)) (by kernel_rfl) (by kernel_rfl) (Nat.le_trans (q_ofL (n := 1) oO).1 oO) (Nat.le_trans (q_ofL (n := 1) oO).2 oO)))
end Go.Proofs.YtlaciaoiihannaaGreatDoor


namespace Go.Proofs.YtlaciaoiihannaaGreatDoor
open Go.RowKit
set_option maxRecDepth 100000
set_option maxHeartbeats 2000000
def shx (m e : Int) (j : Nat) : Int := if m = 0 then 0 else e - 20 * (j : Int)
theorem l14_argF (b1 : Bool) (l1 : List Nat) (e1 : Int) (b2 : Bool) (l2 : List Nat) (e2 : Int) (fa : Int) (m : Int) (ee : Int) (n : Int) (f : Int) (c0 : Impl Tryz.prog Amb 33 [(.agg [(.bool b1), (.sl 1 (U l1)), (.int .i64 e1), (.bool b2), (.sl 1 (U l2)), (.int .i64 e2)]), (.int .i64 2), (.int .i64 40)] (.tup [(wV m ee n f), (.bool false)])) : Impl Tryz.prog Amb 16 [(.agg [(.bool b1), (.sl 1 (U l1)), (.int .i64 e1), (.bool b2), (.sl 1 (U l2)), (.int .i64 e2)]), (.int .i64 fa)] (.tup [(wV m ee n f), (.bool false)]) := by
 exact impl_ob hP hAmb Tryz.func16 (by kernel_rfl) (.lits 2 <| .call (.tup [(wV m ee n f), (.bool false)]) <| .lits 6 <| .ret)
  (cast_ob (aI True.intro (aI (c0 ) ((vsub_refl (.tup [(wV m ee n f), (.bool false)]))))) (by kernel_rfl))
def l14_arg_0_mk (b1 : Bool) (l1 : List Nat) (e1 : Int) (b2 : Bool) (l2 : List Nat) (e2 : Int) (fa m ee n f : Int) (_ : Nat) (x : Nat) : St := ⟨mkS 43 [(1, (.val (.int .i64 fa))), (4, (.own 1 0)), (6, (.own 2 0))], [⟨true, false, [(V.bool b1), (V.sl 1 (U l1)), (V.int .i64 e1), (V.bool b2), (V.sl 1 (U l2)), (V.int .i64 e2)]⟩, ⟨true, false, [(V.bool false), V.nil, (V.int .i64 0), (V.bool false), V.nil, (V.int .i64 0)]⟩, ⟨true, false, [(V.bool (decide (m < 0))), (N m.natAbs), (V.int .i64 (shx m ee x)), (V.bool (decide (n < 0))), (N n.natAbs), (V.int .i64 (shx n f x))]⟩]⟩
def l14_arg_0_I (_ : Bool) (_ : List Nat) (_ : Int) (_ : Bool) (_ : List Nat) (_ : Int) (_ _ _ _ _ : Int) (nn : Nat) (x : Nat) : Prop := x ≤ nn
def l14_arg_0_mu (_ : Bool) (_ : List Nat) (_ : Int) (_ : Bool) (_ : List Nat) (_ : Int) (_ _ _ _ _ : Int) (nn : Nat) (x : Nat) : Nat := nn - x
def l14_arg_0_ex (b1 : Bool) (l1 : List Nat) (e1 : Int) (b2 : Bool) (l2 : List Nat) (e2 : Int) (_ m ee n f : Int) (_ : Nat) (y : Nat) : Ex × St := (.exit 0, ⟨mkS 43 [(4, (.own 1 0)), (6, (.own 2 0))], [⟨true, false, [(V.bool b1), (V.sl 1 (U l1)), (V.int .i64 e1), (V.bool b2), (V.sl 1 (U l2)), (V.int .i64 e2)]⟩, ⟨true, false, [(V.bool false), V.nil, (V.int .i64 0), (V.bool false), V.nil, (V.int .i64 0)]⟩, ⟨true, false, [(V.bool (decide (m < 0))), (N m.natAbs), (V.int .i64 (shx m ee y)), (V.bool (decide (n < 0))), (N n.natAbs), (V.int .i64 (shx n f y))]⟩]⟩)
def l14_arg_0_J (_ : Bool) (_ : List Nat) (_ : Int) (_ : Bool) (_ : List Nat) (_ : Int) (_ _ _ _ _ : Int) (nn : Nat) (y : Nat) : Prop := y = nn
abbrev l14_arg_0_N (b1 : Bool) (l1 : List Nat) (e1 : Int) (b2 : Bool) (l2 : List Nat) (e2 : Int) (fa m ee n f : Int) (nn : Nat) := NX (l14_arg_0_mk b1 l1 e1 b2 l2 e2 fa m ee n f nn) (l14_arg_0_I b1 l1 e1 b2 l2 e2 fa m ee n f nn) (l14_arg_0_mu b1 l1 e1 b2 l2 e2 fa m ee n f nn) (l14_arg_0_ex b1 l1 e1 b2 l2 e2 fa m ee n f nn) (l14_arg_0_J b1 l1 e1 b2 l2 e2 fa m ee n f nn)
theorem l14_arg_0 (b1 : Bool) (l1 : List Nat) (e1 : Int) (b2 : Bool) (l2 : List Nat) (e2 : Int) (fa m ee n f : Int) (nn : Nat) (c0 : nn ≤ 100)(c1 : ∀ j, j ≤ nn → (j = nn ↔ (topD m (shx m ee j)) ≤ fa ∧ (topD n (shx n f j)) ≤ fa))(c2 : ∀ j, j ≤ nn → Impl Tryz.prog Amb 24 [(yV m (shx m ee j))] (.int .i64 (topD m (shx m ee j))))(c3 : ∀ j, j ≤ nn → Impl Tryz.prog Amb 24 [(yV n (shx n f j))] (.int .i64 (topD n (shx n f j))))(c4 : ∀ j, j < nn → Impl Tryz.prog Amb 36 [(yV m (shx m ee j)), (.int .i64 (-20))] (.tup [(yV m (shx m ee (j + 1))), (.int .i64 0)]))(c5 : ∀ j, j < nn → Impl Tryz.prog Amb 36 [(yV n (shx n f j)), (.int .i64 (-20))] (.tup [(yV n (shx n f (j + 1))), (.int .i64 0)])) (x0 : Nat) (hI : l14_arg_0_I b1 l1 e1 b2 l2 e2 fa m ee n f nn x0) : LoopOk Tryz.prog Amb (loopN Tryz.f16 0) (l14_arg_0_mk b1 l1 e1 b2 l2 e2 fa m ee n f nn x0) (fun e st_ => ∃ y, l14_arg_0_J b1 l1 e1 b2 l2 e2 fa m ee n f nn y ∧ l14_arg_0_ex b1 l1 e1 b2 l2 e2 fa m ee n f nn y = (e, st_)) :=
 loop_ob hP hAmb ⟨[1, 4, 6], 3, []⟩ (l14_arg_0_mk b1 l1 e1 b2 l2 e2 fa m ee n f nn) (l14_arg_0_I b1 l1 e1 b2 l2 e2 fa m ee n f nn) (l14_arg_0_mu b1 l1 e1 b2 l2 e2 fa m ee n f nn) (l14_arg_0_ex b1 l1 e1 b2 l2 e2 fa m ee n f nn) (l14_arg_0_J b1 l1 e1 b2 l2 e2 fa m ee n f nn) x0 hI (fun j => .lits 2 <| .call (.int .i64 (topD m (shx m ee j))) <| .lit <| .both (.lits 8 <| .call (.tup [(yV m (shx m ee (j + 1))), (.int .i64 0)]) <| .lits 3 <| .call (.tup [(yV n (shx n f (j + 1))), (.int .i64 0)]) <| .lit <| .fin2 ⟨[1, 4, 6], 3, []⟩) (.lits 4 <| .call (.int .i64 (topD n (shx n f j))) <| .lits 4 <| .both (.lits 2 <| .call (.tup [(yV m (shx m ee (j + 1))), (.int .i64 0)]) <| .lits 3 <| .call (.tup [(yV n (shx n f (j + 1))), (.int .i64 0)]) <| .lit <| .fin2 ⟨[1, 4, 6], 3, []⟩) (.fin2 ⟨[4, 6], 3, []⟩))) (by
  rintro j hI
  have hI : j ≤ nn := hI
  have h1 := hI
  have q := c1 j h1
  exact cast_ob (aI True.intro (aI (c2 j h1 ) (aI (fun (h101 : (iGt (topD m (shx m ee j)) fa) = true) => have _gh101 := iGt_t h101; aI (c4 j oO ) (aI (c5 j oO ) (aI tT ((nx_next (j + 1) (show (j + 1) ≤ nn from show j + 1 ≤ nn by omega) (show nn - (j + 1) < nn - j by omega) : l14_arg_0_N b1 l1 e1 b2 l2 e2 fa m ee n f nn j .normal (l14_arg_0_mk b1 l1 e1 b2 l2 e2 fa m ee n f nn (j + 1))))))) (fun (h102 : (iGt (topD m (shx m ee j)) fa) = false) => have _gh102 := iGt_f h102; aI (c3 j h1 ) (aI (fun (h103 : (iGt (topD n (shx n f j)) fa) = true) => have _gh103 := iGt_t h103; aI (c4 j oO ) (aI (c5 j oO ) (aI tT ((nx_next (j + 1) (show (j + 1) ≤ nn from show j + 1 ≤ nn by omega) (show nn - (j + 1) < nn - j by omega) : l14_arg_0_N b1 l1 e1 b2 l2 e2 fa m ee n f nn j .normal (l14_arg_0_mk b1 l1 e1 b2 l2 e2 fa m ee n f nn (j + 1))))))) (fun (h104 : (iGt (topD n (shx n f j)) fa) = false) => have _gh104 := iGt_f h104; aI tT ((nx_exit 0 ((l14_arg_0_ex b1 l1 e1 b2 l2 e2 fa m ee n f nn j).2) j (show j = nn from show j = nn by omega) rfl : l14_arg_0_N b1 l1 e1 b2 l2 e2 fa m ee n f nn j (.exit 0) ((l14_arg_0_ex b1 l1 e1 b2 l2 e2 fa m ee n f nn j).2))))))))) (by kernel_rfl))
theorem l14_argT (b1 : Bool) (l1 : List Nat) (e1 : Int) (b2 : Bool) (l2 : List Nat) (e2 : Int) (fa : Int) (m : Int) (ee : Int) (n : Int) (f : Int) (nn : Nat) (c0 : Impl Tryz.prog Amb 33 [(.agg [(.bool b1), (.sl 1 (U l1)), (.int .i64 e1), (.bool b2), (.sl 1 (U l2)), (.int .i64 e2)]), (.int .i64 2), (.int .i64 40)] (.tup [(wV m (shx m ee 0) n (shx n f 0)), (.bool true)])) (c1 : nn ≤ 100) (c2 : ∀ j, j ≤ nn → (j = nn ↔ (topD m (shx m ee j)) ≤ fa ∧ (topD n (shx n f j)) ≤ fa)) (c3 : ∀ j, j ≤ nn → Impl Tryz.prog Amb 24 [(yV m (shx m ee j))] (.int .i64 (topD m (shx m ee j)))) (c4 : ∀ j, j ≤ nn → Impl Tryz.prog Amb 24 [(yV n (shx n f j))] (.int .i64 (topD n (shx n f j)))) (c5 : ∀ j, j < nn → Impl Tryz.prog Amb 36 [(yV m (shx m ee j)), (.int .i64 (-20))] (.tup [(yV m (shx m ee (j + 1))), (.int .i64 0)])) (c6 : ∀ j, j < nn → Impl Tryz.prog Amb 36 [(yV n (shx n f j)), (.int .i64 (-20))] (.tup [(yV n (shx n f (j + 1))), (.int .i64 0)])) : Impl Tryz.prog Amb 16 [(.agg [(.bool b1), (.sl 1 (U l1)), (.int .i64 e1), (.bool b2), (.sl 1 (U l2)), (.int .i64 e2)]), (.int .i64 fa)] (.tup [(wV m (shx m ee nn) n (shx n f nn)), (.bool true)]) := by
 exact impl_ob hP hAmb Tryz.func16 (by kernel_rfl) (.lits 2 <| .call (.tup [(wV m (shx m ee 0) n (shx n f 0)), (.bool true)]) <| .lits 3 <| .loop ⟨[1, 4, 6], 3, []⟩ ((l14_arg_0_mk b1 l1 e1 b2 l2 e2 fa m ee n f nn 0)) (Nat) (l14_arg_0_ex b1 l1 e1 b2 l2 e2 fa m ee n f nn) (l14_arg_0_J b1 l1 e1 b2 l2 e2 fa m ee n f nn) (fun y => .lits 3 <| .ret))
  (cast_ob (aI True.intro (aI (c0 ) (aI tT (aI (rfl : (l14_arg_0_mk b1 l1 e1 b2 l2 e2 fa m ee n f nn 0) = (l14_arg_0_mk b1 l1 e1 b2 l2 e2 fa m ee n f nn 0)) (aI (l14_arg_0 b1 l1 e1 b2 l2 e2 fa m ee n f nn c1 c2 c3 c4 c5 c6 0 (show 0 ≤ nn from Nat.zero_le _)) (fun y (hJ : l14_arg_0_J b1 l1 e1 b2 l2 e2 fa m ee n f nn y) => have hJ : y = nn := hJ; (by rw [show y = nn from hJ]; exact vsub_refl _ : vsub (.tup [(wV m (shx m ee y) n (shx n f y)), (.bool true)]) (.tup [(wV m (shx m ee nn) n (shx n f nn)), (.bool true)])))))))) (by kernel_rfl))
end Go.Proofs.YtlaciaoiihannaaGreatDoor

namespace Go.Proofs.YtlaciaoiihannaaGreatDoor
open Go.RowKit
set_option maxRecDepth 100000
set_option maxHeartbeats 2000000
theorem shx_fit {m e : Int} (hm : L m.natAbs ≤ 2) (he : -40 ≤ e ∧ e ≤ 104) {j : Nat} (hj : j ≤ 20) : -440 ≤ shx m e j ∧ shx m e j ≤ 104 := by
 unfold shx; split <;> omega
theorem shx_step {m e : Int} (hv : vdb m e = true) (hm : L m.natAbs ≤ 2) (he : -40 ≤ e ∧ e ≤ 104) {j : Nat} (hj : j ≤ 20) : Impl Tryz.prog Amb 36 [(yV m (shx m e j)), (.int .i64 (-20))] (.tup [(yV m (shx m e (j + 1))), (.int .i64 0)]) := by
 have f := shx_fit hm he hj
 have h := r08_Shift m (shx m e j) (-20) oO oO oO
 have key : mkM m (shx m e j + -20) = m ∧ mkX m (shx m e j + -20) = shx m e (j + 1) ∧ mkE m (shx m e j + -20) = 0 := by
  by_cases hz : m = 0
  ·subst hz
   have := mk_r2 (m := 0) (e := shx 0 e j + -20) oO rfl
   exact ⟨this.1, this.2.1, this.2.2⟩
  ·have s : shx m e j + -20 = shx m e (j + 1) := by unfold shx; rw [if_neg hz, if_neg hz]; omega
   rw [s]
   refine mk_valid ?_
   rcases vdb_iff.1 hv with q | q
   ·exact absurd q.1 hz
   ·exact vdb_iff.2 (.inr ⟨hz, q.2.1, by omega, by omega, q.2.2.2.2⟩)
 rw [key.1, key.2.1, key.2.2] at h
 exact h
theorem shx_zero {m e : Int} (hv : vdb m e = true) : shx m e 0 = e := by
 unfold shx
 split
 ·rename_i h
  rcases vdb_iff.1 hv with q | q
  ·exact q.2.symm
  ·exact absurd h q.1
 ·omega
theorem top_down {m e : Int} (hm : L m.natAbs ≤ 2) (he : -40 ≤ e ∧ e ≤ 104) : topD m (shx m e 20) ≤ 0 := by
 by_cases hz : m = 0
 ·subst hz
  unfold topD
  rw [if_pos rfl]; omega
 ·have s : shx m e 20 = e - 400 := by unfold shx; rw [if_neg hz]; omega
  rw [s]
  have r := topD_range m (e - 400)
  omega
theorem arg_rounds {m ee n f fa : Int} (hm : L m.natAbs ≤ 2) (hn : L n.natAbs ≤ 2) (he : -40 ≤ ee ∧ ee ≤ 104) (hf : -40 ≤ f ∧ f ≤ 104) (hfa : 0 ≤ fa) :
  ∃ nn, nn ≤ 20 ∧ ∀ j, j ≤ nn → (j = nn ↔ topD m (shx m ee j) ≤ fa ∧ topD n (shx n f j) ≤ fa) := by
 have t1 := top_down (m := m) hm he
 have t2 := top_down (m := n) hn hf
 obtain ⟨nn, h1, h2, h3⟩ := least (P := fun j => topD m (shx m ee j) ≤ fa ∧ topD n (shx n f j) ≤ fa) (n := 20) ⟨by omega, by omega⟩
 refine ⟨nn, h1, fun j hj => ⟨fun q => by rw [q]; exact h2, fun q => ?_⟩⟩
 exact Decidable.byContradiction fun hn => h3 j oO q
end Go.Proofs.YtlaciaoiihannaaGreatDoor


namespace Go.Proofs.YtlaciaoiihannaaGreatDoor
open Go.RowKit
set_option maxRecDepth 100000
theorem cln_all : (List.range 400).all (fun t => decide (lnLo (t : Int) * 2 ^ (430 - t) ≤ ptLn) && decide (ptLn ≤ lnHi (t : Int) * 2 ^ (430 - t))) = true := by kernel_rfl
theorem cln_at {t : Nat} (ht : t < 400) : ((lnLo (t : Int) : Int) : Rat) ≤ cLn * ((2 ^ t : Int) : Rat) ∧ cLn * ((2 ^ t : Int) : Rat) ≤ ((lnHi (t : Int) : Int) : Rat) := by
 have h := List.all_eq_true.1 cln_all t (List.mem_range.2 ht)
 simp only [Bool.and_eq_true, decide_eq_true_eq] at h
 exact ⟨(cl_sc oO).1 h.1, (cl_sc oO).2 h.2⟩
theorem ln_le (s : Int) : lnLo s ≤ lnHi s := by
 have a := (arcT_pos 26 false s)
 have b := (arcT_pos 4801 false s)
 have c := (arcT_pos 8749 false s)
 unfold lnLo lnHi
 omega
end Go.Proofs.YtlaciaoiihannaaGreatDoor


namespace Go.Proofs.YtlaciaoiihannaaGreatDoor
open Go.RowKit
set_option maxRecDepth 100000
set_option maxHeartbeats 400000
theorem abs_big {x : Int} {t c : Nat} (h : x.natAbs ≤ c * 2 ^ t) (hc : c ≤ 2 ^ 20) (ht : t ≤ 2000) : L x.natAbs ≤ 70 := by
 refine L_pow2 (n := t + 21) ?_ oO
 have e : (2 : Nat) ^ (t + 21) = 2 * (2 ^ 20 * 2 ^ t) := by rw [Nat.pow_add]; omega
 have p := Nat.mul_le_mul_right (2 ^ t) hc
 have := Nat.pow_pos (n := t) (show 0 < 2 by omega)
 omega
theorem vdb_sh {m e f : Int} (h : vdb m e = true) (hm : m ≠ 0) (hf : -65536 ≤ f ∧ f ≤ 65536) : vdb m f = true := by
 rcases vdb_iff.1 h with q | q
 ·exact absurd q.1 hm
 ·exact vdb_iff.2 (.inr ⟨hm, q.2.1, hf.1, hf.2, q.2.2.2.2⟩)
end Go.Proofs.YtlaciaoiihannaaGreatDoor


namespace Go.Proofs.YtlaciaoiihannaaGreatDoor
open Go.RowKit
set_option maxRecDepth 100000
set_option maxHeartbeats 2000000
theorem ln32 : lnLo 32 = 2977044084 ∧ lnHi 32 = 2977044804 := ⟨by kernel_rfl, by kernel_rfl⟩
theorem e32 : ((2 ^ 32 : Int) : Rat) = 4294967296 := by rw [show (2 : Int) ^ 32 = 4294967296 from by kernel_rfl]; rfl
theorem near_k32 {d c : Rat} {p1 p2 k : Int} (hp1 : (p1 : Rat) ≤ d * 4294967296) (hp2 : d * 4294967296 ≤ (p2 : Rat)) (hp : p2 ≤ p1 + 1) (hq1 : (2977044084 : Rat) ≤ c * 4294967296) (hq2 : c * 4294967296 ≤ (2977044804 : Rat))
  (hk : k = Int.fdiv (((p1 + p2) * 2 ^ 1) + (2977044084 + 2977044804)) ((2977044084 + 2977044804) * 2 ^ 1)) (d1 : -512 ≤ d) (d2 : d ≤ 512) : (-900 ≤ k ∧ k ≤ 900) ∧ -36 ≤ 100 * (d - (k : Rat) * c) ∧ 100 * (d - (k : Rat) * c) ≤ 36 := by
 have P1 : -512 * 4294967296 ≤ p2 := by
  refine Rat.intCast_le_intCast.1 ?_
  rw [Rat.intCast_mul]
  show (-512 : Rat) * 4294967296 ≤ p2
  grind
 have P2 : p1 ≤ 512 * 4294967296 := by
  refine Rat.intCast_le_intCast.1 ?_
  rw [Rat.intCast_mul]
  show (p1 : Rat) ≤ 512 * 4294967296
  grind
 rw [Int.fdiv_eq_ediv_of_nonneg _ oO] at hk
 have f1 := Int.ediv_mul_le (((p1 + p2) * 2 ^ 1) + (2977044084 + 2977044804)) (show ((2977044084 : Int) + 2977044804) * 2 ^ 1 ≠ 0 by omega)
 have f2 := Int.lt_ediv_add_one_mul_self (((p1 + p2) * 2 ^ 1) + (2977044084 + 2977044804)) (show 0 < ((2977044084 : Int) + 2977044804) * 2 ^ 1 by omega)
 rw [← hk] at f1 f2
 rw [show (2 : Int) ^ 1 = 2 from rfl] at f1 f2
 have f1 : k * 11908177776 ≤ 2 * p1 + 2 * p2 + 5954088888 := by omega
 have f2 : 2 * p1 + 2 * p2 + 5954088888 ≤ (k + 1) * 11908177776 := by omega
 have K1 : k ≤ 900 := by omega
 have K2 : -900 ≤ k := by omega
 refine ⟨⟨K2, K1⟩, ?_⟩
 have g1 := Rat.intCast_le_intCast.2 f1
 have g2 := Rat.intCast_le_intCast.2 f2
 simp only [Rat.intCast_mul, Rat.intCast_add] at g1 g2
 have g1 : (k : Rat) * 11908177776 ≤ 2 * (p1 : Rat) + 2 * (p2 : Rat) + 5954088888 := g1
 have g2 : 2 * (p1 : Rat) + 2 * (p2 : Rat) + 5954088888 ≤ ((k : Rat) + 1) * 11908177776 := g2
 have hpR : (p2 : Rat) ≤ (p1 : Rat) + 1 := by
  have : (p2 : Rat) ≤ ((p1 + 1 : Int) : Rat) := Rat.intCast_le_intCast.2 hp
  rw [Rat.intCast_add] at this; exact this
 have k1R : (k : Rat) ≤ 1000 := by
  have : (k : Rat) ≤ ((1000 : Int) : Rat) := Rat.intCast_le_intCast.2 (Int.le_trans K1 (by decide))
  exact this
 have k2R : (-1000 : Rat) ≤ (k : Rat) := by
  have : ((-1000 : Int) : Rat) ≤ (k : Rat) := Rat.intCast_le_intCast.2 (Int.le_trans (by decide) K2)
  exact this
 generalize (k : Rat) = K at *
 generalize (p1 : Rat) = p at *
 generalize (p2 : Rat) = p' at *
 clear f1 f2 hk K1 K2 P1 P2 hp
 rcases (Rat.le_total : 0 ≤ K ∨ K ≤ 0) with hK | hK
 ·have m1 := Rat.mul_le_mul_of_nonneg_left hq1 hK
  have m2 := Rat.mul_le_mul_of_nonneg_left hq2 hK
  constructor <;> grind
 ·have m1 := Rat.mul_le_mul_of_nonneg_left hq1 (show 0 ≤ -K by grind)
  have m2 := Rat.mul_le_mul_of_nonneg_left hq2 (show 0 ≤ -K by grind)
  constructor <;> grind
theorem ex_span (m ee k ss : Int) (hs : 0 ≤ ss ∧ ss ≤ 380) (hm : L (m).natAbs ≤ 20) (he : -440 ≤ ee ∧ ee ≤ 130) (hk : -1000 ≤ k ∧ k ≤ 1000) :
  ∃ a1 a2 u1 u2 t1 t2 d1 d2 x1 x2 : Int, (Impl Tryz.prog Amb 173 [(yV m ee), (.int .i64 (ss + 16))] (.agg [(.bool (decide (a1 < 0))), (N a1.natAbs), (.bool (decide (a2 < 0))), (N a2.natAbs)]) ∧ Impl Tryz.prog Amb 230 [(.int .i64 (ss + 16))] (.agg [(.bool (decide (u1 < 0))), (N u1.natAbs), (.bool (decide (u2 < 0))), (N u2.natAbs)]) ∧ Impl Tryz.prog Amb 177 [(.agg [(.bool (decide (u1 < 0))), (N u1.natAbs), (.bool (decide (u2 < 0))), (N u2.natAbs)]), (.int .i64 k)] (.agg [(.bool (decide (t1 < 0))), (N t1.natAbs), (.bool (decide (t2 < 0))), (N t2.natAbs)]) ∧ Impl Tryz.prog Amb 176 [(.agg [(.bool (decide (a1 < 0))), (N a1.natAbs), (.bool (decide (a2 < 0))), (N a2.natAbs)]), (.agg [(.bool (decide (t1 < 0))), (N t1.natAbs), (.bool (decide (t2 < 0))), (N t2.natAbs)])] (.agg [(.bool (decide (d1 < 0))), (N d1.natAbs), (.bool (decide (d2 < 0))), (N d2.natAbs)]) ∧ Impl Tryz.prog Amb 174 [(.agg [(.bool (decide (d1 < 0))), (N d1.natAbs), (.bool (decide (d2 < 0))), (N d2.natAbs)]), (.int .i64 16)] (.agg [(.bool (decide (x1 < 0))), (N x1.natAbs), (.bool (decide (x2 < 0))), (N x2.natAbs)])) ∧
   x1 ≤ x2 ∧ x2 - x1 ≤ 300001 ∧ (x1 : Rat) ≤ (dv m ee - (k : Rat) * cLn) * ((2 ^ ss.toNat : Int) : Rat) ∧ (dv m ee - (k : Rat) * cLn) * ((2 ^ ss.toNat : Int) : Rat) ≤ (x2 : Rat) := by
 obtain ⟨t, ht⟩ : ∃ t : Nat, (t : Int) = ss + 16 := ⟨(ss + 16).toNat, by omega⟩
 have hO := fx_Of m ee (ss + 16) oO oO oO
 have lf := flr_LD m ee (ss + 16)
 have sc1 := flr_sc (dv m ee) t
 have sc2 := cei_sc (dv m ee) t
 have fc := flr_cei1 (dv m ee) t
 have cl := cln_at (t := t) oO
 rw [ht] at sc1 sc2 fc cl
 have b := ln_ok (s := ss + 16) oO
 have bl := ln_le (ss + 16)
 have bw : lnHi (ss + 16) - lnLo (ss + 16) < 16777216 := by
  have := nbits_lt (lnHi (ss + 16) - lnLo (ss + 16)).natAbs
  have p := Nat.pow_le_pow_right (n := 2) oO b.2.2
  omega
 have hL := fx_Ln2 (ss + 16) oO
 have hL : Impl Tryz.prog Amb 230 [(.int .i64 (ss + 16))] (.agg [(.bool (decide ((lnLo (ss + 16)) < 0))), (N ((lnLo (ss + 16)).natAbs)), (.bool (decide ((lnHi (ss + 16)) < 0))), (N ((lnHi (ss + 16)).natAbs))]) := hL
 generalize lnLo (ss + 16) = q1 at *
 generalize lnHi (ss + 16) = q2 at *
 generalize flr (dv m ee) (ss + 16) = p1 at *
 generalize cei (dv m ee) (ss + 16) = p2 at *
 have m1 := L_abs_mul q1 k
 have m2 := L_abs_mul q2 k
 have lk := L_i64 (n := k) oO
 have hT := fx_TimesA q1 q2 k oO oO oO
 have te := tm_enc (k := k) cl.1 cl.2
 have tw := tm_w (W := 1000) bl oO bw
 have tL : L (tmLo q1 q2 k).natAbs ≤ 440 ∧ L (tmHi q1 q2 k).natAbs ≤ 440 := by unfold tmLo tmHi; split <;> omega
 generalize tmLo q1 q2 k = t1 at *
 generalize tmHi q1 q2 k = t2 at *
 have n1 := L_abs_neg t1
 have n2 := L_abs_neg t2
 have a1 := L_abs_add p1 (-t2)
 have a2 := L_abs_add p2 (-t1)
 have hS := fx_Sub p1 p2 t1 t2 oO oO oO oO
 have hH := fx_Half (p1 + -t2) (p2 + -t1) 16 oO oO oO
 have hw := half_w (a := p1 + -t2) (b := p2 + -t1) (W := 300000) (n := 16) oO
 have he := half_enc (a := p1 + -t2) (b := p2 + -t1) (X := dv m ee - (k : Rat) * cLn) (t := t) (s := ss.toNat) (n := 16) oO (by rw [Rat.intCast_add, Rat.intCast_neg]; grind) (by rw [Rat.intCast_add, Rat.intCast_neg]; grind)
 exact ⟨p1, p2, q1, q2, t1, t2, _, _, _, _, ⟨hO, hL, hT, hS, hH⟩, Rat.intCast_le_intCast.1 (Rat.le_trans he.1 he.2), hw, he.1, he.2⟩
end Go.Proofs.YtlaciaoiihannaaGreatDoor

namespace Go.Proofs.YtlaciaoiihannaaGreatDoor
open Go.RowKit
set_option maxRecDepth 100000
set_option maxHeartbeats 2000000
theorem cLn_b : 69 ≤ 100 * cLn ∧ 100 * cLn ≤ 70 := ⟨of_decide_eq_true (by kernel_rfl), of_decide_eq_true (by kernel_rfl)⟩
def XF (d : Rat) (k : Int) (K : Nat) : Rat := EP (d - (k : Rat) * cLn) K * (2 : Rat) ^ k
theorem fx_ExpE (m ee s1 D : Int) (hs : 24 ≤ s1 ∧ s1 ≤ 300) (hm : L (m).natAbs ≤ 20) (he : -440 ≤ ee ∧ ee ≤ 130) (d1 : -512 ≤ dv m ee) (d2 : dv m ee ≤ 512) (hD : 100 * dv m ee + 36 ≤ 69 * (D : Rat)) (D0 : 0 ≤ D) (hD2 : s1 + D + 24 ≤ 380) :
  ∃ k r1 r2 : Int, Impl Tryz.prog Amb 205 [(yV m ee), (.int .i64 s1)] (.agg [(.bool (decide (r1 < 0))), (N r1.natAbs), (.bool (decide (r2 < 0))), (N r2.natAbs)]) ∧ (-1000 ≤ k ∧ k ≤ D) ∧ (33 ≤ 100 * (dv m ee - (k : Rat) * cLn) ∧ 100 * (dv m ee - (k : Rat) * cLn) ≤ 106) ∧ Encl (XF (dv m ee) k) s1.toNat r1 r2 ∧ r2 - r1 ≤ 2 ∧ 0 ≤ r1 ∧ L r2.natAbs ≤ 20 := by
 have hO := fx_Of m ee 32 oO oO oO
 have hN : Impl Tryz.prog Amb 230 [(.int .i64 32)] (.agg [(.bool (decide ((2977044084 : Int) < 0))), (N ((2977044084 : Int).natAbs)), (.bool (decide ((2977044804 : Int) < 0))), (N ((2977044804 : Int).natAbs))]) := by
  have h : Impl Tryz.prog Amb 230 [(.int .i64 32)] (.agg [(.bool (decide ((lnLo 32) < 0))), (N ((lnLo 32).natAbs)), (.bool (decide ((lnHi 32) < 0))), (N ((lnHi 32).natAbs))]) := fx_Ln2 32 oO
  rw [ln32.1, ln32.2] at h
  exact h
 have lf := flr_LD m ee 32
 have sc1 := (flr_sc (dv m ee) 32).1
 have sc2 := (cei_sc (dv m ee) 32).1
 have fc := (flr_cei1 (dv m ee) 32).1
 have cl := cln_at (t := 32) oO
 rw [e32] at sc1 sc2 cl
 have sc1 : ((flr (dv m ee) 32 : Int) : Rat) ≤ dv m ee * 4294967296 := sc1
 have sc2 : dv m ee * 4294967296 ≤ ((cei (dv m ee) 32 : Int) : Rat) := sc2
 have fc : cei (dv m ee) 32 ≤ flr (dv m ee) 32 + 1 := fc
 have cl : ((lnLo 32 : Int) : Rat) ≤ cLn * 4294967296 ∧ cLn * 4294967296 ≤ ((lnHi 32 : Int) : Rat) := cl
 rw [ln32.1, ln32.2] at cl
 generalize flr (dv m ee) 32 = p1 at *
 generalize cei (dv m ee) 32 = p2 at *
 have nk := near_k32 (k := Int.fdiv (((p1 + p2) * 2 ^ 1) + (2977044084 + 2977044804)) ((2977044084 + 2977044804) * 2 ^ 1)) sc1 sc2 fc cl.1 cl.2 rfl d1 d2
 have lq1 : L ((2977044084 : Int)).natAbs ≤ 2 := Nat.le_trans (L_lit 2977044084 (by decide)) oO
 have lq2 : L ((2977044804 : Int)).natAbs ≤ 2 := Nat.le_trans (L_lit 2977044804 (by decide)) oO
 have NE := fx_Nearest p1 p2 2977044084 2977044804 oO oO oO oO oO oO
 generalize Int.fdiv (((p1 + p2) * 2 ^ 1) + (2977044084 + 2977044804)) ((2977044084 + 2977044804) * 2 ^ 1) = k0 at nk NE
 clear sc1 sc2 fc cl lf
 have cb := cLn_b
 obtain ⟨k, hk⟩ : ∃ k, k = k0 - 1 := ⟨_, rfl⟩
 have kR : (k : Rat) = (k0 : Rat) - 1 := by rw [hk, Rat.intCast_sub]; rfl
 have xb : 33 ≤ 100 * (dv m ee - (k : Rat) * cLn) ∧ 100 * (dv m ee - (k : Rat) * cLn) ≤ 106 := by rw [kR]; constructor <;> grind
 have kD : k ≤ D := by
  refine Decidable.byContradiction fun hn => ?_
  have a : (D : Rat) + 1 ≤ (k : Rat) := by
   have := Rat.intCast_le_intCast.2 (show D + 1 ≤ k by omega)
   rw [Rat.intCast_add] at this; exact this
  have b : (0 : Rat) ≤ (D : Rat) := Rat.intCast_nonneg.2 D0
  have c := Rat.mul_le_mul_of_nonneg_left cb.1 (show (0 : Rat) ≤ (k : Rat) by grind)
  have x36 : -36 ≤ 100 * (dv m ee - (k0 : Rat) * cLn) := nk.2.1
  grind
 have im := iMax_range k 0
 have hL1 : iMax k 0 ≤ D := by omega
 obtain ⟨t, ht⟩ : ∃ t : Nat, (t : Int) = ((s1 + (iMax k (0 : Int))) + 24) := ⟨(((s1 + (iMax k (0 : Int))) + 24)).toNat, by omega⟩
 have htn : (((s1 + (iMax k (0 : Int))) + 24)).toNat = t := by omega
 obtain ⟨a1, a2, u1, u2, t1, t2, q1, q2, x1, x2, ⟨C1, C2, C3, C4, C5⟩, x12, xw, xe1, xe2⟩ := ex_span m ee k ((s1 + (iMax k (0 : Int))) + 24) oO hm he oO
 have P48 : (2 : Int) ^ 48 ≤ 2 ^ (((s1 + (iMax k (0 : Int))) + 24)).toNat := by
  rw [htn, pow_cast, pow_cast]
  exact Int.ofNat_le.2 (Nat.pow_le_pow_right oO oO)
 rw [show (2 : Int) ^ 48 = 281474976710656 from rfl] at P48
 have PR : (281474976710656 : Rat) ≤ ((2 ^ (((s1 + (iMax k (0 : Int))) + 24)).toNat : Int) : Rat) := Rat.intCast_le_intCast.2 P48
 have X1 : 33 * 2 ^ (((s1 + (iMax k (0 : Int))) + 24)).toNat ≤ 100 * x2 := by
  refine Rat.intCast_le_intCast.1 ?_
  rw [Rat.intCast_mul, Rat.intCast_mul]
  have m1 := Rat.mul_le_mul_of_nonneg_right xb.1 (show (0 : Rat) ≤ ((2 ^ (((s1 + (iMax k (0 : Int))) + 24)).toNat : Int) : Rat) by grind)
  show (33 : Rat) * _ ≤ 100 * _
  grind
 have X2 : 100 * x1 ≤ 106 * 2 ^ (((s1 + (iMax k (0 : Int))) + 24)).toNat := by
  refine Rat.intCast_le_intCast.1 ?_
  rw [Rat.intCast_mul, Rat.intCast_mul]
  have m1 := Rat.mul_le_mul_of_nonneg_right xb.2 (show (0 : Rat) ≤ ((2 ^ (((s1 + (iMax k (0 : Int))) + 24)).toNat : Int) : Rat) by grind)
  show (100 : Rat) * _ ≤ 106 * _
  grind
 obtain ⟨y1, y2, CE, EE, yw, y0, y9⟩ := fx_expE x1 x2 ((s1 + (iMax k (0 : Int))) + 24) (dv m ee - (k : Rat) * cLn) oO xe1 xe2 oO oO oO
 obtain ⟨n, hn⟩ : ∃ n : Nat, (n : Int) = (((s1 + (iMax k (0 : Int))) + 24) - s1) - k := ⟨((((s1 + (iMax k (0 : Int))) + 24) - s1) - k).toNat, by omega⟩
 have hnn : ((((s1 + (iMax k (0 : Int))) + 24) - s1) - k).toNat = n := by omega
 rw [htn] at EE y9
 have ly : ∀ y : Int, 0 ≤ y → y ≤ 9 * 2 ^ t → L y.natAbs ≤ 20 := fun y z0 z1 => by
  refine L_pow2 (n := t + 4) ?_ oO
  have e : ((2 ^ (t + 4) : Nat) : Int) = 2 ^ t * 16 := by rw [← pow_cast, Int.pow_add]; rfl
  have := two_pos t
  omega
 have y12 := EE.le
 have l1 := ly y1 y0 oO
 have l2 := ly y2 oO y9
 have CH := fx_Half y1 y2 ((((s1 + (iMax k (0 : Int))) + 24) - s1) - k) oO oO oO
 rw [hnn] at CH
 have pn : (16777216 : Int) ≤ 2 ^ n := by
  rw [pow_cast, show (16777216 : Int) = ((2 ^ 24 : Nat) : Int) from rfl]
  exact Int.ofNat_le.2 (Nat.pow_le_pow_right oO oO)
 have hw := half_w (a := y1) (b := y2) (W := 1) (n := n) oO
 have hE : Encl (XF (dv m ee) k) s1.toNat (y1 / 2 ^ n) (-(-y2 / 2 ^ n)) := by
  obtain ⟨N, EE⟩ := EE
  have z : (2 : Rat) ^ k * ((2 ^ (s1.toNat + n) : Int) : Rat) = ((2 ^ t : Int) : Rat) := by
   rw [← zp_nat, ← zp_nat, ← zp_add]
   congr 1
   omega
  refine ⟨N, fun K hK => half_enc (t := s1.toNat + n) rfl ?_ ?_⟩
  ·unfold XF; rw [Rat.mul_assoc, z]; exact (EE K hK).1
  ·unfold XF; rw [Rat.mul_assoc, z]; exact (EE K hK).2
 have o1 := L_abs_neg y2
 have o2 := L_abs_shr (-y2) n
 have r0 : 0 ≤ y1 / 2 ^ n := Int.ediv_nonneg y0 oO
 have r2 : -(-y2 / 2 ^ n) ≤ 9 * 2 ^ t := by
  have g := Int.lt_ediv_add_one_mul_self (-y2) (two_pos n)
  refine Decidable.byContradiction fun hn' => ?_
  have m1 := Int.mul_le_mul_of_nonneg_right (show -y2 / 2 ^ n + 1 ≤ -(9 * 2 ^ t) by omega) (Int.le_of_lt (two_pos n))
  have m2 := Int.mul_le_mul_of_nonneg_left (show (1 : Int) ≤ 2 ^ n by omega) (show 0 ≤ 9 * (2 : Int) ^ t by omega)
  rw [Int.neg_mul] at m1
  omega
 have rle := hE.le
 have lr := ly (-(-y2 / 2 ^ n)) oO r2
 have W := fx_ExpW m ee s1 p1 p2 2977044084 2977044804 k0 a1 a2 u1 u2 t1 t2 q1 q2 x1 x2 y1 y2 (y1 / 2 ^ n) (-(-y2 / 2 ^ n)) oO oO hO hN NE
 rw [← hk] at W
 exact ⟨k, _, _, W C1 C2 C3 C4 C5 CE CH, ⟨by omega, kD⟩, xb, hE, hw, r0, lr⟩
end Go.Proofs.YtlaciaoiihannaaGreatDoor

namespace Go.Proofs.YtlaciaoiihannaaGreatDoor
open Go.RowKit
set_option maxRecDepth 100000
set_option maxHeartbeats 2000000
theorem ex_valueE (m ee w D : Int) (hw : 0 ≤ w ∧ w ≤ 276) (hm : L (m).natAbs ≤ 20) (he : -440 ≤ ee ∧ ee ≤ 130) (hd : (-512 ≤ dv m ee ∧ dv m ee ≤ 512) ∧ 100 * dv m ee + 36 ≤ 69 * (D : Rat) ∧ -dv m ee ≤ (w : Rat) + 1) (D0 : 0 ≤ D) (hD2 : w + D + 48 ≤ 380) :
  ∃ k lo hi : Int, Impl Tryz.prog Amb 76 [(yV m ee), (.int .i64 w)] (.agg [(.bool (decide (lo < 0))), (N lo.natAbs), (.bool (decide (hi < 0))), (N hi.natAbs)]) ∧ (-1000 ≤ k ∧ k ≤ D) ∧ (33 ≤ 100 * (dv m ee - (k : Rat) * cLn) ∧ 100 * (dv m ee - (k : Rat) * cLn) ≤ 106) ∧ Encl (XF (dv m ee) k) w.toNat lo hi ∧ hi - lo ≤ 2 ∧ 0 ≤ lo ∧ L hi.natAbs ≤ 30 := by
 obtain ⟨⟨d1, d2⟩, d3, d4⟩ := hd
 obtain ⟨k, r1, r2, hC, hk, hx, hE, hw2, h0, hl⟩ := fx_ExpE m ee (w + 24) D oO hm he d1 d2 d3 D0 oO
 have r12 := hE.le
 have l1 : L r1.natAbs ≤ 20 := Nat.le_trans (L_mono oO) hl
 have hA := ex_at m ee (w + 24) r1 r2 hC
 have hT := fx_SettleB 140 (yV m ee) r1 r2 w hA oO (nbits_of_lt oO) oO
 have n1 := L_abs_neg m
 have hB := ex_beyond (-m) ee (w + 1) oO oO oO
 have hB : Impl Tryz.prog Amb 74 [(yV (-m) ee), (.int .i64 (w + 1))] (.bool false) := by
  refine impl_eq (congrArg V.bool (decide_eq_false fun q => ?_)) hB
  have q := cmpD_pos.1 q
  rw [(of_fit (n := w + 1) oO).2.2.2.2.2, dv_neg, Rat.intCast_add] at q
  have q : (w : Rat) + 1 < -dv m ee := q
  grind
 have o1 := L_abs_shr r1 24
 have o2 := L_abs_neg r2
 have o3 := L_abs_shr (-r2) 24
 have o4 := L_abs_neg (-r2 / 2 ^ 24)
 have hw3 := half_w (a := r1) (b := r2) (W := 1) (n := 24) oO
 exact ⟨k, _, _, ex_value0 m ee w _ _ oO oO hB hT, hk, hx, hE.half oO, hw3, Int.ediv_nonneg h0 (by decide), by omega⟩
end Go.Proofs.YtlaciaoiihannaaGreatDoor

namespace Go.Proofs.YtlaciaoiihannaaGreatDoor
theorem EP_one {x : Rat} (h0 : 0 ≤ x) {K : Nat} (hK : 1 ≤ K) : 1 ≤ EP x K := by
 have a := EP_mono h0 hK
 have b : EP x 1 = 1 := by show (0 : Rat) + 1 = 1; grind
 grind
def eps : Rat := dv 1 (-400)
theorem EPc_num : 2 - eps ≤ EP cLn 91 ∧ EP cLn 91 + tE cLn 90 ≤ 2 + eps := ⟨of_decide_eq_true (by kernel_rfl), of_decide_eq_true (by kernel_rfl)⟩
theorem EPc {K : Nat} : (91 ≤ K → 2 - eps ≤ EP cLn K) ∧ EP cLn K ≤ 2 + eps := by
 have c0 : 0 ≤ cLn := of_decide_eq_true (by kernel_rfl)
 have c1 : 2 * cLn ≤ (nx 90 : Rat) := of_decide_eq_true (by kernel_rfl)
 have n := EPc_num
 exact ⟨fun h => Rat.le_trans n.1 (EP_mono c0 h), Rat.le_trans (EP_tail c0 c1 K) n.2⟩
end Go.Proofs.YtlaciaoiihannaaGreatDoor

