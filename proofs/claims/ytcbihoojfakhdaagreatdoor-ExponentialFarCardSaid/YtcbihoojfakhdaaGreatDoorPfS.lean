/-
  Lower layers: what functions of the program compute, and zxa facts. Conditions: as the theorems say.
-/
import Derived.Test.YtcbihoojfakhdaaGreatDoorPfR
set_option linter.unusedVariables false
set_option linter.unusedSimpArgs false
namespace Go.Proofs.YtcbihoojfakhdaaGreatDoor
open Go.RowKit
set_option maxRecDepth 100000
set_option maxHeartbeats 2000000
theorem zsn {v : Rat} (hv : 0 ≤ v) {h : Nat} : ∀ k i, i + k = h → dbl v i ≤ dbl v h
 | 0, i, e => by rw [Nat.add_zero] at e; rw [e]; exact Rat.le_refl
 | k + 1, i, e => by
  have a := zsn hv (h := h) k (i + 1) oO
  have b := zs1 hv i
  have c : dbl v (i + 1) = dbl v i + dbl v i := rfl
  grind
theorem zso {T v1 v2 : Int} {nn : Nat} {v : Rat} (hT : 16 ≤ T) (hv1 : 0 ≤ v1) (h12 : v1 ≤ v2) (h8 : 8 * v2 ≤ T) (e1 : (v1 : Rat) ≤ v * (T : Rat)) (e2 : v * (T : Rat) ≤ (v2 : Rat)) (hv0 : 0 ≤ v) :
  (((saS (fun j => (exM T v1 v2 T j).1) nn) : Int) : Rat) ≤ EP v (nn + 1) * (T : Rat) ∧ (∀ K, EP v K * (T : Rat) ≤ (((saS (fun j => (exM T v1 v2 T j).2) nn + (exM T v1 v2 T nn).2) : Int) : Rat)) ∧ 7 * (saS (fun j => (exM T v1 v2 T j).2) nn - saS (fun j => (exM T v1 v2 T j).1) nn) ≤ 32 * (v2 - v1) + 32 * (nn : Int) := by
 have T0 : (0 : Rat) < (T : Rat) := Rat.intCast_pos.2 oO
 have v1R : (0 : Rat) ≤ (v1 : Rat) := Rat.intCast_nonneg.2 hv1
 have nxt := fun j => zsj hT hv1 h12 h8 j
 have v8 : 8 * v ≤ 1 := by
  have a : (8 : Rat) * (v2 : Rat) ≤ (T : Rat) := by
   have := Rat.intCast_le_intCast.2 h8
   rw [Rat.intCast_mul] at this; exact this
  refine Rat.le_of_mul_le_mul_right (c := (T : Rat)) ?_ T0
  grind
 have vD : (0 : Rat) ≤ (v2 : Rat) - (v1 : Rat) := by have := Rat.intCast_le_intCast.2 h12; grind
 have z0 : (exM T v1 v2 T 0).1 = T ∧ (exM T v1 v2 T 0).2 = T := ⟨rfl, rfl⟩
 have L1 := lowT (p := (fun j => (exM T v1 v2 T j).1)) (T := (T : Rat)) (v1 := (v1 : Rat)) (v := v) (n := nn) T0 Rat.le_refl v1R e1 hv0 (fun j _ => by
  have a := Rat.intCast_le_intCast.2 (nxt j).1.1
  simp only [Rat.intCast_mul] at a; exact a)
 have H1 := zry (p := (fun j => (exM T v1 v2 T j).2)) (T := (T : Rat)) (v2 := (v2 : Rat)) (v := v) (n := nn) T0 Rat.le_refl e2 hv0 (fun j _ => by
  have a := Rat.intCast_le_intCast.2 (nxt j).2.1.1
  simp only [Rat.intCast_mul] at a; exact a)
 have SL := zrz (p := (fun j => (exM T v1 v2 T j).1)) (s := saS (fun j => (exM T v1 v2 T j).1)) (n := nn) rfl (fun j _ => rfl) L1 nn (Nat.le_refl _)
 have SH := zs0 (p := (fun j => (exM T v1 v2 T j).2)) (s := saS (fun j => (exM T v1 v2 T j).2)) (n := nn) rfl (fun j _ => rfl) H1 nn (Nat.le_refl _)
 have HL := H1 nn (Nat.le_refl _)
 have W := zsf (p := (fun j => (exM T v1 v2 T j).1)) (q := (fun j => (exM T v1 v2 T j).2)) (s := saS (fun j => (exM T v1 v2 T j).1)) (r := saS (fun j => (exM T v1 v2 T j).2)) (T := (T : Rat)) (v1 := (v1 : Rat)) (v2 := (v2 : Rat)) (v := v) (n := nn) T0 (by
   have := Rat.intCast_le_intCast.2 h8
   rw [Rat.intCast_mul] at this; exact this) (Rat.intCast_le_intCast.2 h12) hv0 rfl (fun j _ => rfl) rfl (fun j _ => rfl) rfl L1 H1
  (fun j _ => by
   have a := Rat.intCast_le_intCast.2 (nxt j).1.2
   simp only [Rat.intCast_mul, Rat.intCast_add] at a; exact a)
  (fun j _ => by
   have a := Rat.intCast_le_intCast.2 (nxt j).2.1.2
   simp only [Rat.intCast_mul, Rat.intCast_sub] at a; exact a) nn (Nat.le_refl _)
 have LL := L1 nn (Nat.le_refl _)
 refine ⟨SL, fun K => ?_, ?_⟩
 ·have t := zrw hv0 (n := nn) (Rat.le_trans (show 2 * v ≤ 1 by grind) (show (1 : Rat) ≤ (nx nn : Rat) from zrv (a := 0) oO)) K
  have m := Rat.mul_le_mul_of_nonneg_right t (Rat.le_of_lt T0)
  rw [Rat.intCast_add]
  have HL : tE v nn * (T : Rat) ≤ (((exM T v1 v2 T nn).2 : Int) : Rat) := HL
  grind
 ·have f := zrx hv0 (show 10 * v ≤ 11 by grind) nn
  have m := Rat.mul_le_mul_of_nonneg_right f vD
  refine Rat.intCast_le_intCast.1 ?_
  simp only [Rat.intCast_mul, Rat.intCast_add, Rat.intCast_sub]
  have HL : tE v nn * (T : Rat) ≤ (((exM T v1 v2 T nn).2 : Int) : Rat) := HL
  have LL : (((exM T v1 v2 T nn).1 : Int) : Rat) ≤ tE v nn * (T : Rat) := LL
  have W : 7 * (((saS (fun j => (exM T v1 v2 T j).2) nn : Int) : Rat) - ((saS (fun j => (exM T v1 v2 T j).1) nn : Int) : Rat)) + ((((exM T v1 v2 T nn).2 : Int) : Rat) - (((exM T v1 v2 T nn).1 : Int) : Rat)) ≤ 8 * (EP v nn * ((v2 : Rat) - (v1 : Rat))) + 32 * (nn : Rat) := W
  have c7 : ((7 : Int) : Rat) = 7 := rfl
  have c32 : ((32 : Int) : Rat) = 32 := rfl
  have cn : (((nn : Int)) : Rat) = (nn : Rat) := rfl
  rw [c7, c32, cn]
  grind
theorem zsp {T v1 v2 K0 : Int} {h nn : Nat} {v : Rat} (hT : 16 ≤ T) (hv1 : 0 ≤ v1) (h12 : v1 ≤ v2) (h8 : 8 * v2 ≤ T) (e1 : (v1 : Rat) ≤ v * (T : Rat)) (e2 : v * (T : Rat) ≤ (v2 : Rat)) (hv0 : 0 ≤ v) (hx : 10 * dbl v h ≤ 11)
  (hl : (exM T v1 v2 T nn).2 ≤ 8) (hK : 5 * (v2 - v1) + 5 * (nn : Int) + 8 ≤ K0) (hm : 2 * (2 ^ h * (K0 + 10)) ≤ T) :
  (∀ i, i ≤ h → (T ≤ (sqS (saS (fun j => (exM T v1 v2 T j).1) nn) (saS (fun j => (exM T v1 v2 T j).2) nn + (exM T v1 v2 T nn).2) T i).1 ∧ (sqS (saS (fun j => (exM T v1 v2 T j).1) nn) (saS (fun j => (exM T v1 v2 T j).2) nn + (exM T v1 v2 T nn).2) T i).1 ≤ 4 * T) ∧ T ≤ (sqS (saS (fun j => (exM T v1 v2 T j).1) nn) (saS (fun j => (exM T v1 v2 T j).2) nn + (exM T v1 v2 T nn).2) T i).2 ∧ (sqS (saS (fun j => (exM T v1 v2 T j).1) nn) (saS (fun j => (exM T v1 v2 T j).2) nn + (exM T v1 v2 T nn).2) T i).2 ≤ 8 * T) ∧ (∃ N, (((sqS (saS (fun j => (exM T v1 v2 T j).1) nn) (saS (fun j => (exM T v1 v2 T j).2) nn + (exM T v1 v2 T nn).2) T h).1 : Int) : Rat) ≤ EP (dbl v h) N * (T : Rat)) ∧ (∀ K, EP (dbl v h) K * (T : Rat) ≤ (((sqS (saS (fun j => (exM T v1 v2 T j).1) nn) (saS (fun j => (exM T v1 v2 T j).2) nn + (exM T v1 v2 T nn).2) T h).2 : Int) : Rat)) ∧ (sqS (saS (fun j => (exM T v1 v2 T j).1) nn) (saS (fun j => (exM T v1 v2 T j).2) nn + (exM T v1 v2 T nn).2) T h).2 - (sqS (saS (fun j => (exM T v1 v2 T j).1) nn) (saS (fun j => (exM T v1 v2 T j).2) nn + (exM T v1 v2 T nn).2) T h).1 ≤ 8 * (2 ^ h * (K0 + 10)) := by
 obtain ⟨SL, SH, W⟩ := zso (nn := nn) hT hv1 h12 h8 e1 e2 hv0
 have T0 : (0 : Rat) < (T : Rat) := Rat.intCast_pos.2 oO
 have f1 := zsm (p := (fun j => (exM T v1 v2 T j).1)) (T := T) (fun j => by have := zsi hT hv1 h12 h8 j; exact ⟨this.1, this.2.1⟩) nn
 have f2 := zsm (p := (fun j => (exM T v1 v2 T j).2)) (T := T) (fun j => by have := zsi hT hv1 h12 h8 j; exact ⟨this.2.2.1, this.2.2.2⟩) nn
 have f3 := (zsi hT hv1 h12 h8 nn).2.2.1
 have f1 : T ≤ (saS (fun j => (exM T v1 v2 T j).1) nn) := f1.2.2
 have f2 : T ≤ (saS (fun j => (exM T v1 v2 T j).2) nn + (exM T v1 v2 T nn).2) := by have := f2.2.2; have : T ≤ saS (fun j => (exM T v1 v2 T j).2) nn := this; omega
 have w : (saS (fun j => (exM T v1 v2 T j).2) nn + (exM T v1 v2 T nn).2) ≤ (saS (fun j => (exM T v1 v2 T j).1) nn) + K0 := by omega
 generalize (saS (fun j => (exM T v1 v2 T j).1) nn) = fa at *
 generalize (saS (fun j => (exM T v1 v2 T j).2) nn + (exM T v1 v2 T nn).2) = fb at *
 have TI : 0 < T := by omega
 have ge := fun i => zsl (a := fa) (b := fb) TI f1 f2 i
 have sf := fun i => zsk (a := fa) (b := fb) TI i
 have geR1 : ∀ i, (T : Rat) ≤ (((sqS fa fb T i).1 : Int) : Rat) := fun i => Rat.intCast_le_intCast.2 (ge i).1
 have geR2 : ∀ i, (T : Rat) ≤ (((sqS fa fb T i).2 : Int) : Rat) := fun i => Rat.intCast_le_intCast.2 (ge i).2
 have lo := zs3 (a := fun i => (sqS fa fb T i).1) (T := (T : Rat)) (v := v) (K := nn + 1) (h := h) T0 hv0 (fun i _ => Rat.le_trans (Rat.le_of_lt T0) (geR1 i)) SL (fun i _ => by
  have a := Rat.intCast_le_intCast.2 (sf i).1
  simp only [Rat.intCast_mul] at a; exact a)
 have hi := zs4 (b := fun i => (sqS fa fb T i).2) (T := (T : Rat)) (v := v) (h := h) T0 hv0 SH (fun i _ => by
  have a := Rat.intCast_le_intCast.2 (sf i).2.2.1
  simp only [Rat.intCast_mul] at a; exact a)
 have four : ∀ i, i ≤ h → (((sqS fa fb T i).1 : Int) : Rat) ≤ 4 * (T : Rat) := fun i hi => by
  have a := lo i hi
  have b := zsn hv0 (h := h) (h - i) i oO
  have c := zrx (zs1 hv0 i) (show 10 * dbl v i ≤ 11 by grind) (2 ^ i * (nn + 1))
  exact Rat.le_trans a (Rat.mul_le_mul_of_nonneg_right c (Rat.le_of_lt T0))
 have u0 : (0 : Rat) < (T : Rat)⁻¹ := Rat.inv_pos.2 T0
 have uT : (T : Rat)⁻¹ * (T : Rat) = 1 := Rat.inv_mul_cancel _ (by grind)
 have p0 := zip h
 have K00 : 0 ≤ K0 := by omega
 have kT : K0 ≤ T := by
  have := Int.mul_le_mul_of_nonneg_right (show (1 : Int) ≤ 2 ^ h by omega) (show 0 ≤ K0 + 10 by omega)
  omega
 have mR : ∀ i, i ≤ h → 2 * (((2 ^ i : Nat) : Rat) * (((K0 : Rat) + 10) * (T : Rat)⁻¹)) ≤ 1 := fun i hi => by
  have a : 2 * ((((2 ^ i : Nat) : Int) : Rat) * ((K0 : Rat) + 10)) ≤ (T : Rat) := by
   have q : 2 * (((2 ^ i : Nat) : Int) * (K0 + 10)) ≤ T := by
    have := Int.mul_le_mul_of_nonneg_right (Int.ofNat_le.2 (Nat.pow_le_pow_right (n := 2) oO hi)) (show 0 ≤ K0 + 10 by omega)
    rw [zb2] at hm
    omega
   have := Rat.intCast_le_intCast.2 q
   simp only [Rat.intCast_mul, Rat.intCast_add] at this
   exact this
  have b := Rat.mul_le_mul_of_nonneg_right a (Rat.le_of_lt u0)
  have c : (((2 ^ i : Nat) : Int) : Rat) = ((2 ^ i : Nat) : Rat) := rfl
  rw [c] at b
  grind
 have wid : ∀ i, i ≤ h → (((sqS fa fb T i).2 : Int) : Rat) ≤ (((sqS fa fb T i).1 : Int) : Rat) * (1 + 2 * (((2 ^ i : Nat) : Rat) * (((K0 : Rat) + 10) * (T : Rat)⁻¹))) := fun i hi =>
  zsd (a := fun i => (sqS fa fb T i).1) (b := fun i => (sqS fa fb T i).2) (T := (T : Rat)) (u := (T : Rat)⁻¹) (K0 := (K0 : Rat)) (h := i) (Rat.intCast_le_intCast.2 (show (3 : Int) ≤ T by omega)) u0 uT (fun i _ => geR1 i) (fun i _ => geR2 i)
   (fun i _ => by
    have a := Rat.intCast_le_intCast.2 (Int.le_of_lt (sf i).2.1)
    simp only [Rat.intCast_mul, Rat.intCast_add] at a; exact a)
   (fun i _ => by
    have a := Rat.intCast_le_intCast.2 (sf i).2.2.2
    simp only [Rat.intCast_mul, Rat.intCast_sub] at a; exact a)
   (Rat.intCast_nonneg.2 K00) (Rat.intCast_le_intCast.2 kT) (by
    have a := Rat.intCast_le_intCast.2 w
    rw [Rat.intCast_add] at a; exact a) (mR i hi)
 refine ⟨fun i hi' => ⟨⟨(ge i).1, ?_⟩, (ge i).2, ?_⟩, ⟨_, lo h (Nat.le_refl _)⟩, hi h (Nat.le_refl _), ?_⟩
 ·refine Rat.intCast_le_intCast.1 ?_
  rw [Rat.intCast_mul]; exact four i hi'
 ·refine Rat.intCast_le_intCast.1 ?_
  rw [Rat.intCast_mul, show ((8 : Int) : Rat) = 8 from rfl]
  have a := wid i hi'
  have b := Rat.mul_le_mul_of_nonneg_left (mR i hi') (Rat.le_trans (Rat.le_of_lt T0) (geR1 i))
  have c := four i hi'
  grind
 ·refine Rat.intCast_le_intCast.1 ?_
  have a := wid h (Nat.le_refl _)
  have c := four h (Nat.le_refl _)
  have q0 : (0 : Rat) ≤ 2 * (((2 ^ h : Nat) : Rat) * (((K0 : Rat) + 10) * (T : Rat)⁻¹)) := by
   have k0 : (0 : Rat) ≤ (K0 : Rat) := Rat.intCast_nonneg.2 K00
   have := Rat.mul_nonneg (Rat.natCast_nonneg (a := 2 ^ h)) (Rat.mul_nonneg (show (0 : Rat) ≤ (K0 : Rat) + 10 by grind) (Rat.le_of_lt u0))
   grind
  have m := Rat.mul_le_mul_of_nonneg_right c q0
  have e : 4 * (T : Rat) * (2 * (((2 ^ h : Nat) : Rat) * (((K0 : Rat) + 10) * (T : Rat)⁻¹))) = 8 * (((2 ^ h : Nat) : Rat) * ((K0 : Rat) + 10)) := by grind
  rw [e] at m
  rw [zb2]
  simp only [Rat.intCast_mul, Rat.intCast_add, Rat.intCast_sub]
  have c8 : ((8 : Int) : Rat) = 8 := rfl
  have c10 : ((10 : Int) : Rat) = 10 := rfl
  have cp : (((2 ^ h : Nat) : Int) : Rat) = ((2 ^ h : Nat) : Rat) := rfl
  rw [c8, c10, cp]
  grind
end Go.Proofs.YtcbihoojfakhdaaGreatDoor

namespace Go.Proofs.YtcbihoojfakhdaaGreatDoor
open Go.RowKit
set_option maxRecDepth 100000
set_option maxHeartbeats 2000000
theorem zsq (x : Int) (h : Nat) : x * 2 ^ (h + 24) / 2 ^ h = x * 16777216 ∧ -(-(x * 2 ^ (h + 24)) / 2 ^ h) = x * 16777216 := by
 have e : x * 2 ^ (h + 24) = x * 16777216 * 2 ^ h := by
  rw [Int.pow_add, show (2 : Int) ^ 24 = 16777216 from rfl, Int.mul_comm (2 ^ h), Int.mul_assoc]
 have p := zip h
 rw [e]
 constructor
 ·exact Int.mul_ediv_cancel _ oO
 ·rw [← Int.neg_mul, Int.mul_ediv_cancel _ oO]; omega
theorem zsr (sc : Int) (hs : 0 ≤ sc ∧ sc ≤ 9000) : ∃ hh : Int, (4 ≤ hh ∧ hh ≤ 100) ∧ (∀ i : Int, 4 ≤ i → i < hh → i * i < sc) ∧ sc ≤ hh * hh := by
 obtain ⟨n, h1, h2, h3⟩ := zpq (P := fun n : Nat => sc ≤ ((n : Int) + 4) * ((n : Int) + 4)) (n := 96) (show sc ≤ (((96 : Nat) : Int) + 4) * (((96 : Nat) : Int) + 4) by omega)
 refine ⟨(n : Int) + 4, by omega, fun i a b => ?_, h2⟩
 obtain ⟨j, hj⟩ : ∃ j : Nat, (j : Int) + 4 = i := ⟨(i - 4).toNat, by omega⟩
 have := h3 j oO
 rw [hj] at this
 omega
theorem zss (x1 x2 sc : Int) (x : Rat) (hs : 0 ≤ sc ∧ sc ≤ 9000) (e1 : (x1 : Rat) ≤ x * ((2 ^ sc.toNat : Int) : Rat)) (e2 : x * ((2 ^ sc.toNat : Int) : Rat) ≤ (x2 : Rat)) (hx1 : 0 ≤ x1) (hx2 : 10 * x2 ≤ 11 * 2 ^ sc.toNat) (hW : 16 * (x2 - x1 + 1) ≤ 2 ^ sc.toNat) :
  ∃ r1 r2 : Int, Impl Tryz.prog Amb 232 [(.agg [(.bool (decide (x1 < 0))), (N x1.natAbs), (.bool (decide (x2 < 0))), (N x2.natAbs)]), (.int .i64 sc)] (.agg [(.bool (decide (r1 < 0))), (N r1.natAbs), (.bool (decide (r2 < 0))), (N r2.natAbs)]) ∧ Encl (EP x) sc.toNat r1 r2 ∧ r2 - r1 ≤ 40 * (x2 - x1) + 4 ∧ (0 ≤ r1 ∧ r2 ≤ 9 * 2 ^ sc.toNat) := by
 obtain ⟨hh, h4, h5, h6⟩ := zsr sc hs
 obtain ⟨h, hh_⟩ : ∃ h : Nat, (h : Int) = hh := ⟨hh.toNat, by omega⟩
 have hhn : hh.toNat = h := by omega
 have tn : ((sc + hh) + 24).toNat = sc.toNat + h + 24 := by omega
 have tsn : (((sc + hh) + 24) - sc).toNat = h + 24 := by omega
 have P0 := zip sc.toNat
 have Q0 := zip h
 have Q16 : (16 : Int) ≤ 2 ^ h := by
  have := Int.ofNat_le.2 (Nat.pow_le_pow_right (n := 2) oO (show 4 ≤ h by omega))
  rw [← zb2, ← zb2] at this
  exact this
 have TF : (2 : Int) ^ ((sc + hh) + 24).toNat = 2 ^ sc.toNat * 2 ^ h * 16777216 := by
  rw [tn, Int.pow_add, Int.pow_add]; rfl
 have PQ := Int.mul_le_mul_of_nonneg_left Q16 (Int.le_of_lt P0)
 have x12 : x1 ≤ x2 := Rat.intCast_le_intCast.1 (Rat.le_trans e1 e2)
 have hT16 : (16 : Int) ≤ (2 ^ ((sc + hh) + 24).toNat) := by rw [TF]; omega
 have h8 : 8 * (x2 * 16777216) ≤ (2 ^ ((sc + hh) + 24).toNat) := by rw [TF]; omega
 have hv1 : 0 ≤ (x1 * 16777216) := by omega
 have h12 : (x1 * 16777216) ≤ (x2 * 16777216) := by omega
 -- the number of terms
 obtain ⟨nn, n1, n2, n3⟩ := zsg (q := (fun i => (exM (2 ^ ((sc + hh) + 24).toNat) (x1 * 16777216) (x2 * 16777216) (2 ^ ((sc + hh) + 24).toNat) i).2)) (t := ((sc + hh) + 24).toNat) oO rfl (fun j _ => (zsj hT16 hv1 h12 h8 j).2.2.1)
 have hl : (exM (2 ^ ((sc + hh) + 24).toNat) (x1 * 16777216) (x2 * 16777216) (2 ^ ((sc + hh) + 24).toNat) nn).2 ≤ 8 := by
  have := (n3 (nn - 1) oO).2 oO
  rw [show nn - 1 + 1 = nn by omega] at this
  have : (exM (2 ^ ((sc + hh) + 24).toNat) (x1 * 16777216) (x2 * 16777216) (2 ^ ((sc + hh) + 24).toNat) nn).2 < 8 := this
  omega
 -- the argument of the sum
 have PR : (0 : Rat) < ((2 ^ sc.toNat : Int) : Rat) := Rat.intCast_pos.2 P0
 have QR : (0 : Rat) < ((2 ^ h : Int) : Rat) := Rat.intCast_pos.2 Q0
 have TR : (((2 ^ ((sc + hh) + 24).toNat) : Int) : Rat) = ((2 ^ sc.toNat : Int) : Rat) * ((2 ^ h : Int) : Rat) * 16777216 := by rw [TF, Rat.intCast_mul, Rat.intCast_mul]; rfl
 have x0 : 0 ≤ x := by
  refine Rat.le_of_mul_le_mul_right (c := ((2 ^ sc.toNat : Int) : Rat)) ?_ PR
  rw [Rat.zero_mul]
  exact Rat.le_trans (Rat.intCast_nonneg.2 hx1) e1
 have x11 : 10 * x ≤ 11 := by
  refine Rat.le_of_mul_le_mul_right (c := ((2 ^ sc.toNat : Int) : Rat)) ?_ PR
  have := Rat.intCast_le_intCast.2 hx2
  simp only [Rat.intCast_mul] at this
  have : (10 : Rat) * (x2 : Rat) ≤ 11 * ((2 ^ sc.toNat : Int) : Rat) := this
  grind
 have vq : x / ((2 ^ h : Int) : Rat) * ((2 ^ h : Int) : Rat) = x := Rat.div_mul_cancel (by grind)
 have v0 : 0 ≤ x / ((2 ^ h : Int) : Rat) := by rw [Rat.div_def]; exact Rat.mul_nonneg x0 (Rat.le_of_lt (Rat.inv_pos.2 QR))
 generalize hv : x / ((2 ^ h : Int) : Rat) = v at *
 have dv_ : dbl v h = x := by rw [zs2]; exact vq
 have g1 : (((x1 * 16777216) : Int) : Rat) ≤ v * (((2 ^ ((sc + hh) + 24).toNat) : Int) : Rat) := by
  rw [TR, Rat.intCast_mul, show ((16777216 : Int) : Rat) = 16777216 from rfl]
  have e : v * (((2 ^ sc.toNat : Int) : Rat) * ((2 ^ h : Int) : Rat) * 16777216) = x * ((2 ^ sc.toNat : Int) : Rat) * 16777216 := by rw [← vq]; grind
  rw [e]; exact Rat.mul_le_mul_of_nonneg_right e1 (by decide)
 have g2 : v * (((2 ^ ((sc + hh) + 24).toNat) : Int) : Rat) ≤ (((x2 * 16777216) : Int) : Rat) := by
  rw [TR, Rat.intCast_mul, show ((16777216 : Int) : Rat) = 16777216 from rfl]
  have e : v * (((2 ^ sc.toNat : Int) : Rat) * ((2 ^ h : Int) : Rat) * 16777216) = x * ((2 ^ sc.toNat : Int) : Rat) * 16777216 := by rw [← vq]; grind
  rw [e]; exact Rat.mul_le_mul_of_nonneg_right e2 (by decide)
 have hm : 2 * (2 ^ h * ((5 * ((x2 * 16777216) - (x1 * 16777216)) + 5 * (nn : Int) + 8) + 10)) ≤ (2 ^ ((sc + hh) + 24).toNat) := by
  have a : 2 * ((5 * ((x2 * 16777216) - (x1 * 16777216)) + 5 * (nn : Int) + 8) + 10) ≤ 2 ^ sc.toNat * 16777216 := by omega
  have b := Int.mul_le_mul_of_nonneg_left a (Int.le_of_lt Q0)
  rw [TF]
  have c1 : (2 : Int) ^ h * (2 * ((5 * ((x2 * 16777216) - (x1 * 16777216)) + 5 * (nn : Int) + 8) + 10)) = 2 * (2 ^ h * ((5 * ((x2 * 16777216) - (x1 * 16777216)) + 5 * (nn : Int) + 8) + 10)) := by rw [← Int.mul_assoc, Int.mul_comm (2 ^ h) 2, Int.mul_assoc]
  have c2 : (2 : Int) ^ h * (2 ^ sc.toNat * 16777216) = 2 ^ sc.toNat * 2 ^ h * 16777216 := by rw [← Int.mul_assoc, Int.mul_comm (2 ^ h)]
  omega
 have R := zsp (h := h) (nn := nn) (K0 := 5 * ((x2 * 16777216) - (x1 * 16777216)) + 5 * (nn : Int) + 8) hT16 hv1 h12 h8 g1 g2 v0 (by rw [dv_]; exact x11) hl (Int.le_refl _) hm
 rw [dv_] at R
 obtain ⟨sz, ⟨N, lo⟩, hi, wd⟩ := R
 have ef := fun j => zsi hT16 hv1 h12 h8 j
 have en := fun j => zsj hT16 hv1 h12 h8 j
 have s1 := fun j => zsm (p := (fun i => (exM (2 ^ ((sc + hh) + 24).toNat) (x1 * 16777216) (x2 * 16777216) (2 ^ ((sc + hh) + 24).toNat) i).1)) (T := (2 ^ ((sc + hh) + 24).toNat)) (fun j => ⟨(ef j).1, (ef j).2.1⟩) j
 have s2 := fun j => zsm (p := (fun i => (exM (2 ^ ((sc + hh) + 24).toNat) (x1 * 16777216) (x2 * 16777216) (2 ^ ((sc + hh) + 24).toNat) i).2)) (T := (2 ^ ((sc + hh) + 24).toNat)) (fun j => ⟨(ef j).2.2.1, (ef j).2.2.2⟩) j
 have sT : ∀ j : Nat, j ≤ nn → ((j : Int) + 1) * (2 ^ ((sc + hh) + 24).toNat) ≤ 10000 * (2 ^ ((sc + hh) + 24).toNat) := fun j hj => Int.mul_le_mul_of_nonneg_right oO oO
 have Lb : ∀ y : Int, -(20000 * (2 ^ ((sc + hh) + 24).toNat)) ≤ y → y ≤ 20000 * (2 ^ ((sc + hh) + 24).toNat) → L y.natAbs ≤ 700 := fun y a b => by
  refine zsh (t := ((sc + hh) + 24).toNat) ?_ oO
  have e : ((2 ^ (((sc + hh) + 24).toNat + 20) : Nat) : Int) = (2 ^ ((sc + hh) + 24).toNat) * 1048576 := by rw [← zb2, Int.pow_add]; rfl
  omega
 have hTw := zqi x1 x2 (((sc + hh) + 24) - sc) (Nat.le_trans (Lb x1 oO oO) oO) (Nat.le_trans (Lb x2 oO oO) oO) oO
 rw [tsn] at hTw
 have wb : 0 ≤ x1 * 2 ^ (h + 24) ∧ x1 * 2 ^ (h + 24) ≤ 2 * (2 ^ ((sc + hh) + 24).toNat) ∧ 0 ≤ x2 * 2 ^ (h + 24) ∧ x2 * 2 ^ (h + 24) ≤ 2 * (2 ^ ((sc + hh) + 24).toNat) := by
  have w := zip (h + 24)
  have a := Int.mul_nonneg hx1 (Int.le_of_lt w)
  have b := Int.mul_le_mul_of_nonneg_right x12 (Int.le_of_lt w)
  have c := Int.mul_le_mul_of_nonneg_right (show x2 ≤ 2 * 2 ^ sc.toNat by omega) (Int.le_of_lt w)
  have d : (2 : Int) * 2 ^ sc.toNat * 2 ^ (h + 24) = 2 * (2 ^ ((sc + hh) + 24).toNat) := by rw [tn, Int.mul_assoc, ← Int.pow_add, Nat.add_assoc]
  omega
 have hHf := zky (x1 * 2 ^ (h + 24)) (x2 * 2 ^ (h + 24)) hh (Nat.le_trans (Lb _ oO oO) oO) (Nat.le_trans (Lb _ oO oO) oO) oO
 rw [hhn, (zsq x1 h).1, (zsq x2 h).2] at hHf
 have hO := zqg ((sc + hh) + 24) oO
 rw [Int.one_mul] at hO
 have lv1 : L (x1 * 16777216).natAbs ≤ 700 := Lb _ oO oO
 have lv2 : L (x2 * 16777216).natAbs ≤ 700 := Lb _ oO oO
 have l1 : ∀ j, L ((exM (2 ^ ((sc + hh) + 24).toNat) (x1 * 16777216) (x2 * 16777216) (2 ^ ((sc + hh) + 24).toNat) j).1).natAbs ≤ 700 := fun j => by have := ef j; exact Lb _ oO oO
 have l2 : ∀ j, L ((exM (2 ^ ((sc + hh) + 24).toNat) (x1 * 16777216) (x2 * 16777216) (2 ^ ((sc + hh) + 24).toNat) j).2).natAbs ≤ 700 := fun j => by have := ef j; exact Lb _ oO oO
 have m1 : ∀ j, L ((exM (2 ^ ((sc + hh) + 24).toNat) (x1 * 16777216) (x2 * 16777216) (2 ^ ((sc + hh) + 24).toNat) j).1 * (x1 * 16777216) / (2 ^ ((sc + hh) + 24).toNat)).natAbs ≤ 700 := fun j => by have := (en j).2.2.2; exact Lb _ oO oO
 have m2 : ∀ j, L (-(-((exM (2 ^ ((sc + hh) + 24).toNat) (x1 * 16777216) (x2 * 16777216) (2 ^ ((sc + hh) + 24).toNat) j).2 * (x2 * 16777216)) / (2 ^ ((sc + hh) + 24).toNat))).natAbs ≤ 700 := fun j => by have := (en j).2.2.2; exact Lb _ oO oO
 have a1 : ∀ j, j ≤ nn → L (saS (fun i => (exM (2 ^ ((sc + hh) + 24).toNat) (x1 * 16777216) (x2 * 16777216) (2 ^ ((sc + hh) + 24).toNat) i).1) j).natAbs ≤ 700 := fun j hj => by have := s1 j; have := sT j hj; exact Lb _ oO oO
 have a2 : ∀ j, j ≤ nn → L (saS (fun i => (exM (2 ^ ((sc + hh) + 24).toNat) (x1 * 16777216) (x2 * 16777216) (2 ^ ((sc + hh) + 24).toNat) i).2) j).natAbs ≤ 700 := fun j hj => by have := s2 j; have := sT j hj; exact Lb _ oO oO
 have q1 : ∀ i, i ≤ h → L ((sqS (saS (fun i => (exM (2 ^ ((sc + hh) + 24).toNat) (x1 * 16777216) (x2 * 16777216) (2 ^ ((sc + hh) + 24).toNat) i).1) nn) (saS (fun i => (exM (2 ^ ((sc + hh) + 24).toNat) (x1 * 16777216) (x2 * 16777216) (2 ^ ((sc + hh) + 24).toNat) i).2) nn + (exM (2 ^ ((sc + hh) + 24).toNat) (x1 * 16777216) (x2 * 16777216) (2 ^ ((sc + hh) + 24).toNat) nn).2) (2 ^ ((sc + hh) + 24).toNat) i).1).natAbs ≤ 700 := fun i hi => by have := sz i hi; exact Lb _ oO oO
 have q2 : ∀ i, i ≤ h → L ((sqS (saS (fun i => (exM (2 ^ ((sc + hh) + 24).toNat) (x1 * 16777216) (x2 * 16777216) (2 ^ ((sc + hh) + 24).toNat) i).1) nn) (saS (fun i => (exM (2 ^ ((sc + hh) + 24).toNat) (x1 * 16777216) (x2 * 16777216) (2 ^ ((sc + hh) + 24).toNat) i).2) nn + (exM (2 ^ ((sc + hh) + 24).toNat) (x1 * 16777216) (x2 * 16777216) (2 ^ ((sc + hh) + 24).toNat) nn).2) (2 ^ ((sc + hh) + 24).toNat) i).2).natAbs ≤ 700 := fun i hi => by have := sz i hi; exact Lb _ oO oO
 have C := zr3 x1 x2 sc hh _ _ _ _ ((sqS (saS (fun i => (exM (2 ^ ((sc + hh) + 24).toNat) (x1 * 16777216) (x2 * 16777216) (2 ^ ((sc + hh) + 24).toNat) i).1) nn) (saS (fun i => (exM (2 ^ ((sc + hh) + 24).toNat) (x1 * 16777216) (x2 * 16777216) (2 ^ ((sc + hh) + 24).toNat) i).2) nn + (exM (2 ^ ((sc + hh) + 24).toNat) (x1 * 16777216) (x2 * 16777216) (2 ^ ((sc + hh) + 24).toNat) nn).2) (2 ^ ((sc + hh) + 24).toNat) h).1 / 2 ^ (h + 24)) (-(-((sqS (saS (fun i => (exM (2 ^ ((sc + hh) + 24).toNat) (x1 * 16777216) (x2 * 16777216) (2 ^ ((sc + hh) + 24).toNat) i).1) nn) (saS (fun i => (exM (2 ^ ((sc + hh) + 24).toNat) (x1 * 16777216) (x2 * 16777216) (2 ^ ((sc + hh) + 24).toNat) i).2) nn + (exM (2 ^ ((sc + hh) + 24).toNat) (x1 * 16777216) (x2 * 16777216) (2 ^ ((sc + hh) + 24).toNat) nn).2) (2 ^ ((sc + hh) + 24).toNat) h).2) / 2 ^ (h + 24))) nn (fun i => (exM (2 ^ ((sc + hh) + 24).toNat) (x1 * 16777216) (x2 * 16777216) (2 ^ ((sc + hh) + 24).toNat) i).1) (fun i => (exM (2 ^ ((sc + hh) + 24).toNat) (x1 * 16777216) (x2 * 16777216) (2 ^ ((sc + hh) + 24).toNat) i).2) (fun i => (exM (2 ^ ((sc + hh) + 24).toNat) (x1 * 16777216) (x2 * 16777216) (2 ^ ((sc + hh) + 24).toNat) i).1 * (x1 * 16777216) / (2 ^ ((sc + hh) + 24).toNat)) (fun i => -(-((exM (2 ^ ((sc + hh) + 24).toNat) (x1 * 16777216) (x2 * 16777216) (2 ^ ((sc + hh) + 24).toNat) i).2 * (x2 * 16777216)) / (2 ^ ((sc + hh) + 24).toNat))) oO oO h5 h6 hTw hHf hO
  (fun j _ => zqj _ _ (x1 * 16777216) (x2 * 16777216) ((sc + hh) + 24) (Nat.le_trans (l1 j) oO) (Nat.le_trans (l2 j) oO) oO oO oO)
  (fun j kk _ hk => by subst hk; exact zqm _ _ ((j : Int) + 1) (Nat.le_trans (m1 j) oO) (Nat.le_trans (m2 j) oO) oO)
  (fun j hj => zl0 _ _ _ _ (Nat.le_trans (a1 j oO) oO) (Nat.le_trans (a2 j oO) oO) (Nat.le_trans (l1 (j + 1)) oO) (Nat.le_trans (l2 (j + 1)) oO))
  (fun j hj => by
   have c : decide (((exM (2 ^ ((sc + hh) + 24).toNat) (x1 * 16777216) (x2 * 16777216) (2 ^ ((sc + hh) + 24).toNat) (j + 1)).2).natAbs < 8) = decide (nn ≤ j + 1) := decide_eq_decide.2 (by have := n3 j hj; have := (ef (j + 1)).2.2.1; omega)
   exact zpe (congrArg V.bool c) (zqo _ _ (Nat.le_trans (l2 (j + 1)) oO)))
  ⟨Nat.le_trans (a2 nn (Nat.le_refl _)) oO, Nat.le_trans (l2 nn) oO⟩ ⟨n1, by omega⟩
  (fun i hi => zqj _ _ _ _ ((sc + hh) + 24) (Nat.le_trans (q1 i oO) oO) (Nat.le_trans (q2 i oO) oO) (Nat.le_trans (q1 i oO) oO) (Nat.le_trans (q2 i oO) oO) oO)
  (fun i hi => by
   have e : i = h := by omega
   subst e
   have r := zky (sqS (saS (fun i => (exM (2 ^ ((sc + hh) + 24).toNat) (x1 * 16777216) (x2 * 16777216) (2 ^ ((sc + hh) + 24).toNat) i).1) nn) (saS (fun i => (exM (2 ^ ((sc + hh) + 24).toNat) (x1 * 16777216) (x2 * 16777216) (2 ^ ((sc + hh) + 24).toNat) i).2) nn + (exM (2 ^ ((sc + hh) + 24).toNat) (x1 * 16777216) (x2 * 16777216) (2 ^ ((sc + hh) + 24).toNat) nn).2) (2 ^ ((sc + hh) + 24).toNat) i).1 (sqS (saS (fun i => (exM (2 ^ ((sc + hh) + 24).toNat) (x1 * 16777216) (x2 * 16777216) (2 ^ ((sc + hh) + 24).toNat) i).1) nn) (saS (fun i => (exM (2 ^ ((sc + hh) + 24).toNat) (x1 * 16777216) (x2 * 16777216) (2 ^ ((sc + hh) + 24).toNat) i).2) nn + (exM (2 ^ ((sc + hh) + 24).toNat) (x1 * 16777216) (x2 * 16777216) (2 ^ ((sc + hh) + 24).toNat) nn).2) (2 ^ ((sc + hh) + 24).toNat) i).2 (((sc + hh) + 24) - sc) (Nat.le_trans (q1 i (Nat.le_refl _)) oO) (Nat.le_trans (q2 i (Nat.le_refl _)) oO) oO
   rw [tsn] at r
   exact r)
 have szh := sz h (Nat.le_refl _)
 have tT : (((2 ^ ((sc + hh) + 24).toNat) : Int) : Rat) = ((2 ^ (sc.toNat + (h + 24)) : Int) : Rat) := by rw [tn, Nat.add_assoc]
 rw [tT] at lo
 have hi := fun K => (show EP x K * ((2 ^ (sc.toNat + (h + 24)) : Int) : Rat) ≤ _ from by have := hi K; rw [tT] at this; exact this)
 generalize (sqS (saS (fun i => (exM (2 ^ ((sc + hh) + 24).toNat) (x1 * 16777216) (x2 * 16777216) (2 ^ ((sc + hh) + 24).toNat) i).1) nn) (saS (fun i => (exM (2 ^ ((sc + hh) + 24).toNat) (x1 * 16777216) (x2 * 16777216) (2 ^ ((sc + hh) + 24).toNat) i).2) nn + (exM (2 ^ ((sc + hh) + 24).toNat) (x1 * 16777216) (x2 * 16777216) (2 ^ ((sc + hh) + 24).toNat) nn).2) (2 ^ ((sc + hh) + 24).toNat) h).1 = A at *
 generalize (sqS (saS (fun i => (exM (2 ^ ((sc + hh) + 24).toNat) (x1 * 16777216) (x2 * 16777216) (2 ^ ((sc + hh) + 24).toNat) i).1) nn) (saS (fun i => (exM (2 ^ ((sc + hh) + 24).toNat) (x1 * 16777216) (x2 * 16777216) (2 ^ ((sc + hh) + 24).toNat) i).2) nn + (exM (2 ^ ((sc + hh) + 24).toNat) (x1 * 16777216) (x2 * 16777216) (2 ^ ((sc + hh) + 24).toNat) nn).2) (2 ^ ((sc + hh) + 24).toNat) h).2 = B at *
 have z0 : (0 : Rat) ≤ ((2 ^ (sc.toNat + (h + 24)) : Int) : Rat) := Rat.intCast_nonneg.2 (Int.le_of_lt (zip _))
 have W24 : (2 : Int) ^ (h + 24) = 2 ^ h * 16777216 := by rw [Int.pow_add]; rfl
 have D0 := zip (h + 24)
 have wf : B - A ≤ (40 * (x2 - x1) + 3) * 2 ^ (h + 24) := by
  have a := Int.mul_le_mul_of_nonneg_left (show 8 * ((5 * ((x2 * 16777216) - (x1 * 16777216)) + 5 * (nn : Int) + 8) + 10) ≤ (40 * (x2 - x1) + 3) * 16777216 by omega) (Int.le_of_lt Q0)
  have c1 : (2 : Int) ^ h * (8 * ((5 * ((x2 * 16777216) - (x1 * 16777216)) + 5 * (nn : Int) + 8) + 10)) = 8 * (2 ^ h * ((5 * ((x2 * 16777216) - (x1 * 16777216)) + 5 * (nn : Int) + 8) + 10)) := by rw [← Int.mul_assoc, Int.mul_comm (2 ^ h) 8, Int.mul_assoc]
  have c2 : (40 * (x2 - x1) + 3) * (2 : Int) ^ (h + 24) = 2 ^ h * ((40 * (x2 - x1) + 3) * 16777216) := by rw [W24, Int.mul_comm, Int.mul_assoc, Int.mul_comm 16777216]
  omega
 have hw := zq8 (a := A) (b := B) (W := 40 * (x2 - x1) + 3) (n := h + 24) wf
 have hE : Encl (EP x) (sc.toNat + (h + 24)) A B := ⟨N, fun K hK => ⟨Rat.le_trans lo (Rat.mul_le_mul_of_nonneg_right (zrt x0 hK) z0), hi K⟩⟩
 refine ⟨_, _, C, hE.half rfl, by omega, Int.ediv_nonneg oO (Int.le_of_lt D0), ?_⟩
 have T8 : ((2 ^ ((sc + hh) + 24).toNat) : Int) = 2 ^ sc.toNat * 2 ^ (h + 24) := by rw [tn, Nat.add_assoc, Int.pow_add]
 rw [T8] at szh
 have u := Int.lt_ediv_add_one_mul_self (-B) D0
 refine Decidable.byContradiction fun hn => ?_
 have m := Int.mul_le_mul_of_nonneg_right (show -B / 2 ^ (h + 24) + 1 ≤ -(9 * 2 ^ sc.toNat) + 1 - 1 by omega) (Int.le_of_lt D0)
 have m' : (-(9 * 2 ^ sc.toNat) + 1 - 1 : Int) * 2 ^ (h + 24) = -(9 * (2 ^ sc.toNat * 2 ^ (h + 24))) := by rw [Int.add_sub_cancel, Int.neg_mul, Int.mul_assoc]
 have := Int.mul_pos P0 D0
 omega
end Go.Proofs.YtcbihoojfakhdaaGreatDoor

namespace Go.Proofs.YtcbihoojfakhdaaGreatDoor
open Go.RowKit
set_option maxRecDepth 100000
set_option maxHeartbeats 2000000
theorem zst (m : Int) (ee : Int) (s1 : Int) (p1 : Int) (p2 : Int) (q1 : Int) (q2 : Int) (k0 : Int) (a1 : Int) (a2 : Int) (u1 : Int) (u2 : Int) (t1 : Int) (t2 : Int) (d1 : Int) (d2 : Int) (x1 : Int) (x2 : Int) (y1 : Int) (y2 : Int) (r1 : Int) (r2 : Int) (c0 : 0 ≤ s1 ∧ s1 ≤ 9000) (c1 : -20000 ≤ k0 ∧ k0 ≤ 20000) (c2 : Impl Tryz.prog Amb 161 [(yV m ee), (.int .i64 32)] (.agg [(.bool (decide (p1 < 0))), (N p1.natAbs), (.bool (decide (p2 < 0))), (N p2.natAbs)])) (c3 : Impl Tryz.prog Amb 112 [(.int .i64 32)] (.agg [(.bool (decide (q1 < 0))), (N q1.natAbs), (.bool (decide (q2 < 0))), (N q2.natAbs)])) (c4 : Impl Tryz.prog Amb 163 [(.agg [(.bool (decide (p1 < 0))), (N p1.natAbs), (.bool (decide (p2 < 0))), (N p2.natAbs)]), (.agg [(.bool (decide (q1 < 0))), (N q1.natAbs), (.bool (decide (q2 < 0))), (N q2.natAbs)])] (.int .i64 k0)) (c5 : Impl Tryz.prog Amb 161 [(yV m ee), (.int .i64 (((s1 + (iMax (k0 - 1) (0 : Int))) + 24) + 16))] (.agg [(.bool (decide (a1 < 0))), (N a1.natAbs), (.bool (decide (a2 < 0))), (N a2.natAbs)])) (c6 : Impl Tryz.prog Amb 112 [(.int .i64 (((s1 + (iMax (k0 - 1) (0 : Int))) + 24) + 16))] (.agg [(.bool (decide (u1 < 0))), (N u1.natAbs), (.bool (decide (u2 < 0))), (N u2.natAbs)])) (c7 : Impl Tryz.prog Amb 165 [(.agg [(.bool (decide (u1 < 0))), (N u1.natAbs), (.bool (decide (u2 < 0))), (N u2.natAbs)]), (.int .i64 (k0 - 1))] (.agg [(.bool (decide (t1 < 0))), (N t1.natAbs), (.bool (decide (t2 < 0))), (N t2.natAbs)])) (c8 : Impl Tryz.prog Amb 164 [(.agg [(.bool (decide (a1 < 0))), (N a1.natAbs), (.bool (decide (a2 < 0))), (N a2.natAbs)]), (.agg [(.bool (decide (t1 < 0))), (N t1.natAbs), (.bool (decide (t2 < 0))), (N t2.natAbs)])] (.agg [(.bool (decide (d1 < 0))), (N d1.natAbs), (.bool (decide (d2 < 0))), (N d2.natAbs)])) (c9 : Impl Tryz.prog Amb 162 [(.agg [(.bool (decide (d1 < 0))), (N d1.natAbs), (.bool (decide (d2 < 0))), (N d2.natAbs)]), (.int .i64 16)] (.agg [(.bool (decide (x1 < 0))), (N x1.natAbs), (.bool (decide (x2 < 0))), (N x2.natAbs)])) (c10 : Impl Tryz.prog Amb 232 [(.agg [(.bool (decide (x1 < 0))), (N x1.natAbs), (.bool (decide (x2 < 0))), (N x2.natAbs)]), (.int .i64 ((s1 + (iMax (k0 - 1) (0 : Int))) + 24))] (.agg [(.bool (decide (y1 < 0))), (N y1.natAbs), (.bool (decide (y2 < 0))), (N y2.natAbs)])) (c11 : Impl Tryz.prog Amb 162 [(.agg [(.bool (decide (y1 < 0))), (N y1.natAbs), (.bool (decide (y2 < 0))), (N y2.natAbs)]), (.int .i64 ((((s1 + (iMax (k0 - 1) (0 : Int))) + 24) - s1) - (k0 - 1)))] (.agg [(.bool (decide (r1 < 0))), (N r1.natAbs), (.bool (decide (r2 < 0))), (N r2.natAbs)])) : Impl Tryz.prog Amb 194 [(yV m ee), (.int .i64 s1)] (.agg [(.bool (decide (r1 < 0))), (N r1.natAbs), (.bool (decide (r2 < 0))), (N r2.natAbs)]) := by
 have im1 := zf1 (k0 - 1) 0
 exact z6u hP hAmb Tryz.func194 (by kernel_rfl) (.lits 2 <| .call (.agg [(.bool (decide (p1 < 0))), (N p1.natAbs), (.bool (decide (p2 < 0))), (N p2.natAbs)]) <| .lit <| .call (.agg [(.bool (decide (q1 < 0))), (N q1.natAbs), (.bool (decide (q2 < 0))), (N q2.natAbs)]) <| .lit <| .call (.int .i64 k0) <| .lit <| .yes <| .lits 2 <| .yes <| .lit <| .yes <| .lits 2 <| .yes <| .lit <| .call (.agg [(.bool (decide (a1 < 0))), (N a1.natAbs), (.bool (decide (a2 < 0))), (N a2.natAbs)]) <| .lit <| .yes <| .lit <| .call (.agg [(.bool (decide (u1 < 0))), (N u1.natAbs), (.bool (decide (u2 < 0))), (N u2.natAbs)]) <| .lit <| .call (.agg [(.bool (decide (t1 < 0))), (N t1.natAbs), (.bool (decide (t2 < 0))), (N t2.natAbs)]) <| .lit <| .call (.agg [(.bool (decide (d1 < 0))), (N d1.natAbs), (.bool (decide (d2 < 0))), (N d2.natAbs)]) <| .lit <| .call (.agg [(.bool (decide (x1 < 0))), (N x1.natAbs), (.bool (decide (x2 < 0))), (N x2.natAbs)]) <| .lits 3 <| .call (.agg [(.bool (decide (y1 < 0))), (N y1.natAbs), (.bool (decide (y2 < 0))), (N y2.natAbs)]) <| .lits 3 <| .yes <| .lit <| .yes <| .lit <| .call (.agg [(.bool (decide (r1 < 0))), (N r1.natAbs), (.bool (decide (r2 < 0))), (N r2.natAbs)]) <| .lits 2 <| .ret)
  (z6t (aI True.intro (aI (c2 ) (aI (c3 ) (aI (c4 ) (aI (z89 oS : (fits .i64 (k0 - 1)) = true) (aI (z89 oS : (fits .i64 (s1 + (iMax (k0 - 1) (0 : Int)))) = true) (aI (z89 oS : (fits .i64 ((s1 + (iMax (k0 - 1) (0 : Int))) + 24)) = true) (aI (z89 oS : (fits .i64 (((s1 + (iMax (k0 - 1) (0 : Int))) + 24) + 16)) = true) (aI (c5 ) (aI (z89 oS : (fits .i64 (((s1 + (iMax (k0 - 1) (0 : Int))) + 24) + 16)) = true) (aI (c6 ) (aI (c7 ) (aI (c8 ) (aI (c9 ) (aI (c10 ) (aI (z89 oS : (fits .i64 (((s1 + (iMax (k0 - 1) (0 : Int))) + 24) - s1)) = true) (aI (z89 oS : (fits .i64 ((((s1 + (iMax (k0 - 1) (0 : Int))) + 24) - s1) - (k0 - 1))) = true) (aI (c11 ) ((z6b (.agg [(.bool (decide (r1 < 0))), (N r1.natAbs), (.bool (decide (r2 < 0))), (N r2.natAbs)]))))))))))))))))))))) (by kernel_rfl))
end Go.Proofs.YtcbihoojfakhdaaGreatDoor

namespace Go.Proofs.YtcbihoojfakhdaaGreatDoor
open Go.RowKit
set_option maxRecDepth 100000
set_option maxHeartbeats 2000000
def fx_SettleB_0_mk (fk : Nat) (u1 : V) (_ _ w : Int) (x : Int) : St := ⟨mkS 27 [(0, (.val (.int .i64 w))), (1, (.val (.bnd fk [u1]))), (4, (.own 0 0)), (5, (.val (.int .i64 24)))], [⟨true, false, [(V.bool false), V.nil, (V.bool false), V.nil]⟩]⟩
def fx_SettleB_0_I (_ : Nat) (_ : V) (_ _ _ : Int) (x : Int) : Prop := x = x
def fx_SettleB_0_mu (_ : Nat) (_ : V) (_ _ _ : Int) (x : Int) : Nat := 0
def fx_SettleB_0_ex (_ : Nat) (_ : V) (ka kb _ : Int) (y : Int) : Ex × St := (.ret, ⟨mkS 27 [(4, (.own 0 0))], [⟨true, false, [(V.bool (decide ((ka / 2 ^ 24) < 0))), (N ((ka / 2 ^ 24).natAbs)), (V.bool (decide ((-(-kb / 2 ^ 24)) < 0))), (N ((-(-kb / 2 ^ 24)).natAbs))]⟩]⟩)
def fx_SettleB_0_J (_ : Nat) (_ : V) (_ _ _ : Int) (y : Int) : Prop := y = y
theorem zsu (fk : Nat) (u1 : V) (ka kb w : Int) (c0 : Impl Tryz.prog Amb fk [u1, (.int .i64 (w + 24))] (.agg [(.bool (decide (ka < 0))), (N ka.natAbs), (.bool (decide (kb < 0))), (N kb.natAbs)]))(c1 : L ka.natAbs ≤ 8192 ∧ L kb.natAbs ≤ 8192)(c2 : nbits (kb - ka).natAbs ≤ 24)(c3 : (0 : Int) ≤ w ∧ w ≤ 5000) (x0 : Int) (hI : fx_SettleB_0_I fk u1 ka kb w x0) : LoopOk Tryz.prog Amb (loopN Tryz.f133 0) (fx_SettleB_0_mk fk u1 ka kb w x0) (fun e st_ => ∃ y, fx_SettleB_0_J fk u1 ka kb w y ∧ fx_SettleB_0_ex fk u1 ka kb w y = (e, st_)) :=
 z72 hP hAmb ⟨[0, 1, 4, 5], 1, []⟩ (fx_SettleB_0_mk fk u1 ka kb w) (fx_SettleB_0_I fk u1 ka kb w) (fx_SettleB_0_mu fk u1 ka kb w) (fx_SettleB_0_ex fk u1 ka kb w) (fx_SettleB_0_J fk u1 ka kb w) x0 hI (fun j => .lit <| .yes <| .lit <| .call (.agg [(.bool (decide (ka < 0))), (N ka.natAbs), (.bool (decide (kb < 0))), (N kb.natAbs)]) <| .lits 3 <| .call (zV (kb - ka)) <| .lits 2 <| .call (.int .i64 (nbits ((kb - ka).natAbs) : Int)) <| .lit <| .yes <| .lits 5 <| .call (.agg [(.bool (decide ((ka / 2 ^ 24) < 0))), (N ((ka / 2 ^ 24).natAbs)), (.bool (decide ((-(-kb / 2 ^ 24)) < 0))), (N ((-(-kb / 2 ^ 24)).natAbs))]) <| .lit <| .fin3 ⟨[4], [0]⟩) (by
  rintro j hI
  have hI : j = j := hI
  have h1 := hI
  exact z6t (aI True.intro (aI (z89 oS : (fits .i64 (w + 24)) = true) (aI (c0 ) (aI (zl4 ka kb oS oS) (have f106 := zhb kb ka; aI (zcm ((kb - ka).natAbs) oS) (have f105 := zfd ((kb - ka).natAbs); aI (z7x oO : (iLe (nbits ((kb - ka).natAbs) : Int) 24) = true) (aI (zky ka kb 24 oS oS oS) (have f104 := zdh (-kb / 2 ^ 24); have f103 := zhg (-kb) 24; have f102 := zdh kb; have f101 := zhg ka 24; aI tT ((z71 ((fx_SettleB_0_ex fk u1 ka kb w j).2) j (show j = j from rfl) rfl : NX (fx_SettleB_0_mk fk u1 ka kb w) (fx_SettleB_0_I fk u1 ka kb w) (fx_SettleB_0_mu fk u1 ka kb w) (fx_SettleB_0_ex fk u1 ka kb w) (fx_SettleB_0_J fk u1 ka kb w) j .ret ((fx_SettleB_0_ex fk u1 ka kb w j).2))))))))))) (by kernel_rfl))
theorem zsv (fk : Nat) (u1 : V) (ka : Int) (kb : Int) (w : Int) (c0 : Impl Tryz.prog Amb fk [u1, (.int .i64 (w + 24))] (.agg [(.bool (decide (ka < 0))), (N ka.natAbs), (.bool (decide (kb < 0))), (N kb.natAbs)])) (c1 : L ka.natAbs ≤ 8192 ∧ L kb.natAbs ≤ 8192) (c2 : nbits (kb - ka).natAbs ≤ 24) (c3 : (0 : Int) ≤ w ∧ w ≤ 5000) : Impl Tryz.prog Amb 133 [(.int .i64 w), (.bnd fk [u1])] (.agg [(.bool (decide ((ka / 2 ^ 24) < 0))), (N ((ka / 2 ^ 24).natAbs)), (.bool (decide ((-(-kb / 2 ^ 24)) < 0))), (N ((-(-kb / 2 ^ 24)).natAbs))]) := by
 exact z6u hP hAmb Tryz.func133 (by kernel_rfl) (.loop ⟨[0, 1, 4, 5], 1, []⟩ ((fx_SettleB_0_mk fk u1 ka kb w (0 : Int))) (Int) (fx_SettleB_0_ex fk u1 ka kb w) (fx_SettleB_0_J fk u1 ka kb w) (fun y => .lit <| .ret))
  (z6t (aI True.intro (aI tT (aI (rfl : (fx_SettleB_0_mk fk u1 ka kb w (0 : Int)) = (fx_SettleB_0_mk fk u1 ka kb w (0 : Int))) (aI (zsu fk u1 ka kb w c0 c1 c2 c3 (0 : Int) (show (0 : Int) = (0 : Int) from rfl)) (fun y (hJ : fx_SettleB_0_J fk u1 ka kb w y) => have hJ : y = y := hJ; (z6b (.agg [(.bool (decide ((ka / 2 ^ 24) < 0))), (N ((ka / 2 ^ 24).natAbs)), (.bool (decide ((-(-kb / 2 ^ 24)) < 0))), (N ((-(-kb / 2 ^ 24)).natAbs))]))))))) (by kernel_rfl))
theorem zsw (m : Int) (ee : Int) (w : Int) (lo : Int) (hi : Int) (c0 : L (m).natAbs ≤ 8000) (c1 : -4096 ≤ w ∧ w ≤ 4096) (c2 : Impl Tryz.prog Amb 69 [(yV (-m) ee), (.int .i64 (w + 1))] (.bool false)) (c3 : Impl Tryz.prog Amb 133 [(.int .i64 w), (.bnd 134 [(yV m ee)])] (.agg [(.bool (decide (lo < 0))), (N lo.natAbs), (.bool (decide (hi < 0))), (N hi.natAbs)])) : Impl Tryz.prog Amb 71 [(yV m ee), (.int .i64 w)] (.agg [(.bool (decide (lo < 0))), (N lo.natAbs), (.bool (decide (hi < 0))), (N hi.natAbs)]) := by
 exact z6u hP hAmb Tryz.func71 (by kernel_rfl) (.lits 2 <| .call (yV (-m) ee) <| .lit <| .yes <| .lit <| .call (.bool false) <| .lits 4 <| .call (.agg [(.bool (decide (lo < 0))), (N lo.natAbs), (.bool (decide (hi < 0))), (N hi.natAbs)]) <| .lits 2 <| .ret)
  (z6t (aI True.intro (aI (zjd m ee oS) (have f1 := zdh m; aI (z89 oS : (fits .i64 (w + 1)) = true) (aI (c2 ) (aI (c3 ) ((z6b (.agg [(.bool (decide (lo < 0))), (N lo.natAbs), (.bool (decide (hi < 0))), (N hi.natAbs)])))))))) (by kernel_rfl))
theorem zsx (m : Int) (ee : Int) (n : Int) (f : Int) (w : Int) (l1 : Int) (h1 : Int) (l2 : Int) (h2 : Int) (a1 : Int) (a2 : Int) (b1 : Int) (b2 : Int) (c0 : 0 ≤ w ∧ w ≤ 4096) (c1 : Impl Tryz.prog Amb 69 [(yV n f), (.int .i64 1000)] (.bool false)) (c2 : Impl Tryz.prog Amb 71 [(yV m ee), (.int .i64 w)] (.agg [(.bool (decide (l1 < 0))), (N l1.natAbs), (.bool (decide (h1 < 0))), (N h1.natAbs)])) (c3 : Impl Tryz.prog Amb 71 [(yV n f), (.int .i64 w)] (.agg [(.bool (decide (l2 < 0))), (N l2.natAbs), (.bool (decide (h2 < 0))), (N h2.natAbs)])) (c4 : Impl Tryz.prog Amb 70 [(zV l1), (.int .i64 ((0 : Int) - w))] (.tup [(yV a1 a2), (.int .i64 0)])) (c5 : Impl Tryz.prog Amb 70 [(zV h2), (.int .i64 ((0 : Int) - w))] (.tup [(yV b1 b2), (.int .i64 0)])) : Impl Tryz.prog Amb 20 [(wV m ee n f), (.int .i64 w)] (.tup [(wV a1 a2 b1 b2), (.int .i64 0)]) := by
 exact z6u hP hAmb Tryz.func20 (by kernel_rfl) (.lit <| .no <| .lits 3 <| .no <| .lits 2 <| .call (.bool false) <| .lits 3 <| .call (.agg [(.bool (decide (l1 < 0))), (N l1.natAbs), (.bool (decide (h1 < 0))), (N h1.natAbs)]) <| .lits 2 <| .yes <| .lit <| .call (.tup [(yV a1 a2), (.int .i64 0)]) <| .lits 3 <| .call (.agg [(.bool (decide (l2 < 0))), (N l2.natAbs), (.bool (decide (h2 < 0))), (N h2.natAbs)]) <| .lits 2 <| .yes <| .lit <| .call (.tup [(yV b1 b2), (.int .i64 0)]) <| .lits 12 <| .ret)
  (z6t (aI True.intro (aI (z81 oS : (iLt w 0) = false) (aI (z83 oS : (iGt w 4096) = false) (aI (c1 ) (aI (c2 ) (aI (z89 oS : (fits .i64 ((0 : Int) - w)) = true) (aI (c4 ) (aI (c3 ) (aI (z89 oS : (fits .i64 ((0 : Int) - w)) = true) (aI (c5 ) ((z6b (.tup [(wV a1 a2 b1 b2), (.int .i64 0)]))))))))))))) (by kernel_rfl))
theorem zsy (m : Int) (ee : Int) (n : Int) (f : Int) (w : Int) (c0 : 0 ≤ w ∧ w ≤ 4096) (c1 : Impl Tryz.prog Amb 69 [(yV n f), (.int .i64 1000)] (.bool true)) : Impl Tryz.prog Amb 20 [(wV m ee n f), (.int .i64 w)] (e0T 3) := by
 exact z6u hP hAmb Tryz.func20 (by kernel_rfl) (.lit <| .no <| .lits 3 <| .no <| .lits 2 <| .call (.bool true) <| .lits 4 <| .ret)
  (z6t (aI True.intro (aI (z81 oS : (iLt w 0) = false) (aI (z83 oS : (iGt w 4096) = false) (aI (c1 ) ((z6b (e0T 3))))))) (by kernel_rfl))
theorem zsz (a1 : Int) (a2 : Int) (b1 : Int) (b2 : Int) (m : Int) (ee : Int) (qq : Rat) (c0 : Impl Tryz.prog Amb 65 [(.int .i64 0), (.int .i64 0)] (wV (0 : Int) 0 (0 : Int) 0)) (c1 : Impl Tryz.prog Amb 20 [(wV (0 : Int) 0 (0 : Int) 0), (.int .i64 3)] (.tup [(wV a1 a2 b1 b2), (.int .i64 0)])) (c2 : Impl Tryz.prog Amb 65 [(.int .i64 2000), (.int .i64 2000)] (wV m ee m ee)) (c3 : Impl Tryz.prog Amb 20 [(wV m ee m ee), (.int .i64 3)] (e0T 3)) (c4 : Impl Tryz.prog Amb 58 [(.int .i64 1)] (.agg [(.bool (decide (qq.num < 0))), (N qq.num.natAbs), (N qq.den)])) (c5 : Impl Tryz.prog Amb 57 [(wV a1 a2 b1 b2), (.agg [(.bool (decide (qq.num < 0))), (N qq.num.natAbs), (N qq.den)])] (.bool true)) : Impl Tryz.prog Amb 14 [] (.bool true) := by
 exact z6u hP hAmb Tryz.func14 (by kernel_rfl) (.lit <| .call (wV (0 : Int) 0 (0 : Int) 0) <| .lit <| .call (.tup [(wV a1 a2 b1 b2), (.int .i64 0)]) <| .lits 2 <| .call (wV m ee m ee) <| .lit <| .call (e0T 3) <| .lits 10 <| .call (.agg [(.bool (decide (qq.num < 0))), (N qq.num.natAbs), (N qq.den)]) <| .lits 2 <| .call (.bool true) <| .lits 2 <| .ret)
  (z6t (aI True.intro (aI (c0 ) (aI (c1 ) (aI (c2 ) (aI (c3 ) (aI (c4 ) (aI (c5 ) ((z6b (.bool true)))))))))) (by kernel_rfl))
theorem zt0 (a : Int) (b : Int) (c0 : (-9223372036854775808 : Int) ≤ a ∧ a ≤ 9223372036854775807) (c1 : (-9223372036854775808 : Int) ≤ b ∧ b ≤ 9223372036854775807) : Impl Tryz.prog Amb 65 [(.int .i64 a), (.int .i64 b)] (wV (mkM a 0) (mkX a 0) (mkM b 0) (mkX b 0)) := by
 exact z6u hP hAmb Tryz.func65 (by kernel_rfl) (.lit <| .call (yV (mkM a 0) (mkX a 0)) <| .lit <| .call (yV (mkM b 0) (mkX b 0)) <| .lits 3 <| .ret)
  (z6t (aI True.intro (aI (zjq a oO) (have f4 := (zh8 oO : L (a : Int).natAbs ≤ 2); have f3 := zih a 0; aI (zjq b oO) (have f2 := (zh8 oO : L (b : Int).natAbs ≤ 2); have f1 := zih b 0; (z6b (wV (mkM a 0) (mkX a 0) (mkM b 0) (mkX b 0))))))) (by kernel_rfl))
end Go.Proofs.YtcbihoojfakhdaaGreatDoor

namespace Go.Proofs.YtcbihoojfakhdaaGreatDoor
open Go.RowKit
set_option maxRecDepth 100000
theorem zt1 (m : Int) (e : Int) (n : Int) (f : Int) (r : Rat) (c0 : L (m).natAbs ≤ 9000) (c1 : L (n).natAbs ≤ 9000) (c2 : (-65536 : Int) ≤ e ∧ e ≤ 65536) (c3 : (-65536 : Int) ≤ f ∧ f ≤ 65536) (c4 : vdb m e = true) (c5 : vdb n f = true) (c6 : L r.num.natAbs ≤ 6000) (c7 : L r.den ≤ 6000) : Impl Tryz.prog Amb 57 [(wV m e n f), (.agg [(.bool (decide (r.num < 0))), (N r.num.natAbs), (N r.den)])] (.bool (decide (cmpQ (dv m e) r ≤ 0 ∧ cmpQ r (dv n f) ≤ 0))) := by
 exact z6u hP hAmb Tryz.func57 (by kernel_rfl) (.lits 2 <| .call (.agg [(.bool (decide ((dv m e).num < 0))), (N (((dv m e).num).natAbs)), (N ((dv m e).den))]) <| .lits 2 <| .call (.int .i64 (cmpQ (dv m e) r)) <| .lit <| .both (.lits 6 <| .call (.agg [(.bool (decide ((dv n f).num < 0))), (N (((dv n f).num).natAbs)), (N ((dv n f).den))]) <| .lits 2 <| .call (.int .i64 (cmpQ r (dv n f))) <| .lits 4 <| .ret) (.lits 7 <| .ret))
  (z6t (aI True.intro (aI (zp8 m e oA oA oA) (have f6 := (dv_L ‹vdb m e = true› oA : L (dv m e).num.natAbs ≤ L (m).natAbs + 2050 ∧ L (dv m e).den ≤ 2050); aI (zp6 (dv m e) r oA oA oA oA) (have f5 := zo4 (dv m e) r; aI (fun (h1 : (iLe (cmpQ (dv m e) r) 0) = true) => have _gh1 := z7m h1; aI (zp8 n f oA oA oA) (have f3 := (dv_L ‹vdb n f = true› oA : L (dv n f).num.natAbs ≤ L (n).natAbs + 2050 ∧ L (dv n f).den ≤ 2050); aI (zp6 r (dv n f) oA oA oA oA) (have f2 := zo4 r (dv n f); (z6c (congrArg V.bool (zpm oO)) : vsub (.bool (iLe (cmpQ r (dv n f)) 0)) (.bool (decide (cmpQ (dv m e) r ≤ 0 ∧ cmpQ r (dv n f) ≤ 0))))))) (fun (h4 : (iLe (cmpQ (dv m e) r) 0) = false) => have _gh4 := z7n h4; (z6c (congrArg V.bool ((decide_eq_false oO).symm)) : vsub (.bool false) (.bool (decide (cmpQ (dv m e) r ≤ 0 ∧ cmpQ r (dv n f) ≤ 0))))))))) (by kernel_rfl))
end Go.Proofs.YtcbihoojfakhdaaGreatDoor

namespace Go.Proofs.YtcbihoojfakhdaaGreatDoor
open Go.RowKit
set_option maxRecDepth 100000
set_option maxHeartbeats 2000000
theorem flr0 {s : Int} (h : 0 ≤ s) : flr (dv 0 0) s = 0 ∧ cei (dv 0 0) s = 0 := by
 have z := zq5 (m := 0) (e := 0) (s := s) oO
 rw [Int.zero_mul] at z
 exact ⟨z.1.symm, z.2.symm⟩
theorem of0 (s : Int) (h : 0 ≤ s ∧ s ≤ 20000) : Impl Tryz.prog Amb 161 [(yV (0 : Int) 0), (.int .i64 s)] (.agg [(.bool (decide ((0 : Int) < 0))), (N ((0 : Int).natAbs)), (.bool (decide ((0 : Int) < 0))), (N ((0 : Int).natAbs))]) := by
 have a := zqh 0 0 s (by simp [z8z]) oO h
 rw [(flr0 h.1).1, (flr0 h.1).2] at a
 exact a
theorem zt2 : Impl Tryz.prog Amb 232 [(.agg [(.bool (decide ((1560828692041339 : Int) < 0))), (N ((1560828692041339 : Int).natAbs)), (.bool (decide ((1560828692041340 : Int) < 0))), (N ((1560828692041340 : Int).natAbs))]), (.int .i64 51)] (.agg [(.bool (decide ((4503599627370494 : Int) < 0))), (N ((4503599627370494 : Int).natAbs)), (.bool (decide ((4503599627370497 : Int) < 0))), (N ((4503599627370497 : Int).natAbs))]) :=
 zpe (by kernel_rfl) (zrc 1560828692041339 1560828692041340 51 8 6703708186976006485049344 6703708186976010780016640 26186360105375025332224 26186360105375042109440 9697628400215167260647547 9697628400215167277470259 8 oO oO (by intro i a b; rcases (show i = 4 ∨ i = 5 ∨ i = 6 ∨ i = 7 by omega) with rfl | rfl | rfl | rfl <;> decide) (by decide) oO
  (Nat.le_trans (L500 (of_decide_eq_true (by kernel_rfl))) oO) (Nat.le_trans (L500 (of_decide_eq_true (by kernel_rfl))) oO) (by kernel_rfl) (by kernel_rfl) (by kernel_rfl) (by kernel_rfl) (Nat.le_trans (L500 (of_decide_eq_true (by kernel_rfl))) oO) (Nat.le_trans (L500 (of_decide_eq_true (by kernel_rfl))) oO)
  (by kernel_rfl) (by kernel_rfl) (by kernel_rfl) (by kernel_rfl))
theorem L_c {x : Int} (h : x.natAbs < 2 ^ 500) : L x.natAbs ≤ 3000 := Nat.le_trans (L500 h) oO
theorem zt3 : Impl Tryz.prog Amb 194 [(yV (0 : Int) 0), (.int .i64 27)] (.agg [(.bool (decide ((134217727 : Int) < 0))), (N ((134217727 : Int).natAbs)), (.bool (decide ((134217729 : Int) < 0))), (N ((134217729 : Int).natAbs))]) := by
 have n0 : (Int.fdiv (((0 + 0) * 2 ^ 1) + ((lnLo 32) + (lnHi 32))) (((lnLo 32) + (lnHi 32)) * 2 ^ 1)) = 0 := by kernel_rfl
 have hN := zr7 0 0 (lnLo 32) (lnHi 32) (by simp [z8z]) (by simp [z8z]) (L_c (of_decide_eq_true (by kernel_rfl))) (L_c (of_decide_eq_true (by kernel_rfl))) (of_decide_eq_true (by kernel_rfl)) (by rw [n0]; omega)
 rw [n0] at hN
 exact zr9 (lnLo 32) (lnHi 32) (lnLo 67) (lnHi 67) (tmLo (lnLo 67) (lnHi 67) (-1)) (tmHi (lnLo 67) (lnHi 67) (-1)) _ _ 1560828692041339 1560828692041340 4503599627370494 4503599627370497 134217727 134217729 (of0 32 oO) (zl7 32 oO) hN (of0 67 oO) (zl7 67 oO)
  (zql (lnLo 67) (lnHi 67) (-1) (Nat.le_trans (L_c (of_decide_eq_true (by kernel_rfl))) oO) (Nat.le_trans (L_c (of_decide_eq_true (by kernel_rfl))) oO) oO)
  (zl1 0 0 (tmLo (lnLo 67) (lnHi 67) (-1)) (tmHi (lnLo 67) (lnHi 67) (-1)) (by simp [z8z]) (by simp [z8z]) (Nat.le_trans (L_c (of_decide_eq_true (by kernel_rfl))) oO) (Nat.le_trans (L_c (of_decide_eq_true (by kernel_rfl))) oO))
  (zpe (by kernel_rfl) (zky (0 + -(tmHi (lnLo 67) (lnHi 67) (-1))) (0 + -(tmLo (lnLo 67) (lnHi 67) (-1))) 16 (Nat.le_trans (L_c (of_decide_eq_true (by kernel_rfl))) oO) (Nat.le_trans (L_c (of_decide_eq_true (by kernel_rfl))) oO) oO))
  zt2 (zpe (by kernel_rfl) (zky 4503599627370494 4503599627370497 25 (Nat.le_trans (L_c (of_decide_eq_true (by kernel_rfl))) oO) (Nat.le_trans (L_c (of_decide_eq_true (by kernel_rfl))) oO) oO))
theorem zt4 : Impl Tryz.prog Amb 71 [(yV (0 : Int) 0), (.int .i64 3)] (.agg [(.bool (decide ((7 : Int) < 0))), (N ((7 : Int).natAbs)), (.bool (decide ((9 : Int) < 0))), (N ((9 : Int).natAbs))]) :=
 zsw 0 0 3 7 9 (by simp [z8z]) oO (zpe (by kernel_rfl) (zrb (-0) 0 (3 + 1) (by simp [z8z]) oO oO))
  (zpe (by kernel_rfl) (zsv 134 (yV (0 : Int) 0) 134217727 134217729 3 (zra 0 0 (3 + 24) 134217727 134217729 zt3) ⟨Nat.le_trans (L_c (of_decide_eq_true (by kernel_rfl))) oO, Nat.le_trans (L_c (of_decide_eq_true (by kernel_rfl))) oO⟩ (of_decide_eq_true (by kernel_rfl)) oO))
theorem zt5 : Impl Tryz.prog Amb 14 [] (.bool true) := by
 have one := zp4 1 oO
 have hE : Impl Tryz.prog Amb 20 [(wV (0 : Int) 0 (0 : Int) 0), (.int .i64 3)] (.tup [(wV (mkM 7 (0 - 3)) (mkX 7 (0 - 3)) (mkM 9 (0 - 3)) (mkX 9 (0 - 3))), (.int .i64 0)]) :=
  zsx 0 0 0 0 3 7 9 7 9 _ _ _ _ oO (zpe (by kernel_rfl) (zrb 0 0 1000 (by simp [z8z]) oO oO)) zt4 zt4
   (zpe (by kernel_rfl) (zjb 7 (0 - 3) (Nat.le_trans (L_c (of_decide_eq_true (by kernel_rfl))) oO) oO)) (zpe (by kernel_rfl) (zjb 9 (0 - 3) (Nat.le_trans (L_c (of_decide_eq_true (by kernel_rfl))) oO) oO))
 have f2 := zpk (n := 2000) oO
 exact zsz _ _ _ _ (mkM 2000 0) (mkX 2000 0) _ (zpe (by kernel_rfl) (zt0 0 0 oO oO)) hE (zt0 2000 2000 oO oO)
  (zsy _ _ _ _ 3 oO (zpe (by kernel_rfl) (zrb (mkM 2000 0) (mkX 2000 0) 1000 oO oO oO))) one
  (zpe (by kernel_rfl) (zt1 (mkM 7 (0 - 3)) (mkX 7 (0 - 3)) (mkM 9 (0 - 3)) (mkX 9 (0 - 3)) ((1 : Int) : Rat) (Nat.le_trans (L_c (of_decide_eq_true (by kernel_rfl))) oO) (Nat.le_trans (L_c (of_decide_eq_true (by kernel_rfl))) oO) (of_decide_eq_true (by kernel_rfl)) (of_decide_eq_true (by kernel_rfl)) (by kernel_rfl) (by kernel_rfl) (Nat.le_trans (zo2 (n := 1) oO).1 oO) (Nat.le_trans (zo2 (n := 1) oO).2 oO)))
end Go.Proofs.YtcbihoojfakhdaaGreatDoor

namespace Go.Proofs.YtcbihoojfakhdaaGreatDoor
theorem zt6 {w : World} {S : Nat → Prop} {v : Value} (h : Rd w S v (.agg [.bool false, .nil, .int .i64 0])) : Rd w S v (.agg [.bool (decide ((0 : Int) < 0)), N (0 : Int).natAbs, .int .i64 0]) := by
 obtain ⟨arr, rfl, hr⟩ := h.agg_inv
 cases hr with | cons h1 hr => cases hr with | cons h2 hr => cases hr with | cons h3 hr => cases hr with | nil =>
  exact .agg (.cons (by simpa using h1) (.cons (zku h2) (.cons h3 .nil)))
end Go.Proofs.YtcbihoojfakhdaaGreatDoor




namespace Go.Proofs.YtcbihoojfakhdaaGreatDoor
open Go.RowKit
set_option maxRecDepth 100000
theorem zt7 : (List.range 400).all (fun t => decide (lnLo (t : Int) * 2 ^ (430 - t) ≤ ptLn) && decide (ptLn ≤ lnHi (t : Int) * 2 ^ (430 - t))) = true := by kernel_rfl
theorem zt8 {t : Nat} (ht : t < 400) : ((lnLo (t : Int) : Int) : Rat) ≤ cLn * ((2 ^ t : Int) : Rat) ∧ cLn * ((2 ^ t : Int) : Rat) ≤ ((lnHi (t : Int) : Int) : Rat) := by
 have h := List.all_eq_true.1 zt7 t (List.mem_range.2 ht)
 simp only [Bool.and_eq_true, decide_eq_true_eq] at h
 exact ⟨(zqa oO).1 h.1, (zqa oO).2 h.2⟩
theorem zt9 (s : Int) : lnLo s ≤ lnHi s := by
 have a := (zqf 26 false s)
 have b := (zqf 4801 false s)
 have c := (zqf 8749 false s)
 unfold lnLo lnHi
 omega
end Go.Proofs.YtcbihoojfakhdaaGreatDoor


namespace Go.Proofs.YtcbihoojfakhdaaGreatDoor
open Go.RowKit
set_option maxRecDepth 100000
set_option maxHeartbeats 400000
theorem zta {x : Int} {t c : Nat} (h : x.natAbs ≤ c * 2 ^ t) (hc : c ≤ 2 ^ 20) (ht : t ≤ 2000) : L x.natAbs ≤ 70 := by
 refine zju (n := t + 21) ?_ oO
 have e : (2 : Nat) ^ (t + 21) = 2 * (2 ^ 20 * 2 ^ t) := by rw [Nat.pow_add]; omega
 have p := Nat.mul_le_mul_right (2 ^ t) hc
 have := Nat.pow_pos (n := t) (show 0 < 2 by omega)
 omega
end Go.Proofs.YtcbihoojfakhdaaGreatDoor


namespace Go.Proofs.YtcbihoojfakhdaaGreatDoor
open Go.RowKit
set_option maxRecDepth 100000
set_option maxHeartbeats 2000000
theorem ln32 : lnLo 32 = 2977044084 ∧ lnHi 32 = 2977044804 := ⟨by kernel_rfl, by kernel_rfl⟩
theorem e32 : ((2 ^ 32 : Int) : Rat) = 4294967296 := by rw [show (2 : Int) ^ 32 = 4294967296 from by kernel_rfl]; rfl
theorem ztb {d c : Rat} {p1 p2 k : Int} (hp1 : (p1 : Rat) ≤ d * 4294967296) (hp2 : d * 4294967296 ≤ (p2 : Rat)) (hp : p2 ≤ p1 + 1) (hq1 : (2977044084 : Rat) ≤ c * 4294967296) (hq2 : c * 4294967296 ≤ (2977044804 : Rat))
  (hk : k = Int.fdiv (((p1 + p2) * 2 ^ 1) + (2977044084 + 2977044804)) ((2977044084 + 2977044804) * 2 ^ 1)) (d1 : -512 ≤ d) (d2 : d ≤ 512) : (-900 ≤ k ∧ k ≤ 900) ∧ -36 ≤ 100 * (d - (k : Rat) * c) ∧ 100 * (d - (k : Rat) * c) ≤ 36 := by
 have P1 : -512 * 4294967296 ≤ p2 := by
  refine Rat.intCast_le_intCast.1 ?_
  rw [Rat.intCast_mul]
  show (-512 : Rat) * 4294967296 ≤ p2
  grind
 have P2 : p1 ≤ 512 * 4294967296 := by
  refine Rat.intCast_le_intCast.1 ?_
  rw [Rat.intCast_mul]
  show (p1 : Rat) ≤ 512 * 4294967296
  grind
 rw [Int.fdiv_eq_ediv_of_nonneg _ oO] at hk
 have f1 := Int.ediv_mul_le (((p1 + p2) * 2 ^ 1) + (2977044084 + 2977044804)) (show ((2977044084 : Int) + 2977044804) * 2 ^ 1 ≠ 0 by omega)
 have f2 := Int.lt_ediv_add_one_mul_self (((p1 + p2) * 2 ^ 1) + (2977044084 + 2977044804)) (show 0 < ((2977044084 : Int) + 2977044804) * 2 ^ 1 by omega)
 rw [← hk] at f1 f2
 rw [show (2 : Int) ^ 1 = 2 from rfl] at f1 f2
 have f1 : k * 11908177776 ≤ 2 * p1 + 2 * p2 + 5954088888 := by omega
 have f2 : 2 * p1 + 2 * p2 + 5954088888 ≤ (k + 1) * 11908177776 := by omega
 have K1 : k ≤ 900 := by omega
 have K2 : -900 ≤ k := by omega
 refine ⟨⟨K2, K1⟩, ?_⟩
 have g1 := Rat.intCast_le_intCast.2 f1
 have g2 := Rat.intCast_le_intCast.2 f2
 simp only [Rat.intCast_mul, Rat.intCast_add] at g1 g2
 have g1 : (k : Rat) * 11908177776 ≤ 2 * (p1 : Rat) + 2 * (p2 : Rat) + 5954088888 := g1
 have g2 : 2 * (p1 : Rat) + 2 * (p2 : Rat) + 5954088888 ≤ ((k : Rat) + 1) * 11908177776 := g2
 have hpR : (p2 : Rat) ≤ (p1 : Rat) + 1 := by
  have : (p2 : Rat) ≤ ((p1 + 1 : Int) : Rat) := Rat.intCast_le_intCast.2 hp
  rw [Rat.intCast_add] at this; exact this
 have k1R : (k : Rat) ≤ 1000 := by
  have : (k : Rat) ≤ ((1000 : Int) : Rat) := Rat.intCast_le_intCast.2 (Int.le_trans K1 (by decide))
  exact this
 have k2R : (-1000 : Rat) ≤ (k : Rat) := by
  have : ((-1000 : Int) : Rat) ≤ (k : Rat) := Rat.intCast_le_intCast.2 (Int.le_trans (by decide) K2)
  exact this
 generalize (k : Rat) = K at *
 generalize (p1 : Rat) = p at *
 generalize (p2 : Rat) = p' at *
 clear f1 f2 hk K1 K2 P1 P2 hp
 rcases (Rat.le_total : 0 ≤ K ∨ K ≤ 0) with hK | hK
 ·have m1 := Rat.mul_le_mul_of_nonneg_left hq1 hK
  have m2 := Rat.mul_le_mul_of_nonneg_left hq2 hK
  constructor <;> grind
 ·have m1 := Rat.mul_le_mul_of_nonneg_left hq1 (show 0 ≤ -K by grind)
  have m2 := Rat.mul_le_mul_of_nonneg_left hq2 (show 0 ≤ -K by grind)
  constructor <;> grind
theorem ztc (m ee k ss : Int) (hs : 0 ≤ ss ∧ ss ≤ 380) (hm : L (m).natAbs ≤ 20) (he : -440 ≤ ee ∧ ee ≤ 130) (hk : -1000 ≤ k ∧ k ≤ 1000) :
  ∃ a1 a2 u1 u2 t1 t2 d1 d2 x1 x2 : Int, (Impl Tryz.prog Amb 161 [(yV m ee), (.int .i64 (ss + 16))] (.agg [(.bool (decide (a1 < 0))), (N a1.natAbs), (.bool (decide (a2 < 0))), (N a2.natAbs)]) ∧ Impl Tryz.prog Amb 112 [(.int .i64 (ss + 16))] (.agg [(.bool (decide (u1 < 0))), (N u1.natAbs), (.bool (decide (u2 < 0))), (N u2.natAbs)]) ∧ Impl Tryz.prog Amb 165 [(.agg [(.bool (decide (u1 < 0))), (N u1.natAbs), (.bool (decide (u2 < 0))), (N u2.natAbs)]), (.int .i64 k)] (.agg [(.bool (decide (t1 < 0))), (N t1.natAbs), (.bool (decide (t2 < 0))), (N t2.natAbs)]) ∧ Impl Tryz.prog Amb 164 [(.agg [(.bool (decide (a1 < 0))), (N a1.natAbs), (.bool (decide (a2 < 0))), (N a2.natAbs)]), (.agg [(.bool (decide (t1 < 0))), (N t1.natAbs), (.bool (decide (t2 < 0))), (N t2.natAbs)])] (.agg [(.bool (decide (d1 < 0))), (N d1.natAbs), (.bool (decide (d2 < 0))), (N d2.natAbs)]) ∧ Impl Tryz.prog Amb 162 [(.agg [(.bool (decide (d1 < 0))), (N d1.natAbs), (.bool (decide (d2 < 0))), (N d2.natAbs)]), (.int .i64 16)] (.agg [(.bool (decide (x1 < 0))), (N x1.natAbs), (.bool (decide (x2 < 0))), (N x2.natAbs)])) ∧
   x1 ≤ x2 ∧ x2 - x1 ≤ 300001 ∧ (x1 : Rat) ≤ (dv m ee - (k : Rat) * cLn) * ((2 ^ ss.toNat : Int) : Rat) ∧ (dv m ee - (k : Rat) * cLn) * ((2 ^ ss.toNat : Int) : Rat) ≤ (x2 : Rat) := by
 obtain ⟨t, ht⟩ : ∃ t : Nat, (t : Int) = ss + 16 := ⟨(ss + 16).toNat, by omega⟩
 have hO := zqh m ee (ss + 16) oO oO oO
 have lf := zov m ee (ss + 16)
 have sc1 := zpu (dv m ee) t
 have sc2 := zpv (dv m ee) t
 have fc := zpw (dv m ee) t
 have cl := zt8 (t := t) oO
 rw [ht] at sc1 sc2 fc cl
 have b := zl8 (s := ss + 16) oO
 have bl := zt9 (ss + 16)
 have bw : lnHi (ss + 16) - lnLo (ss + 16) < 16777216 := by
  have := zbs (lnHi (ss + 16) - lnLo (ss + 16)).natAbs
  have p := Nat.pow_le_pow_right (n := 2) oO b.2.2
  omega
 have hL := zl7 (ss + 16) oO
 have hL : Impl Tryz.prog Amb 112 [(.int .i64 (ss + 16))] (.agg [(.bool (decide ((lnLo (ss + 16)) < 0))), (N ((lnLo (ss + 16)).natAbs)), (.bool (decide ((lnHi (ss + 16)) < 0))), (N ((lnHi (ss + 16)).natAbs))]) := hL
 generalize lnLo (ss + 16) = q1 at *
 generalize lnHi (ss + 16) = q2 at *
 generalize flr (dv m ee) (ss + 16) = p1 at *
 generalize cei (dv m ee) (ss + 16) = p2 at *
 have m1 := zdg q1 k
 have m2 := zdg q2 k
 have lk := zh8 (n := k) oO
 have hT := zql q1 q2 k oO oO oO
 have te := zq9 (k := k) cl.1 cl.2
 have tw := tm_w (W := 1000) bl oO bw
 have tL : L (tmLo q1 q2 k).natAbs ≤ 440 ∧ L (tmHi q1 q2 k).natAbs ≤ 440 := by unfold tmLo tmHi; split <;> omega
 generalize tmLo q1 q2 k = t1 at *
 generalize tmHi q1 q2 k = t2 at *
 have n1 := zdh t1
 have n2 := zdh t2
 have a1 := zdf p1 (-t2)
 have a2 := zdf p2 (-t1)
 have hS := zl1 p1 p2 t1 t2 oO oO oO oO
 have hH := zky (p1 + -t2) (p2 + -t1) 16 oO oO oO
 have hw := zq8 (a := p1 + -t2) (b := p2 + -t1) (W := 300000) (n := 16) oO
 have he := zq7 (a := p1 + -t2) (b := p2 + -t1) (X := dv m ee - (k : Rat) * cLn) (t := t) (s := ss.toNat) (n := 16) oO (by rw [Rat.intCast_add, Rat.intCast_neg]; grind) (by rw [Rat.intCast_add, Rat.intCast_neg]; grind)
 exact ⟨p1, p2, q1, q2, t1, t2, _, _, _, _, ⟨hO, hL, hT, hS, hH⟩, Rat.intCast_le_intCast.1 (Rat.le_trans he.1 he.2), hw, he.1, he.2⟩
end Go.Proofs.YtcbihoojfakhdaaGreatDoor

namespace Go.Proofs.YtcbihoojfakhdaaGreatDoor
open Go.RowKit
set_option maxRecDepth 100000
set_option maxHeartbeats 2000000
theorem ztd : 69 ≤ 100 * cLn ∧ 100 * cLn ≤ 70 := ⟨of_decide_eq_true (by kernel_rfl), of_decide_eq_true (by kernel_rfl)⟩
def XF (d : Rat) (k : Int) (K : Nat) : Rat := EP (d - (k : Rat) * cLn) K * (2 : Rat) ^ k
theorem zte (m ee s1 D : Int) (hs : 24 ≤ s1 ∧ s1 ≤ 300) (hm : L (m).natAbs ≤ 20) (he : -440 ≤ ee ∧ ee ≤ 130) (d1 : -512 ≤ dv m ee) (d2 : dv m ee ≤ 512) (hD : 100 * dv m ee + 36 ≤ 69 * (D : Rat)) (D0 : 0 ≤ D) (hD2 : s1 + D + 24 ≤ 380) :
  ∃ k r1 r2 : Int, Impl Tryz.prog Amb 194 [(yV m ee), (.int .i64 s1)] (.agg [(.bool (decide (r1 < 0))), (N r1.natAbs), (.bool (decide (r2 < 0))), (N r2.natAbs)]) ∧ (-1000 ≤ k ∧ k ≤ D) ∧ (33 ≤ 100 * (dv m ee - (k : Rat) * cLn) ∧ 100 * (dv m ee - (k : Rat) * cLn) ≤ 106) ∧ Encl (XF (dv m ee) k) s1.toNat r1 r2 ∧ r2 - r1 ≤ 2 ∧ 0 ≤ r1 ∧ L r2.natAbs ≤ 20 := by
 have hO := zqh m ee 32 oO oO oO
 have hN : Impl Tryz.prog Amb 112 [(.int .i64 32)] (.agg [(.bool (decide ((2977044084 : Int) < 0))), (N ((2977044084 : Int).natAbs)), (.bool (decide ((2977044804 : Int) < 0))), (N ((2977044804 : Int).natAbs))]) := by
  have h : Impl Tryz.prog Amb 112 [(.int .i64 32)] (.agg [(.bool (decide ((lnLo 32) < 0))), (N ((lnLo 32).natAbs)), (.bool (decide ((lnHi 32) < 0))), (N ((lnHi 32).natAbs))]) := zl7 32 oO
  rw [ln32.1, ln32.2] at h
  exact h
 have lf := zov m ee 32
 have sc1 := (zpu (dv m ee) 32).1
 have sc2 := (zpv (dv m ee) 32).1
 have fc := (zpw (dv m ee) 32).1
 have cl := zt8 (t := 32) oO
 rw [e32] at sc1 sc2 cl
 have sc1 : ((flr (dv m ee) 32 : Int) : Rat) ≤ dv m ee * 4294967296 := sc1
 have sc2 : dv m ee * 4294967296 ≤ ((cei (dv m ee) 32 : Int) : Rat) := sc2
 have fc : cei (dv m ee) 32 ≤ flr (dv m ee) 32 + 1 := fc
 have cl : ((lnLo 32 : Int) : Rat) ≤ cLn * 4294967296 ∧ cLn * 4294967296 ≤ ((lnHi 32 : Int) : Rat) := cl
 rw [ln32.1, ln32.2] at cl
 generalize flr (dv m ee) 32 = p1 at *
 generalize cei (dv m ee) 32 = p2 at *
 have nk := ztb (k := Int.fdiv (((p1 + p2) * 2 ^ 1) + (2977044084 + 2977044804)) ((2977044084 + 2977044804) * 2 ^ 1)) sc1 sc2 fc cl.1 cl.2 rfl d1 d2
 have lq1 : L ((2977044084 : Int)).natAbs ≤ 2 := Nat.le_trans (zk6 2977044084 (by decide)) oO
 have lq2 : L ((2977044804 : Int)).natAbs ≤ 2 := Nat.le_trans (zk6 2977044804 (by decide)) oO
 have NE := zr7 p1 p2 2977044084 2977044804 oO oO oO oO oO oO
 generalize Int.fdiv (((p1 + p2) * 2 ^ 1) + (2977044084 + 2977044804)) ((2977044084 + 2977044804) * 2 ^ 1) = k0 at nk NE
 clear sc1 sc2 fc cl lf
 have cb := ztd
 obtain ⟨k, hk⟩ : ∃ k, k = k0 - 1 := ⟨_, rfl⟩
 have kR : (k : Rat) = (k0 : Rat) - 1 := by rw [hk, Rat.intCast_sub]; rfl
 have xb : 33 ≤ 100 * (dv m ee - (k : Rat) * cLn) ∧ 100 * (dv m ee - (k : Rat) * cLn) ≤ 106 := by rw [kR]; constructor <;> grind
 have kD : k ≤ D := by
  refine Decidable.byContradiction fun hn => ?_
  have a : (D : Rat) + 1 ≤ (k : Rat) := by
   have := Rat.intCast_le_intCast.2 (show D + 1 ≤ k by omega)
   rw [Rat.intCast_add] at this; exact this
  have b : (0 : Rat) ≤ (D : Rat) := Rat.intCast_nonneg.2 D0
  have c := Rat.mul_le_mul_of_nonneg_left cb.1 (show (0 : Rat) ≤ (k : Rat) by grind)
  have x36 : -36 ≤ 100 * (dv m ee - (k0 : Rat) * cLn) := nk.2.1
  grind
 have im := zf1 k 0
 have hL1 : iMax k 0 ≤ D := by omega
 obtain ⟨t, ht⟩ : ∃ t : Nat, (t : Int) = ((s1 + (iMax k (0 : Int))) + 24) := ⟨(((s1 + (iMax k (0 : Int))) + 24)).toNat, by omega⟩
 have htn : (((s1 + (iMax k (0 : Int))) + 24)).toNat = t := by omega
 obtain ⟨a1, a2, u1, u2, t1, t2, q1, q2, x1, x2, ⟨C1, C2, C3, C4, C5⟩, x12, xw, xe1, xe2⟩ := ztc m ee k ((s1 + (iMax k (0 : Int))) + 24) oO hm he oO
 have P48 : (2 : Int) ^ 48 ≤ 2 ^ (((s1 + (iMax k (0 : Int))) + 24)).toNat := by
  rw [htn, zb2, zb2]
  exact Int.ofNat_le.2 (Nat.pow_le_pow_right oO oO)
 rw [show (2 : Int) ^ 48 = 281474976710656 from rfl] at P48
 have PR : (281474976710656 : Rat) ≤ ((2 ^ (((s1 + (iMax k (0 : Int))) + 24)).toNat : Int) : Rat) := Rat.intCast_le_intCast.2 P48
 have X1 : 33 * 2 ^ (((s1 + (iMax k (0 : Int))) + 24)).toNat ≤ 100 * x2 := by
  refine Rat.intCast_le_intCast.1 ?_
  rw [Rat.intCast_mul, Rat.intCast_mul]
  have m1 := Rat.mul_le_mul_of_nonneg_right xb.1 (show (0 : Rat) ≤ ((2 ^ (((s1 + (iMax k (0 : Int))) + 24)).toNat : Int) : Rat) by grind)
  show (33 : Rat) * _ ≤ 100 * _
  grind
 have X2 : 100 * x1 ≤ 106 * 2 ^ (((s1 + (iMax k (0 : Int))) + 24)).toNat := by
  refine Rat.intCast_le_intCast.1 ?_
  rw [Rat.intCast_mul, Rat.intCast_mul]
  have m1 := Rat.mul_le_mul_of_nonneg_right xb.2 (show (0 : Rat) ≤ ((2 ^ (((s1 + (iMax k (0 : Int))) + 24)).toNat : Int) : Rat) by grind)
  show (100 : Rat) * _ ≤ 106 * _
  grind
 obtain ⟨y1, y2, CE, EE, yw, y0, y9⟩ := zss x1 x2 ((s1 + (iMax k (0 : Int))) + 24) (dv m ee - (k : Rat) * cLn) oO xe1 xe2 oO oO oO
 obtain ⟨n, hn⟩ : ∃ n : Nat, (n : Int) = (((s1 + (iMax k (0 : Int))) + 24) - s1) - k := ⟨((((s1 + (iMax k (0 : Int))) + 24) - s1) - k).toNat, by omega⟩
 have hnn : ((((s1 + (iMax k (0 : Int))) + 24) - s1) - k).toNat = n := by omega
 rw [htn] at EE y9
 have ly : ∀ y : Int, 0 ≤ y → y ≤ 9 * 2 ^ t → L y.natAbs ≤ 20 := fun y z0 z1 => by
  refine zju (n := t + 4) ?_ oO
  have e : ((2 ^ (t + 4) : Nat) : Int) = 2 ^ t * 16 := by rw [← zb2, Int.pow_add]; rfl
  have := zip t
  omega
 have y12 := EE.le
 have l1 := ly y1 y0 oO
 have l2 := ly y2 oO y9
 have CH := zky y1 y2 ((((s1 + (iMax k (0 : Int))) + 24) - s1) - k) oO oO oO
 rw [hnn] at CH
 have pn : (16777216 : Int) ≤ 2 ^ n := by
  rw [zb2, show (16777216 : Int) = ((2 ^ 24 : Nat) : Int) from rfl]
  exact Int.ofNat_le.2 (Nat.pow_le_pow_right oO oO)
 have hw := zq8 (a := y1) (b := y2) (W := 1) (n := n) oO
 have hE : Encl (XF (dv m ee) k) s1.toNat (y1 / 2 ^ n) (-(-y2 / 2 ^ n)) := by
  obtain ⟨N, EE⟩ := EE
  have z : (2 : Rat) ^ k * ((2 ^ (s1.toNat + n) : Int) : Rat) = ((2 ^ t : Int) : Rat) := by
   rw [← zmz, ← zmz, ← zmw]
   congr 1
   omega
  refine ⟨N, fun K hK => zq7 (t := s1.toNat + n) rfl ?_ ?_⟩
  ·unfold XF; rw [Rat.mul_assoc, z]; exact (EE K hK).1
  ·unfold XF; rw [Rat.mul_assoc, z]; exact (EE K hK).2
 have o1 := zdh y2
 have o2 := zhg (-y2) n
 have r0 : 0 ≤ y1 / 2 ^ n := Int.ediv_nonneg y0 oO
 have r2 : -(-y2 / 2 ^ n) ≤ 9 * 2 ^ t := by
  have g := Int.lt_ediv_add_one_mul_self (-y2) (zip n)
  refine Decidable.byContradiction fun hn' => ?_
  have m1 := Int.mul_le_mul_of_nonneg_right (show -y2 / 2 ^ n + 1 ≤ -(9 * 2 ^ t) by omega) (Int.le_of_lt (zip n))
  have m2 := Int.mul_le_mul_of_nonneg_left (show (1 : Int) ≤ 2 ^ n by omega) (show 0 ≤ 9 * (2 : Int) ^ t by omega)
  rw [Int.neg_mul] at m1
  omega
 have rle := hE.le
 have lr := ly (-(-y2 / 2 ^ n)) oO r2
 have W := zst m ee s1 p1 p2 2977044084 2977044804 k0 a1 a2 u1 u2 t1 t2 q1 q2 x1 x2 y1 y2 (y1 / 2 ^ n) (-(-y2 / 2 ^ n)) oO oO hO hN NE
 rw [← hk] at W
 exact ⟨k, _, _, W C1 C2 C3 C4 C5 CE CH, ⟨by omega, kD⟩, xb, hE, hw, r0, lr⟩
end Go.Proofs.YtcbihoojfakhdaaGreatDoor

namespace Go.Proofs.YtcbihoojfakhdaaGreatDoor
open Go.RowKit
set_option maxRecDepth 100000
set_option maxHeartbeats 2000000
theorem ztf (m ee w D : Int) (hw : 0 ≤ w ∧ w ≤ 276) (hm : L (m).natAbs ≤ 20) (he : -440 ≤ ee ∧ ee ≤ 130) (hd : (-512 ≤ dv m ee ∧ dv m ee ≤ 512) ∧ 100 * dv m ee + 36 ≤ 69 * (D : Rat) ∧ -dv m ee ≤ (w : Rat) + 1) (D0 : 0 ≤ D) (hD2 : w + D + 48 ≤ 380) :
  ∃ k lo hi : Int, Impl Tryz.prog Amb 71 [(yV m ee), (.int .i64 w)] (.agg [(.bool (decide (lo < 0))), (N lo.natAbs), (.bool (decide (hi < 0))), (N hi.natAbs)]) ∧ (-1000 ≤ k ∧ k ≤ D) ∧ (33 ≤ 100 * (dv m ee - (k : Rat) * cLn) ∧ 100 * (dv m ee - (k : Rat) * cLn) ≤ 106) ∧ Encl (XF (dv m ee) k) w.toNat lo hi ∧ hi - lo ≤ 2 ∧ 0 ≤ lo ∧ L hi.natAbs ≤ 30 := by
 obtain ⟨⟨d1, d2⟩, d3, d4⟩ := hd
 obtain ⟨k, r1, r2, hC, hk, hx, hE, hw2, h0, hl⟩ := zte m ee (w + 24) D oO hm he d1 d2 d3 D0 oO
 have r12 := hE.le
 have l1 : L r1.natAbs ≤ 20 := Nat.le_trans (z8y oO) hl
 have hA := zra m ee (w + 24) r1 r2 hC
 have hT := zsv 134 (yV m ee) r1 r2 w hA oO (zkv oO) oO
 have n1 := zdh m
 have hB := zrb (-m) ee (w + 1) oO oO oO
 have hB : Impl Tryz.prog Amb 69 [(yV (-m) ee), (.int .i64 (w + 1))] (.bool false) := by
  refine zpe (congrArg V.bool (decide_eq_false fun q => ?_)) hB
  have q := zpd.1 q
  rw [(zpk (n := w + 1) oO).2.2.2.2.2, zn8, Rat.intCast_add] at q
  have q : (w : Rat) + 1 < -dv m ee := q
  grind
 have o1 := zhg r1 24
 have o2 := zdh r2
 have o3 := zhg (-r2) 24
 have o4 := zdh (-r2 / 2 ^ 24)
 have hw3 := zq8 (a := r1) (b := r2) (W := 1) (n := 24) oO
 exact ⟨k, _, _, zsw m ee w _ _ oO oO hB hT, hk, hx, hE.half oO, hw3, Int.ediv_nonneg h0 (by decide), by omega⟩
end Go.Proofs.YtcbihoojfakhdaaGreatDoor

namespace Go.Proofs.YtcbihoojfakhdaaGreatDoor
theorem ztg {x : Rat} (h0 : 0 ≤ x) {K : Nat} (hK : 1 ≤ K) : 1 ≤ EP x K := by
 have a := zrt h0 hK
 have b : EP x 1 = 1 := by show (0 : Rat) + 1 = 1; grind
 grind
def eps : Rat := dv 1 (-400)
theorem zth : 2 - eps ≤ EP cLn 91 ∧ EP cLn 91 + tE cLn 90 ≤ 2 + eps := ⟨of_decide_eq_true (by kernel_rfl), of_decide_eq_true (by kernel_rfl)⟩
theorem EPc {K : Nat} : (91 ≤ K → 2 - eps ≤ EP cLn K) ∧ EP cLn K ≤ 2 + eps := by
 have c0 : 0 ≤ cLn := of_decide_eq_true (by kernel_rfl)
 have c1 : 2 * cLn ≤ (nx 90 : Rat) := of_decide_eq_true (by kernel_rfl)
 have n := zth
 exact ⟨fun h => Rat.le_trans n.1 (zrt c0 h), Rat.le_trans (zrw c0 c1 K) n.2⟩
end Go.Proofs.YtcbihoojfakhdaaGreatDoor


namespace Go.Proofs.YtcbihoojfakhdaaGreatDoor
open Go.RowKit
set_option maxRecDepth 100000
set_option maxHeartbeats 2000000
theorem zti {m tp : Int} (h : m < 0 ∨ tp ≤ 0) (k : bEq (decide (m < 0)) false = true) : tp ≤ 0 := by
 rcases h with h | h
 ·rw [decide_eq_true h] at k; exact absurd k (by decide)
 ·exact h
theorem ztj (tp : Int) (h : tp ≤ 9) : 1 ≤ (2 : Int) ^ tp.toNat ∧ (2 : Int) ^ tp.toNat ≤ 512 := by
 have a := zip tp.toNat
 have b := Int.ofNat_le.2 (Nat.pow_le_pow_right (n := 2) oO (show tp.toNat ≤ 9 by omega))
 rw [← zb2, ← zb2, show (2 : Int) ^ 9 = 512 from rfl] at b
 omega
theorem ztk (tp : Int) (h : tp ≤ 9) : min tp.toNat (IntKind.bits .i64) = tp.toNat := Nat.min_eq_left (by show tp.toNat ≤ 64; omega)
theorem ztl {m : Int} (h : 0 ≤ m) : bEq (decide (m < 0)) false = true := by rw [decide_eq_false oO]; rfl
def r14_0_mk (_ : Nat) (m ee w hv v ma mb xa xb : Int) (pp1 pp2 _ _ : Nat → Int) (x : Nat × Int) : St := ⟨mkS 103 [(1, (.val (.int .i64 w))), (4, (.own 1 0)), (9, (.val (.int .i64 hv))), (10, (.val (.int .i64 v))), (13, (.own 3 0)), (14, (.own 4 0)), (15, (.own 5 0)), (16, (.val (.int .i64 x.2)))], [⟨true, false, [(V.bool (decide (m < 0))), (N m.natAbs), (V.int .i64 ee)]⟩, ⟨true, false, [(V.bool false), V.nil, (V.int .i64 0), (V.bool false), V.nil, (V.int .i64 0)]⟩, ⟨true, false, [(V.bool (decide (ma < 0))), (N ma.natAbs), (V.int .i64 mb)]⟩, ⟨true, false, [(V.bool (decide (xa < 0))), (N xa.natAbs), (V.bool (decide (xb < 0))), (N xb.natAbs)]⟩, ⟨true, false, [(V.bool (decide ((pp1 x.1) < 0))), (N ((pp1 x.1).natAbs)), (V.bool (decide ((pp2 x.1) < 0))), (N ((pp2 x.1).natAbs))]⟩, ⟨true, false, [(V.bool (decide ((saS pp1 x.1) < 0))), (N ((saS pp1 x.1).natAbs)), (V.bool (decide ((saS pp2 x.1) < 0))), (N ((saS pp2 x.1).natAbs))]⟩]⟩
def r14_0_I (nn : Nat) (_ _ _ _ _ _ _ _ _ : Int) (_ _ _ _ : Nat → Int) (x : Nat × Int) : Prop := x.1 ≤ nn ∧ x.2 = (x.1 : Int) + 1
def r14_0_mu (nn : Nat) (_ _ _ _ _ _ _ _ _ : Int) (_ _ _ _ : Nat → Int) (x : Nat × Int) : Nat := nn - x.1
def r14_0_ex (_ : Nat) (m ee w hv v ma mb xa xb : Int) (pp1 pp2 _ _ : Nat → Int) (y : Nat) : Ex × St := (.exit 0, ⟨mkS 103 [(1, (.val (.int .i64 w))), (4, (.own 1 0)), (9, (.val (.int .i64 hv))), (10, (.val (.int .i64 v))), (15, (.own 5 0))], [⟨true, false, [(V.bool (decide (m < 0))), (N m.natAbs), (V.int .i64 ee)]⟩, ⟨true, false, [(V.bool false), V.nil, (V.int .i64 0), (V.bool false), V.nil, (V.int .i64 0)]⟩, ⟨true, false, [(V.bool (decide (ma < 0))), (N ma.natAbs), (V.int .i64 mb)]⟩, ⟨true, false, [(V.bool (decide (xa < 0))), (N xa.natAbs), (V.bool (decide (xb < 0))), (N xb.natAbs)]⟩, ⟨true, false, [(V.bool (decide ((pp1 y) < 0))), (N ((pp1 y).natAbs)), (V.bool (decide ((pp2 y) < 0))), (N ((pp2 y).natAbs))]⟩, ⟨true, false, [(V.bool (decide ((saS pp1 y) < 0))), (N ((saS pp1 y).natAbs)), (V.bool (decide ((saS pp2 y) < 0))), (N ((saS pp2 y).natAbs))]⟩]⟩)
def r14_0_J (nn : Nat) (_ _ _ _ _ _ _ _ _ : Int) (_ _ _ _ : Nat → Int) (y : Nat) : Prop := y = nn
abbrev r14_0_N (nn : Nat) (m ee w hv v ma mb xa xb : Int) (pp1 pp2 mm1 mm2 : Nat → Int) := NX (r14_0_mk nn m ee w hv v ma mb xa xb pp1 pp2 mm1 mm2) (r14_0_I nn m ee w hv v ma mb xa xb pp1 pp2 mm1 mm2) (r14_0_mu nn m ee w hv v ma mb xa xb pp1 pp2 mm1 mm2) (r14_0_ex nn m ee w hv v ma mb xa xb pp1 pp2 mm1 mm2) (r14_0_J nn m ee w hv v ma mb xa xb pp1 pp2 mm1 mm2)
theorem ztm (nn : Nat) (m ee w hv v ma mb xa xb : Int) (pp1 pp2 mm1 mm2 : Nat → Int) (c0 : ∀ j, j ≤ nn → Impl Tryz.prog Amb 74 [(.agg [(.bool (decide ((pp1 j) < 0))), (N ((pp1 j).natAbs)), (.bool (decide ((pp2 j) < 0))), (N ((pp2 j).natAbs))])] (.bool (decide (nn ≤ j))))(c1 : ∀ j, j < nn → Impl Tryz.prog Amb 75 [(.agg [(.bool (decide ((pp1 j) < 0))), (N ((pp1 j).natAbs)), (.bool (decide ((pp2 j) < 0))), (N ((pp2 j).natAbs))]), (.agg [(.bool (decide (xa < 0))), (N xa.natAbs), (.bool (decide (xb < 0))), (N xb.natAbs)]), (.int .i64 v)] (.agg [(.bool (decide ((mm1 j) < 0))), (N ((mm1 j).natAbs)), (.bool (decide ((mm2 j) < 0))), (N ((mm2 j).natAbs))]))(c2 : ∀ (j : Nat) (kk : Int), j < nn → kk = (j : Int) + 1 → Impl Tryz.prog Amb 29 [(.agg [(.bool (decide ((mm1 j) < 0))), (N ((mm1 j).natAbs)), (.bool (decide ((mm2 j) < 0))), (N ((mm2 j).natAbs))]), (.int .i64 kk)] (.agg [(.bool (decide ((pp1 (j + 1)) < 0))), (N ((pp1 (j + 1)).natAbs)), (.bool (decide ((pp2 (j + 1)) < 0))), (N ((pp2 (j + 1)).natAbs))]))(c3 : ∀ j, j < nn → Impl Tryz.prog Amb 47 [(.agg [(.bool (decide ((saS pp1 j) < 0))), (N ((saS pp1 j).natAbs)), (.bool (decide ((saS pp2 j) < 0))), (N ((saS pp2 j).natAbs))]), (.agg [(.bool (decide ((pp1 (j + 1)) < 0))), (N ((pp1 (j + 1)).natAbs)), (.bool (decide ((pp2 (j + 1)) < 0))), (N ((pp2 (j + 1)).natAbs))])] (.agg [(.bool (decide ((saS pp1 (j + 1)) < 0))), (N ((saS pp1 (j + 1)).natAbs)), (.bool (decide ((saS pp2 (j + 1)) < 0))), (N ((saS pp2 (j + 1)).natAbs))]))(c4 : nn ≤ 10000) (x0 : Nat × Int) (hI : r14_0_I nn m ee w hv v ma mb xa xb pp1 pp2 mm1 mm2 x0) : LoopOk Tryz.prog Amb (loopN Tryz.f21 0) (r14_0_mk nn m ee w hv v ma mb xa xb pp1 pp2 mm1 mm2 x0) (fun e st_ => ∃ y, r14_0_J nn m ee w hv v ma mb xa xb pp1 pp2 mm1 mm2 y ∧ r14_0_ex nn m ee w hv v ma mb xa xb pp1 pp2 mm1 mm2 y = (e, st_)) :=
 z72 hP hAmb ⟨[1, 4, 9, 10, 13, 14, 15, 16], 6, []⟩ (r14_0_mk nn m ee w hv v ma mb xa xb pp1 pp2 mm1 mm2) (r14_0_I nn m ee w hv v ma mb xa xb pp1 pp2 mm1 mm2) (r14_0_mu nn m ee w hv v ma mb xa xb pp1 pp2 mm1 mm2) (r14_0_ex nn m ee w hv v ma mb xa xb pp1 pp2 mm1 mm2) (r14_0_J nn m ee w hv v ma mb xa xb pp1 pp2 mm1 mm2) x0 hI (fun (j, kk) => .lits 2 <| .call (.bool (decide (nn ≤ j))) <| .lit <| .both (.lits 3 <| .call (.agg [(.bool (decide ((mm1 j) < 0))), (N ((mm1 j).natAbs)), (.bool (decide ((mm2 j) < 0))), (N ((mm2 j).natAbs))]) <| .lit <| .call (.agg [(.bool (decide ((pp1 (j + 1)) < 0))), (N ((pp1 (j + 1)).natAbs)), (.bool (decide ((pp2 (j + 1)) < 0))), (N ((pp2 (j + 1)).natAbs))]) <| .lits 4 <| .call (.agg [(.bool (decide ((saS pp1 (j + 1)) < 0))), (N ((saS pp1 (j + 1)).natAbs)), (.bool (decide ((saS pp2 (j + 1)) < 0))), (N ((saS pp2 (j + 1)).natAbs))]) <| .lits 2 <| .yes <| .fin2 ⟨[1, 4, 9, 10, 13, 14, 15, 16], 6, []⟩) (.fin2 ⟨[1, 4, 9, 10, 15], 6, []⟩)) (by
  rintro ⟨j, kk⟩ hI
  have hI : j ≤ nn ∧ kk = (j : Int) + 1 := hI
  obtain ⟨h1, h2⟩ := hI
  exact z6t (aI True.intro (aI (c0 j h1 ) (aI (fun (h101 : (!(decide (nn ≤ j))) = true) => have _gh101 := of_decide_eq_false (z86 h101); aI (c1 j oO ) (aI (c2 j kk oO h2 ) (aI (c3 j oO ) (aI (z89 oO : (fits .i64 (kk + 1)) = true) (aI tT ((z6z ((j + 1), (kk + 1)) (show (j + 1) ≤ nn ∧ (kk + 1) = ((j + 1) : Int) + 1 from ⟨by omega, by omega⟩) (show nn - (j + 1) < nn - j by omega) : r14_0_N nn m ee w hv v ma mb xa xb pp1 pp2 mm1 mm2 (j, kk) .normal (r14_0_mk nn m ee w hv v ma mb xa xb pp1 pp2 mm1 mm2 ((j + 1), (kk + 1)))))))))) (fun (h102 : (!(decide (nn ≤ j))) = false) => have _gh102 := of_decide_eq_true (z87 h102); aI tT ((z70 0 ((r14_0_ex nn m ee w hv v ma mb xa xb pp1 pp2 mm1 mm2 j).2) j (show j = nn from show j = nn by omega) rfl : r14_0_N nn m ee w hv v ma mb xa xb pp1 pp2 mm1 mm2 (j, kk) (.exit 0) ((r14_0_ex nn m ee w hv v ma mb xa xb pp1 pp2 mm1 mm2 j).2))))))) (by kernel_rfl))
def r14_1_mk (m ee w hv v ma mb xa xb q1 q2 : Int) (sq1 sq2 : Nat → Int) (x : Nat × Int) : St := ⟨mkS 103 [(1, (.val (.int .i64 w))), (4, (.own 1 0)), (10, (.val (.int .i64 v))), (15, (.own 5 0)), (90, (.val (.int .i64 hv))), (91, (.val (.int .i64 x.2)))], [⟨true, false, [(V.bool (decide (m < 0))), (N m.natAbs), (V.int .i64 ee)]⟩, ⟨true, false, [(V.bool false), V.nil, (V.int .i64 0), (V.bool false), V.nil, (V.int .i64 0)]⟩, ⟨true, false, [(V.bool (decide (ma < 0))), (N ma.natAbs), (V.int .i64 mb)]⟩, ⟨true, false, [(V.bool (decide (xa < 0))), (N xa.natAbs), (V.bool (decide (xb < 0))), (N xb.natAbs)]⟩, ⟨true, false, [(V.bool (decide (q1 < 0))), (N q1.natAbs), (V.bool (decide (q2 < 0))), (N q2.natAbs)]⟩, ⟨true, false, [(V.bool (decide ((sq1 x.1) < 0))), (N ((sq1 x.1).natAbs)), (V.bool (decide ((sq2 x.1) < 0))), (N ((sq2 x.1).natAbs))]⟩]⟩
def r14_1_I (_ _ _ hv _ _ _ _ _ _ _ : Int) (_ _ : Nat → Int) (x : Nat × Int) : Prop := x.2 = (x.1 : Int) ∧ (x.1 : Int) ≤ hv
def r14_1_mu (_ _ _ hv _ _ _ _ _ _ _ : Int) (_ _ : Nat → Int) (x : Nat × Int) : Nat := (hv - x.1).toNat
def r14_1_ex (m ee w _ v ma mb xa xb q1 q2 : Int) (sq1 sq2 : Nat → Int) (y : Nat) : Ex × St := (.exit 2, ⟨mkS 103 [(1, (.val (.int .i64 w))), (4, (.own 1 0)), (10, (.val (.int .i64 v))), (15, (.own 5 0))], [⟨true, false, [(V.bool (decide (m < 0))), (N m.natAbs), (V.int .i64 ee)]⟩, ⟨true, false, [(V.bool false), V.nil, (V.int .i64 0), (V.bool false), V.nil, (V.int .i64 0)]⟩, ⟨true, false, [(V.bool (decide (ma < 0))), (N ma.natAbs), (V.int .i64 mb)]⟩, ⟨true, false, [(V.bool (decide (xa < 0))), (N xa.natAbs), (V.bool (decide (xb < 0))), (N xb.natAbs)]⟩, ⟨true, false, [(V.bool (decide (q1 < 0))), (N q1.natAbs), (V.bool (decide (q2 < 0))), (N q2.natAbs)]⟩, ⟨true, false, [(V.bool (decide ((sq1 y) < 0))), (N ((sq1 y).natAbs)), (V.bool (decide ((sq2 y) < 0))), (N ((sq2 y).natAbs))]⟩]⟩)
def r14_1_J (_ _ _ hv _ _ _ _ _ _ _ : Int) (_ _ : Nat → Int) (y : Nat) : Prop := (y : Int) = hv
abbrev r14_1_N (m ee w hv v ma mb xa xb q1 q2 : Int) (sq1 sq2 : Nat → Int) := NX (r14_1_mk m ee w hv v ma mb xa xb q1 q2 sq1 sq2) (r14_1_I m ee w hv v ma mb xa xb q1 q2 sq1 sq2) (r14_1_mu m ee w hv v ma mb xa xb q1 q2 sq1 sq2) (r14_1_ex m ee w hv v ma mb xa xb q1 q2 sq1 sq2) (r14_1_J m ee w hv v ma mb xa xb q1 q2 sq1 sq2)
theorem ztn (m ee w hv v ma mb xa xb q1 q2 : Int) (sq1 sq2 : Nat → Int) (c0 : ∀ i : Nat, (i : Int) < hv → Impl Tryz.prog Amb 75 [(.agg [(.bool (decide ((sq1 i) < 0))), (N ((sq1 i).natAbs)), (.bool (decide ((sq2 i) < 0))), (N ((sq2 i).natAbs))]), (.agg [(.bool (decide ((sq1 i) < 0))), (N ((sq1 i).natAbs)), (.bool (decide ((sq2 i) < 0))), (N ((sq2 i).natAbs))]), (.int .i64 v)] (.agg [(.bool (decide ((sq1 (i + 1)) < 0))), (N ((sq1 (i + 1)).natAbs)), (.bool (decide ((sq2 (i + 1)) < 0))), (N ((sq2 (i + 1)).natAbs))]))(c1 : 0 ≤ hv ∧ hv ≤ 100) (x0 : Nat × Int) (hI : r14_1_I m ee w hv v ma mb xa xb q1 q2 sq1 sq2 x0) : LoopOk Tryz.prog Amb (loopN Tryz.f21 1) (r14_1_mk m ee w hv v ma mb xa xb q1 q2 sq1 sq2 x0) (fun e st_ => ∃ y, r14_1_J m ee w hv v ma mb xa xb q1 q2 sq1 sq2 y ∧ r14_1_ex m ee w hv v ma mb xa xb q1 q2 sq1 sq2 y = (e, st_)) :=
 z72 hP hAmb ⟨[1, 4, 10, 15, 90, 91], 6, []⟩ (r14_1_mk m ee w hv v ma mb xa xb q1 q2 sq1 sq2) (r14_1_I m ee w hv v ma mb xa xb q1 q2 sq1 sq2) (r14_1_mu m ee w hv v ma mb xa xb q1 q2 sq1 sq2) (r14_1_ex m ee w hv v ma mb xa xb q1 q2 sq1 sq2) (r14_1_J m ee w hv v ma mb xa xb q1 q2 sq1 sq2) x0 hI (fun (i, ii) => .lit <| .both (.lits 3 <| .call (.agg [(.bool (decide ((sq1 (i + 1)) < 0))), (N ((sq1 (i + 1)).natAbs)), (.bool (decide ((sq2 (i + 1)) < 0))), (N ((sq2 (i + 1)).natAbs))]) <| .lits 2 <| .yes <| .fin2 ⟨[1, 4, 10, 15, 90, 91], 6, []⟩) (.fin2 ⟨[1, 4, 10, 15], 6, []⟩)) (by
  rintro ⟨i, ii⟩ hI
  have hI : ii = (i : Int) ∧ (i : Int) ≤ hv := hI
  obtain ⟨h1, h2⟩ := hI
  exact z6t (aI True.intro (aI (fun (h101 : (iLt ii hv) = true) => have _gh101 := z7k h101; aI (c0 i oO ) (aI (z89 oO : (fits .i64 (ii + 1)) = true) (aI tT ((z6z ((i + 1), (ii + 1)) (show (ii + 1) = ((i + 1) : Int) ∧ ((i + 1) : Int) ≤ hv from ⟨by omega, by omega⟩) (show (hv - ((i + 1 : Nat) : Int)).toNat < (hv - i).toNat by omega) : r14_1_N m ee w hv v ma mb xa xb q1 q2 sq1 sq2 (i, ii) .normal (r14_1_mk m ee w hv v ma mb xa xb q1 q2 sq1 sq2 ((i + 1), (ii + 1)))))))) (fun (h102 : (iLt ii hv) = false) => have _gh102 := z7l h102; aI tT ((z70 2 ((r14_1_ex m ee w hv v ma mb xa xb q1 q2 sq1 sq2 i).2) i (show (i : Int) = hv from show (i : Int) = hv by omega) rfl : r14_1_N m ee w hv v ma mb xa xb q1 q2 sq1 sq2 (i, ii) (.exit 2) ((r14_1_ex m ee w hv v ma mb xa xb q1 q2 sq1 sq2 i).2)))))) (by kernel_rfl))
theorem zto (m : Int) (ee : Int) (w : Int) (u1 : Int) (u2 : Int) (k1 : Int) (tp : Int) (ma : Int) (mb : Int) (xa : Int) (xb : Int) (oa : Int) (ob : Int) (oc : Int) (od : Int) (nn : Nat) (pp1 : Nat → Int) (pp2 : Nat → Int) (mm1 : Nat → Int) (mm2 : Nat → Int) (sq1 : Nat → Int) (sq2 : Nat → Int) (c0 : 0 ≤ w ∧ w ≤ 400) (c1 : 0 ≤ k1) (c2 : -2000 ≤ tp ∧ tp ≤ 12) (c3 : m < 0 ∨ tp ≤ 0) (c4 : Impl Tryz.prog Amb 17 [(.int .i64 (-4000))] (yV u1 u2)) (c5 : Impl Tryz.prog Amb 44 [(yV m ee), (yV u1 u2)] (.int .i64 k1)) (c6 : Impl Tryz.prog Amb 18 [(yV m ee)] (.int .i64 tp)) (c7 : Impl Tryz.prog Amb 38 [(yV m ee), (.int .i64 ((0 : Int) - ((iMax (0 : Int) tp) + 3)))] (.tup [(yV ma mb), (.int .i64 0)])) (c8 : Impl Tryz.prog Amb 45 [(yV ma mb), (.int .i64 ((w + 40) + ((2 : Int) * ((iMax (0 : Int) tp) + 3))))] (.agg [(.bool (decide (xa < 0))), (N xa.natAbs), (.bool (decide (xb < 0))), (N xb.natAbs)])) (c9 : Impl Tryz.prog Amb 73 [(.int .i64 1), (.int .i64 ((w + 40) + ((2 : Int) * ((iMax (0 : Int) tp) + 3))))] (.agg [(.bool (decide ((pp1 0) < 0))), (N ((pp1 0).natAbs)), (.bool (decide ((pp2 0) < 0))), (N ((pp2 0).natAbs))])) (c10 : ∀ j, j ≤ nn → Impl Tryz.prog Amb 74 [(.agg [(.bool (decide ((pp1 j) < 0))), (N ((pp1 j).natAbs)), (.bool (decide ((pp2 j) < 0))), (N ((pp2 j).natAbs))])] (.bool (decide (nn ≤ j)))) (c11 : ∀ j, j < nn → Impl Tryz.prog Amb 75 [(.agg [(.bool (decide ((pp1 j) < 0))), (N ((pp1 j).natAbs)), (.bool (decide ((pp2 j) < 0))), (N ((pp2 j).natAbs))]), (.agg [(.bool (decide (xa < 0))), (N xa.natAbs), (.bool (decide (xb < 0))), (N xb.natAbs)]), (.int .i64 ((w + 40) + ((2 : Int) * ((iMax (0 : Int) tp) + 3))))] (.agg [(.bool (decide ((mm1 j) < 0))), (N ((mm1 j).natAbs)), (.bool (decide ((mm2 j) < 0))), (N ((mm2 j).natAbs))])) (c12 : ∀ (j : Nat) (kk : Int), j < nn → kk = (j : Int) + 1 → Impl Tryz.prog Amb 29 [(.agg [(.bool (decide ((mm1 j) < 0))), (N ((mm1 j).natAbs)), (.bool (decide ((mm2 j) < 0))), (N ((mm2 j).natAbs))]), (.int .i64 kk)] (.agg [(.bool (decide ((pp1 (j + 1)) < 0))), (N ((pp1 (j + 1)).natAbs)), (.bool (decide ((pp2 (j + 1)) < 0))), (N ((pp2 (j + 1)).natAbs))])) (c13 : ∀ j, j < nn → Impl Tryz.prog Amb 47 [(.agg [(.bool (decide ((saS pp1 j) < 0))), (N ((saS pp1 j).natAbs)), (.bool (decide ((saS pp2 j) < 0))), (N ((saS pp2 j).natAbs))]), (.agg [(.bool (decide ((pp1 (j + 1)) < 0))), (N ((pp1 (j + 1)).natAbs)), (.bool (decide ((pp2 (j + 1)) < 0))), (N ((pp2 (j + 1)).natAbs))])] (.agg [(.bool (decide ((saS pp1 (j + 1)) < 0))), (N ((saS pp1 (j + 1)).natAbs)), (.bool (decide ((saS pp2 (j + 1)) < 0))), (N ((saS pp2 (j + 1)).natAbs))])) (c14 : nn ≤ 10000) (c15 : Impl Tryz.prog Amb 76 [(.agg [(.bool (decide ((saS pp1 nn) < 0))), (N ((saS pp1 nn).natAbs)), (.bool (decide ((saS pp2 nn) < 0))), (N ((saS pp2 nn).natAbs))]), (.int .i64 3)] (.agg [(.bool (decide ((sq1 0) < 0))), (N ((sq1 0).natAbs)), (.bool (decide ((sq2 0) < 0))), (N ((sq2 0).natAbs))])) (c16 : ∀ i : Nat, (i : Int) < ((iMax (0 : Int) tp) + 3) → Impl Tryz.prog Amb 75 [(.agg [(.bool (decide ((sq1 i) < 0))), (N ((sq1 i).natAbs)), (.bool (decide ((sq2 i) < 0))), (N ((sq2 i).natAbs))]), (.agg [(.bool (decide ((sq1 i) < 0))), (N ((sq1 i).natAbs)), (.bool (decide ((sq2 i) < 0))), (N ((sq2 i).natAbs))]), (.int .i64 ((w + 40) + ((2 : Int) * ((iMax (0 : Int) tp) + 3))))] (.agg [(.bool (decide ((sq1 (i + 1)) < 0))), (N ((sq1 (i + 1)).natAbs)), (.bool (decide ((sq2 (i + 1)) < 0))), (N ((sq2 (i + 1)).natAbs))])) (c17 : 0 ≤ ((iMax (0 : Int) tp) + 3) ∧ ((iMax (0 : Int) tp) + 3) ≤ 100) (c18 : ∀ i : Nat, (i : Int) = ((iMax (0 : Int) tp) + 3) → Impl Tryz.prog Amb 31 [(.agg [(.bool (decide ((sq1 i) < 0))), (N ((sq1 i).natAbs)), (.bool (decide ((sq2 i) < 0))), (N ((sq2 i).natAbs))]), (.int .i64 ((w + 40) + ((2 : Int) * ((iMax (0 : Int) tp) + 3)))), (.int .i64 (w + 16))] (wV oa ob oc od)) : Impl Tryz.prog Amb 21 [(yV m ee), (.int .i64 w)] (wV oa ob oc od) := by
 have im1 := zf1 0 tp
 exact z6u hP hAmb Tryz.func21 (by kernel_rfl) (.lits 2 <| .call (yV u1 u2) <| .lit <| .call (.int .i64 k1) <| .lit <| .no <| .lits 2 <| .call (.int .i64 tp) <| .lits 2 <| .yes <| .lit <| .yes <| .lit <| .yes <| .lit <| .yes <| .lits 2 <| .both (.lits 3 <| .call (.int .i64 tp) <| .lits 3 <| .no <| .lits 2 <| .yes <| .lit <| .call (.tup [(yV ma mb), (.int .i64 0)]) <| .lits 3 <| .call (.agg [(.bool (decide (xa < 0))), (N xa.natAbs), (.bool (decide (xb < 0))), (N xb.natAbs)]) <| .lits 2 <| .call (.agg [(.bool (decide ((pp1 0) < 0))), (N ((pp1 0).natAbs)), (.bool (decide ((pp2 0) < 0))), (N ((pp2 0).natAbs))]) <| .lit <| .call (.agg [(.bool (decide ((pp1 0) < 0))), (N ((pp1 0).natAbs)), (.bool (decide ((pp2 0) < 0))), (N ((pp2 0).natAbs))]) <| .lits 2 <| .loop ⟨[1, 4, 9, 10, 13, 14, 15, 16], 6, []⟩ ((r14_0_mk nn m ee w ((iMax (0 : Int) tp) + 3) ((w + 40) + ((2 : Int) * ((iMax (0 : Int) tp) + 3))) ma mb xa xb pp1 pp2 mm1 mm2 (0, 1))) (Nat) (r14_0_ex nn m ee w ((iMax (0 : Int) tp) + 3) ((w + 40) + ((2 : Int) * ((iMax (0 : Int) tp) + 3))) ma mb xa xb pp1 pp2 mm1 mm2) (r14_0_J nn m ee w ((iMax (0 : Int) tp) + 3) ((w + 40) + ((2 : Int) * ((iMax (0 : Int) tp) + 3))) ma mb xa xb pp1 pp2 mm1 mm2) (fun y => .lits 2 <| .call (.agg [(.bool (decide ((sq1 0) < 0))), (N ((sq1 0).natAbs)), (.bool (decide ((sq2 0) < 0))), (N ((sq2 0).natAbs))]) <| .lit <| .loop ⟨[1, 4, 10, 15, 90, 91], 6, []⟩ ((r14_1_mk m ee w ((iMax (0 : Int) tp) + 3) ((w + 40) + ((2 : Int) * ((iMax (0 : Int) tp) + 3))) ma mb xa xb (pp1 y) (pp2 y) sq1 sq2 (0, 0))) (Nat) (r14_1_ex m ee w ((iMax (0 : Int) tp) + 3) ((w + 40) + ((2 : Int) * ((iMax (0 : Int) tp) + 3))) ma mb xa xb (pp1 y) (pp2 y) sq1 sq2) (r14_1_J m ee w ((iMax (0 : Int) tp) + 3) ((w + 40) + ((2 : Int) * ((iMax (0 : Int) tp) + 3))) ma mb xa xb (pp1 y) (pp2 y) sq1 sq2) (fun u => .lits 2 <| .yes <| .lit <| .call (wV oa ob oc od) <| .lits 2 <| .ret))) (.lits 6 <| .yes <| .lit <| .call (.tup [(yV ma mb), (.int .i64 0)]) <| .lits 3 <| .call (.agg [(.bool (decide (xa < 0))), (N xa.natAbs), (.bool (decide (xb < 0))), (N xb.natAbs)]) <| .lits 2 <| .call (.agg [(.bool (decide ((pp1 0) < 0))), (N ((pp1 0).natAbs)), (.bool (decide ((pp2 0) < 0))), (N ((pp2 0).natAbs))]) <| .lit <| .call (.agg [(.bool (decide ((pp1 0) < 0))), (N ((pp1 0).natAbs)), (.bool (decide ((pp2 0) < 0))), (N ((pp2 0).natAbs))]) <| .lits 2 <| .loop ⟨[1, 4, 9, 10, 13, 14, 15, 16], 6, []⟩ ((r14_0_mk nn m ee w ((iMax (0 : Int) tp) + 3) ((w + 40) + ((2 : Int) * ((iMax (0 : Int) tp) + 3))) ma mb xa xb pp1 pp2 mm1 mm2 (0, 1))) (Nat) (r14_0_ex nn m ee w ((iMax (0 : Int) tp) + 3) ((w + 40) + ((2 : Int) * ((iMax (0 : Int) tp) + 3))) ma mb xa xb pp1 pp2 mm1 mm2) (r14_0_J nn m ee w ((iMax (0 : Int) tp) + 3) ((w + 40) + ((2 : Int) * ((iMax (0 : Int) tp) + 3))) ma mb xa xb pp1 pp2 mm1 mm2) (fun y => .lits 2 <| .call (.agg [(.bool (decide ((sq1 0) < 0))), (N ((sq1 0).natAbs)), (.bool (decide ((sq2 0) < 0))), (N ((sq2 0).natAbs))]) <| .lit <| .loop ⟨[1, 4, 10, 15, 90, 91], 6, []⟩ ((r14_1_mk m ee w ((iMax (0 : Int) tp) + 3) ((w + 40) + ((2 : Int) * ((iMax (0 : Int) tp) + 3))) ma mb xa xb (pp1 y) (pp2 y) sq1 sq2 (0, 0))) (Nat) (r14_1_ex m ee w ((iMax (0 : Int) tp) + 3) ((w + 40) + ((2 : Int) * ((iMax (0 : Int) tp) + 3))) ma mb xa xb (pp1 y) (pp2 y) sq1 sq2) (r14_1_J m ee w ((iMax (0 : Int) tp) + 3) ((w + 40) + ((2 : Int) * ((iMax (0 : Int) tp) + 3))) ma mb xa xb (pp1 y) (pp2 y) sq1 sq2) (fun u => .lits 2 <| .yes <| .lit <| .call (wV oa ob oc od) <| .lits 2 <| .ret))))
  (z6t (aI True.intro (aI (c4 ) (aI (c5 ) (aI (z81 oS : (iLt k1 0) = false) (aI (c6 ) (aI (z89 oS : (fits .i64 ((iMax (0 : Int) tp) + 3)) = true) (aI (z89 oS : (fits .i64 (w + 40)) = true) (aI (z89 oS : (fits .i64 ((2 : Int) * ((iMax (0 : Int) tp) + 3))) = true) (aI (z89 oS : (fits .i64 ((w + 40) + ((2 : Int) * ((iMax (0 : Int) tp) + 3)))) = true) (aI (fun (h1 : (bEq (decide (m < 0)) false) = true) => aI (c6 ) (aI (z83 (zti c3 (by assumption)) : (iGt tp 0) = false) (aI (z89 oS : (fits .i64 ((0 : Int) - ((iMax (0 : Int) tp) + 3))) = true) (aI (c7 ) (aI (c8 ) (aI (c9 ) (aI (c9 ) (aI tT (aI (rfl : (r14_0_mk nn m ee w ((iMax (0 : Int) tp) + 3) ((w + 40) + ((2 : Int) * ((iMax (0 : Int) tp) + 3))) ma mb xa xb pp1 pp2 mm1 mm2 (0, 1)) = (r14_0_mk nn m ee w ((iMax (0 : Int) tp) + 3) ((w + 40) + ((2 : Int) * ((iMax (0 : Int) tp) + 3))) ma mb xa xb pp1 pp2 mm1 mm2 (0, 1))) (aI (ztm nn m ee w ((iMax (0 : Int) tp) + 3) ((w + 40) + ((2 : Int) * ((iMax (0 : Int) tp) + 3))) ma mb xa xb pp1 pp2 mm1 mm2 c10 c11 c12 c13 c14 (0, 1) (show 0 ≤ nn ∧ 1 = (0 : Int) + 1 from ⟨by omega, by omega⟩)) (fun y (hJ : r14_0_J nn m ee w ((iMax (0 : Int) tp) + 3) ((w + 40) + ((2 : Int) * ((iMax (0 : Int) tp) + 3))) ma mb xa xb pp1 pp2 mm1 mm2 y) => have hJ : y = nn := hJ; have hY := hJ; aI ((hY ▸ c15) ) (aI tT (aI (rfl : (r14_1_mk m ee w ((iMax (0 : Int) tp) + 3) ((w + 40) + ((2 : Int) * ((iMax (0 : Int) tp) + 3))) ma mb xa xb (pp1 y) (pp2 y) sq1 sq2 (0, 0)) = (r14_1_mk m ee w ((iMax (0 : Int) tp) + 3) ((w + 40) + ((2 : Int) * ((iMax (0 : Int) tp) + 3))) ma mb xa xb (pp1 y) (pp2 y) sq1 sq2 (0, 0))) (aI (ztn m ee w ((iMax (0 : Int) tp) + 3) ((w + 40) + ((2 : Int) * ((iMax (0 : Int) tp) + 3))) ma mb xa xb (pp1 y) (pp2 y) sq1 sq2 c16 c17 (0, 0) (show 0 = (0 : Int) ∧ (0 : Int) ≤ ((iMax (0 : Int) tp) + 3) from ⟨by omega, by omega⟩)) (fun u (hJ : r14_1_J m ee w ((iMax (0 : Int) tp) + 3) ((w + 40) + ((2 : Int) * ((iMax (0 : Int) tp) + 3))) ma mb xa xb (pp1 y) (pp2 y) sq1 sq2 u) => have hJ : (u : Int) = ((iMax (0 : Int) tp) + 3) := hJ; have hV := hJ; aI (z89 oS : (fits .i64 (w + 16)) = true) (aI ((c18 u hV) ) ((z6b (wV oa ob oc od))))))))))))))))))) (fun (h2 : (bEq (decide (m < 0)) false) = false) => aI (z89 oS : (fits .i64 ((0 : Int) - ((iMax (0 : Int) tp) + 3))) = true) (aI (c7 ) (aI (c8 ) (aI (c9 ) (aI (c9 ) (aI tT (aI (rfl : (r14_0_mk nn m ee w ((iMax (0 : Int) tp) + 3) ((w + 40) + ((2 : Int) * ((iMax (0 : Int) tp) + 3))) ma mb xa xb pp1 pp2 mm1 mm2 (0, 1)) = (r14_0_mk nn m ee w ((iMax (0 : Int) tp) + 3) ((w + 40) + ((2 : Int) * ((iMax (0 : Int) tp) + 3))) ma mb xa xb pp1 pp2 mm1 mm2 (0, 1))) (aI (ztm nn m ee w ((iMax (0 : Int) tp) + 3) ((w + 40) + ((2 : Int) * ((iMax (0 : Int) tp) + 3))) ma mb xa xb pp1 pp2 mm1 mm2 c10 c11 c12 c13 c14 (0, 1) (show 0 ≤ nn ∧ 1 = (0 : Int) + 1 from ⟨by omega, by omega⟩)) (fun y (hJ : r14_0_J nn m ee w ((iMax (0 : Int) tp) + 3) ((w + 40) + ((2 : Int) * ((iMax (0 : Int) tp) + 3))) ma mb xa xb pp1 pp2 mm1 mm2 y) => have hJ : y = nn := hJ; have hY := hJ; aI ((hY ▸ c15) ) (aI tT (aI (rfl : (r14_1_mk m ee w ((iMax (0 : Int) tp) + 3) ((w + 40) + ((2 : Int) * ((iMax (0 : Int) tp) + 3))) ma mb xa xb (pp1 y) (pp2 y) sq1 sq2 (0, 0)) = (r14_1_mk m ee w ((iMax (0 : Int) tp) + 3) ((w + 40) + ((2 : Int) * ((iMax (0 : Int) tp) + 3))) ma mb xa xb (pp1 y) (pp2 y) sq1 sq2 (0, 0))) (aI (ztn m ee w ((iMax (0 : Int) tp) + 3) ((w + 40) + ((2 : Int) * ((iMax (0 : Int) tp) + 3))) ma mb xa xb (pp1 y) (pp2 y) sq1 sq2 c16 c17 (0, 0) (show 0 = (0 : Int) ∧ (0 : Int) ≤ ((iMax (0 : Int) tp) + 3) from ⟨by omega, by omega⟩)) (fun u (hJ : r14_1_J m ee w ((iMax (0 : Int) tp) + 3) ((w + 40) + ((2 : Int) * ((iMax (0 : Int) tp) + 3))) ma mb xa xb (pp1 y) (pp2 y) sq1 sq2 u) => have hJ : (u : Int) = ((iMax (0 : Int) tp) + 3) := hJ; have hV := hJ; aI (z89 oS : (fits .i64 (w + 16)) = true) (aI ((c18 u hV) ) ((z6b (wV oa ob oc od))))))))))))))))))))))))))) (by kernel_rfl))
theorem ztp (m : Int) (ee : Int) (w : Int) (u1 : Int) (u2 : Int) (k1 : Int) (tp : Int) (ma : Int) (mb : Int) (xa : Int) (xb : Int) (oa : Int) (ob : Int) (oc : Int) (od : Int) (nn : Nat) (pp1 : Nat → Int) (pp2 : Nat → Int) (mm1 : Nat → Int) (mm2 : Nat → Int) (sq1 : Nat → Int) (sq2 : Nat → Int) (c0 : 0 ≤ w ∧ w ≤ 400) (c1 : 0 ≤ k1) (c2 : -2000 ≤ tp ∧ tp ≤ 9) (c3 : 0 ≤ m ∧ 0 < tp) (c4 : Impl Tryz.prog Amb 17 [(.int .i64 (-4000))] (yV u1 u2)) (c5 : Impl Tryz.prog Amb 44 [(yV m ee), (yV u1 u2)] (.int .i64 k1)) (c6 : Impl Tryz.prog Amb 18 [(yV m ee)] (.int .i64 tp)) (c7 : Impl Tryz.prog Amb 38 [(yV m ee), (.int .i64 ((0 : Int) - ((iMax (0 : Int) tp) + 3)))] (.tup [(yV ma mb), (.int .i64 0)])) (c8 : Impl Tryz.prog Amb 45 [(yV ma mb), (.int .i64 (((w + 40) + ((2 : Int) * ((iMax (0 : Int) tp) + 3))) + ((3 : Int) * 2 ^ (min tp.toNat (IntKind.bits .i64)))))] (.agg [(.bool (decide (xa < 0))), (N xa.natAbs), (.bool (decide (xb < 0))), (N xb.natAbs)])) (c9 : Impl Tryz.prog Amb 73 [(.int .i64 1), (.int .i64 (((w + 40) + ((2 : Int) * ((iMax (0 : Int) tp) + 3))) + ((3 : Int) * 2 ^ (min tp.toNat (IntKind.bits .i64)))))] (.agg [(.bool (decide ((pp1 0) < 0))), (N ((pp1 0).natAbs)), (.bool (decide ((pp2 0) < 0))), (N ((pp2 0).natAbs))])) (c10 : ∀ j, j ≤ nn → Impl Tryz.prog Amb 74 [(.agg [(.bool (decide ((pp1 j) < 0))), (N ((pp1 j).natAbs)), (.bool (decide ((pp2 j) < 0))), (N ((pp2 j).natAbs))])] (.bool (decide (nn ≤ j)))) (c11 : ∀ j, j < nn → Impl Tryz.prog Amb 75 [(.agg [(.bool (decide ((pp1 j) < 0))), (N ((pp1 j).natAbs)), (.bool (decide ((pp2 j) < 0))), (N ((pp2 j).natAbs))]), (.agg [(.bool (decide (xa < 0))), (N xa.natAbs), (.bool (decide (xb < 0))), (N xb.natAbs)]), (.int .i64 (((w + 40) + ((2 : Int) * ((iMax (0 : Int) tp) + 3))) + ((3 : Int) * 2 ^ (min tp.toNat (IntKind.bits .i64)))))] (.agg [(.bool (decide ((mm1 j) < 0))), (N ((mm1 j).natAbs)), (.bool (decide ((mm2 j) < 0))), (N ((mm2 j).natAbs))])) (c12 : ∀ (j : Nat) (kk : Int), j < nn → kk = (j : Int) + 1 → Impl Tryz.prog Amb 29 [(.agg [(.bool (decide ((mm1 j) < 0))), (N ((mm1 j).natAbs)), (.bool (decide ((mm2 j) < 0))), (N ((mm2 j).natAbs))]), (.int .i64 kk)] (.agg [(.bool (decide ((pp1 (j + 1)) < 0))), (N ((pp1 (j + 1)).natAbs)), (.bool (decide ((pp2 (j + 1)) < 0))), (N ((pp2 (j + 1)).natAbs))])) (c13 : ∀ j, j < nn → Impl Tryz.prog Amb 47 [(.agg [(.bool (decide ((saS pp1 j) < 0))), (N ((saS pp1 j).natAbs)), (.bool (decide ((saS pp2 j) < 0))), (N ((saS pp2 j).natAbs))]), (.agg [(.bool (decide ((pp1 (j + 1)) < 0))), (N ((pp1 (j + 1)).natAbs)), (.bool (decide ((pp2 (j + 1)) < 0))), (N ((pp2 (j + 1)).natAbs))])] (.agg [(.bool (decide ((saS pp1 (j + 1)) < 0))), (N ((saS pp1 (j + 1)).natAbs)), (.bool (decide ((saS pp2 (j + 1)) < 0))), (N ((saS pp2 (j + 1)).natAbs))])) (c14 : nn ≤ 10000) (c15 : Impl Tryz.prog Amb 76 [(.agg [(.bool (decide ((saS pp1 nn) < 0))), (N ((saS pp1 nn).natAbs)), (.bool (decide ((saS pp2 nn) < 0))), (N ((saS pp2 nn).natAbs))]), (.int .i64 3)] (.agg [(.bool (decide ((sq1 0) < 0))), (N ((sq1 0).natAbs)), (.bool (decide ((sq2 0) < 0))), (N ((sq2 0).natAbs))])) (c16 : ∀ i : Nat, (i : Int) < ((iMax (0 : Int) tp) + 3) → Impl Tryz.prog Amb 75 [(.agg [(.bool (decide ((sq1 i) < 0))), (N ((sq1 i).natAbs)), (.bool (decide ((sq2 i) < 0))), (N ((sq2 i).natAbs))]), (.agg [(.bool (decide ((sq1 i) < 0))), (N ((sq1 i).natAbs)), (.bool (decide ((sq2 i) < 0))), (N ((sq2 i).natAbs))]), (.int .i64 (((w + 40) + ((2 : Int) * ((iMax (0 : Int) tp) + 3))) + ((3 : Int) * 2 ^ (min tp.toNat (IntKind.bits .i64)))))] (.agg [(.bool (decide ((sq1 (i + 1)) < 0))), (N ((sq1 (i + 1)).natAbs)), (.bool (decide ((sq2 (i + 1)) < 0))), (N ((sq2 (i + 1)).natAbs))])) (c17 : 0 ≤ ((iMax (0 : Int) tp) + 3) ∧ ((iMax (0 : Int) tp) + 3) ≤ 100) (c18 : ∀ i : Nat, (i : Int) = ((iMax (0 : Int) tp) + 3) → Impl Tryz.prog Amb 31 [(.agg [(.bool (decide ((sq1 i) < 0))), (N ((sq1 i).natAbs)), (.bool (decide ((sq2 i) < 0))), (N ((sq2 i).natAbs))]), (.int .i64 (((w + 40) + ((2 : Int) * ((iMax (0 : Int) tp) + 3))) + ((3 : Int) * 2 ^ (min tp.toNat (IntKind.bits .i64))))), (.int .i64 (w + 16))] (wV oa ob oc od)) : Impl Tryz.prog Amb 21 [(yV m ee), (.int .i64 w)] (wV oa ob oc od) := by
 have im1 := zf1 0 tp
 have sh1 := ztj tp c2.2
 rw [← ztk tp c2.2] at sh1
 have sh2 : (0 : Int) ≤ tp := by omega
 exact z6u hP hAmb Tryz.func21 (by kernel_rfl) (.lits 2 <| .call (yV u1 u2) <| .lit <| .call (.int .i64 k1) <| .lit <| .no <| .lits 2 <| .call (.int .i64 tp) <| .lits 2 <| .yes <| .lit <| .yes <| .lit <| .yes <| .lit <| .yes <| .lits 2 <| .yes <| .lits 3 <| .call (.int .i64 tp) <| .lits 3 <| .yes <| .lits 2 <| .call (.int .i64 tp) <| .lit <| .yes <| .yes <| .yes <| .lit <| .yes <| .lits 2 <| .yes <| .lit <| .call (.tup [(yV ma mb), (.int .i64 0)]) <| .lits 3 <| .call (.agg [(.bool (decide (xa < 0))), (N xa.natAbs), (.bool (decide (xb < 0))), (N xb.natAbs)]) <| .lits 2 <| .call (.agg [(.bool (decide ((pp1 0) < 0))), (N ((pp1 0).natAbs)), (.bool (decide ((pp2 0) < 0))), (N ((pp2 0).natAbs))]) <| .lit <| .call (.agg [(.bool (decide ((pp1 0) < 0))), (N ((pp1 0).natAbs)), (.bool (decide ((pp2 0) < 0))), (N ((pp2 0).natAbs))]) <| .lits 2 <| .loop ⟨[1, 4, 9, 10, 13, 14, 15, 16], 6, []⟩ ((r14_0_mk nn m ee w ((iMax (0 : Int) tp) + 3) (((w + 40) + ((2 : Int) * ((iMax (0 : Int) tp) + 3))) + ((3 : Int) * 2 ^ (min tp.toNat (IntKind.bits .i64)))) ma mb xa xb pp1 pp2 mm1 mm2 (0, 1))) (Nat) (r14_0_ex nn m ee w ((iMax (0 : Int) tp) + 3) (((w + 40) + ((2 : Int) * ((iMax (0 : Int) tp) + 3))) + ((3 : Int) * 2 ^ (min tp.toNat (IntKind.bits .i64)))) ma mb xa xb pp1 pp2 mm1 mm2) (r14_0_J nn m ee w ((iMax (0 : Int) tp) + 3) (((w + 40) + ((2 : Int) * ((iMax (0 : Int) tp) + 3))) + ((3 : Int) * 2 ^ (min tp.toNat (IntKind.bits .i64)))) ma mb xa xb pp1 pp2 mm1 mm2) (fun y => .lits 2 <| .call (.agg [(.bool (decide ((sq1 0) < 0))), (N ((sq1 0).natAbs)), (.bool (decide ((sq2 0) < 0))), (N ((sq2 0).natAbs))]) <| .lit <| .loop ⟨[1, 4, 10, 15, 90, 91], 6, []⟩ ((r14_1_mk m ee w ((iMax (0 : Int) tp) + 3) (((w + 40) + ((2 : Int) * ((iMax (0 : Int) tp) + 3))) + ((3 : Int) * 2 ^ (min tp.toNat (IntKind.bits .i64)))) ma mb xa xb (pp1 y) (pp2 y) sq1 sq2 (0, 0))) (Nat) (r14_1_ex m ee w ((iMax (0 : Int) tp) + 3) (((w + 40) + ((2 : Int) * ((iMax (0 : Int) tp) + 3))) + ((3 : Int) * 2 ^ (min tp.toNat (IntKind.bits .i64)))) ma mb xa xb (pp1 y) (pp2 y) sq1 sq2) (r14_1_J m ee w ((iMax (0 : Int) tp) + 3) (((w + 40) + ((2 : Int) * ((iMax (0 : Int) tp) + 3))) + ((3 : Int) * 2 ^ (min tp.toNat (IntKind.bits .i64)))) ma mb xa xb (pp1 y) (pp2 y) sq1 sq2) (fun u => .lits 2 <| .yes <| .lit <| .call (wV oa ob oc od) <| .lits 2 <| .ret)))
  (z6t (aI True.intro (aI (c4 ) (aI (c5 ) (aI (z81 oS : (iLt k1 0) = false) (aI (c6 ) (aI (z89 oS : (fits .i64 ((iMax (0 : Int) tp) + 3)) = true) (aI (z89 oS : (fits .i64 (w + 40)) = true) (aI (z89 oS : (fits .i64 ((2 : Int) * ((iMax (0 : Int) tp) + 3))) = true) (aI (z89 oS : (fits .i64 ((w + 40) + ((2 : Int) * ((iMax (0 : Int) tp) + 3)))) = true) (aI (ztl c3.1 : (bEq (decide (m < 0)) false) = true) (aI (c6 ) (aI (z7y oO : (iGt tp 0) = true) (aI (c6 ) (aI (z8a oS : (fits .u64 tp) = true) (aI (z7x oS : (iLe 0 tp) = true) (aI (z89 oS : (fits .i64 ((3 : Int) * 2 ^ (min tp.toNat (IntKind.bits .i64)))) = true) (aI (z89 oS : (fits .i64 (((w + 40) + ((2 : Int) * ((iMax (0 : Int) tp) + 3))) + ((3 : Int) * 2 ^ (min tp.toNat (IntKind.bits .i64))))) = true) (aI (z89 oS : (fits .i64 ((0 : Int) - ((iMax (0 : Int) tp) + 3))) = true) (aI (c7 ) (aI (c8 ) (aI (c9 ) (aI (c9 ) (aI tT (aI (rfl : (r14_0_mk nn m ee w ((iMax (0 : Int) tp) + 3) (((w + 40) + ((2 : Int) * ((iMax (0 : Int) tp) + 3))) + ((3 : Int) * 2 ^ (min tp.toNat (IntKind.bits .i64)))) ma mb xa xb pp1 pp2 mm1 mm2 (0, 1)) = (r14_0_mk nn m ee w ((iMax (0 : Int) tp) + 3) (((w + 40) + ((2 : Int) * ((iMax (0 : Int) tp) + 3))) + ((3 : Int) * 2 ^ (min tp.toNat (IntKind.bits .i64)))) ma mb xa xb pp1 pp2 mm1 mm2 (0, 1))) (aI (ztm nn m ee w ((iMax (0 : Int) tp) + 3) (((w + 40) + ((2 : Int) * ((iMax (0 : Int) tp) + 3))) + ((3 : Int) * 2 ^ (min tp.toNat (IntKind.bits .i64)))) ma mb xa xb pp1 pp2 mm1 mm2 c10 c11 c12 c13 c14 (0, 1) (show 0 ≤ nn ∧ 1 = (0 : Int) + 1 from ⟨by omega, by omega⟩)) (fun y (hJ : r14_0_J nn m ee w ((iMax (0 : Int) tp) + 3) (((w + 40) + ((2 : Int) * ((iMax (0 : Int) tp) + 3))) + ((3 : Int) * 2 ^ (min tp.toNat (IntKind.bits .i64)))) ma mb xa xb pp1 pp2 mm1 mm2 y) => have hJ : y = nn := hJ; have hY := hJ; aI ((hY ▸ c15) ) (aI tT (aI (rfl : (r14_1_mk m ee w ((iMax (0 : Int) tp) + 3) (((w + 40) + ((2 : Int) * ((iMax (0 : Int) tp) + 3))) + ((3 : Int) * 2 ^ (min tp.toNat (IntKind.bits .i64)))) ma mb xa xb (pp1 y) (pp2 y) sq1 sq2 (0, 0)) = (r14_1_mk m ee w ((iMax (0 : Int) tp) + 3) (((w + 40) + ((2 : Int) * ((iMax (0 : Int) tp) + 3))) + ((3 : Int) * 2 ^ (min tp.toNat (IntKind.bits .i64)))) ma mb xa xb (pp1 y) (pp2 y) sq1 sq2 (0, 0))) (aI (ztn m ee w ((iMax (0 : Int) tp) + 3) (((w + 40) + ((2 : Int) * ((iMax (0 : Int) tp) + 3))) + ((3 : Int) * 2 ^ (min tp.toNat (IntKind.bits .i64)))) ma mb xa xb (pp1 y) (pp2 y) sq1 sq2 c16 c17 (0, 0) (show 0 = (0 : Int) ∧ (0 : Int) ≤ ((iMax (0 : Int) tp) + 3) from ⟨by omega, by omega⟩)) (fun u (hJ : r14_1_J m ee w ((iMax (0 : Int) tp) + 3) (((w + 40) + ((2 : Int) * ((iMax (0 : Int) tp) + 3))) + ((3 : Int) * 2 ^ (min tp.toNat (IntKind.bits .i64)))) ma mb xa xb (pp1 y) (pp2 y) sq1 sq2 u) => have hJ : (u : Int) = ((iMax (0 : Int) tp) + 3) := hJ; have hV := hJ; aI (z89 oS : (fits .i64 (w + 16)) = true) (aI ((c18 u hV) ) ((z6b (wV oa ob oc od)))))))))))))))))))))))))))))))))) (by kernel_rfl))
end Go.Proofs.YtcbihoojfakhdaaGreatDoor
