/-
  Lower layers: what functions of the program compute, and zxa facts. Conditions: as the theorems say.
-/
import Derived.Test.YtcbihoojfakhdaaGreatDoorPfS
set_option linter.unusedVariables false
set_option linter.unusedSimpArgs false
namespace Go.Proofs.YtcbihoojfakhdaaGreatDoor
def Lq (f g : Nat → Rat) : Prop := ∀ e : Rat, 0 < e → ∃ N, ∀ K, N ≤ K → f K ≤ g K + e
def Lm (f g : Nat → Rat) : Prop := Lq f g ∧ Lq g f
def Bn (f : Nat → Rat) (B : Rat) : Prop := ∃ N, ∀ K, N ≤ K → -B ≤ f K ∧ f K ≤ B
theorem Lq.refl (f : Nat → Rat) : Lq f f := fun e h => ⟨0, fun K _ => by grind⟩
theorem Lm.refl (f : Nat → Rat) : Lm f f := ⟨Lq.refl f, Lq.refl f⟩
theorem Lm.symm {f g : Nat → Rat} (h : Lm f g) : Lm g f := ⟨h.2, h.1⟩
theorem r8 : (0 : Rat) < 1 / 8 ∧ (0 : Rat) < 1 / 2 ∧ (0 : Rat) < 2⁻¹ := ⟨of_decide_eq_true (by kernel_rfl), of_decide_eq_true (by kernel_rfl), of_decide_eq_true (by kernel_rfl)⟩
theorem ztq {e : Rat} (h : 0 < e) : 0 < e / 2 := by rw [Rat.div_def]; exact Rat.mul_pos h r8.2.2
theorem ztr (e : Rat) : e / 2 + e / 2 = e := by rw [Rat.div_def]; grind
theorem Lq.trans {f g h : Nat → Rat} (a : Lq f g) (b : Lq g h) : Lq f h := fun e he => by
 obtain ⟨N, p⟩ := a (e / 2) (ztq he)
 obtain ⟨M, q⟩ := b (e / 2) (ztq he)
 refine ⟨N + M, fun K hK => ?_⟩
 have x := p K (by omega)
 have y := q K (by omega)
 have z := ztr e
 grind
theorem Lm.trans {f g h : Nat → Rat} (a : Lm f g) (b : Lm g h) : Lm f h := ⟨a.1.trans b.1, b.2.trans a.2⟩
theorem Lq.of_le {f g : Nat → Rat} {N : Nat} (h : ∀ K, N ≤ K → f K ≤ g K) : Lq f g := fun e he => ⟨N, fun K hK => by have := h K hK; grind⟩
theorem Lm.of_eq {f g : Nat → Rat} {N : Nat} (h : ∀ K, N ≤ K → f K = g K) : Lm f g := ⟨.of_le (N := N) fun K hK => by rw [h K hK]; exact Rat.le_refl, .of_le (N := N) fun K hK => by rw [h K hK]; exact Rat.le_refl⟩
theorem zts {p x P a : Rat} (h1 : -P ≤ p) (h2 : p ≤ P) (h3 : -a ≤ x) (h4 : x ≤ a) : -(P * a) ≤ p * x ∧ p * x ≤ P * a := by
 have m1 := Rat.mul_nonneg (show 0 ≤ P - p by grind) (show 0 ≤ a + x by grind)
 have m2 := Rat.mul_nonneg (show 0 ≤ P + p by grind) (show 0 ≤ a - x by grind)
 have m3 := Rat.mul_nonneg (show 0 ≤ P + p by grind) (show 0 ≤ a + x by grind)
 have m4 := Rat.mul_nonneg (show 0 ≤ P - p by grind) (show 0 ≤ a - x by grind)
 constructor <;> grind
theorem ztt {B : Rat} (h : 0 < B) : B⁻¹ * B = 1 := Rat.inv_mul_cancel _ (by grind)
theorem Bn.pos {f : Nat → Rat} {B : Rat} (h : Bn f B) : ∃ C, 0 < C ∧ Bn f C := by
 obtain ⟨N, h⟩ := h
 have a := h N (Nat.le_refl _)
 refine ⟨B + 1, by grind, N, fun K hK => ?_⟩
 have b := h K hK
 constructor <;> grind
theorem Lq.mul_aux {f f' g g' : Nat → Rat} {A B : Rat} (h : Lm f f') (k : Lm g g') (hf : Bn f A) (hg : Bn g' B) : Lq (fun K => f K * g K) (fun K => f' K * g' K) := fun e he => by
 obtain ⟨A', A0, N1, b1⟩ := hf.pos
 obtain ⟨B', B0, N2, b2⟩ := hg.pos
 have iA := Rat.inv_pos.2 A0
 have iB := Rat.inv_pos.2 B0
 have eA := ztt A0
 have eB := ztt B0
 obtain ⟨N3, c1⟩ := h.1 _ (Rat.mul_pos (ztq he) iB)
 obtain ⟨N4, c2⟩ := h.2 _ (Rat.mul_pos (ztq he) iB)
 obtain ⟨N5, c3⟩ := k.1 _ (Rat.mul_pos (ztq he) iA)
 obtain ⟨N6, c4⟩ := k.2 _ (Rat.mul_pos (ztq he) iA)
 refine ⟨N1 + N2 + N3 + N4 + N5 + N6, fun K hK => ?_⟩
 have b1 := b1 K (by omega)
 have b2 := b2 K (by omega)
 have c1 := c1 K (by omega)
 have c2 := c2 K (by omega)
 have c3 := c3 K (by omega)
 have c4 := c4 K (by omega)
 have z := ztr e
 have m1 := (zts b1.1 b1.2 (x := g K - g' K) (a := e / 2 * A'⁻¹) (by grind) (by grind)).2
 have m2 := (zts b2.1 b2.2 (x := f K - f' K) (a := e / 2 * B'⁻¹) (by grind) (by grind)).2
 have q1 : A' * (e / 2 * A'⁻¹) = e / 2 := by grind
 have q2 : B' * (e / 2 * B'⁻¹) = e / 2 := by grind
 rw [q1] at m1
 rw [q2] at m2
 show f K * g K ≤ f' K * g' K + e
 grind
theorem Lm.bn {f g : Nat → Rat} {A : Rat} (h : Lm f g) (b : Bn f A) : Bn g (A + 1) := by
 obtain ⟨N, b⟩ := b
 obtain ⟨N1, h1⟩ := h.1 1 (by decide)
 obtain ⟨N2, h2⟩ := h.2 1 (by decide)
 refine ⟨N + N1 + N2, fun K hK => ?_⟩
 have b := b K (by omega)
 have h1 := h1 K (by omega)
 have h2 := h2 K (by omega)
 constructor <;> grind
theorem Lm.mul {f f' g g' : Nat → Rat} {A B : Rat} (h : Lm f f') (k : Lm g g') (hf : Bn f A) (hg : Bn g B) : Lm (fun K => f K * g K) (fun K => f' K * g' K) :=
 ⟨Lq.mul_aux h k hf (k.bn hg), Lq.mul_aux h.symm k.symm (h.bn hf) hg⟩
theorem ztu {f g : Nat → Rat} : ∀ {n : Nat}, (∀ i, i < n → -(g i) ≤ f i ∧ f i ≤ g i) → -(Sm g n) ≤ Sm f n ∧ Sm f n ≤ Sm g n
 | 0, _ => by show -(0 : Rat) ≤ 0 ∧ (0 : Rat) ≤ 0; constructor <;> decide
 | n + 1, h => by
  have a := ztu (n := n) (fun i hi => h i (by omega))
  have b := h n (by omega)
  show -(Sm g n + g n) ≤ Sm f n + f n ∧ Sm f n + f n ≤ Sm g n + g n
  constructor <;> grind
theorem ztv {x a : Rat} (h1 : -a ≤ x) (h2 : x ≤ a) : ∀ n, -(tE a n) ≤ tE x n ∧ tE x n ≤ tE a n
 | 0 => by show -(1 : Rat) ≤ 1 ∧ (1 : Rat) ≤ 1; constructor <;> decide
 | n + 1 => by
  have i := ztv h1 h2 n
  have m := zts i.1 i.2 h1 h2
  have np := zrm n
  have e1 := zrn x n
  have e2 := zrn a n
  constructor
  ·exact Rat.le_of_mul_le_mul_right (c := (nx n : Rat)) (by grind) np
  ·exact Rat.le_of_mul_le_mul_right (c := (nx n : Rat)) (by grind) np
theorem ztw {x a : Rat} (h1 : -a ≤ x) (h2 : x ≤ a) (K : Nat) : -(EP a K) ≤ EP x K ∧ EP x K ≤ EP a K := ztu fun i _ => ztv h1 h2 i
theorem ztx {x a : Rat} (h1 : -a ≤ x) (h2 : x ≤ a) (K k : Nat) : -(EP a (K + k) - EP a K) ≤ EP x (K + k) - EP x K ∧ EP x (K + k) - EP x K ≤ EP a (K + k) - EP a K := by
 induction k with
 | zero => show -(EP a K - EP a K) ≤ EP x K - EP x K ∧ EP x K - EP x K ≤ EP a K - EP a K; constructor <;> grind
 | succ k ih =>
  have b := ztv h1 h2 (K + k)
  have e1 : EP x (K + (k + 1)) = EP x (K + k) + tE x (K + k) := rfl
  have e2 : EP a (K + (k + 1)) = EP a (K + k) + tE a (K + k) := rfl
  rw [e1, e2]
  constructor <;> grind
theorem zty (c : Rat) (f : Nat → Rat) (n : Nat) : Sm (fun j => c * f j) n = c * Sm f n := by
 rw [Rat.mul_comm, zrf]
 exact zrd fun i _ => Rat.mul_comm _ _
theorem ztz (x y : Rat) (K : Nat) : EP x K * EP y K - EP (x + y) K = Sm (fun i => tE x i * (EP y K - EP y (K - i))) K := by
 have p : EP x K * EP y K = Sm (fun i => tE x i * EP y K) K := by unfold EP; rw [zrf]
 have q : EP (x + y) K = Sm (fun i => tE x i * EP y (K - i)) K := by
  rw [zrq]
  exact zrd fun i _ => zty _ _ _
 have r : Sm (fun i => tE x i * EP y K) K = Sm (fun i => tE x i * (EP y K - EP y (K - i))) K + Sm (fun i => tE x i * EP y (K - i)) K := by
  rw [← zre]
  exact zrd fun i _ => by grind
 rw [p, q, r]; grind
theorem zu0 {x y a b : Rat} (h1 : -a ≤ x) (h2 : x ≤ a) (h3 : -b ≤ y) (h4 : y ≤ b) (K : Nat) : -(EP a K * EP b K - EP (a + b) K) ≤ EP x K * EP y K - EP (x + y) K ∧ EP x K * EP y K - EP (x + y) K ≤ EP a K * EP b K - EP (a + b) K := by
 rw [ztz, ztz]
 refine ztu fun i hi => ?_
 have g := ztx h3 h4 (K - i) i
 rw [show K - i + i = K by omega] at g
 have t := ztv h1 h2 i
 exact zts t.1 t.2 g.1 g.2
theorem zu1 (r : Rat) : ∃ n : Nat, r ≤ (n : Rat) := by
 refine ⟨r.ceil.toNat, ?_⟩
 have a : r ≤ (r.ceil : Rat) := Rat.le_ceil
 have b : ((r.ceil : Int) : Rat) ≤ ((r.ceil.toNat : Int) : Rat) := Rat.intCast_le_intCast.2 (by omega)
 exact Rat.le_trans a b
theorem zu2 : ∀ n : Nat, (n : Rat) ≤ (2 : Rat) ^ n
 | 0 => by rw [Rat.pow_zero]; decide
 | n + 1 => by
  have a := zu2 n
  have b := zs5 (q := 2) (by decide) n
  rw [Rat.pow_succ, Rat.natCast_add]
  show (n : Rat) + 1 ≤ _
  grind
theorem zu3 {a : Rat} (h0 : 0 ≤ a) {m : Nat} (h : 2 * a ≤ (nx m : Rat)) : ∀ j, tE a (m + j) * (2 : Rat) ^ j ≤ tE a m
 | 0 => by rw [Rat.pow_zero, Rat.mul_one]; exact Rat.le_refl
 | j + 1 => by
  have i := zu3 h0 h j
  have t := zru h0 (m := m + j) (Rat.le_trans h (zrv (by omega)))
  have p : (0 : Rat) ≤ (2 : Rat) ^ j := by have := zs5 (q := 2) (by decide) j; grind
  have m1 := Rat.mul_le_mul_of_nonneg_right t p
  rw [Rat.pow_succ]
  show tE a (m + j + 1) * _ ≤ _
  grind
theorem zu4 {a : Rat} (h0 : 0 ≤ a) {e : Rat} (he : 0 < e) : ∃ N, ∀ K, N ≤ K → tE a K ≤ e ∧ 2 * a ≤ (nx K : Rat) := by
 obtain ⟨m, hm⟩ := zu1 (2 * a)
 have hm' : 2 * a ≤ (nx m : Rat) := Rat.le_trans hm (Rat.intCast_le_intCast.2 (show (m : Int) ≤ nx m by unfold nx; omega))
 obtain ⟨j, hj⟩ := zu1 (tE a m * e⁻¹)
 have ie := ztt he
 have i0 := Rat.inv_pos.2 he
 refine ⟨m + j, fun K hK => ⟨?_, Rat.le_trans hm' (zrv (by omega))⟩⟩
 obtain ⟨i, rfl⟩ : ∃ i, K = m + (j + i) := ⟨K - m - j, by omega⟩
 have d := zu3 h0 hm' (j + i)
 have g := zu2 (j + i)
 have n1 : (j : Rat) ≤ ((j + i : Nat) : Rat) := by
  rw [Rat.natCast_add]
  have : (0 : Rat) ≤ (i : Rat) := Rat.natCast_nonneg
  grind
 have p : (1 : Rat) ≤ (2 : Rat) ^ (j + i) := zs5 (by decide) _
 refine Rat.le_of_mul_le_mul_right (c := (2 : Rat) ^ (j + i)) ?_ (by grind)
 have m1 := Rat.mul_le_mul_of_nonneg_left (show tE a m * e⁻¹ ≤ (2 : Rat) ^ (j + i) by grind) (Rat.le_of_lt he)
 have q : e * (tE a m * e⁻¹) = tE a m := by grind
 rw [q] at m1
 exact Rat.le_trans d m1
theorem zu5 {a : Rat} (h0 : 0 ≤ a) {e : Rat} (he : 0 < e) : ∃ N, ∀ K, N ≤ K → ∀ M, EP a M ≤ EP a K + e := by
 obtain ⟨N, h⟩ := zu4 h0 he
 refine ⟨N + 1, fun K hK M => ?_⟩
 obtain ⟨n, rfl⟩ : ∃ n, K = n + 1 := ⟨K - 1, by omega⟩
 have b := h n (by omega)
 have c := zrw h0 b.2 M
 grind
theorem zu6 {a : Rat} (h0 : 0 ≤ a) : ∃ B, 0 < B ∧ ∀ K, EP a K ≤ B := by
 obtain ⟨N, h⟩ := zu5 h0 (e := 1) (by decide)
 have p := zrs h0 N
 exact ⟨EP a N + 1, by grind, fun K => h N (Nat.le_refl _) K⟩
theorem zu7 (x : Rat) : ∃ a, 0 ≤ a ∧ -a ≤ x ∧ x ≤ a := by
 rcases (Rat.le_total : 0 ≤ x ∨ x ≤ 0) with h | h
 ·exact ⟨x, h, by grind, Rat.le_refl⟩
 ·exact ⟨-x, by grind, by grind, by grind⟩
theorem zu8 (x : Rat) : ∃ B, 0 < B ∧ Bn (EP x) B := by
 obtain ⟨a, a0, a1, a2⟩ := zu7 x
 obtain ⟨B, B0, hB⟩ := zu6 a0
 refine ⟨B, B0, 0, fun K _ => ?_⟩
 have b := ztw a1 a2 K
 have c := hB K
 constructor <;> grind
theorem zu9 (x y : Rat) : Lm (EP (x + y)) (fun K => EP x K * EP y K) := by
 obtain ⟨a, a0, a1, a2⟩ := zu7 x
 obtain ⟨b, b0, b1, b2⟩ := zu7 y
 have key : ∀ e : Rat, 0 < e → ∃ N, ∀ K, N ≤ K → EP (x + y) K ≤ EP x K * EP y K + e ∧ EP x K * EP y K ≤ EP (x + y) K + e := fun e he => by
  obtain ⟨N, h⟩ := zu5 (Rat.add_nonneg a0 b0) he
  refine ⟨N, fun K hK => ?_⟩
  have c := h K hK (2 * K)
  have d := (zrr a0 b0 K).2
  have f := zu0 a1 a2 b1 b2 K
  constructor <;> grind
 exact ⟨fun e he => by obtain ⟨N, h⟩ := key e he; exact ⟨N, fun K hK => (h K hK).1⟩, fun e he => by obtain ⟨N, h⟩ := key e he; exact ⟨N, fun K hK => (h K hK).2⟩⟩
theorem zua : ∀ K, 1 ≤ K → EP 0 K = 1
 | 0, h => absurd h (by omega)
 | 1, _ => by show (0 : Rat) + 1 = 1; grind
 | K + 2, _ => by
  have a := zua (K + 1) (by omega)
  have z : tE 0 (K + 1) = 0 := by
   show tE 0 K * 0 / (nx K : Rat) = 0
   rw [Rat.mul_zero, Rat.div_def, Rat.zero_mul]
  show EP 0 (K + 1) + tE 0 (K + 1) = 1
  rw [a, z, Rat.add_zero]
theorem zub (x : Rat) : Lm (fun K => EP x K * EP (-x) K) (fun _ => 1) := by
 have h := zu9 x (-x)
 rw [show x + -x = 0 by grind] at h
 exact h.symm.trans (Lm.of_eq (N := 1) fun K hK => zua K hK)
theorem zuc (x : Rat) : ∃ p, 0 < p ∧ ∃ N, ∀ K, N ≤ K → p ≤ EP x K := by
 obtain ⟨B, B0, NB, hB⟩ := zu8 (-(x / 2))
 obtain ⟨N1, h1⟩ := (zub (x / 2)).2 (1 / 2) r8.2.1
 have iB := ztt B0
 have i0 := Rat.inv_pos.2 B0
 have c := Rat.mul_pos i0 i0
 have h2' := zu9 (x / 2) (x / 2)
 rw [ztr] at h2'
 obtain ⟨N2, h2⟩ := h2'.2 (B⁻¹ * B⁻¹ * (1 / 8)) (Rat.mul_pos c r8.1)
 refine ⟨B⁻¹ * B⁻¹ * (1 / 8), Rat.mul_pos c r8.1, NB + N1 + N2, fun K hK => ?_⟩
 have hB := hB K (by omega)
 have h1 : (1 : Rat) ≤ EP (x / 2) K * EP (-(x / 2)) K + 1 / 2 := h1 K (by omega)
 have h2 : EP (x / 2) K * EP (x / 2) K ≤ EP x K + B⁻¹ * B⁻¹ * (1 / 8) := h2 K (by omega)
 generalize EP (x / 2) K = u at *
 generalize EP (-(x / 2)) K = v at *
 generalize EP x K = z at *
 generalize B⁻¹ = i at *
 -- u v ≥ 1/2, |v| ≤ B: 4 u u B B ≥ 1
 have sq : 0 ≤ (u * v) * (u * v) - 1 / 4 := by
  have m := Rat.mul_le_mul_of_nonneg_left (show 1 / 2 ≤ u * v by grind) (show 0 ≤ u * v by grind)
  grind
 have vv := (zts hB.1 hB.2 hB.1 hB.2).2
 have uu : 0 ≤ u * u := by
  rcases (Rat.le_total : 0 ≤ u ∨ u ≤ 0) with h | h
  ·exact Rat.mul_nonneg h h
  ·have := Rat.mul_nonneg (show 0 ≤ -u by grind) (show 0 ≤ -u by grind); grind
 have m1 := Rat.mul_le_mul_of_nonneg_left vv uu
 have m2 := Rat.mul_le_mul_of_nonneg_left (show 1 / 4 ≤ u * u * (B * B) by grind) (Rat.le_of_lt c)
 have e : i * i * (u * u * (B * B)) = u * u := by
  have : i * i * (u * u * (B * B)) = u * u * ((i * B) * (i * B)) := by grind
  rw [this, iB]; grind
 rw [e] at m2
 grind
theorem zud {x y : Rat} (h : x ≤ y) : Lq (EP x) (EP y) := by
 have a := zu9 x (y - x)
 rw [show x + (y - x) = y by grind] at a
 refine Lq.trans ?_ a.2
 obtain ⟨p, p0, N, hp⟩ := zuc x
 refine Lq.of_le (N := N + 1) fun K hK => ?_
 have b := ztg (x := y - x) (by grind) (show 1 ≤ K by omega)
 have c := hp K (by omega)
 have m := Rat.mul_le_mul_of_nonneg_left b (show 0 ≤ EP x K by grind)
 show EP x K ≤ EP x K * EP (y - x) K
 grind
end Go.Proofs.YtcbihoojfakhdaaGreatDoor

namespace Go.Proofs.YtcbihoojfakhdaaGreatDoor
theorem zue {a : Rat} (h : 0 ≤ a) : ∀ n : Nat, 0 ≤ a ^ n
 | 0 => by rw [Rat.pow_zero]; decide
 | n + 1 => by rw [Rat.pow_succ]; exact Rat.mul_nonneg (zue h n) h
theorem zuf {a b : Rat} (h : 0 ≤ a) (k : a ≤ b) : ∀ n : Nat, a ^ n ≤ b ^ n
 | 0 => by rw [Rat.pow_zero, Rat.pow_zero]; exact Rat.le_refl
 | n + 1 => by
  have i := zuf h k n
  have m1 := Rat.mul_le_mul_of_nonneg_right i h
  have m2 := Rat.mul_le_mul_of_nonneg_left k (zue (Rat.le_trans h k) n)
  rw [Rat.pow_succ, Rat.pow_succ]
  exact Rat.le_trans m1 m2
theorem zug {h : Rat} (h0 : 0 ≤ h) (h1 : h ≤ 1) : ∀ n : Nat, 1 - (n : Rat) * h ≤ (1 - h) ^ n
 | 0 => by rw [Rat.pow_zero]; show 1 - (0 : Rat) * h ≤ 1; grind
 | n + 1 => by
  have i := zug h0 h1 n
  have m1 := Rat.mul_le_mul_of_nonneg_right i (show 0 ≤ 1 - h by grind)
  have n0 : (0 : Rat) ≤ (n : Rat) := Rat.natCast_nonneg
  have m2 := Rat.mul_nonneg n0 (Rat.mul_nonneg h0 h0)
  have c : ((n + 1 : Nat) : Rat) = (n : Rat) + 1 := by rw [Rat.natCast_add]; rfl
  rw [Rat.pow_succ, c]
  grind
theorem zuh : 0 ≤ eps ∧ 4000 * eps ≤ 1 := ⟨of_decide_eq_true (by kernel_rfl), of_decide_eq_true (by kernel_rfl)⟩
theorem zui (P : Rat) : ∀ n : Nat, P ^ n = (2 : Rat) ^ n * (P / 2) ^ n
 | 0 => by rw [Rat.pow_zero, Rat.pow_zero, Rat.pow_zero, Rat.mul_one]
 | n + 1 => by
  rw [Rat.pow_succ, Rat.pow_succ, Rat.pow_succ, zui P n]
  have h := ztr P
  generalize P / 2 = q at *
  subst h
  grind
theorem zuj {P : Rat} {n : Nat} (h1 : 2 - eps ≤ P) (h2 : P ≤ 2 + eps) (hn : n ≤ 1000) : 1 - (n : Rat) * eps ≤ (P / 2) ^ n ∧ (P / 2) ^ n ≤ 1 + (n : Rat) * eps := by
 have e := zuh
 have hq : P / 2 + P / 2 = P := ztr P
 have he : eps / 2 + eps / 2 = eps := ztr eps
 generalize P / 2 = q at *
 generalize eps / 2 = h at *
 have n0 : (0 : Rat) ≤ (n : Rat) := Rat.natCast_nonneg
 have n1 : (n : Rat) ≤ 1000 := Rat.natCast_le_natCast.2 hn
 have m0 := Rat.mul_le_mul_of_nonneg_right n1 e.1
 have m1 := Rat.mul_nonneg n0 e.1
 have b1 := zug (h := h) (by grind) (by grind) n
 have b2 := zs6 (y := h) (n := n) (by grind) (by
  have : 2 * ((n : Rat) * h) = (n : Rat) * eps := by grind
  rw [this]; grind)
 have c1 := zuf (a := 1 - h) (b := q) (by grind) (by grind) n
 have c2 := zuf (a := q) (b := 1 + h) (by grind) (by grind) n
 have f : (n : Rat) * eps = (n : Rat) * h + (n : Rat) * h := by rw [← he]; grind
 have f0 : 0 ≤ (n : Rat) * h := Rat.mul_nonneg n0 (by grind)
 constructor
 ·refine Rat.le_trans ?_ (Rat.le_trans b1 c1); grind
 ·refine Rat.le_trans c2 (Rat.le_trans b2 ?_); grind
theorem zuk (c : Rat) : ∀ n : Nat, Lm (EP ((n : Rat) * c)) (fun K => EP c K ^ n)
 | 0 => Lm.of_eq (N := 1) fun K hK => by
  rw [Rat.pow_zero, show ((0 : Nat) : Rat) * c = 0 by show (0 : Rat) * c = 0; grind]
  exact zua K hK
 | n + 1 => by
  have i := zuk c n
  have a := zu9 ((n : Rat) * c) c
  rw [show (n : Rat) * c + c = ((n + 1 : Nat) : Rat) * c by rw [Rat.natCast_add]; show _ = ((n : Rat) + 1) * c; grind] at a
  obtain ⟨A, _, hA⟩ := zu8 ((n : Rat) * c)
  obtain ⟨B, _, hB⟩ := zu8 c
  refine a.trans ((i.mul (Lm.refl (EP c)) hA hB).trans (Lm.of_eq (N := 0) fun K _ => ?_))
  rw [Rat.pow_succ]
def err (D : Nat) : Rat := (2 : Rat) ^ D * (1048576 * eps)
theorem zul (n : Nat) : (1 : Rat) ≤ (2 : Rat) ^ n := zs5 (by decide) n
theorem zum {n m : Nat} (h : n ≤ m) : (2 : Rat) ^ n ≤ (2 : Rat) ^ m := by
 obtain ⟨k, rfl⟩ : ∃ k, m = n + k := ⟨m - n, by omega⟩
 clear h
 induction k with
 | zero => exact Rat.le_refl
 | succ k ih =>
  have a := zul (n + k)
  rw [← Nat.add_assoc, Rat.pow_succ]
  grind
theorem zun : 0 ≤ cLn ∧ 69 ≤ 100 * cLn ∧ 100 * cLn ≤ 70 := ⟨of_decide_eq_true (by kernel_rfl), of_decide_eq_true (by kernel_rfl), of_decide_eq_true (by kernel_rfl)⟩
theorem zuo : 0 < eps := of_decide_eq_true (by kernel_rfl)
theorem zup {d : Rat} {n D : Nat} (hx : 33 ≤ 100 * (d - (n : Rat) * cLn) ∧ 100 * (d - (n : Rat) * cLn) ≤ 106) (hn : n ≤ D) (hD : D ≤ 1000) :
  ∃ N, ∀ K, N ≤ K → EP (d - (n : Rat) * cLn) K * (2 : Rat) ^ n ≤ EP d K + err D ∧ EP d K ≤ EP (d - (n : Rat) * cLn) K * (2 : Rat) ^ n + err D := by
 have a := zu9 (d - (n : Rat) * cLn) ((n : Rat) * cLn)
 rw [show d - (n : Rat) * cLn + (n : Rat) * cLn = d by grind] at a
 generalize hy : d - (n : Rat) * cLn = y at *
 obtain ⟨A, _, hA⟩ := zu8 y
 obtain ⟨B, _, hB⟩ := zu8 ((n : Rat) * cLn)
 have b := a.trans ((Lm.refl (EP y)).mul (zuk cLn n) hA hB)
 obtain ⟨N1, h1⟩ := b.1 eps zuo
 obtain ⟨N2, h2⟩ := b.2 eps zuo
 refine ⟨N1 + N2 + 91, fun K hK => ?_⟩
 have h1 : EP d K ≤ EP y K * EP cLn K ^ n + eps := h1 K (by omega)
 have h2 : EP y K * EP cLn K ^ n ≤ EP d K + eps := h2 K (by omega)
 have p9 := zuj ((EPc (K := K)).1 (by omega)) (EPc (K := K)).2 (n := n) (by omega)
 rw [zui (EP cLn K) n] at h1 h2
 have u9 := zrx (x := y) (by grind) (by grind) K
 have u0 := zrs (x := y) (by grind) K
 have e := zuh
 have t1 := zul n
 have t2 := zum hn
 unfold err
 generalize (2 : Rat) ^ D = F at *
 generalize (2 : Rat) ^ n = T at *
 generalize (EP cLn K / 2) ^ n = q at *
 generalize EP y K = u at *
 have n1 : (n : Rat) ≤ 1000 := Rat.natCast_le_natCast.2 (show n ≤ 1000 by omega)
 have ne := Rat.mul_le_mul_of_nonneg_right n1 e.1
 have uT : 0 ≤ u * T := Rat.mul_nonneg u0 (by grind)
 have uT4 : u * T ≤ 4 * F := by
  have m1 := Rat.mul_le_mul_of_nonneg_right u9 (show 0 ≤ T by grind)
  grind
 have m1 := Rat.mul_le_mul_of_nonneg_left (show q - 1 ≤ 1000 * eps by grind) uT
 have m2 := Rat.mul_le_mul_of_nonneg_left (show 1 - q ≤ 1000 * eps by grind) uT
 have m3 := Rat.mul_le_mul_of_nonneg_right uT4 (show 0 ≤ 1000 * eps by grind)
 have m4 := Rat.mul_le_mul_of_nonneg_right (show 1 ≤ F by grind) e.1
 constructor <;> grind
theorem zuq {d : Rat} {n : Nat} (hx : 33 ≤ 100 * (d + (n : Rat) * cLn) ∧ 100 * (d + (n : Rat) * cLn) ≤ 106) (hn : n ≤ 1000) :
  ∃ N, ∀ K, N ≤ K → EP (d + (n : Rat) * cLn) K * ((2 : Rat) ^ n)⁻¹ ≤ EP d K + err 0 ∧ EP d K ≤ EP (d + (n : Rat) * cLn) K * ((2 : Rat) ^ n)⁻¹ + err 0 := by
 have a := zu9 d ((n : Rat) * cLn)
 have cb := zun
 have n0 : (0 : Rat) ≤ (n : Rat) := Rat.natCast_nonneg
 have nc := Rat.mul_nonneg n0 cb.1
 have mo := zud (show d ≤ d + (n : Rat) * cLn by grind)
 generalize hy : d + (n : Rat) * cLn = y at *
 obtain ⟨A, _, hA⟩ := zu8 d
 obtain ⟨B, _, hB⟩ := zu8 ((n : Rat) * cLn)
 have b := a.trans ((Lm.refl (EP d)).mul (zuk cLn n) hA hB)
 obtain ⟨N1, h1⟩ := b.1 eps zuo
 obtain ⟨N2, h2⟩ := b.2 eps zuo
 obtain ⟨N3, h3⟩ := mo 1 (by decide)
 obtain ⟨p, p0, N4, h4⟩ := zuc d
 refine ⟨N1 + N2 + N3 + N4 + 91, fun K hK => ?_⟩
 have h1 : EP y K ≤ EP d K * EP cLn K ^ n + eps := h1 K (by omega)
 have h2 : EP d K * EP cLn K ^ n ≤ EP y K + eps := h2 K (by omega)
 have h3 := h3 K (by omega)
 have h4 := h4 K (by omega)
 have p9 := zuj ((EPc (K := K)).1 (by omega)) (EPc (K := K)).2 (n := n) (by omega)
 rw [zui (EP cLn K) n] at h1 h2
 have u9 := zrx (x := y) (by grind) (by grind) K
 have e := zuh
 have t1 := zul n
 have it := ztt (B := (2 : Rat) ^ n) (by grind)
 have i0 := Rat.inv_pos.2 (show 0 < (2 : Rat) ^ n by grind)
 unfold err
 rw [Rat.pow_zero]
 generalize (2 : Rat) ^ n = T at *
 generalize T⁻¹ = i at *
 generalize (EP cLn K / 2) ^ n = q at *
 generalize EP y K = v at *
 generalize EP d K = u at *
 have i1 : i ≤ 1 := by
  have := Rat.mul_le_mul_of_nonneg_left t1 (Rat.le_of_lt i0)
  grind
 have n1 : (n : Rat) ≤ 1000 := Rat.natCast_le_natCast.2 hn
 have ne := Rat.mul_le_mul_of_nonneg_right n1 e.1
 have m1 := Rat.mul_le_mul_of_nonneg_left (show q - 1 ≤ 1000 * eps by grind) (show 0 ≤ u by grind)
 have m2 := Rat.mul_le_mul_of_nonneg_left (show 1 - q ≤ 1000 * eps by grind) (show 0 ≤ u by grind)
 have m3 := Rat.mul_le_mul_of_nonneg_right (show u ≤ 5 by grind) (show 0 ≤ 1000 * eps by grind)
 have m4 := Rat.mul_le_mul_of_nonneg_right h1 (Rat.le_of_lt i0)
 have m5 := Rat.mul_le_mul_of_nonneg_right h2 (Rat.le_of_lt i0)
 have m6 := Rat.mul_le_mul_of_nonneg_right i1 e.1
 have r : u * (T * q) * i = u * q := by
  have : u * (T * q) * i = u * q * (i * T) := by grind
  rw [this, it]; grind
 constructor <;> grind
theorem zur {d : Rat} {k : Int} {D : Nat} (hx : 33 ≤ 100 * (d - (k : Rat) * cLn) ∧ 100 * (d - (k : Rat) * cLn) ≤ 106) (h1 : -1000 ≤ k) (h2 : k ≤ D) (hD : D ≤ 1000) :
  ∃ N, ∀ K, N ≤ K → EP (d - (k : Rat) * cLn) K * (2 : Rat) ^ k ≤ EP d K + err D ∧ EP d K ≤ EP (d - (k : Rat) * cLn) K * (2 : Rat) ^ k + err D := by
 rcases (show 0 ≤ k ∨ k ≤ 0 by omega) with h | h
 ·obtain ⟨n, rfl⟩ : ∃ n : Nat, k = (n : Int) := ⟨k.toNat, by omega⟩
  rw [Rat.zpow_natCast]
  exact zup hx (by omega) hD
 ·obtain ⟨n, rfl⟩ : ∃ n : Nat, k = -(n : Int) := ⟨(-k).toNat, by omega⟩
  have e : d - ((-(n : Int) : Int) : Rat) * cLn = d + (n : Rat) * cLn := by
   rw [Rat.intCast_neg]
   show d - -(n : Rat) * cLn = _
   grind
  rw [e] at hx ⊢
  rw [Rat.zpow_neg, Rat.zpow_natCast]
  obtain ⟨N, h⟩ := zuq hx (by omega)
  refine ⟨N, fun K hK => ?_⟩
  have z := h K hK
  have w : err 0 ≤ err D := by
   unfold err
   have := zum (Nat.zero_le D)
   have e := zuh
   exact Rat.mul_le_mul_of_nonneg_right this (by grind)
  constructor <;> grind
end Go.Proofs.YtcbihoojfakhdaaGreatDoor

namespace Go.Proofs.YtcbihoojfakhdaaGreatDoor
def rE (T y1 y2 : Int) : Nat → Int × Int
 | 0 => (T, T)
 | j + 1 => (ovLo (rm1 (rE T y1 y2 j).1 (rE T y1 y2 j).2 y1 y2 T) (rm2 (rE T y1 y2 j).1 (rE T y1 y2 j).2 y1 y2 T) ((j : Int) + 1), ovHi (rm1 (rE T y1 y2 j).1 (rE T y1 y2 j).2 y1 y2 T) (rm2 (rE T y1 y2 j).1 (rE T y1 y2 j).2 y1 y2 T) ((j : Int) + 1))
theorem zus {T y1 y2 : Int} {x : Rat} (hT : 0 < T) (e1 : (y1 : Rat) ≤ x * T) (e2 : x * T ≤ (y2 : Rat)) : ∀ j, ((rE T y1 y2 j).1 : Rat) ≤ tE x j * T ∧ tE x j * T ≤ ((rE T y1 y2 j).2 : Rat)
 | 0 => by
  show (T : Rat) ≤ 1 * T ∧ 1 * (T : Rat) ≤ T
  rw [Rat.one_mul]; exact ⟨Rat.le_refl, Rat.le_refl⟩
 | j + 1 => by
  have a := zus hT e1 e2 j
  have b := zq1 hT a.1 a.2 e1 e2
  have n0 : (0 : Int) < (j : Int) + 1 := by omega
  have c := zq4 n0 b.1 b.2
  have e : tE x j * x * (T : Rat) / (((j : Int) + 1 : Int) : Rat) = tE x (j + 1) * T := by
   show tE x j * x * (T : Rat) / (nx j : Rat) = tE x j * x / (nx j : Rat) * T
   rw [Rat.div_def, Rat.div_def]; grind
  rw [e] at c
  exact c
theorem zut {a b n : Int} {B : Nat} (hn : 0 < n) (ha : a.natAbs ≤ B) (hb : b.natAbs ≤ B) : (ovLo a b n).natAbs ≤ B ∧ (ovHi a b n).natAbs ≤ B := by
 have key : ∀ z : Int, z.natAbs ≤ B → (Int.fdiv z n).natAbs ≤ B := by
  intro z hz
  rw [Int.fdiv_eq_ediv_of_nonneg _ (Int.le_of_lt hn)]
  have f1 := Int.ediv_mul_le z (show n ≠ 0 by omega)
  have f2 := Int.lt_ediv_add_one_mul_self z hn
  generalize z / n = q at *
  have u : q ≤ B := by
   refine Decidable.byContradiction fun h => ?_
   have m := Int.mul_le_mul_of_nonneg_left (show (1 : Int) ≤ n by omega) (show 0 ≤ q by omega)
   omega
  have l : -(B : Int) ≤ q := by
   refine Decidable.byContradiction fun h => ?_
   have m := Int.mul_le_mul_of_nonneg_left (show (1 : Int) ≤ n by omega) (show 0 ≤ -(q + 1) by omega)
   have e : -(q + 1) * n = -((q + 1) * n) := Int.neg_mul _ _
   omega
  omega
 unfold ovLo ovHi
 have k1 := key (min a b) (by omega)
 have k2 := key (-(max a b)) (by omega)
 omega
theorem zuu {v : Nat} {y1 y2 : Int} (h1 : 8 * y1.natAbs ≤ 2 ^ v) (h2 : 8 * y2.natAbs ≤ 2 ^ v) : ∀ j, j ≤ v → (rE (2 ^ v) y1 y2 j).1.natAbs ≤ 2 ^ (v - j) ∧ (rE (2 ^ v) y1 y2 j).2.natAbs ≤ 2 ^ (v - j) := by
 intro j
 induction j with
 | zero =>
  intro _
  show ((2 : Int) ^ v).natAbs ≤ 2 ^ (v - 0) ∧ ((2 : Int) ^ v).natAbs ≤ 2 ^ (v - 0)
  rw [zb2, Int.natAbs_natCast]; exact ⟨Nat.le_refl _, Nat.le_refl _⟩
 | succ j ih =>
  intro hj
  have a := ih (by omega)
  have p : 2 ^ (v - j) = 2 * 2 ^ (v - (j + 1)) := by rw [show v - j = (v - (j + 1)) + 1 by omega, Nat.pow_succ, Nat.mul_comm]
  have r := zq2 (c := y1) (d := y2) (C := 2 ^ (v - (j + 1))) (S := 2 ^ v / 8) (zip v) a.1 a.2 (by omega) (by omega) (by
   rw [zq3, p]
   have := Nat.mul_le_mul_left (2 ^ (v - (j + 1))) (show 2 * (2 ^ v / 8) ≤ 2 ^ v by omega)
   rw [Nat.mul_comm 2, Nat.mul_assoc]; exact this)
  exact zut (by omega) r.1 r.2
theorem zuv {v : Nat} {y1 y2 : Int} (h1 : 8 * y1.natAbs ≤ 2 ^ v) (h2 : 8 * y2.natAbs ≤ 2 ^ v) : ∃ N, N ≤ v ∧ ((rE (2 ^ v) y1 y2 N).1.natAbs ≤ 1 ∧ (rE (2 ^ v) y1 y2 N).2.natAbs ≤ 1) ∧ ∀ j, j < N → ¬ ((rE (2 ^ v) y1 y2 j).1.natAbs ≤ 1 ∧ (rE (2 ^ v) y1 y2 j).2.natAbs ≤ 1) := by
 have a := zuu h1 h2 v (Nat.le_refl _)
 rw [Nat.sub_self, Nat.pow_zero] at a
 exact zpq (P := fun j => (rE (2 ^ v) y1 y2 j).1.natAbs ≤ 1 ∧ (rE (2 ^ v) y1 y2 j).2.natAbs ≤ 1) a
end Go.Proofs.YtcbihoojfakhdaaGreatDoor

namespace Go.Proofs.YtcbihoojfakhdaaGreatDoor
def EnE (f : Nat → Rat) (s : Nat) (lo hi : Int) (g : Rat) : Prop := ∃ N, ∀ K, N ≤ K → (lo : Rat) ≤ f K * ((2 ^ s : Int) : Rat) + g ∧ f K * ((2 ^ s : Int) : Rat) ≤ (hi : Rat) + g
theorem EnE.mono {f : Nat → Rat} {s : Nat} {lo hi : Int} {g g' : Rat} (h : EnE f s lo hi g) (hg : g ≤ g') : EnE f s lo hi g' := by
 obtain ⟨N, h⟩ := h
 exact ⟨N, fun K hK => by have := h K hK; constructor <;> grind⟩
theorem EnE.near {f f' : Nat → Rat} {s : Nat} {lo hi : Int} {g e : Rat} (h : EnE f s lo hi g) (hn : ∃ N, ∀ K, N ≤ K → f K ≤ f' K + e ∧ f' K ≤ f K + e) : EnE f' s lo hi (g + e * ((2 ^ s : Int) : Rat)) := by
 obtain ⟨N, h⟩ := h
 obtain ⟨M, hn⟩ := hn
 have P : (0 : Rat) < ((2 ^ s : Int) : Rat) := Rat.intCast_pos.2 (zip s)
 refine ⟨N + M, fun K hK => ?_⟩
 have a := h K (by omega)
 have b := hn K (by omega)
 have m1 := Rat.mul_le_mul_of_nonneg_right b.1 (Rat.le_of_lt P)
 have m2 := Rat.mul_le_mul_of_nonneg_right b.2 (Rat.le_of_lt P)
 constructor <;> grind
theorem Encl.toE {f : Nat → Rat} {s : Nat} {lo hi : Int} (h : Encl f s lo hi) : EnE f s lo hi 0 := by
 obtain ⟨N, h⟩ := h
 exact ⟨N, fun K hK => by have := h K hK; constructor <;> grind⟩
theorem zuw {l h : Int} {X Y : Rat} (h1 : (l : Rat) ≤ X) (h2 : Y ≤ (h : Rat)) (g : X < Y + 1) : l ≤ h := by
 refine Decidable.byContradiction fun hn => ?_
 have : ((h + 1 : Int) : Rat) ≤ (l : Rat) := Rat.intCast_le_intCast.2 (by omega)
 rw [Rat.intCast_add, show ((1 : Int) : Rat) = 1 from rfl] at this
 grind
theorem EnE.le {f f' : Nat → Rat} {s : Nat} {a b c d : Int} {g g' : Rat} (h : EnE f s a b g) (k : EnE f' s c d g') (hl : Lq f f') (hg : g + g' < 1) : a ≤ d := by
 obtain ⟨N, h⟩ := h
 obtain ⟨M, k⟩ := k
 have P : (0 : Rat) < ((2 ^ s : Int) : Rat) := Rat.intCast_pos.2 (zip s)
 have i0 := Rat.inv_pos.2 P
 have ie := ztt P
 have e0 : 0 < (1 - g - g') * (1 / 2) := Rat.mul_pos (by grind) r8.2.1
 obtain ⟨Q, q⟩ := hl ((1 - g - g') * (1 / 2) * (((2 ^ s : Int) : Rat))⁻¹) (Rat.mul_pos e0 i0)
 have h := (h (N + M + Q) (by omega)).1
 have k := (k (N + M + Q) (by omega)).2
 have q := Rat.mul_le_mul_of_nonneg_right (q (N + M + Q) (by omega)) (Rat.le_of_lt P)
 have z : (1 - g - g') * (1 / 2) * (((2 ^ s : Int) : Rat))⁻¹ * ((2 ^ s : Int) : Rat) = (1 - g - g') * (1 / 2) := by rw [Rat.mul_assoc, ie, Rat.mul_one]
 exact zuw (X := f (N + M + Q) * ((2 ^ s : Int) : Rat) + g) (Y := f' (N + M + Q) * ((2 ^ s : Int) : Rat) - g') h (by grind) (by grind)
theorem EnE.scale {f : Nat → Rat} {s n : Nat} {a b : Int} {g : Rat} (h : EnE f s a b g) : EnE f (s + n) (a * 2 ^ n) (b * 2 ^ n) (g * ((2 ^ n : Int) : Rat)) := by
 obtain ⟨N, h⟩ := h
 have P : (0 : Rat) < ((2 ^ n : Int) : Rat) := Rat.intCast_pos.2 (zip n)
 refine ⟨N, fun K hK => ?_⟩
 have q := h K hK
 rw [Int.pow_add, Rat.intCast_mul, Rat.intCast_mul, Rat.intCast_mul]
 have m1 := Rat.mul_le_mul_of_nonneg_right q.1 (Rat.le_of_lt P)
 have m2 := Rat.mul_le_mul_of_nonneg_right q.2 (Rat.le_of_lt P)
 constructor <;> grind
theorem EnE.meet {f : Nat → Rat} {s n : Nat} {a b c d : Int} {g g' : Rat} (h : EnE f s a b g) (k : EnE f (s + n) c d g') (hg : g * ((2 ^ n : Int) : Rat) + g' < 1) : a * 2 ^ n ≤ d ∧ c ≤ b * 2 ^ n :=
 ⟨h.scale.le k (Lq.refl f) hg, k.le h.scale (Lq.refl f) (by grind)⟩
theorem EnE.of_lim {f f' : Nat → Rat} {s : Nat} {lo hi : Int} {g : Rat} (h : EnE f s lo hi 0) (hl : Lm f f') (g0 : 0 < g) : EnE f' s lo hi g := by
 have P : (0 : Rat) < ((2 ^ s : Int) : Rat) := Rat.intCast_pos.2 (zip s)
 have i0 := Rat.inv_pos.2 P
 have ie := ztt P
 obtain ⟨N1, h1⟩ := hl.1 (g * (((2 ^ s : Int) : Rat))⁻¹) (Rat.mul_pos g0 i0)
 obtain ⟨N2, h2⟩ := hl.2 (g * (((2 ^ s : Int) : Rat))⁻¹) (Rat.mul_pos g0 i0)
 have r := h.near (f' := f') (e := g * (((2 ^ s : Int) : Rat))⁻¹) ⟨N1 + N2, fun K hK => ⟨h1 K (by omega), h2 K (by omega)⟩⟩
 rw [Rat.mul_assoc, ie, Rat.mul_one] at r
 exact r.mono (by grind)
theorem zux (x : Rat) : ∀ n, tE (-x) n = tE x n ∨ tE (-x) n = -(tE x n)
 | 0 => .inl rfl
 | n + 1 => by
  have e1 : tE (-x) (n + 1) = tE (-x) n * -x / (nx n : Rat) := rfl
  have e2 : tE x (n + 1) = tE x n * x / (nx n : Rat) := rfl
  rcases zux x n with h | h
  ·right; rw [e1, e2, h, Rat.div_def, Rat.div_def]; grind
  ·left; rw [e1, e2, h, Rat.div_def, Rat.div_def]; grind
theorem zuy (x : Rat) : ∃ a, (0 ≤ a ∧ -a ≤ x ∧ x ≤ a) ∧ (a = x ∨ a = -x) := by
 rcases (Rat.le_total : 0 ≤ x ∨ x ≤ 0) with h | h
 ·exact ⟨x, ⟨h, by grind, Rat.le_refl⟩, .inl rfl⟩
 ·exact ⟨-x, ⟨by grind, by grind, by grind⟩, .inr rfl⟩
theorem zuz {x : Rat} (h1 : -1 ≤ 2 * x) (h2 : 2 * x ≤ 1) {n K : Nat} {t : Rat} (l1 : -t ≤ tE x n) (l2 : tE x n ≤ t) (hK : n + 1 ≤ K) : EP x (n + 1) - t ≤ EP x K ∧ EP x K ≤ EP x (n + 1) + t := by
 obtain ⟨a, ⟨a0, a1, a2⟩, ha⟩ := zuy x
 have t1 : tE a n ≤ t := by
  rcases ha with e | e
  ·rw [e]; exact l2
  ·rw [e]
   rcases zux x n with q | q
   ·rw [q]; exact l2
   ·rw [q]; grind
 have u : 2 * a ≤ 1 := by
  rcases ha with e | e
  ·rw [e]; exact h2
  ·rw [e]; grind
 have tl := zrw a0 (n := n) (Rat.le_trans u (show (1 : Rat) ≤ (nx n : Rat) from zrv (a := 0) (by omega))) K
 have g := ztx a1 a2 (n + 1) (K - (n + 1))
 rw [show n + 1 + (K - (n + 1)) = K by omega] at g
 constructor <;> grind
def saR (p : Nat → Int) : Nat → Int
 | 0 => p 0
 | j + 1 => saR p j + p (j + 1)
def reLo (T y1 y2 : Int) (j : Nat) : Int := (rE T y1 y2 j).1
def reHi (T y1 y2 : Int) (j : Nat) : Int := (rE T y1 y2 j).2
theorem zv0 {T y1 y2 : Int} {x : Rat} (hT : 0 < T) (e1 : (y1 : Rat) ≤ x * T) (e2 : x * T ≤ (y2 : Rat)) (n : Nat) : ((saR (reLo T y1 y2) n : Int) : Rat) ≤ EP x (n + 1) * T ∧ EP x (n + 1) * T ≤ ((saR (reHi T y1 y2) n : Int) : Rat) :=
 ⟨zrz (p := reLo T y1 y2) (s := saR (reLo T y1 y2)) (n := n) rfl (fun _ _ => rfl) (fun j _ => (zus hT e1 e2 j).1) n (Nat.le_refl _), zs0 (p := reHi T y1 y2) (s := saR (reHi T y1 y2)) (n := n) rfl (fun _ _ => rfl) (fun j _ => (zus hT e1 e2 j).2) n (Nat.le_refl _)⟩
theorem zv1 {T y1 y2 : Int} {x : Rat} {n : Nat} (hT : 0 < T) (e1 : (y1 : Rat) ≤ x * T) (e2 : x * T ≤ (y2 : Rat)) (x1 : -1 ≤ 2 * x) (x2 : 2 * x ≤ 1) (n1 : (reLo T y1 y2 n).natAbs ≤ 1) (n2 : (reHi T y1 y2 n).natAbs ≤ 1) {K : Nat} (hK : n + 1 ≤ K) :
  ((saR (reLo T y1 y2) n - 3 : Int) : Rat) ≤ EP x K * T ∧ EP x K * T ≤ ((saR (reHi T y1 y2) n + 3 : Int) : Rat) := by
 have s := zv0 hT e1 e2 n
 have T0 : (0 : Rat) < (T : Rat) := Rat.intCast_pos.2 hT
 have l := zus hT e1 e2 n
 have h1 : ((-1 : Int) : Rat) ≤ ((reLo T y1 y2 n : Int) : Rat) := Rat.intCast_le_intCast.2 (by omega)
 have h2 : ((reHi T y1 y2 n : Int) : Rat) ≤ ((1 : Int) : Rat) := Rat.intCast_le_intCast.2 (by omega)
 rw [show ((-1 : Int) : Rat) = -1 from rfl] at h1
 rw [show ((1 : Int) : Rat) = 1 from rfl] at h2
 have l1 : ((reLo T y1 y2 n : Int) : Rat) ≤ tE x n * T := l.1
 have l2 : tE x n * T ≤ ((reHi T y1 y2 n : Int) : Rat) := l.2
 have ie := ztt T0
 have b1 : -(T : Rat)⁻¹ ≤ tE x n := Rat.le_of_mul_le_mul_right (c := (T : Rat)) (by rw [Rat.neg_mul, ie]; grind) T0
 have b2 : tE x n ≤ (T : Rat)⁻¹ := Rat.le_of_mul_le_mul_right (c := (T : Rat)) (by rw [ie]; grind) T0
 have t := zuz x1 x2 b1 b2 hK
 have m1 := Rat.mul_le_mul_of_nonneg_right t.1 (Rat.le_of_lt T0)
 have m2 := Rat.mul_le_mul_of_nonneg_right t.2 (Rat.le_of_lt T0)
 rw [Rat.intCast_sub, Rat.intCast_add, show ((3 : Int) : Rat) = 3 from rfl]
 constructor <;> grind
def rQ (T a b : Int) : Nat → Int × Int
 | 0 => (a, b)
 | i + 1 => (rm1 (rQ T a b i).1 (rQ T a b i).2 (rQ T a b i).1 (rQ T a b i).2 T, rm2 (rQ T a b i).1 (rQ T a b i).2 (rQ T a b i).1 (rQ T a b i).2 T)
def sqn (u : Rat) : Nat → Rat
 | 0 => u
 | i + 1 => sqn u i * sqn u i
theorem zv2 {T a b : Int} {u : Rat} (hT : 0 < T) (h1 : (a : Rat) ≤ u * T) (h2 : u * T ≤ (b : Rat)) : ∀ i, (((rQ T a b i).1 : Int) : Rat) ≤ sqn u i * T ∧ sqn u i * T ≤ (((rQ T a b i).2 : Int) : Rat)
 | 0 => ⟨h1, h2⟩
 | i + 1 => by
  have a := zv2 hT h1 h2 i
  exact zq1 hT a.1 a.2 a.1 a.2
theorem zv3 {a b : Int} {v : Nat} (h1 : a.natAbs ≤ 4 * 2 ^ v) (h2 : b.natAbs ≤ 4 * 2 ^ v) : ∀ i, (rQ (2 ^ v) a b i).1.natAbs ≤ 2 ^ (2 * 2 ^ i + v) ∧ (rQ (2 ^ v) a b i).2.natAbs ≤ 2 ^ (2 * 2 ^ i + v)
 | 0 => by
  have e : 2 ^ (2 * 2 ^ 0 + v) = 4 * 2 ^ v := by rw [Nat.pow_add]
  rw [e]; exact ⟨h1, h2⟩
 | i + 1 => by
  have p := zv3 h1 h2 i
  refine zq2 (C := 2 ^ (2 * 2 ^ (i + 1) + v)) (B := 2 ^ (2 * 2 ^ i + v)) (S := 2 ^ (2 * 2 ^ i + v)) (zip v) p.1 p.2 p.1 p.2 ?_
  rw [zq3, ← Nat.pow_add, ← Nat.pow_add]
  refine Nat.pow_le_pow_right (by omega) ?_
  rw [Nat.pow_succ]; omega
theorem zv4 (x : Rat) : ∀ h, Lm (fun K => sqn (EP x K) h) (EP (dbl x h))
 | 0 => Lm.refl _
 | h + 1 => by
  have i := zv4 x h
  obtain ⟨B, _, hB⟩ := zu8 (dbl x h)
  have a := zu9 (dbl x h) (dbl x h)
  have b := Lm.mul i.symm i.symm hB hB
  exact (a.trans b).symm
theorem zv5 {v : Nat} {y1 y2 : Int} (h1 : 8 * y1.natAbs ≤ 2 ^ v) (h2 : 8 * y2.natAbs ≤ 2 ^ v) : ∀ n, n ≤ v → (saR (reLo (2 ^ v) y1 y2) n).natAbs + 2 ^ (v - n) ≤ 2 * 2 ^ v ∧ (saR (reHi (2 ^ v) y1 y2) n).natAbs + 2 ^ (v - n) ≤ 2 * 2 ^ v
 | 0, _ => by
  have a := zuu h1 h2 0 (Nat.zero_le _)
  have e1 : saR (reLo (2 ^ v) y1 y2) 0 = (rE (2 ^ v) y1 y2 0).1 := rfl
  have e2 : saR (reHi (2 ^ v) y1 y2) 0 = (rE (2 ^ v) y1 y2 0).2 := rfl
  rw [e1, e2]
  rw [Nat.sub_zero] at a ⊢
  omega
 | n + 1, hn => by
  have i := zv5 h1 h2 n (by omega)
  have a := zuu h1 h2 (n + 1) hn
  have p : 2 ^ (v - n) = 2 * 2 ^ (v - (n + 1)) := by rw [show v - n = (v - (n + 1)) + 1 by omega, Nat.pow_succ, Nat.mul_comm]
  have e1 : saR (reLo (2 ^ v) y1 y2) (n + 1) = saR (reLo (2 ^ v) y1 y2) n + (rE (2 ^ v) y1 y2 (n + 1)).1 := rfl
  have e2 : saR (reHi (2 ^ v) y1 y2) (n + 1) = saR (reHi (2 ^ v) y1 y2) n + (rE (2 ^ v) y1 y2 (n + 1)).2 := rfl
  rw [e1, e2]
  omega
theorem zv6 {x : Rat} {v s n h g : Nat} {y1 y2 : Int} (hv : v = s + g) (e1 : (y1 : Rat) ≤ x * ((2 ^ v : Int) : Rat)) (e2 : x * ((2 ^ v : Int) : Rat) ≤ (y2 : Rat)) (x1 : -1 ≤ 2 * x) (x2 : 2 * x ≤ 1) (n1 : (reLo (2 ^ v) y1 y2 n).natAbs ≤ 1) (n2 : (reHi (2 ^ v) y1 y2 n).natAbs ≤ 1) {e : Rat} (he : 0 < e) :
  EnE (EP (dbl x h)) s ((rQ (2 ^ v) (saR (reLo (2 ^ v) y1 y2) n - 3) (saR (reHi (2 ^ v) y1 y2) n + 3) h).1 / 2 ^ g) (-(-((rQ (2 ^ v) (saR (reLo (2 ^ v) y1 y2) n - 3) (saR (reHi (2 ^ v) y1 y2) n + 3) h).2) / 2 ^ g)) e := by
 refine EnE.of_lim (f := fun K => sqn (EP x K) h) ?_ (zv4 x h) he
 refine ⟨n + 1, fun K hK => ?_⟩
 have w := zv1 (zip v) e1 e2 x1 x2 n1 n2 hK
 have q := zv2 (zip v) w.1 w.2 h
 have r := zq7 hv q.1 q.2
 constructor <;> grind
end Go.Proofs.YtcbihoojfakhdaaGreatDoor

namespace Go.Proofs.YtcbihoojfakhdaaGreatDoor
theorem zv7 {a b c d T W : Int} (hT : 0 < T) (hab : a ≤ b) (hcd : c ≤ d) (ha : a.natAbs ≤ T.toNat) (hb : b.natAbs ≤ T.toNat) (hc : 8 * c.natAbs ≤ T.toNat) (hd : 8 * d.natAbs ≤ T.toNat) (w1 : b - a ≤ 3) (w2 : d - c ≤ 1) : rm2 a b c d T - rm1 a b c d T ≤ 3 := by
 have key : ∀ {x x' y y' : Int}, x.natAbs ≤ T.toNat → 8 * y'.natAbs ≤ T.toNat → (x - x').natAbs ≤ 3 → (y - y').natAbs ≤ 1 → 8 * (x * y - x' * y') ≤ 11 * T := by
  intro x x' y y' hx hy h3 h1
  have e : x * y - x' * y' = x * (y - y') + (x - x') * y' := by rw [Int.mul_sub, Int.sub_mul]; omega
  have m1 := Nat.mul_le_mul hx h1
  rw [← Int.natAbs_mul] at m1
  have m2 := Nat.mul_le_mul h3 (Nat.le_refl y'.natAbs)
  rw [← Int.natAbs_mul] at m2
  rw [e]
  omega
 have s0 : (a - a).natAbs ≤ 3 := by omega
 have s1 : (a - b).natAbs ≤ 3 := by omega
 have s2 : (b - a).natAbs ≤ 3 := by omega
 have s3 : (b - b).natAbs ≤ 3 := by omega
 have t0 : (c - c).natAbs ≤ 1 := by omega
 have t1 : (c - d).natAbs ≤ 1 := by omega
 have t2 : (d - c).natAbs ≤ 1 := by omega
 have t3 : (d - d).natAbs ≤ 1 := by omega
 have pick1 : mx4 a b c d = a * c ∨ mx4 a b c d = a * d ∨ mx4 a b c d = b * c ∨ mx4 a b c d = b * d := by unfold mx4; omega
 have pick2 : mn4 a b c d = a * c ∨ mn4 a b c d = a * d ∨ mn4 a b c d = b * c ∨ mn4 a b c d = b * d := by unfold mn4; omega
 have D : 8 * (mx4 a b c d - mn4 a b c d) ≤ 11 * T := by
  rcases pick1 with h | h | h | h <;> rcases pick2 with k | k | k | k <;> rw [h, k]
  ·exact key ha hc s0 t0
  ·exact key ha hd s0 t1
  ·exact key ha hc s1 t0
  ·exact key ha hd s1 t1
  ·exact key ha hc s0 t2
  ·exact key ha hd s0 t3
  ·exact key ha hc s1 t2
  ·exact key ha hd s1 t3
  ·exact key hb hc s2 t0
  ·exact key hb hd s2 t1
  ·exact key hb hc s3 t0
  ·exact key hb hd s3 t1
  ·exact key hb hc s2 t2
  ·exact key hb hd s2 t3
  ·exact key hb hc s3 t2
  ·exact key hb hd s3 t3
 unfold rm1 rm2
 have f1 := Int.lt_ediv_add_one_mul_self (mn4 a b c d) hT
 have f2 := Int.lt_ediv_add_one_mul_self (-(mx4 a b c d)) hT
 generalize mn4 a b c d / T = q1 at *
 generalize -(mx4 a b c d) / T = q2 at *
 refine Decidable.byContradiction fun hn => ?_
 have m := Int.mul_le_mul_of_nonneg_right (show 4 ≤ -q2 - q1 by omega) (Int.le_of_lt hT)
 rw [Int.sub_mul, Int.neg_mul] at m
 rw [Int.add_mul, Int.one_mul] at f1 f2
 omega
theorem zv8 {a b n : Int} (hn : 0 < n) (hab : a ≤ b) (w : b - a ≤ 3) : ovHi a b n - ovLo a b n ≤ 3 ∧ ovLo a b n ≤ ovHi a b n := by
 unfold ovLo ovHi
 rw [show min a b = a by omega, show max a b = b by omega, Int.fdiv_eq_ediv_of_nonneg _ (Int.le_of_lt hn), Int.fdiv_eq_ediv_of_nonneg _ (Int.le_of_lt hn)]
 have f1 := Int.lt_ediv_add_one_mul_self a hn
 have f2 := Int.lt_ediv_add_one_mul_self (-b) hn
 have g1 := Int.ediv_mul_le a (show n ≠ 0 by omega)
 have g2 := Int.ediv_mul_le (-b) (show n ≠ 0 by omega)
 generalize a / n = q1 at *
 generalize -b / n = q2 at *
 rw [Int.add_mul, Int.one_mul] at f1 f2
 constructor
 ·refine Decidable.byContradiction fun h => ?_
  have m := Int.mul_le_mul_of_nonneg_right (show 4 ≤ -q2 - q1 by omega) (Int.le_of_lt hn)
  rw [Int.sub_mul, Int.neg_mul] at m
  omega
 ·refine Decidable.byContradiction fun h => ?_
  have m := Int.mul_le_mul_of_nonneg_right (show 1 ≤ q1 + q2 by omega) (Int.le_of_lt hn)
  rw [Int.add_mul] at m
  omega
theorem zv9 {a b c d T : Int} (hT : 0 < T) : rm1 a b c d T ≤ rm2 a b c d T := by
 have h : mn4 a b c d ≤ mx4 a b c d := Int.le_trans (zpx a b c d).1 (zpy a b c d).1
 unfold rm1 rm2
 have g1 := Int.ediv_mul_le (mn4 a b c d) (show T ≠ 0 by omega)
 have g2 := Int.ediv_mul_le (-(mx4 a b c d)) (show T ≠ 0 by omega)
 generalize mn4 a b c d / T = q1 at *
 generalize -(mx4 a b c d) / T = q2 at *
 refine Decidable.byContradiction fun hn => ?_
 have m := Int.mul_le_mul_of_nonneg_right (show 1 ≤ q1 + q2 by omega) (Int.le_of_lt hT)
 rw [Int.add_mul] at m
 omega
theorem zva {v : Nat} {y1 y2 : Int} (h1 : 8 * y1.natAbs ≤ 2 ^ v) (h2 : 8 * y2.natAbs ≤ 2 ^ v) (hy : y1 ≤ y2) (hw : y2 - y1 ≤ 1) : ∀ j, j ≤ v → (rE (2 ^ v) y1 y2 j).2 - (rE (2 ^ v) y1 y2 j).1 ≤ 3 ∧ (rE (2 ^ v) y1 y2 j).1 ≤ (rE (2 ^ v) y1 y2 j).2
 | 0, _ => by
  show (2 : Int) ^ v - 2 ^ v ≤ 3 ∧ (2 : Int) ^ v ≤ 2 ^ v
  omega
 | j + 1, hj => by
  have i := zva h1 h2 hy hw j (by omega)
  have a := zuu h1 h2 j (by omega)
  have p : 2 ^ (v - j) ≤ 2 ^ v := Nat.pow_le_pow_right (by omega) (by omega)
  have r := zv7 (W := 0) (zip v) i.2 hy (by rw [zq3]; exact Nat.le_trans a.1 p) (by rw [zq3]; exact Nat.le_trans a.2 p) (by rw [zq3]; exact h1) (by rw [zq3]; exact h2) i.1 hw
  exact zv8 (by omega) (zv9 (zip v)) r
theorem zvb {v : Nat} {y1 y2 : Int} (h1 : 8 * y1.natAbs ≤ 2 ^ v) (h2 : 8 * y2.natAbs ≤ 2 ^ v) (hy : y1 ≤ y2) (hw : y2 - y1 ≤ 1) : ∀ n, n ≤ v → saR (reHi (2 ^ v) y1 y2) n - saR (reLo (2 ^ v) y1 y2) n ≤ 3 * ((n : Int) + 1)
 | 0, _ => by
  have a := zva h1 h2 hy hw 0 (Nat.zero_le _)
  show (rE (2 ^ v) y1 y2 0).2 - (rE (2 ^ v) y1 y2 0).1 ≤ 3 * (((0 : Nat) : Int) + 1)
  omega
 | n + 1, hn => by
  have i := zvb h1 h2 hy hw n (by omega)
  have a := zva h1 h2 hy hw (n + 1) hn
  have e1 : saR (reLo (2 ^ v) y1 y2) (n + 1) = saR (reLo (2 ^ v) y1 y2) n + (rE (2 ^ v) y1 y2 (n + 1)).1 := rfl
  have e2 : saR (reHi (2 ^ v) y1 y2) (n + 1) = saR (reHi (2 ^ v) y1 y2) n + (rE (2 ^ v) y1 y2 (n + 1)).2 := rfl
  rw [e1, e2]
  omega
theorem zvc {v n : Nat} {y1 y2 : Int} {x : Rat} (h1 : 8 * y1.natAbs ≤ 2 ^ v) (h2 : 8 * y2.natAbs ≤ 2 ^ v) (hy : y1 ≤ y2) (hw : y2 - y1 ≤ 1) (e1 : (y1 : Rat) ≤ x * ((2 ^ v : Int) : Rat)) (e2 : x * ((2 ^ v : Int) : Rat) ≤ (y2 : Rat)) (x1 : -1 ≤ 2 * x) (x0 : x ≤ 0) (n1 : (reLo (2 ^ v) y1 y2 n).natAbs ≤ 1) (n2 : (reHi (2 ^ v) y1 y2 n).natAbs ≤ 1) (hn : n ≤ v) :
  (saR (reLo (2 ^ v) y1 y2) n - 3).natAbs ≤ 2 ^ v + (3 * n + 16) ∧ (saR (reHi (2 ^ v) y1 y2) n + 3).natAbs ≤ 2 ^ v + (3 * n + 16) := by
 have w := zvb h1 h2 hy hw n hn
 have T0 : (0 : Rat) < ((2 ^ v : Int) : Rat) := Rat.intCast_pos.2 (zip v)
 have i0 := Rat.inv_pos.2 T0
 have ie := ztt T0
 obtain ⟨N1, a⟩ := zud x0 _ i0
 obtain ⟨p, p0, N2, b⟩ := zuc x
 have r := zv1 (zip v) e1 e2 x1 (by grind) n1 n2 (K := N1 + N2 + n + 1) (by omega)
 have a := a (N1 + N2 + n + 1) (by omega)
 have b := b (N1 + N2 + n + 1) (by omega)
 rw [zua _ (by omega)] at a
 have m1 := Rat.mul_le_mul_of_nonneg_right a (Rat.le_of_lt T0)
 have m2 := Rat.mul_nonneg (show 0 ≤ EP x (N1 + N2 + n + 1) by grind) (Rat.le_of_lt T0)
 have u1 : saR (reLo (2 ^ v) y1 y2) n - 3 ≤ 2 ^ v + 1 := by
  refine Rat.intCast_le_intCast.1 ?_
  rw [Rat.intCast_add]
  show _ ≤ _ + (1 : Rat)
  have : (1 + (((2 ^ v : Int) : Rat))⁻¹) * ((2 ^ v : Int) : Rat) = ((2 ^ v : Int) : Rat) + 1 := by rw [Rat.add_mul, ie, Rat.one_mul]
  rw [this] at m1
  exact Rat.le_trans r.1 m1
 have u2 : 0 ≤ saR (reHi (2 ^ v) y1 y2) n + 3 := by
  refine Rat.intCast_le_intCast.1 ?_
  exact Rat.le_trans m2 r.2
 have pn : ((2 ^ v : Nat) : Int) = (2 : Int) ^ v := (zb2 _).symm
 omega
theorem zvd {a b : Int} {v c h : Nat} (h1 : a.natAbs ≤ 2 ^ v + c) (h2 : b.natAbs ≤ 2 ^ v + c) (hc : ((c + 1) * 2 ^ h) * ((c + 1) * 2 ^ h) ≤ 2 ^ v) : ∀ i, i ≤ h → (rQ (2 ^ v) a b i).1.natAbs + 1 ≤ 2 ^ v + (c + 1) * 2 ^ i ∧ (rQ (2 ^ v) a b i).2.natAbs + 1 ≤ 2 ^ v + (c + 1) * 2 ^ i
 | 0, _ => by
  rw [Nat.pow_zero, Nat.mul_one]
  have e1 : (rQ (2 ^ v) a b 0).1 = a := rfl
  have e2 : (rQ (2 ^ v) a b 0).2 = b := rfl
  rw [e1, e2]; omega
 | i + 1, hi => by
  have p := zvd h1 h2 hc i (by omega)
  have pw : 2 ^ i ≤ 2 ^ h := Nat.pow_le_pow_right (by omega) (by omega)
  have le := Nat.mul_le_mul_left (c + 1) pw
  have sq := Nat.mul_le_mul le le
  have e2 : (c + 1) * 2 ^ (i + 1) = 2 * ((c + 1) * 2 ^ i) := by rw [Nat.pow_succ]; rw [← Nat.mul_assoc]; omega
  have e1 : 1 ≤ (c + 1) * 2 ^ i := Nat.mul_pos (by omega) (Nat.pow_pos (by omega))
  generalize (c + 1) * 2 ^ i = g at *
  generalize (c + 1) * 2 ^ h = G at *
  have r := zq2 (c := (rQ (2 ^ v) a b i).1) (d := (rQ (2 ^ v) a b i).2) (C := 2 ^ v + 2 * g - 1) (B := 2 ^ v + g - 1) (S := 2 ^ v + g - 1) (zip v) (a := (rQ (2 ^ v) a b i).1) (b := (rQ (2 ^ v) a b i).2) (by omega) (by omega) (by omega) (by omega) (by
   rw [zq3]
   generalize 2 ^ v = T at *
   obtain ⟨u, rfl⟩ : ∃ u, g = u + 1 := ⟨g - 1, by omega⟩
   rw [show T + (u + 1) - 1 = T + u by omega, show T + 2 * (u + 1) - 1 = T + 2 * u + 1 by omega]
   have s : (T + u) * (T + u) = T * T + 2 * (u * T) + u * u := by grind
   have s2 : (T + 2 * u + 1) * T = T * T + 2 * (u * T) + T := by grind
   have s3 : u * u ≤ (u + 1) * (u + 1) := Nat.mul_le_mul (by omega) (by omega)
   rw [s, s2]; omega)
  rw [e2]
  have q1 : (rQ (2 ^ v) a b (i + 1)).1.natAbs ≤ 2 ^ v + 2 * g - 1 := r.1
  have q2 : (rQ (2 ^ v) a b (i + 1)).2.natAbs ≤ 2 ^ v + 2 * g - 1 := r.2
  omega
end Go.Proofs.YtcbihoojfakhdaaGreatDoor

namespace Go.Proofs.YtcbihoojfakhdaaGreatDoor
open Go.RowKit
set_option maxRecDepth 100000
set_option maxHeartbeats 2000000
theorem zve (p : Nat → Int) : ∀ j, saS p j = saR p j
 | 0 => rfl
 | j + 1 => by show saS p j + p (j + 1) = saR p j + p (j + 1); rw [zve p j]
def mlo (T y1 y2 : Int) (j : Nat) : Int := rm1 (reLo T y1 y2 j) (reHi T y1 y2 j) y1 y2 T
def mhi (T y1 y2 : Int) (j : Nat) : Int := rm2 (reLo T y1 y2 j) (reHi T y1 y2 j) y1 y2 T
def qlo (T a b : Int) (i : Nat) : Int := (rQ T a b i).1
def qhi (T a b : Int) (i : Nat) : Int := (rQ T a b i).2
theorem zvf {vv : Nat} {v xa xb : Int} (vn : v.toNat = vv) (v0 : 0 ≤ v) (hV : 3 ≤ vv ∧ vv ≤ 1400) (h1 : 8 * xa.natAbs ≤ 2 ^ vv) (h2 : 8 * xb.natAbs ≤ 2 ^ vv) :
  ∃ nn : Nat, ((reLo (2 ^ vv) xa xb nn).natAbs ≤ 1 ∧ (reHi (2 ^ vv) xa xb nn).natAbs ≤ 1) ∧ nn ≤ vv ∧ (∀ j, j ≤ nn → Impl Tryz.prog Amb 74 [(.agg [(.bool (decide ((reLo (2 ^ vv) xa xb j) < 0))), (N ((reLo (2 ^ vv) xa xb j).natAbs)), (.bool (decide ((reHi (2 ^ vv) xa xb j) < 0))), (N ((reHi (2 ^ vv) xa xb j).natAbs))])] (.bool (decide (nn ≤ j)))) ∧ (∀ j, j < nn → Impl Tryz.prog Amb 75 [(.agg [(.bool (decide ((reLo (2 ^ vv) xa xb j) < 0))), (N ((reLo (2 ^ vv) xa xb j).natAbs)), (.bool (decide ((reHi (2 ^ vv) xa xb j) < 0))), (N ((reHi (2 ^ vv) xa xb j).natAbs))]), (.agg [(.bool (decide (xa < 0))), (N xa.natAbs), (.bool (decide (xb < 0))), (N xb.natAbs)]), (.int .i64 v)] (.agg [(.bool (decide ((mlo (2 ^ vv) xa xb j) < 0))), (N ((mlo (2 ^ vv) xa xb j).natAbs)), (.bool (decide ((mhi (2 ^ vv) xa xb j) < 0))), (N ((mhi (2 ^ vv) xa xb j).natAbs))])) ∧ (∀ (j : Nat) (kk : Int), j < nn → kk = (j : Int) + 1 → Impl Tryz.prog Amb 29 [(.agg [(.bool (decide ((mlo (2 ^ vv) xa xb j) < 0))), (N ((mlo (2 ^ vv) xa xb j).natAbs)), (.bool (decide ((mhi (2 ^ vv) xa xb j) < 0))), (N ((mhi (2 ^ vv) xa xb j).natAbs))]), (.int .i64 kk)] (.agg [(.bool (decide ((reLo (2 ^ vv) xa xb (j + 1)) < 0))), (N ((reLo (2 ^ vv) xa xb (j + 1)).natAbs)), (.bool (decide ((reHi (2 ^ vv) xa xb (j + 1)) < 0))), (N ((reHi (2 ^ vv) xa xb (j + 1)).natAbs))])) ∧ (∀ j, j < nn → Impl Tryz.prog Amb 47 [(.agg [(.bool (decide ((saS (reLo (2 ^ vv) xa xb) j) < 0))), (N ((saS (reLo (2 ^ vv) xa xb) j).natAbs)), (.bool (decide ((saS (reHi (2 ^ vv) xa xb) j) < 0))), (N ((saS (reHi (2 ^ vv) xa xb) j).natAbs))]), (.agg [(.bool (decide ((reLo (2 ^ vv) xa xb (j + 1)) < 0))), (N ((reLo (2 ^ vv) xa xb (j + 1)).natAbs)), (.bool (decide ((reHi (2 ^ vv) xa xb (j + 1)) < 0))), (N ((reHi (2 ^ vv) xa xb (j + 1)).natAbs))])] (.agg [(.bool (decide ((saS (reLo (2 ^ vv) xa xb) (j + 1)) < 0))), (N ((saS (reLo (2 ^ vv) xa xb) (j + 1)).natAbs)), (.bool (decide ((saS (reHi (2 ^ vv) xa xb) (j + 1)) < 0))), (N ((saS (reHi (2 ^ vv) xa xb) (j + 1)).natAbs))])) ∧ (nn ≤ 10000) ∧ Impl Tryz.prog Amb 76 [(.agg [(.bool (decide ((saS (reLo (2 ^ vv) xa xb) nn) < 0))), (N ((saS (reLo (2 ^ vv) xa xb) nn).natAbs)), (.bool (decide ((saS (reHi (2 ^ vv) xa xb) nn) < 0))), (N ((saS (reHi (2 ^ vv) xa xb) nn).natAbs))]), (.int .i64 3)] (.agg [(.bool (decide ((saR (reLo (2 ^ vv) xa xb) nn - 3) < 0))), (N ((saR (reLo (2 ^ vv) xa xb) nn - 3).natAbs)), (.bool (decide ((saR (reHi (2 ^ vv) xa xb) nn + 3) < 0))), (N ((saR (reHi (2 ^ vv) xa xb) nn + 3).natAbs))]) := by
 obtain ⟨nn, n1, n2, n3⟩ := zuv h1 h2
 have pa : ∀ j, j ≤ nn → (reLo (2 ^ vv) xa xb j).natAbs ≤ 1 * 2 ^ vv ∧ (reHi (2 ^ vv) xa xb j).natAbs ≤ 1 * 2 ^ vv := fun j hj => by
  have a := zuu h1 h2 j oO
  have b : 2 ^ (vv - j) ≤ 1 * 2 ^ vv := by rw [Nat.one_mul]; exact Nat.pow_le_pow_right oO oO
  exact ⟨Nat.le_trans a.1 b, Nat.le_trans a.2 b⟩
 have pl : ∀ j, j ≤ nn → L (reLo (2 ^ vv) xa xb j).natAbs ≤ 70 ∧ L (reHi (2 ^ vv) xa xb j).natAbs ≤ 70 := fun j hj => by
  have a := pa j hj
  exact ⟨zta (t := vv) (c := 1) a.1 oO oO, zta (t := vv) (c := 1) a.2 oO oO⟩
 have ml : ∀ j, j ≤ nn → L (mlo (2 ^ vv) xa xb j).natAbs ≤ 70 ∧ L (mhi (2 ^ vv) xa xb j).natAbs ≤ 70 := fun j hj => by
  have a := pa j hj
  have r := zq2 (c := xa) (d := xb) (C := 1 * 2 ^ vv) (B := 1 * 2 ^ vv) (S := 2 ^ vv) (zip vv) a.1 a.2 oO oO (Nat.le_of_eq (by rw [zq3]))
  exact ⟨zta (t := vv) (c := 1) r.1 oO oO, zta (t := vv) (c := 1) r.2 oO oO⟩
 have xl : L xa.natAbs ≤ 70 ∧ L xb.natAbs ≤ 70 := ⟨zta (t := vv) (c := 1) oO oO oO, zta (t := vv) (c := 1) oO oO oO⟩
 have sl : ∀ j, j ≤ nn → L (saS (reLo (2 ^ vv) xa xb) j).natAbs ≤ 70 ∧ L (saS (reHi (2 ^ vv) xa xb) j).natAbs ≤ 70 := fun j hj => by
  have a := zv5 h1 h2 j oO
  have p := Nat.pow_pos (n := vv - j) (show 0 < 2 by omega)
  rw [zve, zve]
  exact ⟨zta (t := vv) (c := 2) oO oO oO, zta (t := vv) (c := 2) oO oO oO⟩
 refine ⟨nn, n2, n1, fun j hj => ?_, fun j hj => ?_, fun j kk hj hq => ?_, fun j hj => ?_, by omega, ?_⟩
 ·have a := pl j hj
  refine zpe (congrArg V.bool (decide_eq_decide.2 ?_)) (zkh (reLo (2 ^ vv) xa xb j) (reHi (2 ^ vv) xa xb j) oO oO)
  constructor
  ·intro q
   exact Decidable.byContradiction fun hn => n3 j oO q
  ·intro q
   rw [show j = nn by omega]; exact n2
 ·have a := pl j oO
  have h := zqt (reLo (2 ^ vv) xa xb j) (reHi (2 ^ vv) xa xb j) xa xb v oO oO oO oO oO
  rw [vn] at h
  exact h
 ·subst hq
  have a := ml j oO
  exact zkg (mlo (2 ^ vv) xa xb j) (mhi (2 ^ vv) xa xb j) ((j : Int) + 1) oO oO oO
 ·have a := sl j oO
  have b := pl (j + 1) oO
  exact zkf (saS (reLo (2 ^ vv) xa xb) j) (saS (reHi (2 ^ vv) xa xb) j) (reLo (2 ^ vv) xa xb (j + 1)) (reHi (2 ^ vv) xa xb (j + 1)) oO oO oO oO
 ·have a := sl nn (Nat.le_refl _)
  have h := zke (saS (reLo (2 ^ vv) xa xb) nn) (saS (reHi (2 ^ vv) xa xb) nn) 3 oO oO oO
  rw [← zve, ← zve]
  exact h
theorem zvg {a b c : Rat} (h : a < b) (k : b ≤ c) : a < c := by grind
theorem zvh {m e : Int} {H vv : Nat} (hV : 3 ≤ vv) (h : topD m e + 3 ≤ (H : Int)) (h3 : 3 ≤ H) : (-1 ≤ 8 * dv m (e - (H : Int)) ∧ 8 * dv m (e - (H : Int)) ≤ 1) ∧ 8 * (flr (dv m (e - (H : Int))) vv).natAbs ≤ 2 ^ vv ∧ 8 * (cei (dv m (e - (H : Int))) vv).natAbs ≤ 2 ^ vv := by
 have ab : -1 ≤ 8 * dv m (e - (H : Int)) ∧ 8 * dv m (e - (H : Int)) ≤ 1 := by
  by_cases hm : m = 0
  ·rw [hm, zn6]; constructor <;> grind
  ·have t := (zqx (e := e - (H : Int)) hm).1
   have tt : topD m (e - (H : Int)) = topD m e - (H : Int) := by unfold topD; rw [if_neg hm, if_neg hm]; omega
   have u : dv 1 (topD m (e - (H : Int))) ≤ dv 1 (-3) := by
    rw [zn3 (m := 1) (e := -3) (c := topD m (e - (H : Int))) oO, zn5, Int.one_mul]
    have := zip (-3 - topD m (e - (H : Int))).toNat
    omega
   have w : 8 * dv 1 (-3) = 1 := of_decide_eq_true (by kernel_rfl)
   have t2 := zvg t u
   clear t u tt
   generalize dv 1 (-3) = z at *
   rcases (show (m.natAbs : Int) = m ∨ (m.natAbs : Int) = -m by omega) with q | q
   ·have n0 : 0 ≤ dv m (e - (H : Int)) := zqw.2 oO
    rw [q] at t2
    clear q
    generalize dv m (e - (H : Int)) = y at *
    constructor <;> grind
   ·have n0 : 0 ≤ dv (-m) (e - (H : Int)) := zqw.2 oO
    rw [q] at t2
    rw [zn8] at t2 n0
    clear q
    generalize dv m (e - (H : Int)) = y at *
    constructor <;> grind
 generalize dv m (e - (H : Int)) = x at *
 have s1 := zpu x vv
 have s2 := zpv x vv
 have P : (0 : Rat) < ((2 ^ vv : Int) : Rat) := Rat.intCast_pos.2 (zip vv)
 have m1 := Rat.mul_le_mul_of_nonneg_right ab.1 (Rat.le_of_lt P)
 have m2 := Rat.mul_le_mul_of_nonneg_right ab.2 (Rat.le_of_lt P)
 have p8 : (2 : Int) ^ vv = 8 * 2 ^ (vv - 3) := by
  have : vv = 3 + (vv - 3) := by omega
  rw [this, Int.pow_add, show 3 + (vv - 3) - 3 = vv - 3 by omega]; rfl
 have pn : ((2 ^ vv : Nat) : Int) = (2 : Int) ^ vv := (zb2 _).symm
 have k1 : -(8 * 2 ^ (vv - 3)) < 8 * (flr x vv + 1) := by
  refine Rat.intCast_lt_intCast.1 ?_
  rw [← p8, Rat.intCast_neg, Rat.intCast_mul, Rat.intCast_add]
  show -((2 ^ vv : Int) : Rat) < 8 * (((flr x vv : Int) : Rat) + 1)
  grind
 have k2 : 8 * (cei x vv - 1) < 8 * 2 ^ (vv - 3) := by
  refine Rat.intCast_lt_intCast.1 ?_
  rw [← p8, Rat.intCast_mul, Rat.intCast_sub]
  show 8 * (((cei x vv : Int) : Rat) - 1) < ((2 ^ vv : Int) : Rat)
  grind
 have k3 := (zpw x vv).2
 refine ⟨ab, ?_, ?_⟩ <;> omega
def HC (H : Nat) (m : Int) (vv : Nat) : Prop := H ≤ 11 ∨ (H ≤ 14 ∧ m ≤ 0 ∧ 60 ≤ vv ∧ vv ≤ 600)
theorem zvi {vv H nn : Nat} {xa xb : Int} {x : Rat} (s1 : 8 * xa.natAbs ≤ 2 ^ vv) (s2 : 8 * xb.natAbs ≤ 2 ^ vv) (hy : xa ≤ xb) (hw : xb - xa ≤ 1) (e1 : (xa : Rat) ≤ x * ((2 ^ vv : Int) : Rat)) (e2 : x * ((2 ^ vv : Int) : Rat) ≤ (xb : Rat)) (x1 : -1 ≤ 2 * x) (x0 : x ≤ 0)
  (n1 : (reLo (2 ^ vv) xa xb nn).natAbs ≤ 1) (n2 : (reHi (2 ^ vv) xa xb nn).natAbs ≤ 1) (hn : nn ≤ vv) (h14 : H ≤ 14) (v60 : 60 ≤ vv) (v6 : vv ≤ 600) : ∀ i, i ≤ H → (rQ (2 ^ vv) (saR (reLo (2 ^ vv) xa xb) nn - 3) (saR (reHi (2 ^ vv) xa xb) nn + 3) i).1.natAbs < 2 ^ (vv + 1) ∧ (rQ (2 ^ vv) (saR (reLo (2 ^ vv) xa xb) nn - 3) (saR (reHi (2 ^ vv) xa xb) nn + 3) i).2.natAbs < 2 ^ (vv + 1) := fun i hi => by
 have sn := zvc s1 s2 hy hw e1 e2 x1 x0 n1 n2 hn
 have pH := Nat.pow_le_pow_right (n := 2) (show 0 < 2 by omega) h14
 have c1 := Nat.mul_le_mul (show 3 * nn + 16 + 1 ≤ 4096 by omega) pH
 have c2 := Nat.mul_le_mul c1 c1
 have c3 := Nat.pow_le_pow_right (n := 2) (show 0 < 2 by omega) v60
 have c4 : 4096 * 2 ^ 14 * (4096 * 2 ^ 14) ≤ 2 ^ 60 := by decide
 have r := zvd sn.1 sn.2 (h := H) (Nat.le_trans c2 (Nat.le_trans c4 c3)) i hi
 have c5 := Nat.mul_le_mul (show 3 * nn + 16 + 1 ≤ 4096 by omega) (Nat.pow_le_pow_right (n := 2) (show 0 < 2 by omega) (show i ≤ 14 by omega))
 have c6 : 4096 * 2 ^ 14 ≤ 2 ^ 60 := by decide
 have c7 : 2 ^ (vv + 1) = 2 * 2 ^ vv := by rw [Nat.pow_succ, Nat.mul_comm]
 clear sn c1 c2 c4 e1 e2 x1 x0 n1 n2 s1 s2 pH
 generalize (rQ (2 ^ vv) (saR (reLo (2 ^ vv) xa xb) nn - 3) (saR (reHi (2 ^ vv) xa xb) nn + 3) i).1.natAbs = z1 at *
 generalize (rQ (2 ^ vv) (saR (reLo (2 ^ vv) xa xb) nn - 3) (saR (reHi (2 ^ vv) xa xb) nn + 3) i).2.natAbs = z2 at *
 generalize (3 * nn + 16 + 1) * 2 ^ i = g at *
 rw [c7]
 generalize 2 ^ vv = T at *
 omega
theorem zvj (m e w v hv : Int) {vv H G : Nat} (vn : v.toNat = vv) (v0 : 0 ≤ v) (hn : (H : Int) = hv) (hG : vv = (w.toNat + 16) + G) (V1 : vv ≤ 1400) (hw : 0 ≤ w) (H3 : 3 ≤ H ∧ H ≤ 14) (hq : HC H m vv) (hL : L (m).natAbs ≤ 20) (he : -1000 ≤ e ∧ e ≤ 200) (ht : topD m e + 3 ≤ hv) :
  ∃ (ma mb xa xb a0 b0 ra rb : Int) (nn : Nat), (Impl Tryz.prog Amb 38 [(yV m e), (.int .i64 ((0 : Int) - hv))] (.tup [(yV ma mb), (.int .i64 0)])) ∧ (Impl Tryz.prog Amb 45 [(yV ma mb), (.int .i64 v)] (.agg [(.bool (decide (xa < 0))), (N xa.natAbs), (.bool (decide (xb < 0))), (N xb.natAbs)])) ∧ (Impl Tryz.prog Amb 73 [(.int .i64 1), (.int .i64 v)] (.agg [(.bool (decide ((reLo (2 ^ vv) xa xb 0) < 0))), (N ((reLo (2 ^ vv) xa xb 0).natAbs)), (.bool (decide ((reHi (2 ^ vv) xa xb 0) < 0))), (N ((reHi (2 ^ vv) xa xb 0).natAbs))])) ∧ (∀ j, j ≤ nn → Impl Tryz.prog Amb 74 [(.agg [(.bool (decide ((reLo (2 ^ vv) xa xb j) < 0))), (N ((reLo (2 ^ vv) xa xb j).natAbs)), (.bool (decide ((reHi (2 ^ vv) xa xb j) < 0))), (N ((reHi (2 ^ vv) xa xb j).natAbs))])] (.bool (decide (nn ≤ j)))) ∧ (∀ j, j < nn → Impl Tryz.prog Amb 75 [(.agg [(.bool (decide ((reLo (2 ^ vv) xa xb j) < 0))), (N ((reLo (2 ^ vv) xa xb j).natAbs)), (.bool (decide ((reHi (2 ^ vv) xa xb j) < 0))), (N ((reHi (2 ^ vv) xa xb j).natAbs))]), (.agg [(.bool (decide (xa < 0))), (N xa.natAbs), (.bool (decide (xb < 0))), (N xb.natAbs)]), (.int .i64 v)] (.agg [(.bool (decide ((mlo (2 ^ vv) xa xb j) < 0))), (N ((mlo (2 ^ vv) xa xb j).natAbs)), (.bool (decide ((mhi (2 ^ vv) xa xb j) < 0))), (N ((mhi (2 ^ vv) xa xb j).natAbs))])) ∧ (∀ (j : Nat) (kk : Int), j < nn → kk = (j : Int) + 1 → Impl Tryz.prog Amb 29 [(.agg [(.bool (decide ((mlo (2 ^ vv) xa xb j) < 0))), (N ((mlo (2 ^ vv) xa xb j).natAbs)), (.bool (decide ((mhi (2 ^ vv) xa xb j) < 0))), (N ((mhi (2 ^ vv) xa xb j).natAbs))]), (.int .i64 kk)] (.agg [(.bool (decide ((reLo (2 ^ vv) xa xb (j + 1)) < 0))), (N ((reLo (2 ^ vv) xa xb (j + 1)).natAbs)), (.bool (decide ((reHi (2 ^ vv) xa xb (j + 1)) < 0))), (N ((reHi (2 ^ vv) xa xb (j + 1)).natAbs))])) ∧ (∀ j, j < nn → Impl Tryz.prog Amb 47 [(.agg [(.bool (decide ((saS (reLo (2 ^ vv) xa xb) j) < 0))), (N ((saS (reLo (2 ^ vv) xa xb) j).natAbs)), (.bool (decide ((saS (reHi (2 ^ vv) xa xb) j) < 0))), (N ((saS (reHi (2 ^ vv) xa xb) j).natAbs))]), (.agg [(.bool (decide ((reLo (2 ^ vv) xa xb (j + 1)) < 0))), (N ((reLo (2 ^ vv) xa xb (j + 1)).natAbs)), (.bool (decide ((reHi (2 ^ vv) xa xb (j + 1)) < 0))), (N ((reHi (2 ^ vv) xa xb (j + 1)).natAbs))])] (.agg [(.bool (decide ((saS (reLo (2 ^ vv) xa xb) (j + 1)) < 0))), (N ((saS (reLo (2 ^ vv) xa xb) (j + 1)).natAbs)), (.bool (decide ((saS (reHi (2 ^ vv) xa xb) (j + 1)) < 0))), (N ((saS (reHi (2 ^ vv) xa xb) (j + 1)).natAbs))])) ∧ (nn ≤ 10000) ∧ (Impl Tryz.prog Amb 76 [(.agg [(.bool (decide ((saS (reLo (2 ^ vv) xa xb) nn) < 0))), (N ((saS (reLo (2 ^ vv) xa xb) nn).natAbs)), (.bool (decide ((saS (reHi (2 ^ vv) xa xb) nn) < 0))), (N ((saS (reHi (2 ^ vv) xa xb) nn).natAbs))]), (.int .i64 3)] (.agg [(.bool (decide ((qlo (2 ^ vv) a0 b0 0) < 0))), (N ((qlo (2 ^ vv) a0 b0 0).natAbs)), (.bool (decide ((qhi (2 ^ vv) a0 b0 0) < 0))), (N ((qhi (2 ^ vv) a0 b0 0).natAbs))])) ∧ (∀ i : Nat, (i : Int) < hv → Impl Tryz.prog Amb 75 [(.agg [(.bool (decide ((qlo (2 ^ vv) a0 b0 i) < 0))), (N ((qlo (2 ^ vv) a0 b0 i).natAbs)), (.bool (decide ((qhi (2 ^ vv) a0 b0 i) < 0))), (N ((qhi (2 ^ vv) a0 b0 i).natAbs))]), (.agg [(.bool (decide ((qlo (2 ^ vv) a0 b0 i) < 0))), (N ((qlo (2 ^ vv) a0 b0 i).natAbs)), (.bool (decide ((qhi (2 ^ vv) a0 b0 i) < 0))), (N ((qhi (2 ^ vv) a0 b0 i).natAbs))]), (.int .i64 v)] (.agg [(.bool (decide ((qlo (2 ^ vv) a0 b0 (i + 1)) < 0))), (N ((qlo (2 ^ vv) a0 b0 (i + 1)).natAbs)), (.bool (decide ((qhi (2 ^ vv) a0 b0 (i + 1)) < 0))), (N ((qhi (2 ^ vv) a0 b0 (i + 1)).natAbs))])) ∧ (∀ i : Nat, (i : Int) = hv → Impl Tryz.prog Amb 31 [(.agg [(.bool (decide ((qlo (2 ^ vv) a0 b0 i) < 0))), (N ((qlo (2 ^ vv) a0 b0 i).natAbs)), (.bool (decide ((qhi (2 ^ vv) a0 b0 i) < 0))), (N ((qhi (2 ^ vv) a0 b0 i).natAbs))]), (.int .i64 v), (.int .i64 (w + 16))] (wV (mkM ra (-(w + 16))) (mkX ra (-(w + 16))) (mkM rb (-(w + 16))) (mkX rb (-(w + 16))))) ∧ (L ra.natAbs ≤ 300 ∧ L rb.natAbs ≤ 300) ∧ ∀ g : Rat, 0 < g → EnE (EP (dv m e)) (w.toNat + 16) ra rb g := by
 subst hn
 have hgg : (v - (w + 16)).toNat = G := by omega
 have hS := zjp m e ((0 : Int) - (H : Int)) oO oO oO
 have mf := zpj (m := m) (e := e + ((0 : Int) - (H : Int))) oO oO
 have i1 := zia (e + ((0 : Int) - (H : Int))) 0
 have i2 : iMax (e + ((0 : Int) - (H : Int))) 0 ≤ 200 := by unfold iMax; split <;> omega
 rw [mf.1] at hS
 have ed : e + ((0 : Int) - (H : Int)) = e - (H : Int) := by omega
 have sm := zvh (vv := vv) oO ht H3.1
 have hneg : m ≤ 0 → dv m (e - (H : Int)) ≤ 0 := fun q => by
  have := zn5 (m := m) (n := 0) (c := e - (H : Int)) |>.2 q
  rwa [zn6] at this
 have hx : dv (mkM m (e + ((0 : Int) - (H : Int)))) (mkX m (e + ((0 : Int) - (H : Int)))) = dv m (e - (H : Int)) := by rw [mf.2.2.2.2.2, ed]
 rw [← hx] at sm
 have hA := zqs (mkM m (e + ((0 : Int) - (H : Int)))) (mkX m (e + ((0 : Int) - (H : Int)))) v oO oO mf.2.2.2.2.1 oO
 have vV : v = (vv : Int) := by omega
 have sc1 := (zpu (dv m (e - (H : Int))) vv).1
 have sc2 := (zpv (dv m (e - (H : Int))) vv).1
 have fc := zpw (dv m (e - (H : Int))) vv
 rw [hx] at hA sm
 rw [← vV] at sc1 sc2 sm fc
 have dd : dbl (dv m (e - (H : Int))) H = dv m e := by
  rw [zs2, zqz m e (H : Int), zmz]
 generalize mkM m (e + ((0 : Int) - (H : Int))) = ma at *
 generalize mkX m (e + ((0 : Int) - (H : Int))) = mb at *
 obtain ⟨ab, s1, s2⟩ := sm
 generalize dv m (e - (H : Int)) = x at *
 generalize flr x v = xa at *
 generalize cei x v = xb at *
 obtain ⟨nn, t1, t2, c4, c5, c6, c7, c8, t4⟩ := zvf vn v0 oO s1 s2
 have hO := zkd 1 v oO oO
 rw [vn, Int.one_mul] at hO
 have sb := zv5 s1 s2 nn t2
 have sp := Nat.pow_pos (n := vv - nn) (show 0 < 2 by omega)
 have p8 : 8 ≤ 2 ^ vv := by
  have := Nat.pow_le_pow_right (n := 2) (show 0 < 2 by omega) (show 3 ≤ vv by omega)
  omega
 have q1 : ((saR (reLo (2 ^ vv) xa xb) nn - 3)).natAbs ≤ 4 * 2 ^ vv := by omega
 have q2 : ((saR (reHi (2 ^ vv) xa xb) nn + 3)).natAbs ≤ 4 * 2 ^ vv := by omega
 have qa := zv3 q1 q2
 have qb := fun (q : m ≤ 0) (q2' : H ≤ 14) (q3 : 60 ≤ vv) (q4 : vv ≤ 600) => zvi (H := H) s1 s2 fc.2 oO sc1 sc2 (by grind) (hneg q) t1.1 t1.2 t2 q2' q3 q4
 have enc := fun (g : Rat) (hg : 0 < g) => zv6 (x := x) (v := vv) (s := w.toNat + 16) (n := nn) (h := H) (g := G) hG sc1 sc2 (by grind) (by grind) t1.1 t1.2 hg
 rw [dd] at enc
 generalize (saR (reLo (2 ^ vv) xa xb) nn - 3) = a0 at *
 generalize (saR (reHi (2 ^ vv) xa xb) nn + 3) = b0 at *
 have ql : ∀ i, i ≤ H → L (qlo (2 ^ vv) a0 b0 i).natAbs ≤ 200 ∧ L (qhi (2 ^ vv) a0 b0 i).natAbs ≤ 200 := fun i hi => by
  have a := qa i
  rcases hq with q | q
  ·have p := Nat.pow_le_pow_right (n := 2) (show 0 < 2 by omega) (show i ≤ 11 by omega)
   have b := Nat.pow_lt_pow_right (a := 2) oO (show 2 * 2 ^ i + vv < 6000 by omega)
   exact ⟨zju (n := 6000) (Nat.lt_of_le_of_lt a.1 b) oO, zju (n := 6000) (Nat.lt_of_le_of_lt a.2 b) oO⟩
  ·have r := qb q.2.1 q.1 q.2.2.1 q.2.2.2 i hi
   exact ⟨zju r.1 oO, zju r.2 oO⟩
 clear qb hneg
 have lH := ql H (Nat.le_refl _)
 have o1 := zhg (qlo (2 ^ vv) a0 b0 H) G
 have o2 := zdh (qhi (2 ^ vv) a0 b0 H)
 have o3 := zhg (-(qhi (2 ^ vv) a0 b0 H)) G
 have o4 := zdh (-(qhi (2 ^ vv) a0 b0 H) / 2 ^ G)
 refine ⟨ma, mb, xa, xb, a0, b0, qlo (2 ^ vv) a0 b0 H / 2 ^ G, -(-(qhi (2 ^ vv) a0 b0 H) / 2 ^ G), nn, hS, hA, hO, c4, c5, c6, c7, c8, t4, fun i hi => ?_, fun i hi => ?_, by omega, enc⟩
 ·have a := ql i oO
  have h := zqt (qlo (2 ^ vv) a0 b0 i) (qhi (2 ^ vv) a0 b0 i) (qlo (2 ^ vv) a0 b0 i) (qhi (2 ^ vv) a0 b0 i) v oO oO oO oO oO
  rw [vn] at h
  exact h
 ·have e : i = H := by omega
  subst e
  have h := zki (qlo (2 ^ vv) a0 b0 i) (qhi (2 ^ vv) a0 b0 i) v (w + 16) oO oO oO
  rw [hgg] at h
  exact h
theorem zvk (m e w : Int) (hL : L (m).natAbs ≤ 20) (he : -1000 ≤ e ∧ e ≤ 200) (hw : 0 ≤ w ∧ w ≤ 200) (hd : -4000 ≤ dv m e) (ht : topD m e ≤ 8 ∨ (m < 0 ∧ topD m e ≤ 11)) :
  ∃ ra rb : Int, Impl Tryz.prog Amb 21 [(yV m e), (.int .i64 w)] (wV (mkM ra (-(w + 16))) (mkX ra (-(w + 16))) (mkM rb (-(w + 16))) (mkX rb (-(w + 16)))) ∧ (L ra.natAbs ≤ 300 ∧ L rb.natAbs ≤ 300) ∧ ∀ g : Rat, 0 < g → EnE (EP (dv m e)) (w.toNat + 16) ra rb g := by
 have hOf := zjq (-4000) oO
 have of := zpk (n := -4000) oO
 have hCmp := zjl m e (mkM (-4000) 0) (mkX (-4000) 0) oO oO oO oO
 have hc : 0 ≤ cmpD m e (mkM (-4000) 0) (mkX (-4000) 0) := by
  refine Decidable.byContradiction fun hn => ?_
  have q := zpc.1 (show cmpD m e (mkM (-4000) 0) (mkX (-4000) 0) < 0 by omega)
  rw [of.2.2.2.2.2] at q
  have q : dv m e < -4000 := q
  grind
 have hTop := zji m e oO oO
 have im := zf1 0 (topD m e)
 have tr := zir m e
 obtain ⟨H, hH⟩ : ∃ H : Nat, (H : Int) = ((iMax (0 : Int) (topD m e)) + 3) := ⟨(((iMax (0 : Int) (topD m e)) + 3)).toNat, by omega⟩
 by_cases hp : 0 ≤ m ∧ 0 < topD m e
 ·have s1 := ztj (topD m e) oO
  have s2 : (2 : Int) ^ (topD m e).toNat ≤ 256 := by
   rw [zb2]
   exact Int.ofNat_le.2 (Nat.pow_le_pow_right (n := 2) oO (show (topD m e).toNat ≤ 8 by omega))
  rw [← ztk (topD m e) oO] at s1 s2
  obtain ⟨vv, hV⟩ : ∃ vv : Nat, (((w + 40) + ((2 : Int) * ((iMax (0 : Int) (topD m e)) + 3))) + ((3 : Int) * 2 ^ (min (topD m e).toNat (IntKind.bits .i64)))) = (vv : Int) := ⟨((((w + 40) + ((2 : Int) * ((iMax (0 : Int) (topD m e)) + 3))) + ((3 : Int) * 2 ^ (min (topD m e).toNat (IntKind.bits .i64))))).toNat, by omega⟩
  obtain ⟨ma, mb, xa, xb, a0, b0, ra, rb, nn, c1, c2, c3, c4, c5, c6, c7, c8, c9, c10, c11, l, enc⟩ := zvj m e w (((w + 40) + ((2 : Int) * ((iMax (0 : Int) (topD m e)) + 3))) + ((3 : Int) * 2 ^ (min (topD m e).toNat (IntKind.bits .i64)))) ((iMax (0 : Int) (topD m e)) + 3) (vv := vv) (H := H) (G := vv - (w.toNat + 16)) oO oO hH oO oO oO oO (by unfold HC; omega) hL he oO
  exact ⟨ra, rb, ztp m e w _ _ _ (topD m e) ma mb xa xb _ _ _ _ nn _ _ _ _ (qlo (2 ^ vv) a0 b0) (qhi (2 ^ vv) a0 b0) oO hc oO hp hOf hCmp hTop c1 c2 c3 c4 c5 c6 c7 c8 c9 c10 oO c11, l, enc⟩
 ·obtain ⟨vv, hV⟩ : ∃ vv : Nat, ((w + 40) + ((2 : Int) * ((iMax (0 : Int) (topD m e)) + 3))) = (vv : Int) := ⟨(((w + 40) + ((2 : Int) * ((iMax (0 : Int) (topD m e)) + 3)))).toNat, by omega⟩
  obtain ⟨ma, mb, xa, xb, a0, b0, ra, rb, nn, c1, c2, c3, c4, c5, c6, c7, c8, c9, c10, c11, l, enc⟩ := zvj m e w ((w + 40) + ((2 : Int) * ((iMax (0 : Int) (topD m e)) + 3))) ((iMax (0 : Int) (topD m e)) + 3) (vv := vv) (H := H) (G := vv - (w.toNat + 16)) oO oO hH oO oO oO oO (by unfold HC; omega) hL he oO
  exact ⟨ra, rb, zto m e w _ _ _ (topD m e) ma mb xa xb _ _ _ _ nn _ _ _ _ (qlo (2 ^ vv) a0 b0) (qhi (2 ^ vv) a0 b0) oO hc oO oO hOf hCmp hTop c1 c2 c3 c4 c5 c6 c7 c8 c9 c10 oO c11, l, enc⟩
end Go.Proofs.YtcbihoojfakhdaaGreatDoor

namespace Go.Proofs.YtcbihoojfakhdaaGreatDoor
open Go.RowKit
set_option maxRecDepth 100000
set_option maxHeartbeats 2000000
theorem zvl (m : Int) (ee : Int) (w : Int) (c0 : L (m).natAbs ≤ 8000) (c1 : -4096 ≤ w ∧ w ≤ 4096) (c2 : Impl Tryz.prog Amb 69 [(yV (-m) ee), (.int .i64 (w + 1))] (.bool true)) : Impl Tryz.prog Amb 71 [(yV m ee), (.int .i64 w)] (.agg [(.bool false), .nil, (.bool (decide ((1 : Int) < 0))), (N ((1 : Int).natAbs))]) := by
 exact z6u hP hAmb Tryz.func71 (by kernel_rfl) (.lits 2 <| .call (yV (-m) ee) <| .lit <| .yes <| .lit <| .call (.bool true) <| .lits 2 <| .call (zV (1 : Int)) <| .lits 3 <| .ret)
  (z6t (aI True.intro (aI (zjd m ee oS) (have f2 := zdh m; aI (z89 oS : (fits .i64 (w + 1)) = true) (aI (c2 ) (aI (zdw 1 oS) (have f1 := (zh8 oS : L (1 : Int).natAbs ≤ 2); (z6b (.agg [(.bool false), .nil, (.bool (decide ((1 : Int) < 0))), (N ((1 : Int).natAbs))])))))))) (by kernel_rfl))
theorem zvm (a : Int) : vsub (.agg [.bool false, .nil, .bool (decide (a < 0)), N a.natAbs]) (.agg [.bool (decide ((0 : Int) < 0)), N (0 : Int).natAbs, .bool (decide (a < 0)), N a.natAbs]) := fun w S x hx => by
 obtain ⟨arr, rfl, hr⟩ := hx.agg_inv
 cases hr with | cons h1 hr => cases hr with | cons h2 hr => cases hr with | cons h3 hr => cases hr with | cons h4 hr => cases hr with | nil =>
  exact .agg (.cons (by simpa using h1) (.cons (zku h2) (.cons h3 (.cons h4 .nil))))
theorem zvn {P : Program} {C : World → Prop} {f : FuncId} {ds : List V} {r r' : V} (h : vsub r r') (k : Impl P C f ds r) : Impl P C f ds r' :=
 ⟨k.1, fun w S args hC hS hr => (k.2 w S args hC hS hr).mono fun _ _ hh => by
  obtain ⟨v, a, b, c⟩ := hh
  exact ⟨v, a, h _ _ _ b, c⟩⟩
theorem Lq.mulc {f g : Nat → Rat} (h : Lq f g) {c : Rat} (c0 : 0 < c) : Lq (fun K => f K * c) (fun K => g K * c) := fun e he => by
 have i0 := Rat.inv_pos.2 c0
 have ie := ztt c0
 obtain ⟨N, h⟩ := h (e * c⁻¹) (Rat.mul_pos he i0)
 refine ⟨N, fun K hK => ?_⟩
 have m := Rat.mul_le_mul_of_nonneg_right (h K hK) (Rat.le_of_lt c0)
 show f K * c ≤ g K * c + e
 have : e * c⁻¹ * c = e := by rw [Rat.mul_assoc, ie, Rat.mul_one]
 grind
theorem zvo {K : Nat} (h : 2 ≤ K) : 2 ≤ EP 1 K := by
 have a := zrt (x := 1) (by decide) h
 have b : EP 1 2 = 2 := of_decide_eq_true (by kernel_rfl)
 rw [b] at a; exact a
theorem zvp {d : Rat} {n : Nat} (h : d ≤ -(n : Rat)) : Lq (fun K => EP d K * (2 : Rat) ^ n) (fun _ => 1) := by
 have p2 := zul n
 have a := (zud h).mulc (c := (2 : Rat) ^ n) (by grind)
 have hn := zuk 1 n
 rw [Rat.mul_one] at hn
 obtain ⟨A, _, hA⟩ := zu8 (-(n : Rat))
 obtain ⟨B, _, hB⟩ := zu8 (n : Rat)
 obtain ⟨p, p0, N, hp⟩ := zuc (-(n : Rat))
 refine a.trans (Lq.trans (g := fun K => EP (-(n : Rat)) K * EP 1 K ^ n) (Lq.of_le (N := N + 2) fun K hK => ?_) (Lq.trans (Lm.mul (Lm.refl (EP (-(n : Rat)))) hn hA hB).2 ?_))
 ·have q := hp K oO
  have r := zuf (a := 2) (b := EP 1 K) (by decide) (zvo oO) n
  exact Rat.mul_le_mul_of_nonneg_left r (by grind)
 ·refine Lq.trans (Lm.of_eq (N := 0) fun K _ => ?_).1 (zub (n : Rat)).1
  exact Rat.mul_comm _ _
def gE : Rat := dv 1 (-40)
theorem gE_b : 0 < gE ∧ gE * 65536 + gE < 1 := ⟨of_decide_eq_true (by kernel_rfl), of_decide_eq_true (by kernel_rfl)⟩
theorem zvq (n : Nat) : (2 : Rat) ^ n = ((2 ^ n : Int) : Rat) := by rw [← zmz, Rat.zpow_natCast]
theorem zvr {a b : Nat} (h : a ≤ b) : ((2 ^ a : Int) : Rat) ≤ ((2 ^ b : Int) : Rat) := Rat.intCast_le_intCast.2 (by rw [zb2, zb2]; exact Int.ofNat_le.2 (Nat.pow_le_pow_right oO h))
theorem zvs {D w : Nat} (h : D + w ≤ 332) : err D * ((2 ^ w : Int) : Rat) ≤ gE := by
 unfold err
 have e : (2 : Rat) ^ D * (1048576 * eps) * ((2 ^ w : Int) : Rat) = ((2 ^ (D + w) : Int) : Rat) * (1048576 * eps) := by
  rw [zvq, Int.pow_add, Rat.intCast_mul]; grind
 rw [e]
 have m := zvr h
 have b := zuh
 have n := Rat.mul_le_mul_of_nonneg_right m (show 0 ≤ 1048576 * eps by grind)
 refine Rat.le_trans n ?_
 exact of_decide_eq_true (by kernel_rfl)
def erW (D w : Int) : Rat := err D.toNat * ((2 ^ w.toNat : Int) : Rat)
theorem zvt (D w : Int) : 0 < erW D w := by
 unfold erW err
 have a := zul D.toNat
 have P : (0 : Rat) < ((2 ^ w.toNat : Int) : Rat) := Rat.intCast_pos.2 (zip _)
 have e := zuo
 exact Rat.mul_pos (Rat.mul_pos (by grind) (by grind)) P
theorem zvu {D w : Int} (w0 : 0 ≤ w) (D0 : 0 ≤ D) (h : w + D ≤ 332) : erW D w ≤ gE ∧ erW D w + erW D w < 1 := by
 have a := zvs (D := D.toNat) (w := w.toNat) oO
 have b := gE_b
 have c : erW D w ≤ gE := a
 exact ⟨c, by grind⟩
theorem zvv (m ee w D : Int) (hw : 0 ≤ w ∧ w ≤ 276) (hm : L (m).natAbs ≤ 20) (he : -440 ≤ ee ∧ ee ≤ 130) (d2 : dv m ee ≤ 512) (hD : 100 * dv m ee + 36 ≤ 69 * (D : Rat)) (D0 : 0 ≤ D) (hD2 : w + D ≤ 332) :
  ∃ lo hi : Int, Impl Tryz.prog Amb 71 [(yV m ee), (.int .i64 w)] (.agg [(.bool (decide (lo < 0))), (N lo.natAbs), (.bool (decide (hi < 0))), (N hi.natAbs)]) ∧ EnE (EP (dv m ee)) w.toNat lo hi (erW D w) ∧ hi - lo ≤ 2 ∧ 0 ≤ lo ∧ L hi.natAbs ≤ 30 := by
 have w276 : (w : Rat) ≤ ((276 : Int) : Rat) := Rat.intCast_le_intCast.2 hw.2
 rw [show ((276 : Int) : Rat) = 276 from rfl] at w276
 rcases (Rat.le_total : -dv m ee ≤ (w : Rat) + 1 ∨ (w : Rat) + 1 ≤ -dv m ee) with h | h
 ·obtain ⟨k, lo, hi, hC, ⟨hk1, hk2⟩, hx, hE, hw2, h0, hl⟩ := ztf m ee w D hw hm he ⟨⟨by grind, d2⟩, hD, h⟩ D0 oO
  refine ⟨lo, hi, hC, ?_, hw2, h0, hl⟩
  have n := zur (D := D.toNat) hx hk1 oO oO
  have r := hE.toE.near n
  exact r.mono (by unfold erW; grind)
 ·by_cases hq : -dv m ee = (w : Rat) + 1
  ·obtain ⟨k, lo, hi, hC, ⟨hk1, hk2⟩, hx, hE, hw2, h0, hl⟩ := ztf m ee w D hw hm he ⟨⟨by grind, d2⟩, hD, by grind⟩ D0 oO
   refine ⟨lo, hi, hC, ?_, hw2, h0, hl⟩
   have n := zur (D := D.toNat) hx hk1 oO oO
   have r := hE.toE.near n
   exact r.mono (by unfold erW; grind)
  ·have n1 := zdh m
   have hB := zrb (-m) ee (w + 1) oO oO oO
   have hB : Impl Tryz.prog Amb 69 [(yV (-m) ee), (.int .i64 (w + 1))] (.bool true) := by
    refine zpe (congrArg V.bool (decide_eq_true (zpd.2 ?_))) hB
    rw [(zpk (n := w + 1) oO).2.2.2.2.2, zn8, Rat.intCast_add]
    show (w : Rat) + 1 < -dv m ee
    grind
   have hC := zvn (zvm 1) (zvl m ee w oO oO hB)
   have l1 := zk6 1 (by decide)
   refine ⟨0, 1, hC, ?_, by omega, by omega, by show L 1 ≤ 30; exact Nat.le_trans l1 oO⟩
   have wt : ((w.toNat : Nat) : Int) = w := by omega
   have wr : ((w.toNat : Nat) : Rat) = (w : Rat) := by
    have : (((w.toNat : Nat) : Int) : Rat) = (w : Rat) := by rw [wt]
    exact this
   obtain ⟨N1, s1⟩ := zvp (d := dv m ee) (n := w.toNat) (by rw [wr]; grind) (erW D w) (zvt D w)
   obtain ⟨p, p0, N2, s2⟩ := zuc (dv m ee)
   refine ⟨N1 + N2, fun K hK => ?_⟩
   have s1 := s1 K oO
   have s2 := s2 K oO
   have P : (0 : Rat) < ((2 ^ w.toNat : Int) : Rat) := Rat.intCast_pos.2 (zip _)
   have m1 := Rat.mul_nonneg (show 0 ≤ EP (dv m ee) K by grind) (Rat.le_of_lt P)
   have g := zvt D w
   have s1 : EP (dv m ee) K * (2 : Rat) ^ w.toNat ≤ 1 + erW D w := s1
   rw [zvq] at s1
   refine ⟨?_, s1⟩
   show (0 : Rat) ≤ _
   grind
theorem zvw (m ee n f w D : Int) (hw : 0 ≤ w ∧ w ≤ 276) (hm : L (m).natAbs ≤ 20) (he : -440 ≤ ee ∧ ee ≤ 130) (d2 : dv m ee ≤ 512) (hD : 100 * dv m ee + 36 ≤ 69 * (D : Rat)) (hn : L (n).natAbs ≤ 20) (hf : -440 ≤ f ∧ f ≤ 130) (d2' : dv n f ≤ 512) (hD' : 100 * dv n f + 36 ≤ 69 * (D : Rat)) (D0 : 0 ≤ D) (hD2 : w + D ≤ 332) :
  ∃ l1 h1 l2 h2 : Int, Impl Tryz.prog Amb 20 [(wV m ee n f), (.int .i64 w)] (.tup [(wV (mkM l1 (-w)) (mkX l1 (-w)) (mkM h2 (-w)) (mkX h2 (-w))), (.int .i64 0)]) ∧ (EnE (EP (dv m ee)) w.toNat l1 h1 (erW D w) ∧ h1 - l1 ≤ 2 ∧ 0 ≤ l1 ∧ L h1.natAbs ≤ 30) ∧ (EnE (EP (dv n f)) w.toNat l2 h2 (erW D w) ∧ h2 - l2 ≤ 2 ∧ 0 ≤ l2 ∧ L h2.natAbs ≤ 30) ∧ L l1.natAbs ≤ 30 := by
 obtain ⟨l1, h1, hA, EA, wA, pA, LA⟩ := zvv m ee w D hw hm he d2 hD D0 hD2
 obtain ⟨l2, h2, hB, EB, wB, pB, LB⟩ := zvv n f w D hw hn hf d2' hD' D0 hD2
 have ge := zvu (D := D) (w := w) hw.1 D0 hD2
 have le1 : l1 ≤ h1 := EA.le EA (Lq.refl _) (by grind)
 have z1 : L l1.natAbs ≤ 30 := Nat.le_trans (z8y oO) LA
 have mA := zjb l1 (0 - w) oO oO
 have mB := zjb h2 (0 - w) oO oO
 rw [Int.zero_sub, zoc (m := l1) (e := -w) oO oO] at mA
 rw [Int.zero_sub, zoc (m := h2) (e := -w) oO oO] at mB
 have hb : Impl Tryz.prog Amb 69 [(yV n f), (.int .i64 1000)] (.bool false) := by
  refine zpe (congrArg V.bool (decide_eq_false fun q => ?_)) (zrb n f 1000 oO oO oO)
  have q := zpd.1 q
  rw [(zpk (n := 1000) oO).2.2.2.2.2] at q
  have q : (1000 : Rat) < dv n f := q
  grind
 exact ⟨l1, h1, l2, h2, zsx m ee n f w l1 h1 l2 h2 _ _ _ _ oO hb hA hB (by rw [Int.zero_sub]; exact mA) (by rw [Int.zero_sub]; exact mB), ⟨EA, wA, pA, LA⟩, ⟨EB, wB, pB, LB⟩, z1⟩
theorem zvx (m ee n f w D : Int) (hw : 0 ≤ w ∧ w ≤ 276) (hm : L (m).natAbs ≤ 20) (he : -440 ≤ ee ∧ ee ≤ 130) (d2 : dv m ee ≤ 512) (hD : 100 * dv m ee + 36 ≤ 69 * (D : Rat)) (hn : L (n).natAbs ≤ 20) (hf : -440 ≤ f ∧ f ≤ 130) (d2' : dv n f ≤ 512) (hD' : 100 * dv n f + 36 ≤ 69 * (D : Rat)) (D0 : 0 ≤ D) (hD2 : w + D ≤ 332) :
  ∃ l1 h1 l2 h2 : Int, Impl Tryz.prog Amb 20 [(wV m ee n f), (.int .i64 w)] (.tup [(wV (mkM l1 (-w)) (mkX l1 (-w)) (mkM h2 (-w)) (mkX h2 (-w))), (.int .i64 0)]) ∧ (EnE (EP (dv m ee)) w.toNat l1 h1 gE ∧ h1 - l1 ≤ 2 ∧ 0 ≤ l1 ∧ L h1.natAbs ≤ 30) ∧ (EnE (EP (dv n f)) w.toNat l2 h2 gE ∧ h2 - l2 ≤ 2 ∧ 0 ≤ l2 ∧ L h2.natAbs ≤ 30) ∧ L l1.natAbs ≤ 30 := by
 obtain ⟨l1, h1, l2, h2, hA, ⟨EA, a⟩, ⟨EB, b⟩, c⟩ := zvw m ee n f w D hw hm he d2 hD hn hf d2' hD' D0 hD2
 have g := (zvu (D := D) (w := w) hw.1 D0 hD2).1
 exact ⟨l1, h1, l2, h2, hA, ⟨EA.mono g, a⟩, ⟨EB.mono g, b⟩, c⟩
theorem zvy {f f' : Nat → Rat} {s : Nat} {l1 h1 l2 h2 a1 b1 a2 b2 : Int} (hl : Lq f f') (w1 : h1 - l1 ≤ 2) (w2 : h2 - l2 ≤ 2) (e1 : EnE f s l1 h1 gE) (e2 : EnE f' s l2 h2 gE)
  (e3 : EnE f (s + 16) a1 b1 gE) (e4 : EnE f' (s + 16) a2 b2 gE) : l1 ≤ h2 ∧ l1 * 2 ^ 16 ≤ b1 ∧ a1 ≤ (l1 + 2) * 2 ^ 16 ∧ a2 ≤ h2 * 2 ^ 16 ∧ (h2 - 2) * 2 ^ 16 ≤ b2 := by
 have ge := gE_b
 have c : ((2 ^ 16 : Int) : Rat) = 65536 := rfl
 have m1 := e1.meet e3 (by rw [c]; grind)
 have m2 := e2.meet e4 (by rw [c]; grind)
 have g := e1.le e2 hl (by grind)
 omega
theorem zvz {m e t : Int} (h : topD m e ≤ t) : -(dv 1 t) ≤ dv m e ∧ dv m e ≤ dv 1 t := by
 by_cases hm : m = 0
 ·have := zqw (m := 1) (e := t) |>.2 (by decide)
  rw [hm, zn6]; constructor <;> grind
 ·have a := (zqx (e := e) hm).1
  have u : dv 1 (topD m e) ≤ dv 1 t := by
   rw [zn3 (m := 1) (e := t) (c := topD m e) oO, zn5, Int.one_mul]
   have := zip (t - topD m e).toNat
   omega
  rcases (show (m.natAbs : Int) = m ∨ (m.natAbs : Int) = -m by omega) with q | q
  ·have n0 : 0 ≤ dv m e := zqw.2 oO
   rw [q] at a
   constructor <;> grind
  ·have n0 : 0 ≤ dv (-m) e := zqw.2 oO
   rw [q] at a
   rw [zn8] at a n0
   constructor <;> grind
end Go.Proofs.YtcbihoojfakhdaaGreatDoor

namespace Go.Proofs.YtcbihoojfakhdaaGreatDoor
open Go.RowKit
set_option maxRecDepth 100000
set_option maxHeartbeats 2000000
theorem zw0 {m e : Int} (h : 0 ≤ m) (hL : L m.natAbs ≤ 900) (he : -60000 ≤ e ∧ e ≤ 30000) : 0 ≤ mkM m e := by
 have f := zpj hL he
 refine (zqw (e := mkX m e)).1 ?_
 rw [f.2.2.2.2.2]
 exact zqw.2 h
end Go.Proofs.YtcbihoojfakhdaaGreatDoor

