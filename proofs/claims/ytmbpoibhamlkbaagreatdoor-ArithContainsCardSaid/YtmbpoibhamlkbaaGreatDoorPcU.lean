/-
  Lower layers: what functions of the program compute, and plain facts. Conditions: as the theorems say.
-/
import Derived.Test.YtmbpoibhamlkbaaGreatDoorPcT
set_option linter.unusedVariables false
set_option linter.unusedSimpArgs false
namespace Go.Proofs.YtmbpoibhamlkbaaGreatDoor
/-! ### products of numbers between two others -/
theorem bil_ge1 {x1 x2 a c l : Rat} (h1 : x1 ≤ a) (h2 : a ≤ x2) (k1 : l ≤ x1 * c) (k2 : l ≤ x2 * c) : l ≤ a * c := by
  rcases (Rat.le_total : 0 ≤ c ∨ c ≤ 0) with h | h
  · exact Rat.le_trans k1 (Rat.mul_le_mul_of_nonneg_right h1 h)
  · have e : (-x2) * (-c) ≤ (-a) * (-c) := Rat.le_trans (Rat.le_refl) (by
      have hc : 0 ≤ -c := by grind
      have := Rat.mul_le_mul_of_nonneg_right h2 hc
      grind)
    have e' : x2 * c ≤ a * c := by grind
    exact Rat.le_trans k2 e'
theorem bil_ge {x1 x2 y1 y2 a b l : Rat} (h1 : x1 ≤ a) (h2 : a ≤ x2) (g1 : y1 ≤ b) (g2 : b ≤ y2) (k1 : l ≤ x1 * y1) (k2 : l ≤ x1 * y2) (k3 : l ≤ x2 * y1) (k4 : l ≤ x2 * y2) : l ≤ a * b := by
  refine bil_ge1 h1 h2 ?_ ?_
  · rw [Rat.mul_comm]; exact bil_ge1 g1 g2 (by rw [Rat.mul_comm]; exact k1) (by rw [Rat.mul_comm]; exact k2)
  · rw [Rat.mul_comm]; exact bil_ge1 g1 g2 (by rw [Rat.mul_comm]; exact k3) (by rw [Rat.mul_comm]; exact k4)
theorem bil_le {x1 x2 y1 y2 a b l : Rat} (h1 : x1 ≤ a) (h2 : a ≤ x2) (g1 : y1 ≤ b) (g2 : b ≤ y2) (k1 : x1 * y1 ≤ l) (k2 : x1 * y2 ≤ l) (k3 : x2 * y1 ≤ l) (k4 : x2 * y2 ≤ l) : a * b ≤ l := by
  have h := bil_ge (x1 := -x2) (x2 := -x1) (y1 := y1) (y2 := y2) (a := -a) (b := b) (l := -l) (by grind) (by grind) g1 g2 (by grind) (by grind) (by grind) (by grind)
  grind
theorem qmin_both (a b : Rat) : qmin a b ≤ a ∧ qmin a b ≤ b := by
  rcases qmin_or a b with ⟨h, k⟩ | ⟨h, k⟩ <;> rw [h]
  · exact ⟨Rat.le_of_lt k, Rat.le_refl⟩
  · exact ⟨Rat.le_refl, k⟩
theorem qmax_both (a b : Rat) : a ≤ qmax a b ∧ b ≤ qmax a b := by
  rcases qmax_or a b with ⟨h, k⟩ | ⟨h, k⟩ <;> rw [h]
  · exact ⟨Rat.le_of_lt k, Rat.le_refl⟩
  · exact ⟨Rat.le_refl, k⟩
theorem qmin4 (a b c d : Rat) : qmin (qmin (qmin a b) c) d ≤ a ∧ qmin (qmin (qmin a b) c) d ≤ b ∧ qmin (qmin (qmin a b) c) d ≤ c ∧ qmin (qmin (qmin a b) c) d ≤ d := by
  have h1 := qmin_both a b
  have h2 := qmin_both (qmin a b) c
  have h3 := qmin_both (qmin (qmin a b) c) d
  exact ⟨Rat.le_trans h3.1 (Rat.le_trans h2.1 h1.1), Rat.le_trans h3.1 (Rat.le_trans h2.1 h1.2), Rat.le_trans h3.1 h2.2, h3.2⟩
theorem qmax4 (a b c d : Rat) : a ≤ qmax (qmax (qmax a b) c) d ∧ b ≤ qmax (qmax (qmax a b) c) d ∧ c ≤ qmax (qmax (qmax a b) c) d ∧ d ≤ qmax (qmax (qmax a b) c) d := by
  have h1 := qmax_both a b
  have h2 := qmax_both (qmax a b) c
  have h3 := qmax_both (qmax (qmax a b) c) d
  exact ⟨Rat.le_trans h1.1 (Rat.le_trans h2.1 h3.1), Rat.le_trans h1.2 (Rat.le_trans h2.1 h3.1), Rat.le_trans h2.2 h3.1, h3.2⟩
theorem ml_in {m e n f p g q h : Int} {a b : Rat} (h1 : dv m e ≤ a) (h2 : a ≤ dv n f) (h3 : dv p g ≤ b) (h4 : b ≤ dv q h) : mlLo m e n f p g q h ≤ a * b ∧ a * b ≤ mlHi m e n f p g q h := by
  have l := qmin4 (dv m e * dv p g) (dv m e * dv q h) (dv n f * dv p g) (dv n f * dv q h)
  have r := qmax4 (dv m e * dv p g) (dv m e * dv q h) (dv n f * dv p g) (dv n f * dv q h)
  exact ⟨bil_ge h1 h2 h3 h4 l.1 l.2.1 l.2.2.1 l.2.2.2, bil_le h1 h2 h3 h4 r.1 r.2.1 r.2.2.1 r.2.2.2⟩
theorem inv_anti {a b : Rat} (h : 0 < a) (k : a ≤ b) : b⁻¹ ≤ a⁻¹ := by
  have hb : 0 < b := by grind
  have ha' := Rat.inv_pos.2 h
  have hb' := Rat.inv_pos.2 hb
  have e1 : a * a⁻¹ = 1 := Rat.mul_inv_cancel a (by grind)
  have e2 : b * b⁻¹ = 1 := Rat.mul_inv_cancel b (by grind)
  have h1 := Rat.mul_le_mul_of_nonneg_right k (Rat.le_of_lt (Rat.mul_pos ha' hb'))
  have e3 : a * (a⁻¹ * b⁻¹) = b⁻¹ := by rw [← Rat.mul_assoc, e1, Rat.one_mul]
  have e4 : b * (a⁻¹ * b⁻¹) = a⁻¹ := by rw [Rat.mul_comm a⁻¹, ← Rat.mul_assoc, e2, Rat.one_mul]
  rw [e3, e4] at h1; exact h1
theorem inv_anti2 {a b : Rat} (h : b < 0) (k : a ≤ b) : b⁻¹ ≤ a⁻¹ := by
  have := inv_anti (a := -b) (b := -a) (by grind) (by grind)
  have e1 : (-a)⁻¹ = -(a⁻¹) := by grind
  have e2 : (-b)⁻¹ = -(b⁻¹) := by grind
  rw [e1, e2] at this
  grind
theorem dv_in {m e n f p g q h : Int} {a b : Rat} (hs : p.sign = q.sign) (hp : p ≠ 0) (h1 : dv m e ≤ a) (h2 : a ≤ dv n f) (h3 : dv p g ≤ b) (h4 : b ≤ dv q h) : b ≠ 0 ∧ dvLo m e n f p g q h ≤ a / b ∧ a / b ≤ dvHi m e n f p g q h := by
  have l := qmin4 (dv m e / dv p g) (dv m e / dv q h) (dv n f / dv p g) (dv n f / dv q h)
  have r := qmax4 (dv m e / dv p g) (dv m e / dv q h) (dv n f / dv p g) (dv n f / dv q h)
  have l' : dvLo m e n f p g q h = qmin (qmin (qmin (dv m e / dv p g) (dv m e / dv q h)) (dv n f / dv p g)) (dv n f / dv q h) := rfl
  have r' : dvHi m e n f p g q h = qmax (qmax (qmax (dv m e / dv p g) (dv m e / dv q h)) (dv n f / dv p g)) (dv n f / dv q h) := rfl
  rw [← l'] at l
  rw [← r'] at r
  simp only [Rat.div_def] at l r ⊢
  have key : b ≠ 0 ∧ (dv q h)⁻¹ ≤ b⁻¹ ∧ b⁻¹ ≤ (dv p g)⁻¹ := by
    have s0 := sign_range p
    have s1 := sign_range q
    by_cases hpos : 0 < p
    · have : 0 < dv p g := dv_pos.2 hpos
      exact ⟨by grind, inv_anti (by grind) h4, inv_anti this h3⟩
    · have : dv q h < 0 := dv_lt0.2 (by omega)
      exact ⟨by grind, inv_anti2 this h4, inv_anti2 (by grind) h3⟩
  exact ⟨key.1, bil_ge h1 h2 key.2.1 key.2.2 l.2.1 l.1 l.2.2.2 l.2.2.1, bil_le h1 h2 key.2.1 key.2.2 r.2.1 r.1 r.2.2.2 r.2.2.1⟩
/-! ### enclosures that are found -/
theorem nbits_L2 (a : Nat) : nbits a ≤ 32 * L a := by
  have := nbits_L a; omega
theorem dm_nbits {m : Int} (h : m ≠ 0) : (nbits (dm m).natAbs : Int) + tz m.natAbs ≤ nbits m.natAbs := by
  have h1 := dm_mul m
  have h2 : m.natAbs = (dm m).natAbs * 2 ^ tz m.natAbs := by
    have := congrArg Int.natAbs h1
    rw [abs_shl] at this; exact this.symm
  have h3 := dm_ne h
  have h4 := nbits_le (show (dm m).natAbs ≠ 0 by omega)
  have h5 := nbits_pos (show (dm m).natAbs ≠ 0 by omega)
  have h6 := nbits_lt m.natAbs
  have h7 : 2 ^ (nbits (dm m).natAbs - 1 + tz m.natAbs) ≤ m.natAbs := by
    rw [Nat.pow_add]
    exact Nat.le_trans (Nat.mul_le_mul_right _ h4) (Nat.le_of_eq h2.symm)
  have h8 := (Nat.pow_lt_pow_iff_right (a := 2) (by omega)).1 (Nat.lt_of_le_of_lt h7 h6)
  omega
theorem end_ok {x w : Int} (h : L x.natAbs ≤ 60) (hw : 0 ≤ w ∧ w ≤ 300) : endB (mkM x (-w)) (mkX x (-w)) = true := by
  have hf := mk_fit (m := x) (e := -w) (by omega) (by omega)
  have hi := iMin_range (-w) 0
  unfold endB onB topD
  simp only [Bool.and_eq_true, decide_eq_true_eq]
  by_cases hx : x = 0
  · subst hx
    rw [(mk_zero _).1, if_pos rfl]
    exact ⟨by omega, by omega, .inl rfl⟩
  · have e1 : mkM x (-w) = dm x := by unfold mkM; rw [if_pos hf.1]
    have e2 : mkX x (-w) = -w + (tz x.natAbs : Int) := by unfold mkX; rw [if_pos ⟨hf.1, hx⟩]; rfl
    have h1 := dm_nbits hx
    have h2 := nbits_L2 x.natAbs
    rw [e1, if_neg (dm_ne hx), e2]
    exact ⟨by omega, by omega, .inr (by omega)⟩
theorem en_ok {lo hi : Rat} {w : Int} (hw : 0 ≤ w ∧ w ≤ 300) (h : lo ≤ hi) (h1 : L (flr lo w).natAbs ≤ 60) (h2 : L (cei hi w).natAbs ≤ 60) : enE lo hi w = 0 := by
  have a := mk_fit (m := flr lo w) (e := -w) (by omega) (by omega)
  have b := mk_fit (m := cei hi w) (e := -w) (by omega) (by omega)
  unfold enE
  rw [if_pos (by omega)]
  unfold ecE
  rw [if_pos]
  refine ⟨a.1, b.1, ?_⟩
  unfold smB ivB
  rw [end_ok h1 hw, end_ok h2 hw, a.2.2.2.2.1, b.2.2.2.2.1]
  simp only [Bool.and_true, Bool.true_and, decide_eq_true_eq]
  rw [cmpD_dv, a.2.2.2.2.2, b.2.2.2.2.2]
  exact cmpQ_le.2 (Rat.le_trans (flr_le lo w) (Rat.le_trans h (cei_ge hi w)))
/-! ### lengths -/
theorem adS_L {m e n f : Int} {a c : Nat} (hm : L m.natAbs ≤ a) (hn : L n.natAbs ≤ a) (h : e - f ≤ 32 * c) (k : f - e ≤ 32 * c) : L (adS m e n f).natAbs ≤ a + c + 2 := by
  have h0 := iMin_range e f
  have h1 := L_abs_shl m (e - iMin e f).toNat
  have h2 := L_abs_shl n (f - iMin e f).toNat
  have h3 := L_abs_add (m * 2 ^ (e - iMin e f).toNat) (n * 2 ^ (f - iMin e f).toNat)
  unfold adS
  omega
theorem add_L {m e n f w : Int} (hm : L m.natAbs ≤ 30) (hn : L n.natAbs ≤ 30) (he : -300 ≤ e ∧ e ≤ 400) (hf : -300 ≤ f ∧ f ≤ 400) (hw : 0 ≤ w ∧ w ≤ 200) (sh : L m.natAbs ≤ 8 ∧ L n.natAbs ≤ 8 := by omega) : L (flr (dv m e + dv n f) w).natAbs ≤ 60 ∧ L (cei (dv m e + dv n f) w).natAbs ≤ 60 := by
  have h0 := iMin_range e f
  have h1 := adS_L (a := 8) (c := 22) sh.1 sh.2 (show e - f ≤ 32 * (22 : Nat) by omega) (by omega)
  have h2 := flr_LD (adS m e n f) (iMin e f) w
  rw [dv_ad] at h2
  omega
theorem mul_L {m e n f w : Int} (hm : L m.natAbs ≤ 8) (hn : L n.natAbs ≤ 8) (he : -300 ≤ e ∧ e ≤ 400) (hf : -300 ≤ f ∧ f ≤ 400) (hw : 0 ≤ w ∧ w ≤ 200) : L (flr (dv m e * dv n f) w).natAbs ≤ 60 ∧ L (cei (dv m e * dv n f) w).natAbs ≤ 60 := by
  have h1 := L_abs_mul m n
  have h2 := flr_LD (m * n) (e + f) w
  rw [dv_mul] at h2
  omega
theorem flr_qmin_L {a b : Rat} {w : Int} {k : Nat} (h : L (flr a w).natAbs ≤ k) (h' : L (flr b w).natAbs ≤ k) : L (flr (qmin a b) w).natAbs ≤ k := by
  rcases qmin_or a b with ⟨e, _⟩ | ⟨e, _⟩ <;> rw [e] <;> assumption
theorem cei_qmax_L {a b : Rat} {w : Int} {k : Nat} (h : L (cei a w).natAbs ≤ k) (h' : L (cei b w).natAbs ≤ k) : L (cei (qmax a b) w).natAbs ≤ k := by
  rcases qmax_or a b with ⟨e, _⟩ | ⟨e, _⟩ <;> rw [e] <;> assumption
def FitI (m e n f : Int) : Prop := (L m.natAbs ≤ 8 ∧ -300 ≤ e ∧ e ≤ 400) ∧ (L n.natAbs ≤ 8 ∧ -300 ≤ f ∧ f ≤ 400) ∧ dv m e ≤ dv n f
theorem ml_L {m e n f p g q h w : Int} (h1 : FitI m e n f) (h2 : FitI p g q h) (hw : 0 ≤ w ∧ w ≤ 200) : L (flr (mlLo m e n f p g q h) w).natAbs ≤ 60 ∧ L (cei (mlHi m e n f p g q h) w).natAbs ≤ 60 := by
  obtain ⟨a, b, _⟩ := h1
  obtain ⟨c, d, _⟩ := h2
  have k1 := mul_L a.1 c.1 a.2 c.2 hw
  have k2 := mul_L a.1 d.1 a.2 d.2 hw
  have k3 := mul_L b.1 c.1 b.2 c.2 hw
  have k4 := mul_L b.1 d.1 b.2 d.2 hw
  exact ⟨flr_qmin_L (flr_qmin_L (flr_qmin_L k1.1 k2.1) k3.1) k4.1, cei_qmax_L (cei_qmax_L (cei_qmax_L k1.2 k2.2) k3.2) k4.2⟩
theorem ml_le {m e n f p g q h : Int} (h1 : dv m e ≤ dv n f) (h2 : dv p g ≤ dv q h) : mlLo m e n f p g q h ≤ mlHi m e n f p g q h :=
  have k := ml_in (a := dv m e) (b := dv p g) Rat.le_refl h1 Rat.le_refl h2
  Rat.le_trans k.1 k.2
theorem ml_ok {m e n f p g q h w : Int} (h1 : FitI m e n f) (h2 : FitI p g q h) (hw : 0 ≤ w ∧ w ≤ 200) : enE (mlLo m e n f p g q h) (mlHi m e n f p g q h) w = 0 := by
  have k := ml_L h1 h2 hw
  exact en_ok (by omega) (ml_le h1.2.2 h2.2.2) k.1 k.2
theorem ad_ok {m e n f p g q h w : Int} (h1 : FitI m e n f) (h2 : FitI p g q h) (hw : 0 ≤ w ∧ w ≤ 200) : enE (dv m e + dv p g) (dv n f + dv q h) w = 0 := by
  obtain ⟨a, b, o⟩ := h1
  obtain ⟨c, d, o'⟩ := h2
  exact en_ok (by omega) (q_add_le o o') (add_L (by omega) (by omega) a.2 c.2 hw).1 (add_L (by omega) (by omega) b.2 d.2 hw).2
/-! ### thin intervals -/
/-! ### the middle of an interval -/
def midM (m e n f : Int) : Int := mkM (mkM (adS m e n f) (iMin e f)) (mkX (adS m e n f) (iMin e f) + (-1))
def midX (m e n f : Int) : Int := mkX (mkM (adS m e n f) (iMin e f)) (mkX (adS m e n f) (iMin e f) + (-1))
theorem mid_fit {m e n f : Int} (hm : L m.natAbs ≤ 4) (hn : L n.natAbs ≤ 4) (he : -50 ≤ e ∧ e ≤ 178) (hf : -50 ≤ f ∧ f ≤ 178) (ho : dv m e ≤ dv n f) :
    (L (midM m e n f).natAbs ≤ 14 ∧ -60 ≤ midX m e n f ∧ midX m e n f ≤ 1100) ∧ vdb (midM m e n f) (midX m e n f) = true ∧ dv m e ≤ dv (midM m e n f) (midX m e n f) ∧ dv (midM m e n f) (midX m e n f) ≤ dv n f := by
  have h0 := iMin_range e f
  have h1 := adS_L (a := 4) (c := 8) (e := e) (f := f) hm hn (by omega) (by omega)
  have a := mk_fit (m := adS m e n f) (e := iMin e f) (by omega) (by omega)
  have i1 := iMin_range (iMin e f) 0
  have i2 : iMax (iMin e f) 0 ≤ 178 := by unfold iMax; split <;> omega
  have b := mk_fit (m := mkM (adS m e n f) (iMin e f)) (e := mkX (adS m e n f) (iMin e f) + (-1)) (by omega) (by omega)
  have i3 := iMin_range (mkX (adS m e n f) (iMin e f) + (-1)) 0
  have i4 : iMax (mkX (adS m e n f) (iMin e f) + (-1)) 0 ≤ 626 := by unfold iMax; split <;> omega
  have key : dv (midM m e n f) (midX m e n f) + dv (midM m e n f) (midX m e n f) = dv m e + dv n f := by
    have e1 : dv (midM m e n f) (midX m e n f) = dv (mkM (adS m e n f) (iMin e f)) (mkX (adS m e n f) (iMin e f) + (-1)) := b.2.2.2.2.2
    have e2 := dv_shl (mkM (adS m e n f) (iMin e f)) (mkX (adS m e n f) (iMin e f) + (-1)) 1
    rw [show mkX (adS m e n f) (iMin e f) + (-1) + ((1 : Nat) : Int) = mkX (adS m e n f) (iMin e f) by omega, a.2.2.2.2.2, dv_ad, show mkM (adS m e n f) (iMin e f) * 2 ^ 1 = mkM (adS m e n f) (iMin e f) + mkM (adS m e n f) (iMin e f) by omega, dv_add] at e2
    rw [e1]; exact e2
  refine ⟨⟨?_, ?_, ?_⟩, b.2.2.2.2.1, by grind, by grind⟩
  · show L (mkM _ _).natAbs ≤ 14; omega
  · show -60 ≤ mkX _ _; omega
  · show mkX _ _ ≤ 1100; omega
/-! ### quotients, when there is one -/
theorem dq_0 {m e n f p g q h w : Int} (hd : dqE m e n f p g q h w = 0) : (p.sign = q.sign ∧ p ≠ 0) ∧ enE (dvLo m e n f p g q h) (dvHi m e n f p g q h) w = 0 ∧ ∀ x, dqV x m e n f p g q h w = x := by
  unfold dqE at hd
  split at hd
  · omega
  · split at hd
    · omega
    · split at hd
      · omega
      · rename_i a b c
        refine ⟨⟨Decidable.byContradiction b, c⟩, hd, fun x => ?_⟩
        unfold dqV
        rw [if_neg (fun k => k.elim b c)]
def qdN (r s : Rat) : Int := if s = 0 then 0 else (r / s).num
def qdD (r s : Rat) : Nat := if s = 0 then 0 else (r / s).den
def qdE (s : Rat) : Int := if s = 0 then 2 else 0
theorem qd_ne {r s : Rat} (h : s ≠ 0) : qdN r s = (r / s).num ∧ qdD r s = (r / s).den ∧ qdE s = 0 := by
  unfold qdN qdD qdE; rw [if_neg h, if_neg h, if_neg h]; exact ⟨rfl, rfl, rfl⟩
theorem qd_eq {r s : Rat} (h : s = 0) : qdN r s = 0 ∧ qdD r s = 0 ∧ qdE s = 2 := by
  unfold qdN qdD qdE; rw [if_pos h, if_pos h, if_pos h]; exact ⟨rfl, rfl, rfl⟩
/-! ### differences -/
end Go.Proofs.YtmbpoibhamlkbaaGreatDoor

