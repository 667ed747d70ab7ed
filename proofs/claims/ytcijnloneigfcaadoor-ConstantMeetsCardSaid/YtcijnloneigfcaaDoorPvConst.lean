/-
  Plain facts on the constants: values of normalised dyadics, and when an interval is tight. No condition.
-/
import Derived.Test.YtcijnloneigfcaaDoorPvFix
set_option linter.unusedVariables false
set_option linter.unusedSimpArgs false
namespace Go.Proofs.YtcijnloneigfcaaDoor
open Go.RowKit
/-- weaker data in the arguments -/
theorem impl_arg {P : Program} {C : World → Prop} {f : FuncId} {ds ds' : List V} {r : V} (hd : ∀ (w : World) (S : Nat → Prop) (l : List Value), RdL w S l ds → RdL w S l ds') (h : Impl P C f ds' r) : Impl P C f ds r :=
  ⟨h.1, fun w S args hC hS ha => h.2 w S args hC hS (hd w S args ha)⟩
theorem rd_w0 {w : World} {S : Nat → Prop} {v : Value} (h : Rd w S v (.agg [.bool false, .nil, .int .i64 0, .bool false, .nil, .int .i64 0])) :
    Rd w S v (.agg [.bool (decide ((0 : Int) < 0)), N (0 : Int).natAbs, .int .i64 0, .bool (decide ((0 : Int) < 0)), N (0 : Int).natAbs, .int .i64 0]) := by
  obtain ⟨arr, rfl, hr⟩ := h.agg_inv
  cases hr with | cons h1 hr => cases hr with | cons h2 hr => cases hr with | cons h3 hr => cases hr with | cons h4 hr => cases hr with | cons h5 hr => cases hr with | cons h6 hr => cases hr with | nil =>
    exact .agg (.cons (by simpa using h1) (.cons (rd_nil_N0 h2) (.cons h3 (.cons (by simpa using h4) (.cons (rd_nil_N0 h5) (.cons h6 .nil))))))
theorem tmod_lo (v : Int) {n : Int} (hn : 0 < n) : -n < v.tmod n := by
  have := Int.tmod_lt_of_pos (-v) hn
  rw [Int.neg_tmod] at this
  omega
theorem mod_neg {v n : Int} (hn : 0 < n) (h : wRem v n < 0) : wRem v n + n = v % n := by
  unfold wRem at *
  have h1 := Int.tmod_add_mul_tdiv v n
  have h2 := tmod_lo v hn
  have h3 : v % n = (v.tmod n) % n := by
    conv => lhs; rw [← h1]
    rw [Int.add_mul_emod_self_left]
  rw [h3, ← Int.add_emod_right, Int.emod_eq_of_lt (by omega) (by omega)]
theorem mod_pos {v n : Int} (hn : 0 < n) (h : 0 ≤ wRem v n) : wRem v n = v % n := by
  unfold wRem at *
  have h1 := Int.tmod_add_mul_tdiv v n
  have h2 := Int.tmod_lt_of_pos v hn
  have h3 : v % n = (v.tmod n) % n := by
    conv => lhs; rw [← h1]
    rw [Int.add_mul_emod_self_left]
  rw [h3, Int.emod_eq_of_lt h h2]
theorem wRem_abs {v n : Int} (hn : 0 < n) : -n < wRem v n ∧ wRem v n < n := ⟨tmod_lo v hn, Int.tmod_lt_of_pos v hn⟩
/-! ### values -/
theorem mk_cases {m e : Int} (hE : mkE m e = 0) : (m = 0 ∧ mkM m e = 0 ∧ mkX m e = 0) ∨ (m ≠ 0 ∧ mkM m e = dm m ∧ mkX m e = de m e ∧ vdb (dm m) (de m e) = true) := by
  by_cases hm : m = 0
  · refine .inl ⟨hm, ?_, ?_⟩
    · unfold mkM; rw [if_pos hE, hm, dm_zero]
    · unfold mkX; rw [if_neg (fun q => q.2 hm)]
  · refine .inr ⟨hm, ?_, ?_, ?_⟩
    · unfold mkM; rw [if_pos hE]
    · unfold mkX; rw [if_pos ⟨hE, hm⟩]
    · unfold mkE at hE
      split at hE
      · omega
      · first
        | (rw [if_neg hm] at hE; split at hE; assumption; omega)
        | (split at hE; assumption; omega)
theorem mk_low {m e : Int} (hE : mkE m e = 0) {c : Int} (hc : c ≤ e) (h0 : c ≤ 0) : c ≤ mkX m e := by
  rcases mk_cases hE with ⟨_, _, h⟩ | ⟨_, _, h, _⟩
  · omega
  · rw [h]; unfold de; omega
theorem mk_val {m e : Int} (hE : mkE m e = 0) {c : Int} (hc : c ≤ e) : mkM m e * 2 ^ (mkX m e - c).toNat = m * 2 ^ (e - c).toNat := by
  rcases mk_cases hE with ⟨h, h1, h2⟩ | ⟨h, h1, h2, _⟩
  · rw [h1, h, Int.zero_mul, Int.zero_mul]
  · rw [h1, h2]
    unfold de
    rw [show (e + (tz m.natAbs : Int) - c).toNat = tz m.natAbs + (e - c).toNat by omega, Int.pow_add, ← Int.mul_assoc, dm_mul]
theorem cmpD_mk {m e n f : Int} (h1 : mkE m e = 0) (h2 : mkE n f = 0) : cmpD (mkM m e) (mkX m e) (mkM n f) (mkX n f) = cmpD m e n f := by
  have r := iMin_range e f
  obtain ⟨c, c1, c2, c3⟩ : ∃ c : Int, c ≤ e ∧ c ≤ f ∧ c ≤ 0 := ⟨iMin (iMin e f) 0, by have := iMin_range (iMin e f) 0; omega, by have := iMin_range (iMin e f) 0; omega, by have := iMin_range (iMin e f) 0; omega⟩
  rw [cmpD_at _ _ _ _ (mk_low h1 c1 c3) (mk_low h2 c2 c3), mk_val h1 c1, mk_val h2 c2, ← cmpD_at m e n f c1 c2]
theorem cmpD_same (m n e : Int) : cmpD m e n e = cmpI m n := by
  rw [cmpD_at m e n e (Int.le_refl _) (Int.le_refl _)]; simp
theorem cmpD_up (m n : Int) {e f : Int} (h : f ≤ e) : cmpD m e n f = cmpI (m * 2 ^ (e - f).toNat) n := by
  rw [cmpD_at m e n f h (Int.le_refl _)]; simp
theorem cmpD_down (m n : Int) {e f : Int} (h : e ≤ f) : cmpD m e n f = cmpI m (n * 2 ^ (f - e).toNat) := by
  rw [cmpD_at m e n f (Int.le_refl _) h]; simp
theorem mk_vdb {m e : Int} (hE : mkE m e = 0) : vdb (mkM m e) (mkX m e) = true := by
  rcases mk_cases hE with ⟨_, h1, h2⟩ | ⟨_, h1, h2, h3⟩
  · rw [h1, h2]; simp [vdb]
  · rw [h1, h2]; exact h3
theorem mk_on {m e p : Int} (hE : mkE m e = 0) (hp : -p ≤ e) (h : (-2048 : Int) ≤ p ∧ p ≤ 8192) : onB (mkM m e) (mkX m e) p = true := by
  refine decide_eq_true ⟨h, ?_⟩
  rcases mk_cases hE with ⟨_, h1, h2⟩ | ⟨_, h1, h2, h3⟩
  · exact .inl h1
  · refine .inr ?_; rw [h2]; unfold de; omega
theorem mk_fine2 {m e : Int} (h : L m.natAbs ≤ 900) (he : -60000 ≤ e ∧ e ≤ 30000) : mkE m e = 0 := by
  by_cases hm : m = 0
  · exact (mk_r2 (by omega) hm).2.2
  · refine (mk_r4 (by omega) hm ?_).2.2
    rw [vdb_iff]
    have h1 := L_dm m
    have h2 := nbits_L (dm m).natAbs
    have h3 := tz_L m.natAbs
    have h4 := dm_odd hm
    unfold de
    exact .inr ⟨dm_ne hm, by omega, by omega, by omega, h4⟩
/-- the exponent of a normalised number -/
theorem mkX_hi {m e : Int} (hE : mkE m e = 0) (he : e ≤ 0) : mkX m e ≤ 32 * (L m.natAbs : Int) := by
  rcases mk_cases hE with ⟨_, h1, h2⟩ | ⟨_, h1, h2, h3⟩
  · omega
  · rw [h2]; unfold de; have := tz_L m.natAbs; omega
theorem mkX_sub {m e n f : Int} (h1 : mkE m e = 0) (h2 : mkE n f = 0) (he : e ≤ 0 ∧ f = e) : mkX m e - mkX n f ≤ 32 * (L m.natAbs : Int) - e := by
  have a := mkX_hi h1 he.1
  have b := mk_low h2 (c := e) (by omega) (by omega)
  omega
/-- an interval whose ends are neighbours on a grid, or the same, or one apart, is tight -/
theorem tight_ok {lo hi w : Int} (hw : 0 ≤ w ∧ w ≤ 1500) (h1 : lo ≤ hi) (h2 : hi ≤ lo + 2) (hL : L lo.natAbs ≤ 200 ∧ L hi.natAbs ≤ 200) : tgB (mkM lo (-w)) (mkX lo (-w)) (mkM hi (-w)) (mkX hi (-w)) w = true := by
  have e1 : mkE lo (-w) = 0 := mk_fine2 (by omega) (by omega)
  have e2 : mkE hi (-w) = 0 := mk_fine2 (by omega) (by omega)
  have f1 := mk_facts lo (-w)
  have f2 := mk_facts hi (-w)
  have m1 := mkX_hi e1 (by omega)
  have m2 := mkX_hi e2 (by omega)
  have n1 := mk_low e1 (c := -w) (by omega) (by omega)
  have n2 := mk_low e2 (c := -w) (by omega) (by omega)
  have r := iMin_range (mkX hi (-w)) (mkX lo (-w))
  have D1 := L_abs_shl (mkM hi (-w)) (mkX hi (-w) - iMin (mkX hi (-w)) (mkX lo (-w))).toNat
  have D2 := L_abs_shl (-(mkM lo (-w))) (mkX lo (-w) - iMin (mkX hi (-w)) (mkX lo (-w))).toNat
  have D3 := L_abs_neg (mkM lo (-w))
  have D4 := L_abs_add (mkM hi (-w) * 2 ^ (mkX hi (-w) - iMin (mkX hi (-w)) (mkX lo (-w))).toNat) (-(mkM lo (-w)) * 2 ^ (mkX lo (-w) - iMin (mkX hi (-w)) (mkX lo (-w))).toNat)
  have hD : L (adS (mkM hi (-w)) (mkX hi (-w)) (-(mkM lo (-w))) (mkX lo (-w))).natAbs ≤ 900 := by unfold adS; omega
  have e3 : mkE (adS (mkM hi (-w)) (mkX hi (-w)) (-(mkM lo (-w))) (mkX lo (-w))) (iMin (mkX hi (-w)) (mkX lo (-w))) = 0 := mk_fine2 hD (by omega)
  have u := mk_unit (p := w - 1) (by omega)
  have hcmp : cmpD (mkM (adS (mkM hi (-w)) (mkX hi (-w)) (-(mkM lo (-w))) (mkX lo (-w))) (iMin (mkX hi (-w)) (mkX lo (-w)))) (mkX (adS (mkM hi (-w)) (mkX hi (-w)) (-(mkM lo (-w))) (mkX lo (-w))) (iMin (mkX hi (-w)) (mkX lo (-w)))) (mkM (1 : Int) (-(w - 1))) (mkX (1 : Int) (-(w - 1))) ≤ 0 := by
    rw [cmpD_mk e3 u.2.2.1]
    obtain ⟨c, c1, c2, c3, c4⟩ : ∃ c : Int, c ≤ -w ∧ c ≤ iMin (mkX hi (-w)) (mkX lo (-w)) ∧ c ≤ 0 ∧ c ≤ -(w - 1) := ⟨-w, by omega, by omega, by omega, by omega⟩
    rw [cmpD_at _ _ _ _ c2 c4]
    have v1 := mk_val e1 c1
    have v2 := mk_val e2 c1
    have hv : adS (mkM hi (-w)) (mkX hi (-w)) (-(mkM lo (-w))) (mkX lo (-w)) * 2 ^ (iMin (mkX hi (-w)) (mkX lo (-w)) - c).toNat = (hi - lo) * 2 ^ (-w - c).toNat := by
      unfold adS
      rw [Int.add_mul, Int.mul_assoc, Int.mul_assoc, ← Int.pow_add, ← Int.pow_add,
        show (mkX hi (-w) - iMin (mkX hi (-w)) (mkX lo (-w))).toNat + (iMin (mkX hi (-w)) (mkX lo (-w)) - c).toNat = (mkX hi (-w) - c).toNat by omega,
        show (mkX lo (-w) - iMin (mkX hi (-w)) (mkX lo (-w))).toNat + (iMin (mkX hi (-w)) (mkX lo (-w)) - c).toNat = (mkX lo (-w) - c).toNat by omega, v2, Int.neg_mul, v1, Int.sub_mul]
      omega
    have hu : (1 : Int) * 2 ^ (-(w - 1) - c).toNat = 2 * 2 ^ (-w - c).toNat := by
      rw [show (-(w - 1) - c).toNat = (-w - c).toNat + 1 by omega, Int.pow_succ]; omega
    rw [hv, hu, cmpI_mul (two_pos _)]
    have := cmpI_range (hi - lo) 2
    omega
  unfold tgB ivB
  rw [mk_vdb e1, mk_vdb e2, cmpD_mk e1 e2, cmpD_same, mk_on e1 (by omega) (by omega), mk_on e2 (by omega) (by omega), decide_eq_true e3, decide_eq_true hcmp, decide_eq_true (show 0 ≤ w ∧ w ≤ 4224 by omega)]
  have := cmpI_range lo hi
  rw [decide_eq_true (show cmpI lo hi ≤ 0 by omega)]
  rfl
/-- two intervals meet -/
theorem meets_ok {a b c d e f : Int} (h1 : mkE a e = 0) (h2 : mkE b e = 0) (h3 : mkE c f = 0) (h4 : mkE d f = 0) (hef : f ≤ e) (k1 : c ≤ b * 2 ^ (e - f).toNat) (k2 : a * 2 ^ (e - f).toNat ≤ d) :
    ivCmp (mkM a e) (mkX a e) (mkM b e) (mkX b e) (mkM c f) (mkX c f) (mkM d f) (mkX d f) = 0 := by
  unfold ivCmp
  rw [cmpD_mk h2 h3, cmpD_mk h1 h4, cmpD_up _ _ hef, cmpD_up _ _ hef]
  have := cmpI_range (b * 2 ^ (e - f).toNat) c
  have := cmpI_range (a * 2 ^ (e - f).toNat) d
  rw [if_neg (by omega), if_neg (by omega)]
end Go.Proofs.YtcijnloneigfcaaDoor
