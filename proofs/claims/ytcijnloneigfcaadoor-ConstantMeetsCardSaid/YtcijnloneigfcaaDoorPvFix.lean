/-
  Plain facts on the program's spans: its sums for the constants. No condition.
-/
import Derived.Test.YtcijnloneigfcaaDoorPvSpan
import Derived.Test.YtcijnloneigfcaaDoorPvOb
set_option linter.unusedVariables false
set_option linter.unusedSimpArgs false
namespace Go.Proofs.YtcijnloneigfcaaDoor
theorem weak_box1 {s : List D} {h : List Box} (b : Nat) (x y : Box) (hb : h[b]? = some x) (ha : y.alive = x.alive) (hf : y.frozen = x.frozen) (hl : y.cells.length = x.cells.length)
    (hr : ∀ (w : World) (S : Nat → Prop) (l : List Value), RdL w S l x.cells → RdL w S l y.cells) : Weak ⟨s, h⟩ ⟨s, h.set b y⟩ := by
  intro w0 S0 a w ρ ok
  have hbl : b < h.length := lt_of_get hb
  have hget : ∀ (i : Nat) (z : Box), (h.set b y)[i]? = some z → ∃ u : Box, h[i]? = some u ∧ z.alive = u.alive ∧ z.frozen = u.frozen ∧ z.cells.length = u.cells.length ∧ ∀ (w : World) (S : Nat → Prop) (l : List Value), RdL w S l u.cells → RdL w S l z.cells := by
    intro i z hz
    rw [List.getElem?_set] at hz
    split at hz
    · rename_i e
      subst e
      (try rw [if_pos hbl] at hz)
      cases hz
      exact ⟨x, hb, ha, hf, hl, hr⟩
    · exact ⟨z, hz, rfl, rfl, rfl, fun _ _ _ q => q⟩
  have hstab : ∀ c, stab S0 ρ h c → stab S0 ρ (h.set b y) c := fun c hc => ⟨hc.1, fun i z hz za zf hi => by
    obtain ⟨u, hu, ua, uf, _⟩ := hget i z hz
    exact hc.2 i u hu (ua ▸ za) (uf ▸ zf) hi⟩
  have hls : Lasts w w (stab S0 ρ h) (stab S0 ρ (h.set b y)) := ⟨Nat.le_refl _, fun c _ hc => ⟨hstab c hc, rfl⟩⟩
  refine ⟨ρ, ⟨ok.ok.below, by simpa using ok.ok.heap.len, ok.ok.heap.low, ?_, ?_⟩, ok.size, fun t => (ok.slots t).lasts hls (fun _ _ _ q => q) (fun _ _ q => q), ok.defers⟩
  · intro i j p q β hp hq pa qa hi hj
    obtain ⟨p', hp', pa', _⟩ := hget i p hp
    obtain ⟨q', hq', qa', _⟩ := hget j q hq
    exact ok.ok.heap.inj i j p' q' β hp' hq' (pa' ▸ pa) (qa' ▸ qa) hi hj
  · intro i z β hz za hi
    obtain ⟨u, hu, ua, _, ul, ur⟩ := hget i z hz
    obtain ⟨vs, t, h1, h2, h3⟩ := ok.ok.heap.box i u β hu (ua ▸ za) hi
    exact ⟨vs, t, h1, by rw [ul]; exact h2, by rw [ul]; exact ur _ _ _ (h3.lasts hls)⟩
theorem rd_z0 {w : World} {S : Nat → Prop} {l : List Value} (h : RdL w S l [.bool false, .nil]) : RdL w S l [.bool (decide ((0 : Int) < 0)), N (0 : Int).natAbs] := by
  cases h with | cons h1 h => cases h with | cons h2 h => cases h with | nil =>
    refine .cons (by simpa using h1) (.cons ?_ .nil)
    have : N (0 : Int).natAbs = .sl 1 [] := by simp [N, lim, limbs_zero, U]
    rw [this]
    cases h2
    exact .nilsl
/-! ### the sum of 1 / ((2 k + 1) n^(2 k + 1)) -/
def arcG (n : Nat) (g : Bool) : Nat → Int → Nat → Int → Int × Int
  | 0, k, _, s => (k, s)
  | f + 1, k, p, s => if p = 0 then (k, s) else arcG n g f (k + 1) (p / n / n) (s + sgn (g && decide (k % 2 = 1)) (p / (2 * k + 1).toNat))
def arcT (n : Int) (g : Bool) (s : Int) : Int × Int := arcG n.toNat g (s.toNat + 2) 0 (1 * 2 ^ s.toNat / n.toNat) 0
def ArcInv (n : Int) (g : Bool) (s : Int) (T : Int × Int) (f k : Int) (p : Nat) (a : Int) : Prop :=
  0 ≤ f ∧ 0 ≤ k ∧ k + f = s + 1 ∧ arcG n.toNat g (f.toNat + 1) k p a = T ∧ p < 2 ^ f.toNat ∧ L p ≤ s / 32 + 2 ∧ L a.natAbs ≤ s / 32 + 2 + k
theorem arc_end {n : Int} {g : Bool} {s : Int} {T : Int × Int} {f k a : Int} {p : Nat} (h : ArcInv n g s T f k p a) (hp : p = 0) : k = T.1 ∧ a = T.2 := by
  obtain ⟨h1, h2, h3, h4, _⟩ := h
  rw [arcG, if_pos hp] at h4
  rw [← h4]; exact ⟨rfl, rfl⟩
theorem arc_f {n : Int} {g : Bool} {s : Int} {T : Int × Int} {f k a : Int} {p : Nat} (h : ArcInv n g s T f k p a) (hp : p ≠ 0) : 1 ≤ f := by
  obtain ⟨h1, h2, h3, h4, h5, _⟩ := h
  refine Decidable.byContradiction fun q => ?_
  rw [show f.toNat = 0 by omega] at h5
  omega
theorem arc_next {n : Int} {g : Bool} {s : Int} {T : Int × Int} {f k a : Int} {p : Nat} (hn : 2 ≤ n) (h : ArcInv n g s T f k p a) (hp : p ≠ 0) {b : Bool} (hb : b = (g && decide (k % 2 = 1))) :
    ArcInv n g s T (f - 1) (k + 1) (p / n.toNat / n.toNat) (a + sgn b (p / (2 * k + 1).toNat)) := by
  have hf := arc_f h hp
  obtain ⟨h1, h2, h3, h4, h5, h6, h7⟩ := h
  have hfn : f.toNat = (f - 1).toNat + 1 := by omega
  rw [arcG, if_neg hp, hfn] at h4
  rw [hfn, Nat.pow_succ] at h5
  have d1 : p / n.toNat ≤ p / 2 := Nat.div_le_div_left (by omega) (by omega)
  have d2 : p / n.toNat / n.toNat ≤ p / n.toNat := Nat.div_le_self _ _
  have l1 := L_mono (Nat.le_trans d2 (Nat.le_trans d1 (Nat.div_le_self p 2)))
  have l2 := L_div p (2 * k + 1).toNat
  have l3 := L_sgn b (p / (2 * k + 1).toNat)
  have l4 := L_abs_add a (sgn b (p / (2 * k + 1).toNat))
  refine ⟨by omega, by omega, by omega, by rw [hb]; exact h4, by omega, by omega, by omega⟩
theorem arc_init {n : Int} {g : Bool} {s : Int} (hs : 0 ≤ s) : ArcInv n g s (arcT n g s) (s + 1) 0 (1 * 2 ^ s.toNat / n.toNat) 0 := by
  have l0 := L_two_pow s.toNat
  have l1 := L_div (1 * 2 ^ s.toNat) n.toNat
  rw [Nat.one_mul] at l1 ⊢
  have d : 2 ^ s.toNat / n.toNat ≤ 2 ^ s.toNat := Nat.div_le_self _ _
  have e : 2 ^ s.toNat < 2 ^ (s + 1).toNat := Nat.pow_lt_pow_right (by omega) (by omega)
  refine ⟨by omega, by omega, by omega, ?_, by omega, by omega, by simp [L_zero]; omega⟩
  unfold arcT
  rw [show (s + 1).toNat + 1 = s.toNat + 2 by omega, Nat.one_mul]
theorem arc_bound {n : Int} {g : Bool} {s : Int} {T : Int × Int} {f k a : Int} {p : Nat} (h : ArcInv n g s T f k p a) : 0 ≤ k ∧ k ≤ s + 1 ∧ L p ≤ s / 32 + 2 ∧ L a.natAbs ≤ s / 32 + 3 + s := by
  obtain ⟨h1, h2, h3, h4, h5, h6, h7⟩ := h; omega
theorem arc_T {n : Int} {g : Bool} {s : Int} {T : Int × Int} (hn : 2 ≤ n) : ∀ (m : Nat) (f k : Int) (p : Nat) (a : Int), f.toNat = m → ArcInv n g s T f k p a → 0 ≤ T.1 ∧ T.1 ≤ s + 1 ∧ L T.2.natAbs ≤ s / 32 + 3 + s
  | m, f, k, p, a, hm, h => by
    have hb := arc_bound h
    by_cases ht : p = 0
    · obtain ⟨e1, e2⟩ := arc_end h ht
      rw [← e1, ← e2]; exact ⟨hb.1, hb.2.1, hb.2.2.2⟩
    · have hf := arc_f h ht
      cases m with
      | zero => omega
      | succ m => exact arc_T hn m _ _ _ _ (by omega) (arc_next hn h ht rfl)
theorem arcT_L {n : Int} (g : Bool) {s : Int} (hn : 2 ≤ n) (hs : 0 ≤ s ∧ s ≤ 6000) : 0 ≤ (arcT n g s).1 ∧ (arcT n g s).1 ≤ s + 1 ∧ L ((arcT n g s).2 - 3 * ((arcT n g s).1 + 2)).natAbs ≤ s / 32 + 7 + s ∧ L ((arcT n g s).2 + 3 * ((arcT n g s).1 + 2)).natAbs ≤ s / 32 + 7 + s := by
  have h := arc_T hn _ _ _ _ _ rfl (arc_init (n := n) (g := g) hs.1)
  have l0 := L_i64 (n := 3 * ((arcT n g s).1 + 2)) (by omega)
  have l1 := L_abs_sub (arcT n g s).2 (3 * ((arcT n g s).1 + 2))
  have l2 := L_abs_add (arcT n g s).2 (3 * ((arcT n g s).1 + 2))
  omega
/-! ### the program's sum of 1 / k! -/
def epG : Nat → Int → Nat → Nat → Int × Nat
  | 0, k, _, s => (k, s)
  | f + 1, k, p, s => if p = 0 then (k, s) else epG f (k + 1) (p / k.toNat) (s + p / k.toNat)
def epT (s : Int) : Int × Nat := epG (s.toNat + 3) 1 (1 * 2 ^ s.toNat) (1 * 2 ^ s.toNat)
def EpInv (s : Int) (T : Int × Nat) (f k : Int) (p a : Nat) : Prop :=
  0 ≤ f ∧ 1 ≤ k ∧ k + f = s + 3 ∧ epG (f.toNat + 1) k p a = T ∧ p < 2 ^ f.toNat ∧ (k = 1 → p < 2 ^ (f - 1).toNat) ∧ L p ≤ s / 32 + 2 ∧ L a ≤ s / 32 + 2 + k
theorem ep_end {s : Int} {T : Int × Nat} {f k : Int} {p a : Nat} (h : EpInv s T f k p a) (hp : p = 0) : k = T.1 ∧ a = T.2 := by
  obtain ⟨h1, h2, h3, h4, _⟩ := h
  rw [epG, if_pos hp] at h4
  rw [← h4]; exact ⟨rfl, rfl⟩
theorem ep_f {s : Int} {T : Int × Nat} {f k : Int} {p a : Nat} (h : EpInv s T f k p a) (hp : p ≠ 0) : 1 ≤ f := by
  obtain ⟨h1, h2, h3, h4, h5, _⟩ := h
  refine Decidable.byContradiction fun q => ?_
  rw [show f.toNat = 0 by omega] at h5
  omega
theorem ep_next {s : Int} {T : Int × Nat} {f k : Int} {p a : Nat} (h : EpInv s T f k p a) (hp : p ≠ 0) : EpInv s T (f - 1) (k + 1) (p / k.toNat) (a + p / k.toNat) := by
  have hf := ep_f h hp
  obtain ⟨h1, h2, h3, h4, h5, h6, h7, h8⟩ := h
  have hfn : f.toNat = (f - 1).toNat + 1 := by omega
  rw [epG, if_neg hp, hfn] at h4
  have d0 : p / k.toNat ≤ p := Nat.div_le_self _ _
  have hlt : p / k.toNat < 2 ^ (f - 1).toNat := by
    by_cases hk : k = 1
    · have := h6 hk; omega
    · rw [hfn, Nat.pow_succ] at h5
      have d1 : p / k.toNat ≤ p / 2 := Nat.div_le_div_left (by omega) (by omega)
      omega
  have l1 := L_mono d0
  have l4 := L_add a (p / k.toNat)
  exact ⟨by omega, by omega, by omega, h4, hlt, fun q => by omega, by omega, by omega⟩
theorem ep_init {s : Int} (hs : 0 ≤ s) : EpInv s (epT s) (s + 2) 1 (1 * 2 ^ s.toNat) (1 * 2 ^ s.toNat) := by
  have l0 := L_two_pow s.toNat
  have e : 2 ^ s.toNat < 2 ^ (s + 2).toNat := Nat.pow_lt_pow_right (by omega) (by omega)
  have e2 : 2 ^ s.toNat < 2 ^ (s + 2 - 1).toNat := Nat.pow_lt_pow_right (by omega) (by omega)
  unfold epT
  rw [Nat.one_mul]
  refine ⟨by omega, by omega, by omega, ?_, e, fun _ => e2, by omega, by omega⟩
  rw [show (s + 2).toNat + 1 = s.toNat + 3 by omega]
theorem ep_bound {s : Int} {T : Int × Nat} {f k : Int} {p a : Nat} (h : EpInv s T f k p a) : 1 ≤ k ∧ k ≤ s + 3 ∧ L p ≤ s / 32 + 2 ∧ L a ≤ s / 32 + 5 + s := by
  obtain ⟨h1, h2, h3, h4, h5, h6, h7, h8⟩ := h; omega
theorem ep_T {s : Int} {T : Int × Nat} : ∀ (m : Nat) (f k : Int) (p a : Nat), f.toNat = m → EpInv s T f k p a → 1 ≤ T.1 ∧ T.1 ≤ s + 3 ∧ L T.2 ≤ s / 32 + 5 + s
  | m, f, k, p, a, hm, h => by
    have hb := ep_bound h
    by_cases ht : p = 0
    · obtain ⟨e1, e2⟩ := ep_end h ht
      rw [← e1, ← e2]; exact ⟨hb.1, hb.2.1, hb.2.2.2⟩
    · have hf := ep_f h ht
      cases m with
      | zero => omega
      | succ m => exact ep_T m _ _ _ _ (by omega) (ep_next h ht)
theorem epT_L {s : Int} (hs : 0 ≤ s ∧ s ≤ 6000) : 1 ≤ (epT s).1 ∧ (epT s).1 ≤ s + 3 ∧ L ((sgn false (epT s).2) - 3 * ((epT s).1 + 2)).natAbs ≤ s / 32 + 9 + s ∧ L ((sgn false (epT s).2) + 3 * ((epT s).1 + 2)).natAbs ≤ s / 32 + 9 + s := by
  have h := ep_T _ _ _ _ _ rfl (ep_init hs.1)
  have l := L_sgn false (epT s).2
  have l0 := L_i64 (n := 3 * ((epT s).1 + 2)) (by omega)
  have l1 := L_abs_sub (sgn false (epT s).2) (3 * ((epT s).1 + 2))
  have l2 := L_abs_add (sgn false (epT s).2) (3 * ((epT s).1 + 2))
  omega
theorem arc_b {k : Int} (h : 0 ≤ k) : iEq (wRem k (2 : Int)) 1 = (true && decide (k % 2 = 1)) := by
  rw [rem_two h]; unfold iEq; by_cases q : k % 2 = 1 <;> simp [q]
theorem arc_b0 (k : Int) : false = (false && decide (k % 2 = 1)) := rfl
theorem rd_nil_N0 {w : World} {S : Nat → Prop} {v : Value} (h : Rd w S v .nil) : Rd w S v (N (0 : Int).natAbs) := by
  have : N (0 : Int).natAbs = .sl 1 [] := by simp [N, lim, limbs_zero, U]
  rw [this]; cases h; exact .nilsl
theorem vsub_w0 (c : Int) : vsub (.tup [.agg [.bool false, .nil, .int .i64 0, .bool false, .nil, .int .i64 0], .int .i64 c])
    (.tup [.agg [.bool (decide ((0 : Int) < 0)), N (0 : Int).natAbs, .int .i64 0, .bool (decide ((0 : Int) < 0)), N (0 : Int).natAbs, .int .i64 0], .int .i64 c]) := by
  refine vsub_tup2 (fun w S x hx => ?_) (vsub_refl _)
  obtain ⟨arr, rfl, hr⟩ := hx.agg_inv
  cases hr with | cons h1 hr => cases hr with | cons h2 hr => cases hr with | cons h3 hr => cases hr with | cons h4 hr => cases hr with | cons h5 hr => cases hr with | cons h6 hr => cases hr with | nil =>
    exact .agg (.cons (by simpa using h1) (.cons (rd_nil_N0 h2) (.cons h3 (.cons (by simpa using h4) (.cons (rd_nil_N0 h5) (.cons h6 .nil))))))
theorem nbits_of_lt {x k : Nat} (h : x < 2 ^ k) : nbits x ≤ k := by
  by_cases hx : x = 0
  · rw [hx]; simp [nbits]
  · have h1 := nbits_le hx
    have h2 := nbits_pos hx
    have := (Nat.pow_lt_pow_iff_right (a := 2) (by omega)).1 (Nat.lt_of_le_of_lt h1 h)
    omega
theorem mk_fine {m e : Int} (h : L m.natAbs ≤ 2000) (he : -60000 ≤ e ∧ e ≤ 0) : mkE m e = 0 := by
  by_cases hm : m = 0
  · exact (mk_r2 (by omega) hm).2.2
  · refine (mk_r4 (by omega) hm ?_).2.2
    rw [vdb_iff]
    have h1 := L_dm m
    have h2 := nbits_L (dm m).natAbs
    have h3 := tz_L m.natAbs
    have h4 := dm_odd hm
    unfold de
    exact .inr ⟨dm_ne hm, by omega, by omega, by omega, h4⟩
/-! ### tight intervals -/
def onB (m e p : Int) : Bool := decide (((-2048 : Int) ≤ p ∧ p ≤ 8192) ∧ (m = 0 ∨ -p ≤ e))
def tgB (m e n f w : Int) : Bool := decide (0 ≤ w ∧ w ≤ 4224) && ivB m e n f && onB m e w && onB n f w && decide (mkE (adS n f (-m) e) (iMin f e) = 0) &&
  decide (cmpD (mkM (adS n f (-m) e) (iMin f e)) (mkX (adS n f (-m) e) (iMin f e)) (mkM (1 : Int) (-(w - 1))) (mkX (1 : Int) (-(w - 1))) ≤ 0)
theorem ivB_range {m e n f : Int} (h : (!ivB m e n f) = false) : (-65536 ≤ e ∧ e ≤ 65536) ∧ (-65536 ≤ f ∧ f ≤ 65536) ∧ L m.natAbs ≤ 2048 ∧ L n.natAbs ≤ 2048 := by
  have h := notb_f h
  unfold ivB at h
  simp only [Bool.and_eq_true] at h
  have a := vdb_range m e h.1.1
  have b := vdb_range n f h.1.2
  omega
theorem tg_1 {m e n f w : Int} (h : w < 0 ∨ 4224 < w) : false = tgB m e n f w := by
  unfold tgB; rw [show decide (0 ≤ w ∧ w ≤ 4224) = false from decide_eq_false (by omega)]; rfl
theorem tg_2 {m e n f w : Int} (h : (!ivB m e n f) = true) : false = tgB m e n f w := by
  unfold tgB; rw [notb_t h]; simp
theorem tg_3 {m e n f w : Int} (h : (!decide (((-2048 : Int) ≤ w ∧ w ≤ 8192) ∧ (m = 0 ∨ -w ≤ e))) = true) : false = tgB m e n f w := by
  unfold tgB; rw [show onB m e w = false from notb_t h]; simp
theorem tg_4 {m e n f w : Int} (h : (!decide (((-2048 : Int) ≤ w ∧ w ≤ 8192) ∧ (n = 0 ∨ -w ≤ f))) = true) : false = tgB m e n f w := by
  unfold tgB; rw [show onB n f w = false from notb_t h]; simp
theorem tg_5 {m e n f w : Int} (hw : 0 ≤ w ∧ w ≤ 4224) (hv : (!ivB m e n f) = false) (h1 : (!decide (((-2048 : Int) ≤ w ∧ w ≤ 8192) ∧ (m = 0 ∨ -w ≤ e))) = false) (h2 : (!decide (((-2048 : Int) ≤ w ∧ w ≤ 8192) ∧ (n = 0 ∨ -w ≤ f))) = false)
    (he : mkE (adS n f (-m) e) (iMin f e) = 0) : iLe (cmpD (mkM (adS n f (-m) e) (iMin f e)) (mkX (adS n f (-m) e) (iMin f e)) (mkM (1 : Int) (-(w - 1))) (mkX (1 : Int) (-(w - 1)))) 0 = tgB m e n f w := by
  unfold tgB
  rw [decide_eq_true hw, notb_f hv, show onB m e w = true from notb_f h1, show onB n f w = true from notb_f h2, decide_eq_true he]; rfl
theorem tg_6 {m e n f w : Int} (he : mkE (adS n f (-m) e) (iMin f e) ≠ 0) : false = tgB m e n f w := by
  unfold tgB; rw [show decide (mkE (adS n f (-m) e) (iMin f e) = 0) = false from decide_eq_false he]; simp
end Go.Proofs.YtcijnloneigfcaaDoor
