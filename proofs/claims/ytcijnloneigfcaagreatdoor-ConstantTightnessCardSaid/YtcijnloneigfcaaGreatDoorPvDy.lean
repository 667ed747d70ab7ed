/-
  Plain facts on dyadic numbers m * 2^e: what Make gives, what comparisons say. No condition.
-/
import Derived.Test.YtcijnloneigfcaaGreatDoorPvInt5
namespace Go.Proofs.YtcijnloneigfcaaGreatDoor

/-- is m * 2^e a valid dyadic as it stands? -/
def vdb (m e : Int) : Bool := if m = 0 then decide (e = 0) else decide (nbits m.natAbs ≤ 65536) && decide (-65536 ≤ e) && decide (e ≤ 65536) && m.natAbs.testBit 0
/-- the odd part, and the exponent that goes with it -/
def dm (m : Int) : Int := sgn (decide (m < 0)) (m.natAbs / 2 ^ tz m.natAbs)
def de (m e : Int) : Int := e + (tz m.natAbs : Int)
/-- what Make says and gives -/
def mkE (m e : Int) : Int := if e < -131072 ∨ 131072 < e then 1 else if m = 0 then 0 else if vdb (dm m) (de m e) = true then 0 else 3
def mkM (m e : Int) : Int := if mkE m e = 0 then dm m else 0
def mkX (m e : Int) : Int := if mkE m e = 0 ∧ m ≠ 0 then de m e else 0
def exE (m e : Int) : Int := if mkE m e = 0 then 0 else 3
def cmpD (m e n f : Int) : Int := cmpI (m * 2 ^ (e - iMin e f).toNat) (n * 2 ^ (f - iMin e f).toNat)
def topD (m e : Int) : Int := if m = 0 then 0 else (nbits m.natAbs : Int) + e
def adS (m e n f : Int) : Int := m * 2 ^ (e - iMin e f).toNat + n * 2 ^ (f - iMin e f).toNat

theorem vdb_1 {m e : Int} (h : m = 0) : iEq e 0 = vdb m e := by unfold vdb iEq; rw [if_pos h]; by_cases q : e = 0 <;> simp [q]
theorem vdb_2 {m e : Int} (h : m ≠ 0 ∧ nbits m.natAbs ≤ 65536 ∧ -65536 ≤ e ∧ e ≤ 65536) : m.natAbs.testBit 0 = vdb m e := by
  unfold vdb; rw [if_neg h.1, decide_eq_true h.2.1, decide_eq_true h.2.2.1, decide_eq_true h.2.2.2]; rfl
theorem vdb_3 {m e : Int} (h : m ≠ 0) (k : 65536 < nbits m.natAbs ∨ e < -65536 ∨ 65536 < e) : false = vdb m e := by
  unfold vdb; rw [if_neg h]
  rcases k with k | k | k
  · rw [decide_eq_false (by omega)]; rfl
  · rw [show decide (-65536 ≤ e) = false from decide_eq_false (by omega)]; simp
  · rw [show decide (e ≤ 65536) = false from decide_eq_false (by omega)]; simp
theorem vdb_iff {m e : Int} : vdb m e = true ↔ (m = 0 ∧ e = 0) ∨ (m ≠ 0 ∧ nbits m.natAbs ≤ 65536 ∧ -65536 ≤ e ∧ e ≤ 65536 ∧ m.natAbs % 2 = 1) := by
  unfold vdb
  by_cases h : m = 0
  · rw [if_pos h]; simp [h]
  · rw [if_neg h]
    simp only [Bool.and_eq_true, decide_eq_true_eq, Nat.testBit_zero, h, false_and, false_or, ne_eq, not_false_eq_true, true_and]
    constructor
    · rintro ⟨⟨⟨a, b⟩, c⟩, d⟩; exact ⟨a, b, c, d⟩
    · rintro ⟨a, b, c, d⟩; exact ⟨⟨⟨a, b⟩, c⟩, d⟩
theorem iMin_range (a b : Int) : iMin a b ≤ a ∧ iMin a b ≤ b ∧ (iMin a b = a ∨ iMin a b = b) := by
  unfold iMin; split <;> omega
theorem dm_zero : dm 0 = 0 := by simp [dm, sgn]
theorem tz_div {m : Int} (h : m ≠ 0) : 2 ^ tz m.natAbs ∣ m.natAbs := Nat.dvd_of_mod_eq_zero (tz_spec (show m.natAbs ≠ 0 by omega)).1
theorem dm_mul (m : Int) : dm m * 2 ^ tz m.natAbs = m := by
  by_cases h : m = 0
  · rw [h, dm_zero, Int.zero_mul]
  · have hd := Nat.div_mul_cancel (tz_div h)
    unfold dm sgn
    split <;> rename_i hs
    · have hs := of_decide_eq_true hs
      rw [Int.neg_mul, pow_cast, ← Int.natCast_mul, hd]; omega
    · have hs := of_decide_eq_false (show decide (m < 0) = false by simpa using hs)
      rw [pow_cast, ← Int.natCast_mul, hd]; omega
theorem dm_abs (m : Int) : (dm m).natAbs = m.natAbs / 2 ^ tz m.natAbs := sgn_abs _ _
theorem dm_ne {m : Int} (h : m ≠ 0) : dm m ≠ 0 := fun e => by have := dm_mul m; rw [e, Int.zero_mul] at this; exact h this.symm
theorem dm_odd {m : Int} (h : m ≠ 0) : (dm m).natAbs % 2 = 1 := by
  rw [dm_abs]; exact (tz_spec (show m.natAbs ≠ 0 by omega)).2
theorem dm_neg (m : Int) : dm m < 0 ↔ m < 0 := by
  have h := dm_mul m
  have hp : 0 < (2 : Int) ^ tz m.natAbs := by rw [pow_cast]; have := Nat.pow_pos (n := tz m.natAbs) (show 0 < 2 by omega); omega
  constructor
  · intro hn
    rw [← h]
    exact Int.mul_neg_of_neg_of_pos hn hp
  · intro hn
    refine Decidable.byContradiction fun q => ?_
    have := Int.mul_nonneg (Int.not_lt.1 q) (Int.le_of_lt hp)
    omega
theorem L_dm (m : Int) : L (dm m).natAbs ≤ L m.natAbs := by rw [dm_abs]; exact L_div _ _
theorem mk_facts (m e : Int) : L (mkM m e).natAbs ≤ L m.natAbs ∧ -65536 ≤ mkX m e ∧ mkX m e ≤ 65536 ∧ 0 ≤ mkE m e ∧ mkE m e ≤ 3 := by
  have h0 : 0 ≤ mkE m e ∧ mkE m e ≤ 3 := by unfold mkE; repeat' split <;> omega
  refine ⟨?_, ?_, ?_, h0.1, h0.2⟩
  · unfold mkM; split
    · exact L_dm m
    · simp [L_zero]
  all_goals
    unfold mkX
    split
    · rename_i h
      obtain ⟨h1, h2⟩ := h
      unfold mkE at h1
      split at h1
      · omega
      · try rw [if_neg h2] at h1
        split at h1
        · rename_i hv
          unfold vdb at hv
          rw [if_neg (dm_ne h2)] at hv
          simp only [Bool.and_eq_true, decide_eq_true_eq] at hv
          omega
        · omega
    · omega
theorem sgn_eq_dm (m : Int) : sgn (decide (m < 0)) (m.natAbs / 2 ^ tz m.natAbs) = dm m := rfl
/-- how Make's results read at its returns -/
theorem mk_r1 {m e : Int} (h : e < -131072 ∨ 131072 < e) : mkM m e = 0 ∧ mkX m e = 0 ∧ mkE m e = 1 := by
  have h1 : mkE m e = 1 := by unfold mkE; rw [if_pos h]
  refine ⟨?_, ?_, h1⟩
  · unfold mkM; rw [if_neg (by omega)]
  · unfold mkX; rw [if_neg (by omega)]
theorem mk_r2 {m e : Int} (h : -131072 ≤ e ∧ e ≤ 131072) (hm : m = 0) : mkM m e = 0 ∧ mkX m e = 0 ∧ mkE m e = 0 := by
  have h1 : mkE m e = 0 := by unfold mkE; rw [if_neg (by omega), if_pos hm]
  refine ⟨?_, ?_, h1⟩
  · unfold mkM; rw [if_pos h1, hm, dm_zero]
  · unfold mkX; rw [if_neg (fun q => q.2 hm)]
theorem mk_r3 {m e : Int} (h : -131072 ≤ e ∧ e ≤ 131072) (hm : m ≠ 0) (hv : vdb (dm m) (de m e) = false) : mkM m e = 0 ∧ mkX m e = 0 ∧ mkE m e = 3 := by
  have h1 : mkE m e = 3 := by unfold mkE; rw [if_neg (by omega), if_neg hm, if_neg (by rw [hv]; simp)]
  refine ⟨?_, ?_, h1⟩
  · unfold mkM; rw [if_neg (by omega)]
  · unfold mkX; rw [if_neg (by omega)]
theorem mk_r4 {m e : Int} (h : -131072 ≤ e ∧ e ≤ 131072) (hm : m ≠ 0) (hv : vdb (dm m) (de m e) = true) : mkM m e = dm m ∧ mkX m e = de m e ∧ mkE m e = 0 := by
  have h1 : mkE m e = 0 := by unfold mkE; rw [if_neg (by omega), if_neg hm, if_pos hv]
  refine ⟨?_, ?_, h1⟩
  · unfold mkM; rw [if_pos h1]
  · unfold mkX; rw [if_pos ⟨h1, hm⟩]
theorem Y_of {m n e f : Int} {c d : Int} (h : n = m ∧ f = e ∧ d = c) : vsub (.tup [.agg [.bool (decide (m < 0)), N m.natAbs, .int .i64 e], .int .i64 c]) (.tup [.agg [.bool (decide (n < 0)), N n.natAbs, .int .i64 f], .int .i64 d]) := by
  obtain ⟨rfl, rfl, rfl⟩ := h; exact vsub_refl _
/-- a zero structure: its slice is nil -/
theorem vsub_zero3 : vsub (.agg [.bool false, .nil, .int .i64 0]) (.agg [.bool (decide ((0 : Int) < 0)), N (0 : Int).natAbs, .int .i64 0]) := fun w S x hx => by
  obtain ⟨arr, rfl, hr⟩ := hx.agg_inv
  cases hr with | cons h1 hr => cases hr with | cons h2 hr => cases hr with | cons h3 hr => cases hr with | nil =>
    refine .agg (.cons (by simpa using h1) (.cons ?_ (.cons h3 .nil)))
    have : N (0 : Int).natAbs = .sl 1 [] := by simp [N, lim, limbs_zero, U]
    rw [this]
    cases h2
    exact .nilsl
theorem vsub_zero2 : vsub (.agg [.bool false, .nil]) (Z 0) := fun w S x hx => by
  obtain ⟨arr, rfl, hr⟩ := hx.agg_inv
  cases hr with | cons h1 hr => cases hr with | cons h2 hr => cases hr with | nil =>
    refine .agg (.cons (by simpa using h1) (.cons ?_ .nil))
    have : N (0 : Int).natAbs = .sl 1 [] := by simp [N, lim, limbs_zero, U]
    rw [this]
    cases h2
    exact .nilsl
theorem Y_zero {m e c d : Int} (h : m = 0 ∧ e = 0 ∧ d = c) : vsub (.tup [.agg [.bool false, .nil, .int .i64 0], .int .i64 c]) (.tup [.agg [.bool (decide (m < 0)), N m.natAbs, .int .i64 e], .int .i64 d]) := by
  obtain ⟨rfl, rfl, rfl⟩ := h; exact vsub_tup2 vsub_zero3 (vsub_refl _)
/-! ### values -/
theorem two_pos (k : Nat) : 0 < (2 : Int) ^ k := by rw [pow_cast]; have := Nat.pow_pos (n := k) (show 0 < 2 by omega); omega
theorem cmpI_mul {x y k : Int} (h : 0 < k) : cmpI (x * k) (y * k) = cmpI x y := by
  unfold cmpI
  simp only [Int.mul_lt_mul_right h]
/-- comparison at any common exponent -/
theorem cmpD_at (m e n f : Int) {c : Int} (h1 : c ≤ e) (h2 : c ≤ f) : cmpD m e n f = cmpI (m * 2 ^ (e - c).toNat) (n * 2 ^ (f - c).toNat) := by
  have hr := iMin_range e f
  unfold cmpD
  generalize iMin e f = d at *
  have e1 : (e - c).toNat = (e - d).toNat + (d - c).toNat := by omega
  have e2 : (f - c).toNat = (f - d).toNat + (d - c).toNat := by omega
  rw [e1, e2, Int.pow_add, Int.pow_add, ← Int.mul_assoc, ← Int.mul_assoc, cmpI_mul (two_pos _)]
theorem sign_range (m : Int) : (m.sign = -1 ∧ m < 0) ∨ (m.sign = 1 ∧ 0 < m) ∨ (m.sign = 0 ∧ m = 0) := by
  rcases Int.lt_trichotomy m 0 with h | h | h
  · exact .inl ⟨Int.sign_eq_neg_one_of_neg h, h⟩
  · exact .inr (.inr ⟨by rw [h]; rfl, h⟩)
  · exact .inr (.inl ⟨Int.sign_eq_one_of_pos h, h⟩)
theorem topD_range (m e : Int) : (m = 0 ∧ topD m e = 0) ∨ (m ≠ 0 ∧ e < topD m e ∧ topD m e ≤ 32 * (L m.natAbs : Int) + e) := by
  unfold topD
  by_cases h : m = 0
  · exact .inl ⟨h, if_pos h⟩
  · have h1 := nbits_pos (show m.natAbs ≠ 0 by omega)
    have h2 := nbits_L m.natAbs
    rw [if_neg h]
    exact .inr ⟨h, by omega, by omega⟩
theorem al_facts (m n e f : Int) (he : -200000 ≤ e ∧ e ≤ 200000) (hf : -200000 ≤ f ∧ f ≤ 200000) : L (m * 2 ^ (e - iMin e f).toNat).natAbs ≤ L m.natAbs + 12501 ∧ L (n * 2 ^ (f - iMin e f).toNat).natAbs ≤ L n.natAbs + 12501 ∧ iMin e f ≤ e ∧ iMin e f ≤ f ∧ (iMin e f = e ∨ iMin e f = f) := by
  have h1 := L_abs_shl m (e - iMin e f).toNat
  have h2 := L_abs_shl n (f - iMin e f).toNat
  have h3 := iMin_range e f
  omega
theorem cmpD_range (m e n f : Int) : cmpD m e n f = -1 ∨ cmpD m e n f = 1 ∨ cmpD m e n f = 0 := by
  unfold cmpD
  have := cmpI_range (m * 2 ^ (e - iMin e f).toNat) (n * 2 ^ (f - iMin e f).toNat)
  omega
theorem cmpI_lt {x y : Int} (h : x < y) : cmpI x y = -1 := if_pos h
theorem cmpI_gt {x y : Int} (h : y < x) : cmpI x y = 1 := by unfold cmpI; rw [if_neg (by omega), if_pos h]
theorem cmpI_eq {x y : Int} (h : x = y) : cmpI x y = 0 := by unfold cmpI; rw [if_neg (by omega), if_neg (by omega)]
theorem mul_pos2 {m : Int} (k : Nat) (h : 0 < m) : 0 < m * 2 ^ k := Int.mul_pos h (two_pos k)
theorem mul_neg2 {m : Int} (k : Nat) (h : m < 0) : m * 2 ^ k < 0 := Int.mul_neg_of_neg_of_pos h (two_pos k)
theorem dcmp_lt {m e n f : Int} (h : m.sign < n.sign) : -1 = cmpD m e n f := by
  symm
  apply cmpI_lt
  rcases sign_range m with ⟨a, b⟩ | ⟨a, b⟩ | ⟨a, b⟩ <;> rcases sign_range n with ⟨c, d⟩ | ⟨c, d⟩ | ⟨c, d⟩ <;> try omega
  · have := mul_neg2 (e - iMin e f).toNat b; have := mul_pos2 (f - iMin e f).toNat d; omega
  · have := mul_neg2 (e - iMin e f).toNat b; rw [d]; omega
  · have := mul_pos2 (f - iMin e f).toNat d; rw [b]; omega
theorem cmpI_swap (x y : Int) : cmpI x y = - cmpI y x := by
  rcases cmpI_range x y with ⟨h, k⟩ | ⟨h, k⟩ | ⟨h, k⟩
  · rw [h, cmpI_gt k]
  · rw [h, cmpI_lt k]; rfl
  · rw [h, cmpI_eq k.symm]; rfl
theorem iMin_comm (a b : Int) : iMin a b = iMin b a := by have := iMin_range a b; have := iMin_range b a; omega
theorem cmpD_swap (m e n f : Int) : cmpD m e n f = - cmpD n f m e := by unfold cmpD; rw [iMin_comm f e, cmpI_swap]
theorem dcmp_gt {m e n f : Int} (h : n.sign < m.sign) : 1 = cmpD m e n f := by
  rw [cmpD_swap, ← dcmp_lt h]; rfl
theorem dcmp_zero {m e n f : Int} (h : m = 0) (k : n = 0) : 0 = cmpD m e n f := by
  symm; apply cmpI_eq; rw [h, k]; simp
/-- absolute values by their highest digits -/
theorem top_lt {m e n f : Int} (hm : m ≠ 0) (hn : n ≠ 0) (h : topD m e < topD n f) : (m.natAbs : Int) * 2 ^ (e - iMin e f).toNat < (n.natAbs : Int) * 2 ^ (f - iMin e f).toNat := by
  unfold topD at h
  rw [if_neg hm, if_neg hn] at h
  have hr := iMin_range e f
  have h1 := nbits_lt m.natAbs
  have h2 := nbits_le (show n.natAbs ≠ 0 by omega)
  have h3 := nbits_pos (show n.natAbs ≠ 0 by omega)
  generalize iMin e f = c at *
  rw [pow_cast, pow_cast, ← Int.natCast_mul, ← Int.natCast_mul]
  apply Int.ofNat_lt.2
  have a1 : m.natAbs * 2 ^ (e - c).toNat < 2 ^ (nbits m.natAbs + (e - c).toNat) := by
    rw [Nat.pow_add]; exact (Nat.mul_lt_mul_right (Nat.pow_pos (by omega))).2 h1
  have a2 : 2 ^ (nbits n.natAbs - 1 + (f - c).toNat) ≤ n.natAbs * 2 ^ (f - c).toNat := by
    rw [Nat.pow_add]; exact Nat.mul_le_mul_right _ h2
  have a3 : 2 ^ (nbits m.natAbs + (e - c).toNat) ≤ 2 ^ (nbits n.natAbs - 1 + (f - c).toNat) := Nat.pow_le_pow_right (by omega) (by omega)
  omega
theorem dcmp_t1 {m e n f : Int} (hs : m.sign = n.sign) (hm : m.sign ≠ 0) (h : topD m e < topD n f) : (0 : Int) - m.sign = cmpD m e n f := by
  rcases sign_range m with ⟨a, b⟩ | ⟨a, b⟩ | ⟨a, b⟩ <;> rcases sign_range n with ⟨c, d⟩ | ⟨c, d⟩ | ⟨c, d⟩ <;> try omega
  · have := top_lt (show m ≠ 0 by omega) (show n ≠ 0 by omega) h
    rw [show (m.natAbs : Int) = -m by omega, show (n.natAbs : Int) = -n by omega, Int.neg_mul, Int.neg_mul] at this
    unfold cmpD
    rw [a, cmpI_gt (by omega)]; rfl
  · have := top_lt (show m ≠ 0 by omega) (show n ≠ 0 by omega) h
    rw [show (m.natAbs : Int) = m by omega, show (n.natAbs : Int) = n by omega] at this
    unfold cmpD
    rw [a, cmpI_lt (by omega)]; rfl
theorem dcmp_t2 {m e n f : Int} (hs : m.sign = n.sign) (hm : m.sign ≠ 0) (h : topD n f < topD m e) : m.sign = cmpD m e n f := by
  have := dcmp_t1 hs.symm (by omega) h
  rw [cmpD_swap, ← this]; omega
theorem ex_range (m e : Int) : (mkE m e = 0 ∧ exE m e = 0) ∨ (mkE m e ≠ 0 ∧ exE m e = 3) := by
  unfold exE
  by_cases h : mkE m e = 0
  · exact .inl ⟨h, if_pos h⟩
  · exact .inr ⟨h, if_neg h⟩
theorem mk_no {m e : Int} (h : mkE m e ≠ 0) : mkM m e = 0 ∧ mkX m e = 0 := by
  unfold mkM mkX; rw [if_neg h, if_neg (fun q => h q.1)]; exact ⟨rfl, rfl⟩
theorem ex_ret1 {m e : Int} (h : mkE m e ≠ 0) : vsub (.tup [.agg [.bool false, .nil, .int .i64 0], .int .i64 3]) (.tup [.agg [.bool (decide (mkM m e < 0)), N (mkM m e).natAbs, .int .i64 (mkX m e)], .int .i64 (exE m e)]) :=
  Y_zero ⟨(mk_no h).1, (mk_no h).2, by have := ex_range m e; omega⟩
theorem ex_ret2 {m e : Int} (h : mkE m e = 0) : vsub (.tup [.agg [.bool (decide (mkM m e < 0)), N (mkM m e).natAbs, .int .i64 (mkX m e)], .int .i64 0]) (.tup [.agg [.bool (decide (mkM m e < 0)), N (mkM m e).natAbs, .int .i64 (mkX m e)], .int .i64 (exE m e)]) := by
  have := ex_range m e
  rw [show exE m e = 0 by omega]; exact vsub_refl _
theorem ad_facts (m e n f : Int) (he : -65536 ≤ e ∧ e ≤ 65536) (hf : -65536 ≤ f ∧ f ≤ 65536) : L (adS m e n f).natAbs ≤ max (L m.natAbs) (L n.natAbs) + 4098 ∧ iMin e f ≤ e ∧ iMin e f ≤ f ∧ (iMin e f = e ∨ iMin e f = f) := by
  have h0 := iMin_range e f
  have h1 := L_abs_shl m (e - iMin e f).toNat
  have h2 := L_abs_shl n (f - iMin e f).toNat
  have h3 := L_abs_add (m * 2 ^ (e - iMin e f).toNat) (n * 2 ^ (f - iMin e f).toNat)
  unfold adS
  omega
/-! ### the form of m * 2^k, e is that of m, e + k -/
theorem tz_mul {a : Nat} (h : a ≠ 0) (k : Nat) : tz (a * 2 ^ k) = tz a + k := by
  obtain ⟨h1, h2⟩ := tz_spec h
  apply tz_unique
  · rw [Nat.pow_add, Nat.mul_comm a, Nat.mul_comm (2 ^ tz a), Nat.mul_mod_mul_left, h1, Nat.mul_zero]
  · rw [Nat.pow_add, Nat.mul_div_mul_right _ _ (Nat.pow_pos (by omega)), h2]
theorem abs_shl (m : Int) (k : Nat) : (m * 2 ^ k).natAbs = m.natAbs * 2 ^ k := by rw [Int.natAbs_mul, Int.natAbs_pow]; rfl
theorem dm_shl (m : Int) (k : Nat) : dm (m * 2 ^ k) = dm m := by
  by_cases h : m = 0
  · subst h; rw [Int.zero_mul]
  · unfold dm
    rw [abs_shl, tz_mul (by omega), Nat.pow_add, Nat.mul_div_mul_right _ _ (Nat.pow_pos (by omega))]
    congr 1
    have := two_pos k
    by_cases hm : m < 0
    · rw [decide_eq_true hm, decide_eq_true (mul_neg2 k hm)]
    · rw [decide_eq_false hm, decide_eq_false]
      have := mul_pos2 k (show 0 < m by omega)
      omega
theorem de_shl {m : Int} (h : m ≠ 0) (e : Int) (k : Nat) : de (m * 2 ^ k) e = de m (e + k) := by
  unfold de; rw [abs_shl, tz_mul (by omega)]; omega
theorem mk_shl (m e : Int) (k : Nat) (h0 : -131072 ≤ e) (h1 : e + k ≤ 131072) : mkM (m * 2 ^ k) e = mkM m (e + k) ∧ mkX (m * 2 ^ k) e = mkX m (e + k) ∧ mkE (m * 2 ^ k) e = mkE m (e + k) := by
  by_cases h : m = 0
  · subst h
    rw [Int.zero_mul]
    obtain ⟨a, b, c⟩ := mk_r2 (m := 0) (e := e) (by omega) rfl
    obtain ⟨a', b', c'⟩ := mk_r2 (m := 0) (e := e + k) (by omega) rfl
    rw [a, b, c, a', b', c']; exact ⟨rfl, rfl, rfl⟩
  · have hne : m * 2 ^ k ≠ 0 := Int.mul_ne_zero h (by have := two_pos k; omega)
    have hE : mkE (m * 2 ^ k) e = mkE m (e + k) := by
      have l : mkE (m * 2 ^ k) e = if vdb (dm (m * 2 ^ k)) (de (m * 2 ^ k) e) = true then 0 else 3 := by
        unfold mkE; rw [if_neg (show ¬ (e < -131072 ∨ 131072 < e) by omega), if_neg hne]
      have r : mkE m (e + k) = if vdb (dm m) (de m (e + k)) = true then 0 else 3 := by
        unfold mkE; rw [if_neg (show ¬ (e + (k : Int) < -131072 ∨ 131072 < e + (k : Int)) by omega), if_neg h]
      rw [l, r, dm_shl, de_shl h]
    refine ⟨?_, ?_, hE⟩
    · unfold mkM; rw [hE, dm_shl]
    · unfold mkX; rw [hE, de_shl h]; simp [h, hne]
theorem mk_shl' {m e c : Int} (h : c ≤ e) (h0 : -131072 ≤ c) (h1 : e ≤ 131072) : mkM (m * 2 ^ (e - c).toNat) c = mkM m e ∧ mkX (m * 2 ^ (e - c).toNat) c = mkX m e ∧ mkE (m * 2 ^ (e - c).toNat) c = mkE m e := by
  have := mk_shl m c (e - c).toNat h0 (by omega)
  rwa [show c + ((e - c).toNat : Int) = e by omega] at this
theorem ad_zero1 {m e n f : Int} (h : m = 0) (he : -65536 ≤ e ∧ e ≤ 65536) (hf : -65536 ≤ f ∧ f ≤ 65536) : mkM (adS m e n f) (iMin e f) = mkM n f ∧ mkX (adS m e n f) (iMin e f) = mkX n f ∧ exE (adS m e n f) (iMin e f) = exE n f := by
  have hr := iMin_range e f
  have := mk_shl' (m := n) (e := f) (c := iMin e f) (by omega) (by omega) (by omega)
  unfold adS
  rw [h, Int.zero_mul, Int.zero_add]
  unfold exE
  rw [this.1, this.2.1, this.2.2]
  exact ⟨rfl, rfl, rfl⟩
theorem ad_zero2 {m e n f : Int} (h : n = 0) (he : -65536 ≤ e ∧ e ≤ 65536) (hf : -65536 ≤ f ∧ f ≤ 65536) : mkM (adS m e n f) (iMin e f) = mkM m e ∧ mkX (adS m e n f) (iMin e f) = mkX m e ∧ exE (adS m e n f) (iMin e f) = exE m e := by
  have hr := iMin_range e f
  have := mk_shl' (m := m) (e := e) (c := iMin e f) (by omega) (by omega) (by omega)
  unfold adS
  rw [h, Int.zero_mul, Int.add_zero]
  unfold exE
  rw [this.1, this.2.1, this.2.2]
  exact ⟨rfl, rfl, rfl⟩
end Go.Proofs.YtcijnloneigfcaaGreatDoor
