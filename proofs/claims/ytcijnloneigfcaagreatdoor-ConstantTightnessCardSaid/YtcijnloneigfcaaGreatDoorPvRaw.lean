/-
  Plain facts on numbers made from raw input. No condition.
-/
import Derived.Test.YtcijnloneigfcaaGreatDoorPvConst
set_option linter.unusedVariables false
set_option linter.unusedSimpArgs false
namespace Go.Proofs.YtcijnloneigfcaaGreatDoor
open Go.RowKit
/-- the integer that a raw one of at most n places stands for; a longer one counts as zero -/
def rawI (b : Bool) (l : List Nat) (n : Int) : Int := if (l.length : Int) ≤ n then sgn b (val l) else 0
theorem rawI_yes {b : Bool} {l : List Nat} {n : Int} (h : (l.length : Int) ≤ n) : rawI b l n = sgn b (val l) := by unfold rawI; rw [if_pos h]
theorem rawI_no {b : Bool} {l : List Nat} {n : Int} (h : n < (l.length : Int)) : rawI b l n = 0 := by unfold rawI; rw [if_neg (by omega)]
theorem rawI_L {b : Bool} {l : List Nat} (hl : Dig l) {n : Int} (hn : 0 ≤ n) : (L (rawI b l n).natAbs : Int) ≤ n := by
  by_cases h : (l.length : Int) ≤ n
  · rw [rawI_yes h]
    have := L_sgn b (val l)
    have := L_val hl
    omega
  · rw [rawI_no (by omega)]
    have : L (0 : Int).natAbs = 0 := L_zero
    omega
theorem raw_ret1 {b : Bool} {l : List Nat} {n : Int} (h : n < (l.length : Int)) : vsub (.tup [.agg [.bool false, .nil], .bool false]) (.tup [.agg [.bool (decide (rawI b l n < 0)), N (rawI b l n).natAbs], .bool (decide ((l.length : Int) ≤ n))]) := by
  rw [rawI_no h, decide_eq_false (show ¬((l.length : Int) ≤ n) by omega)]
  exact vsub_tup2 vsub_zero2 (vsub_refl _)
theorem raw_ret2 {b : Bool} {l : List Nat} {n : Int} (h : (l.length : Int) ≤ n) : vsub (.tup [.agg [.bool (decide (sgn b (val l) < 0)), N (sgn b (val l)).natAbs], .bool true]) (.tup [.agg [.bool (decide (rawI b l n < 0)), N (rawI b l n).natAbs], .bool (decide ((l.length : Int) ≤ n))]) := by
  rw [rawI_yes h, decide_eq_true h]
  exact vsub_refl _
theorem mk_zero (e : Int) : mkM 0 e = 0 ∧ mkX 0 e = 0 := by
  refine ⟨?_, ?_⟩
  · unfold mkM; split
    · exact dm_zero
    · rfl
  · unfold mkX; rw [if_neg (fun q => q.2 rfl)]
theorem rawd_ret1 {b : Bool} {l : List Nat} {n e : Int} (h : n < (l.length : Int)) : vsub (.tup [.agg [.bool false, .nil, .int .i64 0], .bool false])
    (.tup [.agg [.bool (decide (mkM (rawI b l n) e < 0)), N (mkM (rawI b l n) e).natAbs, .int .i64 (mkX (rawI b l n) e)], .bool (decide ((l.length : Int) ≤ n))]) := by
  rw [rawI_no h, (mk_zero e).1, (mk_zero e).2, decide_eq_false (show ¬((l.length : Int) ≤ n) by omega)]
  exact vsub_tup2 vsub_zero3 (vsub_refl _)
theorem rawd_ok {m e : Int} {p : Prop} [Decidable p] (h : mkE m e = 0) (hp : p) : iEq (mkE m e) 0 = decide p := by rw [h, decide_eq_true hp]; rfl
/-- two numbers in order -/
def swM (m e n f : Int) : Int := if 0 < cmpD m e n f then n else m
def swX (m e n f : Int) : Int := if 0 < cmpD m e n f then f else e
def swN (m e n f : Int) : Int := if 0 < cmpD m e n f then m else n
def swF (m e n f : Int) : Int := if 0 < cmpD m e n f then e else f
theorem sw_yes {m e n f : Int} (h : 0 < cmpD m e n f) : n = swM m e n f ∧ f = swX m e n f ∧ m = swN m e n f ∧ e = swF m e n f := by unfold swM swX swN swF; simp [h]
theorem sw_no {m e n f : Int} (h : cmpD m e n f ≤ 0) : m = swM m e n f ∧ e = swX m e n f ∧ n = swN m e n f ∧ f = swF m e n f := by
  have h' : ¬ 0 < cmpD m e n f := by omega
  unfold swM swX swN swF; simp [h']
theorem sw_facts (m e n f : Int) : (0 < cmpD m e n f ∧ swM m e n f = n ∧ swX m e n f = f ∧ swN m e n f = m ∧ swF m e n f = e ∧ L (swM m e n f).natAbs = L n.natAbs ∧ L (swN m e n f).natAbs = L m.natAbs) ∨
    (cmpD m e n f ≤ 0 ∧ swM m e n f = m ∧ swX m e n f = e ∧ swN m e n f = n ∧ swF m e n f = f ∧ L (swM m e n f).natAbs = L m.natAbs ∧ L (swN m e n f).natAbs = L n.natAbs) := by
  by_cases h : 0 < cmpD m e n f
  · have := sw_yes h; exact .inl ⟨h, this.1.symm, this.2.1.symm, this.2.2.1.symm, this.2.2.2.symm, by rw [← this.1], by rw [← this.2.2.1]⟩
  · have := sw_no (show cmpD m e n f ≤ 0 by omega); exact .inr ⟨by omega, this.1.symm, this.2.1.symm, this.2.2.1.symm, this.2.2.2.symm, by rw [← this.1], by rw [← this.2.2.1]⟩
theorem W_of {m e n f m' e' n' f' : Int} {a b : Bool} (h : m = m' ∧ e = e' ∧ n = n' ∧ f = f') (hb : a = b) :
    vsub (.tup [.agg [.bool (decide (m < 0)), N m.natAbs, .int .i64 e, .bool (decide (n < 0)), N n.natAbs, .int .i64 f], .bool a]) (.tup [.agg [.bool (decide (m' < 0)), N m'.natAbs, .int .i64 e', .bool (decide (n' < 0)), N n'.natAbs, .int .i64 f'], .bool b]) := by
  obtain ⟨rfl, rfl, rfl, rfl⟩ := h; subst hb; exact vsub_refl _
theorem rd_wz {w : World} {S : Nat → Prop} {v : Value} {m e : Int} (h : Rd w S v (.agg [.bool false, .nil, .int .i64 0, .bool (decide (m < 0)), N m.natAbs, .int .i64 e])) :
    Rd w S v (.agg [.bool (decide ((0 : Int) < 0)), N (0 : Int).natAbs, .int .i64 0, .bool (decide (m < 0)), N m.natAbs, .int .i64 e]) := by
  obtain ⟨arr, rfl, hr⟩ := h.agg_inv
  cases hr with | cons h1 hr => cases hr with | cons h2 hr => cases hr with | cons h3 hr => cases hr with | cons h4 hr => cases hr with | cons h5 hr => cases hr with | cons h6 hr => cases hr with | nil =>
    exact .agg (.cons (by simpa using h1) (.cons (rd_nil_N0 h2) (.cons h3 (.cons h4 (.cons h5 (.cons h6 .nil))))))
/-- the upper end of a thinned interval -/
def thM (h k n f : Int) : Int := if cmpD h k n f < 0 then h else n
def thX (h k n f : Int) : Int := if cmpD h k n f < 0 then k else f
theorem th_yes {h k n f : Int} (q : cmpD h k n f < 0) : h = thM h k n f ∧ k = thX h k n f := by unfold thM thX; simp [q]
theorem th_no {h k n f : Int} (q : 0 ≤ cmpD h k n f) : n = thM h k n f ∧ f = thX h k n f := by
  have q' : ¬ cmpD h k n f < 0 := by omega
  unfold thM thX; simp [q']
theorem th_facts (h k n f : Int) : (cmpD h k n f < 0 ∧ thM h k n f = h ∧ thX h k n f = k ∧ L (thM h k n f).natAbs = L h.natAbs) ∨ (0 ≤ cmpD h k n f ∧ thM h k n f = n ∧ thX h k n f = f ∧ L (thM h k n f).natAbs = L n.natAbs) := by
  by_cases q : cmpD h k n f < 0
  · have := th_yes q; exact .inl ⟨q, this.1.symm, this.2.symm, by rw [← this.1]⟩
  · have := th_no (show 0 ≤ cmpD h k n f by omega); exact .inr ⟨by omega, this.1.symm, this.2.symm, by rw [← this.1]⟩
theorem nbEq (a : Bool) : (!(bEq a a)) = false := by cases a <;> rfl
theorem W1_of {m e n f n' f' : Int} (h : n = n' ∧ f = f') :
    vsub (.agg [.bool (decide (m < 0)), N m.natAbs, .int .i64 e, .bool (decide (n < 0)), N n.natAbs, .int .i64 f]) (.agg [.bool (decide (m < 0)), N m.natAbs, .int .i64 e, .bool (decide (n' < 0)), N n'.natAbs, .int .i64 f']) := by
  obtain ⟨rfl, rfl⟩ := h; exact vsub_refl _
end Go.Proofs.YtcijnloneigfcaaGreatDoor
