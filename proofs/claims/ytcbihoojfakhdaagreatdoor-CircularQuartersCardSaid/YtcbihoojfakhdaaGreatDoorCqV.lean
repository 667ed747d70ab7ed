/-
  Lower layers: what functions of the program compute, and plain facts. Conditions: as the theorems say.
-/
import Derived.Test.YtcbihoojfakhdaaGreatDoorCqU
set_option linter.unusedVariables false
set_option linter.unusedSimpArgs false
namespace Go.Proofs.YtcbihoojfakhdaaGreatDoor
open Go.RowKit
set_option maxRecDepth 100000
set_option maxHeartbeats 2000000
def shq (m e : Int) (j : Nat) : Int := if m = 0 then 0 else e - 25 * (j : Int)
theorem shq_fit {m e : Int} (he : -60 ≤ e ∧ e ≤ 130) {j : Nat} (hj : j ≤ 8) : -260 ≤ shq m e j ∧ shq m e j ≤ 130 := by
 unfold shq; split <;> omega
theorem shq_step {m e : Int} (hv : vdb m e = true) (hm : L m.natAbs ≤ 2) (he : -60 ≤ e ∧ e ≤ 130) {j : Nat} (hj : j < 8) : Impl Tryz.prog Amb 38 [(yV m (shq m e j)), (.int .i64 (-25))] (.tup [(yV m (shq m e (j + 1))), (.int .i64 0)]) := by
 have f := shq_fit (m := m) he (j := j) oO
 have h := r08_Shift m (shq m e j) (-25) oO oO oO
 have key : mkM m (shq m e j + -25) = m ∧ mkX m (shq m e j + -25) = shq m e (j + 1) ∧ mkE m (shq m e j + -25) = 0 := by
  by_cases hz : m = 0
  ·subst hz
   have := mk_r2 (m := 0) (e := shq 0 e j + -25) oO rfl
   exact ⟨this.1, this.2.1, this.2.2⟩
  ·have s : shq m e j + -25 = shq m e (j + 1) := by unfold shq; rw [if_neg hz, if_neg hz]; omega
   rw [s]
   have f' := shq_fit (m := m) he (j := j + 1) oO
   refine mk_valid ?_
   rcases vdb_iff.1 hv with q | q
   ·exact absurd q.1 hz
   ·exact vdb_iff.2 (.inr ⟨hz, q.2.1, by omega, by omega, q.2.2.2.2⟩)
 rw [key.1, key.2.1, key.2.2] at h
 exact h
theorem shq_zero {m e : Int} (hv : vdb m e = true) : shq m e 0 = e := by
 unfold shq
 split
 ·rename_i h
  rcases vdb_iff.1 hv with q | q
  ·exact q.2.symm
  ·exact absurd h q.1
 ·omega
theorem shq_vdb {m e : Int} (hv : vdb m e = true) {j : Nat} (hf : -65536 ≤ shq m e j ∧ shq m e j ≤ 65536) : vdb m (shq m e j) = true := by
 by_cases hm : m = 0
 ·subst hm
  exact vdb_iff.2 (.inl ⟨rfl, by unfold shq; rw [if_pos rfl]⟩)
 ·exact vdb_sh hv hm hf
theorem shq_top {m e : Int} (hm : L m.natAbs ≤ 2) (he : -60 ≤ e ∧ e ≤ 130) : topD m (shq m e 8) ≤ 0 := by
 by_cases hz : m = 0
 ·subst hz
  unfold topD
  rw [if_pos rfl]; omega
 ·have s : shq m e 8 = e - 200 := by unfold shq; rw [if_neg hz]; omega
  rw [s]
  have r := topD_range m (e - 200)
  omega
theorem r17_Unit0 (m : Int) (e : Int) (n : Int) (f : Int) (na : Int) (nb : Int) (ha : Int) (hb : Int) (g : Bool) (c0 : Impl Tryz.prog Amb 17 [(.int .i64 (-1))] (yV na nb)) (c1 : Impl Tryz.prog Amb 17 [(.int .i64 1)] (yV ha hb)) (c2 : Impl Tryz.prog Amb 95 [(wV m e n f), (wV na nb ha hb)] (.bool g)) : Impl Tryz.prog Amb 42 [(wV m e n f)] (.bool g) := by
 exact impl_ob hP hAmb Tryz.func42 (by kernel_rfl) (.lits 2 <| .call (yV na nb) <| .lit <| .call (yV ha hb) <| .lits 2 <| .call (.bool g) <| .lit <| .ret)
  (cast_ob (aI True.intro (aI (c0 ) (aI (c1 ) (aI (c2 ) ((vsub_refl (.bool g))))))) (by kernel_rfl))
theorem l17_QuaF (b1 : Bool) (l1 : List Nat) (e1 : Int) (w : Int) (m : Int) (ee : Int) (c0 : Impl Tryz.prog Amb 23 [] (.bool true)) (c1 : Impl Tryz.prog Amb 15 [(.agg [(.bool b1), (.sl 1 (U l1)), (.int .i64 e1)]), (.int .i64 2), (.int .i64 60)] (.tup [(yV m ee), (.bool false)])) : Impl Tryz.prog Amb 8 [(.agg [(.bool b1), (.sl 1 (U l1)), (.int .i64 e1)]), (.int .i64 w)] (.bool true) := by
 exact impl_ob hP hAmb Tryz.func8 (by kernel_rfl) (.lit <| .call (.bool true) <| .lits 4 <| .call (.tup [(yV m ee), (.bool false)]) <| .lits 4 <| .ret)
  (cast_ob (aI True.intro (aI (c0 ) (aI (c1 ) ((vsub_refl (.bool true)))))) (by kernel_rfl))
def l17_qua_0_mk (b1 : Bool) (l1 : List Nat) (e1 m ee w : Int) (_ : Nat) (x : Nat) : St := ⟨mkS 160 [(1, (.val (.int .i64 w))), (5, (.own 1 0))], [⟨true, false, [(V.bool b1), (V.sl 1 (U l1)), (V.int .i64 e1)]⟩, ⟨true, false, [(V.bool (decide (m < 0))), (N m.natAbs), (V.int .i64 (shq m ee x))]⟩]⟩
def l17_qua_0_I (_ : Bool) (_ : List Nat) (_ _ _ _ : Int) (nn : Nat) (x : Nat) : Prop := x ≤ nn
def l17_qua_0_mu (_ : Bool) (_ : List Nat) (_ _ _ _ : Int) (nn : Nat) (x : Nat) : Nat := nn - x
def l17_qua_0_ex (b1 : Bool) (l1 : List Nat) (e1 m ee w : Int) (_ : Nat) (y : Nat) : Ex × St := (.exit 0, ⟨mkS 160 [(1, (.val (.int .i64 w))), (5, (.own 1 0))], [⟨true, false, [(V.bool b1), (V.sl 1 (U l1)), (V.int .i64 e1)]⟩, ⟨true, false, [(V.bool (decide (m < 0))), (N m.natAbs), (V.int .i64 (shq m ee y))]⟩]⟩)
def l17_qua_0_J (_ : Bool) (_ : List Nat) (_ _ _ _ : Int) (nn : Nat) (y : Nat) : Prop := y = nn
abbrev l17_qua_0_N (b1 : Bool) (l1 : List Nat) (e1 m ee w : Int) (nn : Nat) := NX (l17_qua_0_mk b1 l1 e1 m ee w nn) (l17_qua_0_I b1 l1 e1 m ee w nn) (l17_qua_0_mu b1 l1 e1 m ee w nn) (l17_qua_0_ex b1 l1 e1 m ee w nn) (l17_qua_0_J b1 l1 e1 m ee w nn)
theorem l17_qua_0 (b1 : Bool) (l1 : List Nat) (e1 m ee w : Int) (nn : Nat) (c0 : nn ≤ 100)(c1 : ∀ j, j ≤ nn → (j = nn ↔ (topD m (shq m ee j)) ≤ 32))(c2 : ∀ j, j ≤ nn → Impl Tryz.prog Amb 18 [(yV m (shq m ee j))] (.int .i64 (topD m (shq m ee j))))(c3 : ∀ j, j < nn → Impl Tryz.prog Amb 38 [(yV m (shq m ee j)), (.int .i64 (-25))] (.tup [(yV m (shq m ee (j + 1))), (.int .i64 0)])) (x0 : Nat) (hI : l17_qua_0_I b1 l1 e1 m ee w nn x0) : LoopOk Tryz.prog Amb (loopN Tryz.f8 0) (l17_qua_0_mk b1 l1 e1 m ee w nn x0) (fun e st_ => ∃ y, l17_qua_0_J b1 l1 e1 m ee w nn y ∧ l17_qua_0_ex b1 l1 e1 m ee w nn y = (e, st_)) :=
 loop_ob hP hAmb ⟨[1, 5], 2, []⟩ (l17_qua_0_mk b1 l1 e1 m ee w nn) (l17_qua_0_I b1 l1 e1 m ee w nn) (l17_qua_0_mu b1 l1 e1 m ee w nn) (l17_qua_0_ex b1 l1 e1 m ee w nn) (l17_qua_0_J b1 l1 e1 m ee w nn) x0 hI (fun j => .lits 2 <| .call (.int .i64 (topD m (shq m ee j))) <| .lit <| .both (.lits 2 <| .call (.tup [(yV m (shq m ee (j + 1))), (.int .i64 0)]) <| .lit <| .fin2 ⟨[1, 5], 2, []⟩) (.fin2 ⟨[1, 5], 2, []⟩)) (by
  rintro j hI
  have hI : j ≤ nn := hI
  have h1 := hI
  have q := c1 j h1
  exact cast_ob (aI True.intro (aI (c2 j h1 ) (aI (fun (h101 : (iGt (topD m (shq m ee j)) 32) = true) => have _gh101 := iGt_t h101; aI (c3 j oO ) (aI tT ((nx_next (j + 1) (show (j + 1) ≤ nn from show j + 1 ≤ nn by omega) (show nn - (j + 1) < nn - j by omega) : l17_qua_0_N b1 l1 e1 m ee w nn j .normal (l17_qua_0_mk b1 l1 e1 m ee w nn (j + 1)))))) (fun (h102 : (iGt (topD m (shq m ee j)) 32) = false) => have _gh102 := iGt_f h102; aI tT ((nx_exit 0 ((l17_qua_0_ex b1 l1 e1 m ee w nn j).2) j (show j = nn from show j = nn by omega) rfl : l17_qua_0_N b1 l1 e1 m ee w nn j (.exit 0) ((l17_qua_0_ex b1 l1 e1 m ee w nn j).2))))))) (by kernel_rfl))
theorem l17_QuaP (b1 : Bool) (l1 : List Nat) (e1 : Int) (m : Int) (ee : Int) (w : Int) (k : Int) (ra : Int) (rb : Int) (rc : Int) (rd : Int) (fa : Int) (fb : Int) (wa : Int) (wb : Int) (k1 : Int) (p1 : Int) (p2 : Int) (n1 : Int) (n2 : Int) (xa : Int) (xb : Int) (t1 : Int) (t2 : Int) (s1 : Int) (s2 : Int) (u1 : Int) (u2 : Int) (ua : Int) (ub : Int) (p : Int) (oa : Int) (ob : Int) (oc : Int) (od : Int) (nn : Nat) (c0 : Impl Tryz.prog Amb 23 [] (.bool true)) (c1 : Impl Tryz.prog Amb 15 [(.agg [(.bool b1), (.sl 1 (U l1)), (.int .i64 e1)]), (.int .i64 2), (.int .i64 60)] (.tup [(yV m (shq m ee 0)), (.bool true)])) (c2 : (-9223372036854775808 : Int) ≤ w ∧ w ≤ 9223372036854775807) (c3 : nn ≤ 100) (c4 : ∀ j, j ≤ nn → (j = nn ↔ (topD m (shq m ee j)) ≤ 32)) (c5 : ∀ j, j ≤ nn → Impl Tryz.prog Amb 18 [(yV m (shq m ee j))] (.int .i64 (topD m (shq m ee j)))) (c6 : ∀ j, j < nn → Impl Tryz.prog Amb 38 [(yV m (shq m ee j)), (.int .i64 (-25))] (.tup [(yV m (shq m ee (j + 1))), (.int .i64 0)])) (c7 : Impl Tryz.prog Amb 39 [(yV m (shq m ee nn)), (.int .i64 ((12 : Int) + (w % 120)))] (.tup [(.int .i64 k), (wV ra rb rc rd), (.int .i64 0)])) (c8 : Impl Tryz.prog Amb 40 [(wV ra rb rc rd)] (.bool true)) (c9 : Impl Tryz.prog Amb 41 [(yV ra rb), (.int .i64 ((12 : Int) + (w % 120)))] (.bool true)) (c10 : Impl Tryz.prog Amb 41 [(yV rc rd), (.int .i64 ((12 : Int) + (w % 120)))] (.bool true)) (c11 : Impl Tryz.prog Amb 42 [(wV ra rb rc rd)] (.bool true)) (c12 : Impl Tryz.prog Amb 32 [(.int .i64 (((12 : Int) + (w % 120)) - 2))] (.tup [(yV fa fb), (.int .i64 0)])) (c13 : Impl Tryz.prog Amb 43 [(wV ra rb rc rd)] (.tup [(yV wa wb), (.int .i64 0)])) (c14 : Impl Tryz.prog Amb 44 [(yV wa wb), (yV fa fb)] (.int .i64 k1)) (c15 : Impl Tryz.prog Amb 30 [(.int .i64 (((12 : Int) + (w % 120)) + 60))] (.agg [(.bool (decide (p1 < 0))), (N p1.natAbs), (.bool (decide (p2 < 0))), (N p2.natAbs)])) (c16 : Impl Tryz.prog Amb 29 [(.agg [(.bool (decide (p1 < 0))), (N p1.natAbs), (.bool (decide (p2 < 0))), (N p2.natAbs)]), (.int .i64 2)] (.agg [(.bool (decide (n1 < 0))), (N n1.natAbs), (.bool (decide (n2 < 0))), (N n2.natAbs)])) (c17 : Impl Tryz.prog Amb 45 [(yV m (shq m ee nn)), (.int .i64 (((12 : Int) + (w % 120)) + 60))] (.agg [(.bool (decide (xa < 0))), (N xa.natAbs), (.bool (decide (xb < 0))), (N xb.natAbs)])) (c18 : Impl Tryz.prog Amb 28 [(.agg [(.bool (decide (n1 < 0))), (N n1.natAbs), (.bool (decide (n2 < 0))), (N n2.natAbs)]), (.int .i64 k)] (.agg [(.bool (decide (t1 < 0))), (N t1.natAbs), (.bool (decide (t2 < 0))), (N t2.natAbs)])) (c19 : Impl Tryz.prog Amb 46 [(.agg [(.bool (decide (xa < 0))), (N xa.natAbs), (.bool (decide (xb < 0))), (N xb.natAbs)]), (.agg [(.bool (decide (t1 < 0))), (N t1.natAbs), (.bool (decide (t2 < 0))), (N t2.natAbs)])] (.agg [(.bool (decide (s1 < 0))), (N s1.natAbs), (.bool (decide (s2 < 0))), (N s2.natAbs)])) (c20 : Impl Tryz.prog Amb 39 [(yV m (shq m ee nn)), (.int .i64 11)] (.tup [(.int .i64 0), (.agg [(.bool false), .nil, (.int .i64 0), (.bool false), .nil, (.int .i64 0)]), (.int .i64 1)])) (c21 : Impl Tryz.prog Amb 17 [(.int .i64 1)] (yV u1 u2)) (c22 : Impl Tryz.prog Amb 27 [(zV u1), (.int .i64 33)] (.tup [(yV ua ub), (.int .i64 p)])) (c23 : Impl Tryz.prog Amb 39 [(yV ua ub), (.int .i64 ((12 : Int) + (w % 120)))] (.tup [(.int .i64 0), (.agg [(.bool false), .nil, (.int .i64 0), (.bool false), .nil, (.int .i64 0)]), (.int .i64 1)])) (c24 : Impl Tryz.prog Amb 31 [(.agg [(.bool (decide (s1 < 0))), (N s1.natAbs), (.bool (decide (s2 < 0))), (N s2.natAbs)]), (.int .i64 (((12 : Int) + (w % 120)) + 60)), (.int .i64 (((12 : Int) + (w % 120)) + 20))] (wV oa ob oc od)) (c25 : Impl Tryz.prog Amb 48 [(wV ra rb rc rd), (wV oa ob oc od)] (.bool true)) (c26 : -4294967296 ≤ k ∧ k ≤ 4294967296) (c27 : 0 ≤ k) (c28 : k1 ≤ 0) : Impl Tryz.prog Amb 8 [(.agg [(.bool b1), (.sl 1 (U l1)), (.int .i64 e1)]), (.int .i64 w)] (.bool true) := by
 exact impl_ob hP hAmb Tryz.func8 (by kernel_rfl) (.lit <| .call (.bool true) <| .lits 4 <| .call (.tup [(yV m (shq m ee 0)), (.bool true)]) <| .lits 3 <| .loop ⟨[1, 5], 2, []⟩ ((l17_qua_0_mk b1 l1 e1 m ee w nn 0)) (Nat) (l17_qua_0_ex b1 l1 e1 m ee w nn) (l17_qua_0_J b1 l1 e1 m ee w nn) (fun y => .lit <| .call (.int .i64 (w % 120)) <| .lit <| .yes <| .lits 2 <| .call (.tup [(.int .i64 k), (wV ra rb rc rd), (.int .i64 0)]) <| .lits 6 <| .call (.bool true) <| .lits 9 <| .call (.bool true) <| .lits 9 <| .call (.bool true) <| .lits 7 <| .call (.bool true) <| .lits 7 <| .no <| .lits 3 <| .no <| .lit <| .yes <| .lit <| .call (.tup [(yV fa fb), (.int .i64 0)]) <| .lits 3 <| .call (.tup [(yV wa wb), (.int .i64 0)]) <| .lits 8 <| .call (.int .i64 k1) <| .lits 3 <| .no <| .lit <| .yes <| .lit <| .call (.agg [(.bool (decide (p1 < 0))), (N p1.natAbs), (.bool (decide (p2 < 0))), (N p2.natAbs)]) <| .lit <| .call (.agg [(.bool (decide (n1 < 0))), (N n1.natAbs), (.bool (decide (n2 < 0))), (N n2.natAbs)]) <| .lits 3 <| .call (.agg [(.bool (decide (xa < 0))), (N xa.natAbs), (.bool (decide (xb < 0))), (N xb.natAbs)]) <| .lits 2 <| .yes <| .lits 3 <| .call (.agg [(.bool (decide (t1 < 0))), (N t1.natAbs), (.bool (decide (t2 < 0))), (N t2.natAbs)]) <| .lit <| .call (.agg [(.bool (decide (s1 < 0))), (N s1.natAbs), (.bool (decide (s2 < 0))), (N s2.natAbs)]) <| .lits 3 <| .call (.tup [(.int .i64 0), (.agg [(.bool false), .nil, (.int .i64 0), (.bool false), .nil, (.int .i64 0)]), (.int .i64 1)]) <| .lits 2 <| .call (yV u1 u2) <| .lits 2 <| .call (.tup [(yV ua ub), (.int .i64 p)]) <| .lits 3 <| .call (.tup [(.int .i64 0), (.agg [(.bool false), .nil, (.int .i64 0), (.bool false), .nil, (.int .i64 0)]), (.int .i64 1)]) <| .lits 4 <| .yes <| .lit <| .call (wV oa ob oc od) <| .lit <| .call (.bool true) <| .lits 9 <| .ret))
  (cast_ob (aI True.intro (aI (c0 ) (aI (c1 ) (aI tT (aI (rfl : (l17_qua_0_mk b1 l1 e1 m ee w nn 0) = (l17_qua_0_mk b1 l1 e1 m ee w nn 0)) (aI (l17_qua_0 b1 l1 e1 m ee w nn c3 c4 c5 c6 0 (show 0 ≤ nn from Nat.zero_le _)) (fun y (hJ : l17_qua_0_J b1 l1 e1 m ee w nn y) => have hJ : y = nn := hJ; have hY := hJ; aI (mill_Mod w 120 oS oS) (have f2 := Int.emod_lt_of_pos w (show (0 : Int) < 120 by first | omega | assumption); have f1 := Int.emod_nonneg w (show (120 : Int) ≠ 0 by first | omega | assumption); aI (fits_i64 oS : (fits .i64 ((12 : Int) + (w % 120))) = true) (aI ((hY ▸ c7) ) (aI (c8 ) (aI (c9 ) (aI (c10 ) (aI (c11 ) (aI (iLt_mkF oS : (iLt k (-8589934592)) = false) (aI (iGt_mkF oS : (iGt k 8589934592) = false) (aI (fits_i64 oS : (fits .i64 (((12 : Int) + (w % 120)) - 2)) = true) (aI (c12 ) (aI (c13 ) (aI (c14 ) (aI (iGt_mkF oS : (iGt k1 0) = false) (aI (fits_i64 oS : (fits .i64 (((12 : Int) + (w % 120)) + 60)) = true) (aI (c15 ) (aI (c16 ) (aI ((hY ▸ c17) ) (aI (iGe_mk oO : (iGe k 0) = true) (aI (c18 ) (aI (c19 ) (aI ((hY ▸ c20) ) (aI (c21 ) (aI (c22 ) (aI (c23 ) (aI (fits_i64 oS : (fits .i64 (((12 : Int) + (w % 120)) + 20)) = true) (aI (c24 ) (aI (c25 ) ((vsub_refl (.bool true))))))))))))))))))))))))))))))))))))) (by kernel_rfl))
theorem l17_QuaN (b1 : Bool) (l1 : List Nat) (e1 : Int) (m : Int) (ee : Int) (w : Int) (k : Int) (ra : Int) (rb : Int) (rc : Int) (rd : Int) (fa : Int) (fb : Int) (wa : Int) (wb : Int) (k1 : Int) (p1 : Int) (p2 : Int) (n1 : Int) (n2 : Int) (xa : Int) (xb : Int) (t1 : Int) (t2 : Int) (s1 : Int) (s2 : Int) (u1 : Int) (u2 : Int) (ua : Int) (ub : Int) (p : Int) (oa : Int) (ob : Int) (oc : Int) (od : Int) (nn : Nat) (c0 : Impl Tryz.prog Amb 23 [] (.bool true)) (c1 : Impl Tryz.prog Amb 15 [(.agg [(.bool b1), (.sl 1 (U l1)), (.int .i64 e1)]), (.int .i64 2), (.int .i64 60)] (.tup [(yV m (shq m ee 0)), (.bool true)])) (c2 : (-9223372036854775808 : Int) ≤ w ∧ w ≤ 9223372036854775807) (c3 : nn ≤ 100) (c4 : ∀ j, j ≤ nn → (j = nn ↔ (topD m (shq m ee j)) ≤ 32)) (c5 : ∀ j, j ≤ nn → Impl Tryz.prog Amb 18 [(yV m (shq m ee j))] (.int .i64 (topD m (shq m ee j)))) (c6 : ∀ j, j < nn → Impl Tryz.prog Amb 38 [(yV m (shq m ee j)), (.int .i64 (-25))] (.tup [(yV m (shq m ee (j + 1))), (.int .i64 0)])) (c7 : Impl Tryz.prog Amb 39 [(yV m (shq m ee nn)), (.int .i64 ((12 : Int) + (w % 120)))] (.tup [(.int .i64 k), (wV ra rb rc rd), (.int .i64 0)])) (c8 : Impl Tryz.prog Amb 40 [(wV ra rb rc rd)] (.bool true)) (c9 : Impl Tryz.prog Amb 41 [(yV ra rb), (.int .i64 ((12 : Int) + (w % 120)))] (.bool true)) (c10 : Impl Tryz.prog Amb 41 [(yV rc rd), (.int .i64 ((12 : Int) + (w % 120)))] (.bool true)) (c11 : Impl Tryz.prog Amb 42 [(wV ra rb rc rd)] (.bool true)) (c12 : Impl Tryz.prog Amb 32 [(.int .i64 (((12 : Int) + (w % 120)) - 2))] (.tup [(yV fa fb), (.int .i64 0)])) (c13 : Impl Tryz.prog Amb 43 [(wV ra rb rc rd)] (.tup [(yV wa wb), (.int .i64 0)])) (c14 : Impl Tryz.prog Amb 44 [(yV wa wb), (yV fa fb)] (.int .i64 k1)) (c15 : Impl Tryz.prog Amb 30 [(.int .i64 (((12 : Int) + (w % 120)) + 60))] (.agg [(.bool (decide (p1 < 0))), (N p1.natAbs), (.bool (decide (p2 < 0))), (N p2.natAbs)])) (c16 : Impl Tryz.prog Amb 29 [(.agg [(.bool (decide (p1 < 0))), (N p1.natAbs), (.bool (decide (p2 < 0))), (N p2.natAbs)]), (.int .i64 2)] (.agg [(.bool (decide (n1 < 0))), (N n1.natAbs), (.bool (decide (n2 < 0))), (N n2.natAbs)])) (c17 : Impl Tryz.prog Amb 45 [(yV m (shq m ee nn)), (.int .i64 (((12 : Int) + (w % 120)) + 60))] (.agg [(.bool (decide (xa < 0))), (N xa.natAbs), (.bool (decide (xb < 0))), (N xb.natAbs)])) (c18 : Impl Tryz.prog Amb 28 [(.agg [(.bool (decide (n1 < 0))), (N n1.natAbs), (.bool (decide (n2 < 0))), (N n2.natAbs)]), (.int .i64 ((0 : Int) - k))] (.agg [(.bool (decide (t1 < 0))), (N t1.natAbs), (.bool (decide (t2 < 0))), (N t2.natAbs)])) (c19 : Impl Tryz.prog Amb 47 [(.agg [(.bool (decide (xa < 0))), (N xa.natAbs), (.bool (decide (xb < 0))), (N xb.natAbs)]), (.agg [(.bool (decide (t1 < 0))), (N t1.natAbs), (.bool (decide (t2 < 0))), (N t2.natAbs)])] (.agg [(.bool (decide (s1 < 0))), (N s1.natAbs), (.bool (decide (s2 < 0))), (N s2.natAbs)])) (c20 : Impl Tryz.prog Amb 39 [(yV m (shq m ee nn)), (.int .i64 11)] (.tup [(.int .i64 0), (.agg [(.bool false), .nil, (.int .i64 0), (.bool false), .nil, (.int .i64 0)]), (.int .i64 1)])) (c21 : Impl Tryz.prog Amb 17 [(.int .i64 1)] (yV u1 u2)) (c22 : Impl Tryz.prog Amb 27 [(zV u1), (.int .i64 33)] (.tup [(yV ua ub), (.int .i64 p)])) (c23 : Impl Tryz.prog Amb 39 [(yV ua ub), (.int .i64 ((12 : Int) + (w % 120)))] (.tup [(.int .i64 0), (.agg [(.bool false), .nil, (.int .i64 0), (.bool false), .nil, (.int .i64 0)]), (.int .i64 1)])) (c24 : Impl Tryz.prog Amb 31 [(.agg [(.bool (decide (s1 < 0))), (N s1.natAbs), (.bool (decide (s2 < 0))), (N s2.natAbs)]), (.int .i64 (((12 : Int) + (w % 120)) + 60)), (.int .i64 (((12 : Int) + (w % 120)) + 20))] (wV oa ob oc od)) (c25 : Impl Tryz.prog Amb 48 [(wV ra rb rc rd), (wV oa ob oc od)] (.bool true)) (c26 : -4294967296 ≤ k ∧ k ≤ 4294967296) (c27 : k < 0) (c28 : k1 ≤ 0) : Impl Tryz.prog Amb 8 [(.agg [(.bool b1), (.sl 1 (U l1)), (.int .i64 e1)]), (.int .i64 w)] (.bool true) := by
 exact impl_ob hP hAmb Tryz.func8 (by kernel_rfl) (.lit <| .call (.bool true) <| .lits 4 <| .call (.tup [(yV m (shq m ee 0)), (.bool true)]) <| .lits 3 <| .loop ⟨[1, 5], 2, []⟩ ((l17_qua_0_mk b1 l1 e1 m ee w nn 0)) (Nat) (l17_qua_0_ex b1 l1 e1 m ee w nn) (l17_qua_0_J b1 l1 e1 m ee w nn) (fun y => .lit <| .call (.int .i64 (w % 120)) <| .lit <| .yes <| .lits 2 <| .call (.tup [(.int .i64 k), (wV ra rb rc rd), (.int .i64 0)]) <| .lits 6 <| .call (.bool true) <| .lits 9 <| .call (.bool true) <| .lits 9 <| .call (.bool true) <| .lits 7 <| .call (.bool true) <| .lits 7 <| .no <| .lits 3 <| .no <| .lit <| .yes <| .lit <| .call (.tup [(yV fa fb), (.int .i64 0)]) <| .lits 3 <| .call (.tup [(yV wa wb), (.int .i64 0)]) <| .lits 8 <| .call (.int .i64 k1) <| .lits 3 <| .no <| .lit <| .yes <| .lit <| .call (.agg [(.bool (decide (p1 < 0))), (N p1.natAbs), (.bool (decide (p2 < 0))), (N p2.natAbs)]) <| .lit <| .call (.agg [(.bool (decide (n1 < 0))), (N n1.natAbs), (.bool (decide (n2 < 0))), (N n2.natAbs)]) <| .lits 3 <| .call (.agg [(.bool (decide (xa < 0))), (N xa.natAbs), (.bool (decide (xb < 0))), (N xb.natAbs)]) <| .lits 2 <| .no <| .lits 3 <| .yes <| .lit <| .call (.agg [(.bool (decide (t1 < 0))), (N t1.natAbs), (.bool (decide (t2 < 0))), (N t2.natAbs)]) <| .lit <| .call (.agg [(.bool (decide (s1 < 0))), (N s1.natAbs), (.bool (decide (s2 < 0))), (N s2.natAbs)]) <| .lits 3 <| .call (.tup [(.int .i64 0), (.agg [(.bool false), .nil, (.int .i64 0), (.bool false), .nil, (.int .i64 0)]), (.int .i64 1)]) <| .lits 2 <| .call (yV u1 u2) <| .lits 2 <| .call (.tup [(yV ua ub), (.int .i64 p)]) <| .lits 3 <| .call (.tup [(.int .i64 0), (.agg [(.bool false), .nil, (.int .i64 0), (.bool false), .nil, (.int .i64 0)]), (.int .i64 1)]) <| .lits 4 <| .yes <| .lit <| .call (wV oa ob oc od) <| .lit <| .call (.bool true) <| .lits 9 <| .ret))
  (cast_ob (aI True.intro (aI (c0 ) (aI (c1 ) (aI tT (aI (rfl : (l17_qua_0_mk b1 l1 e1 m ee w nn 0) = (l17_qua_0_mk b1 l1 e1 m ee w nn 0)) (aI (l17_qua_0 b1 l1 e1 m ee w nn c3 c4 c5 c6 0 (show 0 ≤ nn from Nat.zero_le _)) (fun y (hJ : l17_qua_0_J b1 l1 e1 m ee w nn y) => have hJ : y = nn := hJ; have hY := hJ; aI (mill_Mod w 120 oS oS) (have f2 := Int.emod_lt_of_pos w (show (0 : Int) < 120 by first | omega | assumption); have f1 := Int.emod_nonneg w (show (120 : Int) ≠ 0 by first | omega | assumption); aI (fits_i64 oS : (fits .i64 ((12 : Int) + (w % 120))) = true) (aI ((hY ▸ c7) ) (aI (c8 ) (aI (c9 ) (aI (c10 ) (aI (c11 ) (aI (iLt_mkF oS : (iLt k (-8589934592)) = false) (aI (iGt_mkF oS : (iGt k 8589934592) = false) (aI (fits_i64 oS : (fits .i64 (((12 : Int) + (w % 120)) - 2)) = true) (aI (c12 ) (aI (c13 ) (aI (c14 ) (aI (iGt_mkF oS : (iGt k1 0) = false) (aI (fits_i64 oS : (fits .i64 (((12 : Int) + (w % 120)) + 60)) = true) (aI (c15 ) (aI (c16 ) (aI ((hY ▸ c17) ) (aI (iGe_mkF oO : (iGe k 0) = false) (aI (fits_i64 oS : (fits .i64 ((0 : Int) - k)) = true) (aI (c18 ) (aI (c19 ) (aI ((hY ▸ c20) ) (aI (c21 ) (aI (c22 ) (aI (c23 ) (aI (fits_i64 oS : (fits .i64 (((12 : Int) + (w % 120)) + 20)) = true) (aI (c24 ) (aI (c25 ) ((vsub_refl (.bool true)))))))))))))))))))))))))))))))))))))) (by kernel_rfl))
def rpLo (v : Int) : Int := ((((atanT 5 v).1 - 2) * 16) + (-(((atanT 239 v).2 + 2) * 4)))
def rpHi (v : Int) : Int := ((((atanT 5 v).2 + 2) * 16) + (-(((atanT 239 v).1 - 2) * 4)))
theorem rpi_all : (List.range 400).all (fun t => decide (t < 24) || (decide (0 ≤ rpLo (t : Int)) && decide (rpLo (t : Int) * 2 ^ (430 - t) ≤ ptPi) && decide (ptPi ≤ rpHi (t : Int) * 2 ^ (430 - t)) && decide (rpHi (t : Int) ≤ 8 * 2 ^ t) && decide (rpHi (t : Int) - rpLo (t : Int) ≤ 16384))) = true := by kernel_rfl
theorem rpi_at {t : Nat} (ht : t < 400) (h24 : 24 ≤ t) : (((rpLo (t : Int) : Int) : Rat) ≤ cQ * 2 * ((2 ^ t : Int) : Rat) ∧ cQ * 2 * ((2 ^ t : Int) : Rat) ≤ ((rpHi (t : Int) : Int) : Rat)) ∧ 0 ≤ rpLo (t : Int) ∧ rpHi (t : Int) ≤ 8 * 2 ^ t ∧ rpHi (t : Int) - rpLo (t : Int) ≤ 16384 := by
 have h := List.all_eq_true.1 rpi_all t (List.mem_range.2 ht)
 simp only [Bool.or_eq_true, Bool.and_eq_true, decide_eq_true_eq] at h
 have h := h.resolve_left oO
 rw [← cQ2]
 exact ⟨⟨(cl_sc oO).1 h.1.1.1.2, (cl_sc oO).2 h.1.1.2⟩, h.1.1.1.1, h.1.2, h.2⟩
theorem piw_all : (List.range 400).all (fun t => decide (piHi (t : Int) - piLo (t : Int) ≤ 16384)) = true := by kernel_rfl
theorem piw {s : Int} (hs : 0 ≤ s ∧ s < 400) : piHi s - piLo s ≤ 16384 := by
 have h := List.all_eq_true.1 piw_all s.toNat (List.mem_range.2 oO)
 rw [Int.toNat_of_nonneg hs.1] at h
 exact of_decide_eq_true h
theorem tm_w2 {a b k D W : Int} (hab : a ≤ b) (hk : -W ≤ k ∧ k ≤ W) (h : b - a ≤ D) : tmHi a b k - tmLo a b k ≤ D * W := by
 unfold tmLo tmHi
 have key : ∀ {x y : Int}, 0 ≤ x → x ≤ D → 0 ≤ y → y ≤ W → x * y ≤ D * W := fun h1 h2 h3 h4 =>
  Int.le_trans (Int.mul_le_mul_of_nonneg_right h2 h3) (Int.mul_le_mul_of_nonneg_left h4 oO)
 split
 ·have := key (x := b - a) (y := -k) oO oO oO oO
  rw [Int.mul_neg, Int.sub_mul] at this
  omega
 ·have := key (x := b - a) (y := k) oO oO oO oO
  rw [Int.sub_mul] at this
  omega
theorem near_qk2 {d c T : Rat} {p1 p2 q1 q2 k : Int} (hp1 : (p1 : Rat) ≤ d * T) (hp2 : d * T ≤ (p2 : Rat)) (hp : p2 ≤ p1 + 1) (hq1 : (q1 : Rat) ≤ c * T) (hq2 : c * T ≤ (q2 : Rat)) (hq : q2 - q1 ≤ 4097) (hT : 1152921504606846976 ≤ T)
  (c1 : 157 ≤ 100 * c) (c2 : 1000 * c ≤ 1571) (hk : k = Int.fdiv (((p1 + p2) * 2 ^ 1) + (q1 + q2)) ((q1 + q2) * 2 ^ 1)) (d1 : -4294967296 ≤ d) (d2 : d ≤ 4294967296) : (-4294967295 ≤ k ∧ k ≤ 4294967295) ∧ -80 ≤ 100 * (d - (k : Rat) * c) ∧ 100 * (d - (k : Rat) * c) ≤ 80 := by
 have T0 : 0 < T := by grind
 have m1 := Rat.mul_le_mul_of_nonneg_right c1 (Rat.le_of_lt T0)
 have m2 := Rat.mul_le_mul_of_nonneg_right c2 (Rat.le_of_lt T0)
 have m1 : 157 * T ≤ 100 * (c * T) := by rw [← Rat.mul_assoc]; exact m1
 have m2 : 1000 * (c * T) ≤ 1571 * T := by rw [← Rat.mul_assoc]; exact m2
 have m3 := Rat.mul_le_mul_of_nonneg_right d1 (Rat.le_of_lt T0)
 have m4 := Rat.mul_le_mul_of_nonneg_right d2 (Rat.le_of_lt T0)
 have hpR : (p2 : Rat) ≤ (p1 : Rat) + 1 := by
  have : (p2 : Rat) ≤ ((p1 + 1 : Int) : Rat) := Rat.intCast_le_intCast.2 hp
  rw [Rat.intCast_add] at this; exact this
 have hqR : (q2 : Rat) ≤ (q1 : Rat) + 4097 := by
  have : (q2 : Rat) ≤ ((q1 + 4097 : Int) : Rat) := Rat.intCast_le_intCast.2 oO
  rw [Rat.intCast_add] at this; exact this
 have q0 : 0 < q1 + q2 := by
  have : (0 : Rat) < ((q1 + q2 : Int) : Rat) := by rw [Rat.intCast_add]; grind
  exact Rat.intCast_pos.1 this
 rw [Int.fdiv_eq_ediv_of_nonneg _ oO] at hk
 have f1 := Int.ediv_mul_le (((p1 + p2) * 2 ^ 1) + (q1 + q2)) (show (q1 + q2) * 2 ^ 1 ≠ 0 by omega)
 have f2 := Int.lt_ediv_add_one_mul_self (((p1 + p2) * 2 ^ 1) + (q1 + q2)) (show 0 < (q1 + q2) * 2 ^ 1 by omega)
 rw [← hk] at f1 f2
 rw [show (2 : Int) ^ 1 = 2 from rfl] at f1 f2
 have g1 : ((k * ((q1 + q2) * 2) : Int) : Rat) ≤ (((p1 + p2) * 2 + (q1 + q2) : Int) : Rat) := Rat.intCast_le_intCast.2 f1
 have g2 : (((p1 + p2) * 2 + (q1 + q2) : Int) : Rat) ≤ (((k + 1) * ((q1 + q2) * 2) : Int) : Rat) := Rat.intCast_le_intCast.2 (Int.le_of_lt f2)
 simp only [Rat.intCast_mul, Rat.intCast_add, show ((2 : Int) : Rat) = 2 from rfl, show ((1 : Int) : Rat) = 1 from rfl] at g1 g2
 have K1 : k ≤ 4294967295 := by
  refine Decidable.byContradiction fun hn => ?_
  have kR : (4294967296 : Rat) ≤ (k : Rat) := Rat.intCast_le_intCast.2 (show (4294967296 : Int) ≤ k by omega)
  have m := Rat.mul_le_mul_of_nonneg_right kR (show 0 ≤ ((q1 : Rat) + (q2 : Rat)) * 2 by grind)
  clear f1 f2 hk
  grind
 have K2 : -4294967295 ≤ k := by
  refine Decidable.byContradiction fun hn => ?_
  have kR : (k : Rat) + 1 ≤ -4294967295 := by
   have := Rat.intCast_le_intCast.2 (show k + 1 ≤ -4294967295 by omega)
   rw [Rat.intCast_add] at this; exact this
  have m := Rat.mul_le_mul_of_nonneg_right kR (show 0 ≤ ((q1 : Rat) + (q2 : Rat)) * 2 by grind)
  clear f1 f2 hk
  grind
 refine ⟨⟨K2, K1⟩, ?_⟩
 have k1R : (k : Rat) ≤ 4294967296 := Rat.intCast_le_intCast.2 (show k ≤ 4294967296 by omega)
 have k2R : -4294967296 ≤ (k : Rat) := Rat.intCast_le_intCast.2 (show -4294967296 ≤ k by omega)
 have mb := mul_bd (p := (k : Rat)) (P := 4294967296) (x := (q1 : Rat) + (q2 : Rat) - 2 * (c * T)) (a := 4097) k2R k1R (by grind) (by grind)
 have e1 : (k : Rat) * ((q1 : Rat) + (q2 : Rat) - 2 * (c * T)) = (k : Rat) * ((q1 : Rat) + (q2 : Rat)) - 2 * ((k : Rat) * (c * T)) := by grind
 have e2 : (k : Rat) * (((q1 : Rat) + (q2 : Rat)) * 2) = 2 * ((k : Rat) * ((q1 : Rat) + (q2 : Rat))) := by grind
 have e3 : ((k : Rat) + 1) * (((q1 : Rat) + (q2 : Rat)) * 2) = 2 * ((k : Rat) * ((q1 : Rat) + (q2 : Rat))) + 2 * ((q1 : Rat) + (q2 : Rat)) := by grind
 have e4 : 100 * (d - (k : Rat) * c) * T = 100 * (d * T - (k : Rat) * (c * T)) := by grind
 rw [e1] at mb
 rw [e2] at g1
 rw [e3] at g2
 clear f1 f2 hk K1 K2 e1 e2 e3
 constructor
 ·refine Rat.le_of_mul_le_mul_right (c := T) ?_ T0
  rw [e4]
  generalize (k : Rat) * (c * T) = x1 at *
  generalize (k : Rat) * ((q1 : Rat) + (q2 : Rat)) = x2 at *
  generalize c * T = C at *
  generalize d * T = D at *
  clear c1 c2 d1 d2 e4 k1R k2R hp hq q0
  grind
 ·refine Rat.le_of_mul_le_mul_right (c := T) ?_ T0
  rw [e4]
  generalize (k : Rat) * (c * T) = x1 at *
  generalize (k : Rat) * ((q1 : Rat) + (q2 : Rat)) = x2 at *
  generalize c * T = C at *
  generalize d * T = D at *
  clear c1 c2 d1 d2 e4 k1R k2R hp hq q0
  grind
theorem fx_TurnE2 (m ee sc : Int) (hs : 12 ≤ sc ∧ sc ≤ 320) (hm : L (m).natAbs ≤ 20) (he : -440 ≤ ee ∧ ee ≤ 130) (d1 : -4294967296 ≤ dv m ee) (d2 : dv m ee ≤ 4294967296) :
  ∃ q r1 r2 : Int, Impl Tryz.prog Amb 94 [(yV m ee), (.int .i64 sc)] (.tup [(.int .i64 q), (.agg [(.bool (decide (r1 < 0))), (N r1.natAbs), (.bool (decide (r2 < 0))), (N r2.natAbs)])]) ∧ (-4294967295 ≤ q ∧ q ≤ 4294967295) ∧ r1 ≤ r2 ∧ r2 - r1 ≤ 2 ∧ (-80 ≤ 100 * (dv m ee - (q : Rat) * cQ) ∧ 100 * (dv m ee - (q : Rat) * cQ) ≤ 80) ∧
   (r1 : Rat) ≤ (dv m ee - (q : Rat) * cQ) * ((2 ^ sc.toNat : Int) : Rat) ∧ (dv m ee - (q : Rat) * cQ) * ((2 ^ sc.toNat : Int) : Rat) ≤ (r2 : Rat) := by
 obtain ⟨t, ht⟩ : ∃ t : Nat, (t : Int) = sc + 48 := ⟨(sc + 48).toNat, by omega⟩
 have hO := fx_Of m ee (sc + 48) oO oO oO
 have lf := flr_LD m ee (sc + 48)
 have sc1 := (flr_sc (dv m ee) t).1
 have sc2 := (cei_sc (dv m ee) t).1
 have fc := (flr_cei1 (dv m ee) t).1
 have cl := pq_at (t := t + 1) oO
 have tt : ((t + 1 : Nat) : Int) = sc + 48 + 1 := by omega
 rw [tt] at cl
 rw [ht] at sc1 sc2 fc
 have b := pi_ok (s := sc + 48 + 1) oO
 have bw := piw (s := sc + 48 + 1) oO
 have hP : Impl Tryz.prog Amb 117 [(.int .i64 ((sc + 48) + 1))] (.agg [(.bool (decide ((piLo (sc + 48 + 1)) < 0))), (N ((piLo (sc + 48 + 1)).natAbs)), (.bool (decide ((piHi (sc + 48 + 1)) < 0))), (N ((piHi (sc + 48 + 1)).natAbs))]) := fx_Pi (sc + 48 + 1) oO
 generalize piLo (sc + 48 + 1) = p1 at *
 generalize piHi (sc + 48 + 1) = p2 at *
 generalize flr (dv m ee) (sc + 48) = x1 at *
 generalize cei (dv m ee) (sc + 48) = x2 at *
 have hH := fx_Half p1 p2 2 oO oO oO
 have he1 := half_enc (a := p1) (b := p2) (X := cQ) (t := t + 1 + 1) (s := t) (n := 2) oO cl.1 cl.2
 have hw1 := half_w (a := p1) (b := p2) (W := 4096) (n := 2) oO
 have o1 := L_abs_shr p1 2
 have o2 := L_abs_neg p2
 have o3 := L_abs_shr (-p2) 2
 have o4 := L_abs_neg (-p2 / 2 ^ 2)
 have e2 : (2 : Int).toNat = 2 := rfl
 rw [e2] at hH
 generalize p1 / 2 ^ 2 = h1 at *
 generalize -(-p2 / 2 ^ 2) = h2 at *
 have cb := cQ_b
 have T72 : (1152921504606846976 : Rat) ≤ ((2 ^ t : Int) : Rat) := by
  have p := Int.ofNat_le.2 (Nat.pow_le_pow_right (n := 2) oO (show 60 ≤ t by omega))
  rw [← pow_cast, ← pow_cast] at p
  exact Rat.intCast_le_intCast.2 p
 have nk := near_qk2 (k := Int.fdiv (((x1 + x2) * 2 ^ 1) + (h1 + h2)) ((h1 + h2) * 2 ^ 1)) sc1 sc2 fc he1.1 he1.2 oO T72 cb.1 cb.2 rfl d1 d2
 have h12 : 0 < h1 + h2 := by
  have : (0 : Rat) < ((h1 + h2 : Int) : Rat) := by
   rw [Rat.intCast_add]
   have m1 := Rat.mul_le_mul_of_nonneg_right cb.1 (show (0 : Rat) ≤ ((2 ^ t : Int) : Rat) by grind)
   have hR : (h2 : Rat) ≤ (h1 : Rat) + 16777216 := by
    have : (h2 : Rat) ≤ ((h1 + 16777216 : Int) : Rat) := Rat.intCast_le_intCast.2 oO
    rw [Rat.intCast_add] at this; exact this
   grind
  exact Rat.intCast_pos.1 this
 have hN := fx_Nearest x1 x2 h1 h2 oO oO oO oO h12 oO
 generalize Int.fdiv (((x1 + x2) * 2 ^ 1) + (h1 + h2)) ((h1 + h2) * 2 ^ 1) = q at *
 have m1 := L_abs_mul h1 q
 have m2 := L_abs_mul h2 q
 have lk := L_i64 (n := q) oO
 have hT := fx_TimesA h1 h2 q oO oO oO
 have te := tm_enc (k := q) he1.1 he1.2
 have h1le : h1 ≤ h2 := Rat.intCast_le_intCast.1 (Rat.le_trans he1.1 he1.2)
 have tw := tm_w2 (W := 4294967296) (D := 4097) h1le (k := q) oO oO
 have tL : L (tmLo h1 h2 q).natAbs ≤ 430 ∧ L (tmHi h1 h2 q).natAbs ≤ 430 := by unfold tmLo tmHi; split <;> omega
 generalize tmLo h1 h2 q = t1 at *
 generalize tmHi h1 h2 q = t2 at *
 have n1 := L_abs_neg t1
 have n2 := L_abs_neg t2
 have a1 := L_abs_add x1 (-t2)
 have a2 := L_abs_add x2 (-t1)
 have hS := fx_Sub x1 x2 t1 t2 oO oO oO oO
 have hH2 := fx_Half (x1 + -t2) (x2 + -t1) (sc + 48 - sc) oO oO oO
 have e48 : (sc + 48 - sc).toNat = 48 := by omega
 rw [e48] at hH2
 have hw := half_w (a := x1 + -t2) (b := x2 + -t1) (W := 1) (n := 48) oO
 have he := half_enc (a := x1 + -t2) (b := x2 + -t1) (X := dv m ee - (q : Rat) * cQ) (t := t) (s := sc.toNat) (n := 48) oO (by rw [Rat.intCast_add, Rat.intCast_neg]; grind) (by rw [Rat.intCast_add, Rat.intCast_neg]; grind)
 refine ⟨q, _, _, fx_Turn0 m ee sc x1 x2 p1 p2 h1 h2 q t1 t2 _ _ _ _ hO hP hH hN hT hS hH2 oO, nk.1, Rat.intCast_le_intCast.1 (Rat.le_trans he.1 he.2), ?_, nk.2, he.1, he.2⟩
 omega
theorem r17_Unit (A B w : Int) (hw : 0 ≤ w ∧ w ≤ 300) (hA : A ≤ 2 ^ w.toNat ∧ -(2 ^ w.toNat) ≤ A) (hB : B ≤ 2 ^ w.toNat ∧ -(2 ^ w.toNat) ≤ B) : Impl Tryz.prog Amb 42 [(wV (mkM A (-w)) (mkX A (-w)) (mkM B (-w)) (mkX B (-w)))] (.bool true) := by
 have pv2 : ((2 ^ w.toNat : Nat) : Int) = (2 : Int) ^ w.toNat := (pow_cast _).symm
 have lA : L A.natAbs ≤ 70 := abs_big (t := w.toNat) (c := 1) oO oO oO
 have lB : L B.natAbs ≤ 70 := abs_big (t := w.toNat) (c := 1) oO oO oO
 have fA := mk_fit (m := A) (e := -w) oO oO
 have fB := mk_fit (m := B) (e := -w) oO oO
 have i1 := iMin_range (-w) 0
 have i2 : iMax (-w) 0 ≤ 0 := by unfold iMax; split <;> omega
 have hh : dv 1 0 = dv (2 ^ w.toNat) (-w) := by
  rw [dv_at (m := 1) (e := 0) (c := -w) oO, show (0 - -w).toNat = w.toNat by omega, Int.one_mul]
 have b1 : dv A (-w) ≤ dv 1 0 := by rw [hh, dv_le]; omega
 have b2 : dv B (-w) ≤ dv 1 0 := by rw [hh, dv_le]; omega
 have b3 : -dv 1 0 ≤ dv A (-w) := by rw [hh, ← dv_neg, dv_le]; omega
 have b4 : -dv 1 0 ≤ dv B (-w) := by rw [hh, ← dv_neg, dv_le]; omega
 rw [← fA.2.2.2.2.2] at b1 b3
 rw [← fB.2.2.2.2.2] at b2 b4
 have l1 : L (1 : Int).natAbs ≤ 1 := L_lit 1 (by decide)
 have l2 : L (-1 : Int).natAbs ≤ 1 := L_lit 1 (by decide)
 refine r17_Unit0 _ _ _ _ (-1) 0 1 0 true (impl_eq (by kernel_rfl) (r08_Of (-1) oO)) (impl_eq (by kernel_rfl) (r08_Of 1 oO)) ?_
 exact impl_eq (congrArg V.bool (decide_eq_true ⟨cmpD_le.2 (by rw [dv_neg]; exact b3), cmpD_le.2 b2⟩)) (r10_Within (mkM A (-w)) (mkX A (-w)) (mkM B (-w)) (mkX B (-w)) (-1) 0 1 0 oO oO oO oO oO oO oO oO)
theorem rq_half {v : Int} (hv : 24 ≤ v ∧ v < 400) : ∃ p1 p2 n1 n2 : Int, Impl Tryz.prog Amb 30 [(.int .i64 v)] (.agg [(.bool (decide (p1 < 0))), (N p1.natAbs), (.bool (decide (p2 < 0))), (N p2.natAbs)]) ∧ Impl Tryz.prog Amb 29 [(.agg [(.bool (decide (p1 < 0))), (N p1.natAbs), (.bool (decide (p2 < 0))), (N p2.natAbs)]), (.int .i64 2)] (.agg [(.bool (decide (n1 < 0))), (N n1.natAbs), (.bool (decide (n2 < 0))), (N n2.natAbs)]) ∧ ((n1 : Rat) ≤ cQ * ((2 ^ v.toNat : Int) : Rat) ∧ cQ * ((2 ^ v.toNat : Int) : Rat) ≤ (n2 : Rat)) ∧ (0 ≤ n1 ∧ n2 ≤ 8 * 2 ^ v.toNat ∧ n2 - n1 ≤ 8194) ∧ L n1.natAbs ≤ 70 ∧ L n2.natAbs ≤ 70 := by
 have hP := r13_PiSpan v oO
 have rl := rpi_at (t := v.toNat) oO oO
 rw [Int.toNat_of_nonneg (show 0 ≤ v by omega)] at rl
 have hP : Impl Tryz.prog Amb 30 [(.int .i64 v)] (.agg [(.bool (decide ((rpLo v) < 0))), (N ((rpLo v).natAbs)), (.bool (decide ((rpHi v) < 0))), (N ((rpHi v).natAbs))]) := hP
 generalize rpLo v = p1 at *
 generalize rpHi v = p2 at *
 obtain ⟨rc, r0, r8, rw_⟩ := rl
 have p12 : p1 ≤ p2 := Rat.intCast_le_intCast.1 (Rat.le_trans rc.1 rc.2)
 have pv2 : ((2 ^ v.toNat : Nat) : Int) = (2 : Int) ^ v.toNat := (pow_cast _).symm
 have l1 : L p1.natAbs ≤ 70 := abs_big (t := v.toNat) (c := 8) oO oO oO
 have l2 : L p2.natAbs ≤ 70 := abs_big (t := v.toNat) (c := 8) oO oO oO
 have hO := r13_Over p1 p2 2 oO oO oO
 have oi := ov_in (a := p1) (b := p2) (n := 2) oO rc.1 rc.2
 have e2 : cQ * 2 * ((2 ^ v.toNat : Int) : Rat) / ((2 : Int) : Rat) = cQ * ((2 ^ v.toNat : Int) : Rat) := by
  rw [show ((2 : Int) : Rat) = 2 from rfl, show cQ * 2 * ((2 ^ v.toNat : Int) : Rat) = cQ * ((2 ^ v.toNat : Int) : Rat) * 2 by grind, Rat.mul_div_cancel (by decide)]
 rw [e2] at oi
 have oo : ovLo p1 p2 2 = p1 / 2 ∧ ovHi p1 p2 2 = -(-p2 / 2) := by
  unfold ovLo ovHi
  rw [show min p1 p2 = p1 by omega, show max p1 p2 = p2 by omega, Int.fdiv_eq_ediv_of_nonneg _ oO, Int.fdiv_eq_ediv_of_nonneg _ oO]
  exact ⟨rfl, rfl⟩
 have q1 : 0 ≤ ovLo p1 p2 2 := by rw [oo.1]; omega
 have q2 : ovHi p1 p2 2 ≤ 8 * 2 ^ v.toNat := by rw [oo.2]; omega
 have q3 : ovHi p1 p2 2 - ovLo p1 p2 2 ≤ 8194 := by rw [oo.1, oo.2]; omega
 have q4 : ovLo p1 p2 2 ≤ ovHi p1 p2 2 := by rw [oo.1, oo.2]; omega
 exact ⟨p1, p2, ovLo p1 p2 2, ovHi p1 p2 2, hP, hO, oi, ⟨q1, q2, q3⟩, abs_big (t := v.toNat) (c := 8) oO oO oO, abs_big (t := v.toNat) (c := 8) oO oO oO⟩
theorem qua_refP (m x w k : Int) (hw : 12 ≤ w ∧ w ≤ 140) (hm : L m.natAbs ≤ 2) (hx : -440 ≤ x ∧ x ≤ 130) (hv : vdb m x = true) (hk : -4294967296 ≤ k ∧ k ≤ 4294967296) (hk0 : 0 ≤ k) : ∃ p1 p2 n1 n2 xa xb t1 t2 s1 s2 : Int, (Impl Tryz.prog Amb 30 [(.int .i64 (w + 60))] (.agg [(.bool (decide (p1 < 0))), (N p1.natAbs), (.bool (decide (p2 < 0))), (N p2.natAbs)]) ∧ Impl Tryz.prog Amb 29 [(.agg [(.bool (decide (p1 < 0))), (N p1.natAbs), (.bool (decide (p2 < 0))), (N p2.natAbs)]), (.int .i64 2)] (.agg [(.bool (decide (n1 < 0))), (N n1.natAbs), (.bool (decide (n2 < 0))), (N n2.natAbs)]) ∧ Impl Tryz.prog Amb 45 [(yV m x), (.int .i64 (w + 60))] (.agg [(.bool (decide (xa < 0))), (N xa.natAbs), (.bool (decide (xb < 0))), (N xb.natAbs)]) ∧ Impl Tryz.prog Amb 28 [(.agg [(.bool (decide (n1 < 0))), (N n1.natAbs), (.bool (decide (n2 < 0))), (N n2.natAbs)]), (.int .i64 k)] (.agg [(.bool (decide (t1 < 0))), (N t1.natAbs), (.bool (decide (t2 < 0))), (N t2.natAbs)]) ∧ Impl Tryz.prog Amb 46 [(.agg [(.bool (decide (xa < 0))), (N xa.natAbs), (.bool (decide (xb < 0))), (N xb.natAbs)]), (.agg [(.bool (decide (t1 < 0))), (N t1.natAbs), (.bool (decide (t2 < 0))), (N t2.natAbs)])] (.agg [(.bool (decide (s1 < 0))), (N s1.natAbs), (.bool (decide (s2 < 0))), (N s2.natAbs)])) ∧ (L s1.natAbs ≤ 100 ∧ L s2.natAbs ≤ 100) ∧ (s1 : Rat) ≤ (dv m x - (k : Rat) * cQ) * ((2 ^ (w + 60).toNat : Int) : Rat) ∧ (dv m x - (k : Rat) * cQ) * ((2 ^ (w + 60).toNat : Int) : Rat) ≤ (s2 : Rat) := by
 obtain ⟨p1, p2, n1, n2, hP, hO, rc, ⟨q1', q2', _⟩, ln1, ln2⟩ := rq_half (v := w + 60) oO
 have hA := r13_At m x (w + 60) oO oO hv oO
 have lf := flr_LD m x (w + 60)
 have sc1 := (flr_sc (dv m x) (w + 60).toNat).1
 have sc2 := (cei_sc (dv m x) (w + 60).toNat).1
 rw [Int.toNat_of_nonneg (show 0 ≤ w + 60 by omega)] at sc1 sc2
 generalize flr (dv m x) (w + 60) = xa at *
 generalize cei (dv m x) (w + 60) = xb at *
 have te := tm_enc (k := k) rc.1 rc.2
 have q1 := L_abs_mul n1 k
 have q2 := L_abs_mul n2 k
 have lk := L_i64 (n := k) oO
 have hT := r13_Times n1 n2 k oO oO oO
 have hS := r13_Sub xa xb (n1 * k) (n2 * k) oO oO oO oO
 have z1 : -(n2 * k) = -(tmHi n1 n2 k) := by unfold tmHi; rw [if_neg oO]
 have z2 : -(n1 * k) = -(tmLo n1 n2 k) := by unfold tmLo; rw [if_neg oO]
 have g1 := L_abs_add xa (-(n2 * k))
 have g2 := L_abs_add xb (-(n1 * k))
 have g3 := L_abs_neg (n1 * k)
 have g4 := L_abs_neg (n2 * k)
 refine ⟨_, _, _, _, _, _, _, _, _, _, ⟨hP, hO, hA, hT, hS⟩, ⟨by omega, by omega⟩, ?_, ?_⟩
 ·rw [z1, Rat.intCast_add, Rat.intCast_neg]; grind
 ·rw [z2, Rat.intCast_add, Rat.intCast_neg]; grind
theorem qua_refN (m x w k : Int) (hw : 12 ≤ w ∧ w ≤ 140) (hm : L m.natAbs ≤ 2) (hx : -440 ≤ x ∧ x ≤ 130) (hv : vdb m x = true) (hk : -4294967296 ≤ k ∧ k ≤ 4294967296) (hk0 : k < 0) : ∃ p1 p2 n1 n2 xa xb t1 t2 s1 s2 : Int, (Impl Tryz.prog Amb 30 [(.int .i64 (w + 60))] (.agg [(.bool (decide (p1 < 0))), (N p1.natAbs), (.bool (decide (p2 < 0))), (N p2.natAbs)]) ∧ Impl Tryz.prog Amb 29 [(.agg [(.bool (decide (p1 < 0))), (N p1.natAbs), (.bool (decide (p2 < 0))), (N p2.natAbs)]), (.int .i64 2)] (.agg [(.bool (decide (n1 < 0))), (N n1.natAbs), (.bool (decide (n2 < 0))), (N n2.natAbs)]) ∧ Impl Tryz.prog Amb 45 [(yV m x), (.int .i64 (w + 60))] (.agg [(.bool (decide (xa < 0))), (N xa.natAbs), (.bool (decide (xb < 0))), (N xb.natAbs)]) ∧ Impl Tryz.prog Amb 28 [(.agg [(.bool (decide (n1 < 0))), (N n1.natAbs), (.bool (decide (n2 < 0))), (N n2.natAbs)]), (.int .i64 (0 - k))] (.agg [(.bool (decide (t1 < 0))), (N t1.natAbs), (.bool (decide (t2 < 0))), (N t2.natAbs)]) ∧ Impl Tryz.prog Amb 47 [(.agg [(.bool (decide (xa < 0))), (N xa.natAbs), (.bool (decide (xb < 0))), (N xb.natAbs)]), (.agg [(.bool (decide (t1 < 0))), (N t1.natAbs), (.bool (decide (t2 < 0))), (N t2.natAbs)])] (.agg [(.bool (decide (s1 < 0))), (N s1.natAbs), (.bool (decide (s2 < 0))), (N s2.natAbs)])) ∧ (L s1.natAbs ≤ 100 ∧ L s2.natAbs ≤ 100) ∧ (s1 : Rat) ≤ (dv m x - (k : Rat) * cQ) * ((2 ^ (w + 60).toNat : Int) : Rat) ∧ (dv m x - (k : Rat) * cQ) * ((2 ^ (w + 60).toNat : Int) : Rat) ≤ (s2 : Rat) := by
 obtain ⟨p1, p2, n1, n2, hP, hO, rc, ⟨q1', q2', _⟩, ln1, ln2⟩ := rq_half (v := w + 60) oO
 have hA := r13_At m x (w + 60) oO oO hv oO
 have lf := flr_LD m x (w + 60)
 have sc1 := (flr_sc (dv m x) (w + 60).toNat).1
 have sc2 := (cei_sc (dv m x) (w + 60).toNat).1
 rw [Int.toNat_of_nonneg (show 0 ≤ w + 60 by omega)] at sc1 sc2
 generalize flr (dv m x) (w + 60) = xa at *
 generalize cei (dv m x) (w + 60) = xb at *
 have te := tm_enc (k := k) rc.1 rc.2
 have q1 := L_abs_mul n1 (0 - k)
 have q2 := L_abs_mul n2 (0 - k)
 have lk := L_i64 (n := (0 - k)) oO
 have hT := r13_Times n1 n2 (0 - k) oO oO oO
 have hS := r13_Add xa xb (n1 * (0 - k)) (n2 * (0 - k)) oO oO oO oO
 have z1 : n1 * (0 - k) = -(tmHi n1 n2 k) := by unfold tmHi; rw [if_pos hk0, Int.zero_sub, Int.mul_neg]
 have z2 : n2 * (0 - k) = -(tmLo n1 n2 k) := by unfold tmLo; rw [if_pos hk0, Int.zero_sub, Int.mul_neg]
 have g1 := L_abs_add xa (n1 * (0 - k))
 have g2 := L_abs_add xb (n2 * (0 - k))
 have g3 := L_abs_neg (n1 * (0 - k))
 have g4 := L_abs_neg (n2 * (0 - k))
 refine ⟨_, _, _, _, _, _, _, _, _, _, ⟨hP, hO, hA, hT, hS⟩, ⟨by omega, by omega⟩, ?_, ?_⟩
 ·rw [z1, Rat.intCast_add, Rat.intCast_neg]; grind
 ·rw [z2, Rat.intCast_add, Rat.intCast_neg]; grind
theorem qua_checks (A B w : Int) (hw : 12 ≤ w ∧ w ≤ 140) (hab : A ≤ B) (h2 : B - A ≤ 2) (hA : A ≤ 2 ^ w.toNat ∧ -(2 ^ w.toNat) ≤ A) (hB : B ≤ 2 ^ w.toNat ∧ -(2 ^ w.toNat) ≤ B) :
  ∃ a ae b be fa fb wa wb k1 : Int, (mkM A (-w) = a ∧ mkX A (-w) = ae ∧ mkM B (-w) = b ∧ mkX B (-w) = be) ∧ (Impl Tryz.prog Amb 40 [(wV a ae b be)] (.bool true) ∧ Impl Tryz.prog Amb 41 [(yV a ae), (.int .i64 w)] (.bool true) ∧ Impl Tryz.prog Amb 41 [(yV b be), (.int .i64 w)] (.bool true) ∧ Impl Tryz.prog Amb 32 [(.int .i64 (w - 2))] (.tup [(yV fa fb), (.int .i64 0)]) ∧ Impl Tryz.prog Amb 43 [(wV a ae b be)] (.tup [(yV wa wb), (.int .i64 0)]) ∧ Impl Tryz.prog Amb 44 [(yV wa wb), (yV fa fb)] (.int .i64 k1)) ∧ k1 ≤ 0 := by
 have pv2 : ((2 ^ w.toNat : Nat) : Int) = (2 : Int) ^ w.toNat := (pow_cast _).symm
 have lA : L A.natAbs ≤ 70 := abs_big (t := w.toNat) (c := 1) oO oO oO
 have lB : L B.natAbs ≤ 70 := abs_big (t := w.toNat) (c := 1) oO oO oO
 clear pv2
 have fA := mk_fit (m := A) (e := -w) oO oO
 have fB := mk_fit (m := B) (e := -w) oO oO
 have onA := mk_on (p := w) fA.1 oO oO
 have onB' := mk_on (p := w) fB.1 oO oO
 have i1 := iMin_range (-w) 0
 have i2 : iMax (-w) 0 ≤ 0 := by unfold iMax; split <;> omega
 have u2 := mk_unit (p := w - 2) oO
 have hU2 := r09_Unit (w - 2) oO
 rw [u2.2.2.1] at hU2
 have dw : dv (B - A) (-w) = dv B (-w) - dv A (-w) := by
  rw [Int.sub_eq_add_neg, dv_add, dv_neg, Rat.sub_eq_add_neg]
 have d4 : dv (B - A) (-w) ≤ dv 1 (-(w - 2)) := by
  rw [dv_at (m := 1) (e := -(w - 2)) (c := -w) oO, dv_le, show (-(w - 2) - -w).toNat = 2 by omega]
  omega
 have ab : dv A (-w) ≤ dv B (-w) := dv_le.2 hab
 rw [← dv_mk u2.2.2.1] at d4
 rw [dw] at d4
 rw [← fA.2.2.2.2.2] at ab d4
 rw [← fB.2.2.2.2.2] at ab d4
 have vA := fA.2.2.2.2.1
 have vB := fB.2.2.2.2.1
 have rA : (-200 ≤ mkX A (-w) ∧ mkX A (-w) ≤ 2240) ∧ L (mkM A (-w)).natAbs ≤ 70 := by omega
 have rB : (-200 ≤ mkX B (-w) ∧ mkX B (-w) ≤ 2240) ∧ L (mkM B (-w)).natAbs ≤ 70 := by omega
 have rU2 : (-200 ≤ mkX 1 (-(w - 2)) ∧ mkX 1 (-(w - 2)) ≤ 200) := by omega
 have lU2 := u2.2.2.2
 clear fA fB u2 dw
 have c2 := impl_eq (congrArg V.bool onA) (r09_On (mkM A (-w)) (mkX A (-w)) w oO oO)
 have c3 := impl_eq (congrArg V.bool onB') (r09_On (mkM B (-w)) (mkX B (-w)) w oO oO)
 clear onA onB'
 generalize mkM 1 (-(w - 2)) = fa at *
 generalize mkX 1 (-(w - 2)) = fb at *
 generalize hga : mkM A (-w) = a at *
 generalize hgae : mkX A (-w) = ae at *
 generalize hgb : mkM B (-w) = b at *
 generalize hgbe : mkX B (-w) = be at *
 have n1 := L_abs_neg a
 have sl := adS_L (m := b) (e := be) (n := -a) (f := ae) (a := 70) (c := 80) oO oO oO oO
 have j1 := iMin_range be ae
 have sf := mk_fit (m := adS b be (-a) ae) (e := iMin be ae) oO oO
 have j2 := iMin_range (iMin be ae) 0
 have j3 : iMax (iMin be ae) 0 ≤ 2240 := by unfold iMax; split <;> omega
 have hW := r10_Width a ae b be oO oO oO oO
 rw [sf.1] at hW
 have dw2 : dv (mkM (adS b be (-a) ae) (iMin be ae)) (mkX (adS b be (-a) ae) (iMin be ae)) = dv b be - dv a ae := by
  rw [sf.2.2.2.2.2, dv_ad, dv_neg, Rat.sub_eq_add_neg]
 rw [← dw2] at d4
 have hC := r08_Cmp (mkM (adS b be (-a) ae) (iMin be ae)) (mkX (adS b be (-a) ae) (iMin be ae)) fa fb oO oO oO oO
 refine ⟨a, ae, b, be, fa, fb, _, _, _, ⟨rfl, rfl, rfl, rfl⟩, ⟨?_, c2, c3, hU2, hW, hC⟩, cmpD_le.2 d4⟩
 exact impl_eq (congrArg V.bool (ivB_of vA vB ab)) (r10_Valid a ae b be oO oO)
theorem qua_rounds {m e : Int} (hm : L m.natAbs ≤ 2) (he : -60 ≤ e ∧ e ≤ 130) : ∃ nn, nn ≤ 8 ∧ ∀ j, j ≤ nn → (j = nn ↔ topD m (shq m e j) ≤ 32) := by
 obtain ⟨nn, h1, h2, h3⟩ := least (P := fun j => topD m (shq m e j) ≤ 32) (n := 8) (by have := shq_top hm he; omega)
 refine ⟨nn, h1, fun j hj => ⟨fun q => by rw [q]; exact h2, fun q => ?_⟩⟩
 exact Decidable.byContradiction fun hn => h3 j oO q
end Go.Proofs.YtcbihoojfakhdaaGreatDoor
