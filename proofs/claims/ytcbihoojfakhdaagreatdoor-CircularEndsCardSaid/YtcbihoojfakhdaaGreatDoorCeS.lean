/-
  Lower layers: what functions of the program compute, and plain facts. Conditions: as the theorems say.
-/
import Derived.Test.YtcbihoojfakhdaaGreatDoorChecked
import Derived.Test.YtcbihoojfakhdaaGreatDoorRows
import Derived.WalkKit
import Derived.ProofKit
import Derived.OpenShut
import Derived.Deep.DeepHandedRow
import Derived.Lib.LaidTab
import Derived.Lib.SmallJoins
import Derived.ChangeSlices
import Derived.Carry
import Derived.Test.YtcbihoojfakhdaaGreatDoorCards
import Derived.Test.YtcbihoojfakhdaaGreatDoorTie
import Derived.Test.YtcbihoojfakhdaaGreatDoorCeR
set_option linter.unusedVariables false
set_option linter.unusedSimpArgs false
namespace Go.Proofs.YtcbihoojfakhdaaGreatDoor
open Go.RowKit
set_option maxRecDepth 100000
set_option maxHeartbeats 2000000
def shc (m e : Int) (j : Nat) : Int := if m = 0 then 0 else e - 15 * (j : Int)
theorem shc_fit {m e : Int} (he : -40 ≤ e ∧ e ≤ 104) {j : Nat} (hj : j ≤ 12) : -220 ≤ shc m e j ∧ shc m e j ≤ 104 := by
 unfold shc; split <;> omega
theorem shc_step {m e : Int} (hv : vdb m e = true) (hm : L m.natAbs ≤ 2) (he : -40 ≤ e ∧ e ≤ 104) {j : Nat} (hj : j < 12) : Impl Tryz.prog Amb 38 [(yV m (shc m e j)), (.int .i64 (-15))] (.tup [(yV m (shc m e (j + 1))), (.int .i64 0)]) := by
 have f := shc_fit (m := m) he (j := j) oO
 have h := r08_Shift m (shc m e j) (-15) oO oO oO
 have key : mkM m (shc m e j + -15) = m ∧ mkX m (shc m e j + -15) = shc m e (j + 1) ∧ mkE m (shc m e j + -15) = 0 := by
  by_cases hz : m = 0
  ·subst hz
   have := mk_r2 (m := 0) (e := shc 0 e j + -15) oO rfl
   exact ⟨this.1, this.2.1, this.2.2⟩
  ·have s : shc m e j + -15 = shc m e (j + 1) := by unfold shc; rw [if_neg hz, if_neg hz]; omega
   rw [s]
   have f' := shc_fit (m := m) he (j := j + 1) oO
   refine mk_valid ?_
   rcases vdb_iff.1 hv with q | q
   ·exact absurd q.1 hz
   ·exact vdb_iff.2 (.inr ⟨hz, q.2.1, by omega, by omega, q.2.2.2.2⟩)
 rw [key.1, key.2.1, key.2.2] at h
 exact h
theorem shc_zero {m e : Int} (hv : vdb m e = true) : shc m e 0 = e := by
 unfold shc
 split
 ·rename_i h
  rcases vdb_iff.1 hv with q | q
  ·exact q.2.symm
  ·exact absurd h q.1
 ·omega
theorem shc_vdb {m e : Int} (hv : vdb m e = true) {j : Nat} (hf : -65536 ≤ shc m e j ∧ shc m e j ≤ 65536) : vdb m (shc m e j) = true := by
 by_cases hm : m = 0
 ·subst hm
  exact vdb_iff.2 (.inl ⟨rfl, by unfold shc; rw [if_pos rfl]⟩)
 ·exact vdb_sh hv hm hf
theorem shc_dv (m e : Int) (j : Nat) : dv m (shc m e j) * (2 : Rat) ^ ((15 * (j : Int) : Int)) = dv m e := by
 by_cases hm : m = 0
 ·subst hm; rw [dv_zero, dv_zero, Rat.zero_mul]
 ·rw [dv_exp m e (15 * (j : Int))]
  unfold shc; rw [if_neg hm]
theorem shc_le {m e n f : Int} {j : Nat} (h : dv m e ≤ dv n f) : dv m (shc m e j) ≤ dv n (shc n f j) := by
 refine Rat.le_of_mul_le_mul_right (c := (2 : Rat) ^ ((15 * (j : Int) : Int))) ?_ (zp_pos _)
 rw [shc_dv, shc_dv]; exact h
theorem shc_top {m e : Int} (hm : L m.natAbs ≤ 2) (he : -40 ≤ e ∧ e ≤ 104) : topD m (shc m e 12) ≤ 0 := by
 by_cases hz : m = 0
 ·subst hz
  unfold topD
  rw [if_pos rfl]; omega
 ·have s : shc m e 12 = e - 180 := by unfold shc; rw [if_neg hz]; omega
  rw [s]
  have r := topD_range m (e - 180)
  omega
theorem arg_rounds7 {m ee n f fa : Int} (hm : L m.natAbs ≤ 2) (hn : L n.natAbs ≤ 2) (he : -40 ≤ ee ∧ ee ≤ 104) (hf : -40 ≤ f ∧ f ≤ 104) (hfa : 0 ≤ fa) :
  ∃ nn, nn ≤ 12 ∧ ∀ j, j ≤ nn → (j = nn ↔ topD m (shc m ee j) ≤ fa ∧ topD n (shc n f j) ≤ fa) := by
 have t1 := shc_top (m := m) hm he
 have t2 := shc_top (m := n) hn hf
 obtain ⟨nn, h1, h2, h3⟩ := least (P := fun j => topD m (shc m ee j) ≤ fa ∧ topD n (shc n f j) ≤ fa) (n := 12) ⟨by omega, by omega⟩
 refine ⟨nn, h1, fun j hj => ⟨fun q => by rw [q]; exact h2, fun q => ?_⟩⟩
 exact Decidable.byContradiction fun hn => h3 j oO q
theorem l17_of (a : Int) (b : Int) (c0 : (-9223372036854775808 : Int) ≤ a ∧ a ≤ 9223372036854775807) (c1 : (-9223372036854775808 : Int) ≤ b ∧ b ≤ 9223372036854775807) : Impl Tryz.prog Amb 63 [(.int .i64 a), (.int .i64 b)] (wV (mkM a 0) (mkX a 0) (mkM b 0) (mkX b 0)) := by
 exact impl_ob hP hAmb Tryz.func63 (by kernel_rfl) (.lit <| .call (yV (mkM a 0) (mkX a 0)) <| .lit <| .call (yV (mkM b 0) (mkX b 0)) <| .lits 3 <| .ret)
  (cast_ob (aI True.intro (aI (r08_Of a oO) (have f14 := (of_fit (n := a) oO).2.2.2.2.1; have f13 := (of_fit (n := a) oO).2.2.2.1; have f12 := (of_fit (n := a) oO).2.2.1; have f11 := (of_fit (n := a) oO).2.1; have f10 := (of_fit (n := a) oO).1; have f9 := (L_i64 oO : L (a : Int).natAbs ≤ 2); have f8 := mk_facts a 0; aI (r08_Of b oO) (have f7 := (of_fit (n := b) oO).2.2.2.2.1; have f6 := (of_fit (n := b) oO).2.2.2.1; have f5 := (of_fit (n := b) oO).2.2.1; have f4 := (of_fit (n := b) oO).2.1; have f3 := (of_fit (n := b) oO).1; have f2 := (L_i64 oO : L (b : Int).natAbs ≤ 2); have f1 := mk_facts b 0; (vsub_refl (wV (mkM a 0) (mkX a 0) (mkM b 0) (mkX b 0))))))) (by kernel_rfl))
theorem l17_awake0 (a1 : Int) (a2 : Int) (c0 : Impl Tryz.prog Amb 63 [(.int .i64 (-1)), (.int .i64 1)] (wV (-1 : Int) 0 (1 : Int) 0)) (c1 : Impl Tryz.prog Amb 35 [(wV (-1 : Int) 0 (1 : Int) 0), (.int .i64 6)] (.tup [(wV a1 a2 (1 : Int) 0), (.int .i64 0)])) (c2 : Impl Tryz.prog Amb 63 [(.int .i64 0), (.int .i64 7)] (wV (0 : Int) 0 (7 : Int) 0)) (c3 : Impl Tryz.prog Amb 34 [(wV (0 : Int) 0 (7 : Int) 0), (.int .i64 6)] (.tup [(wV (-1 : Int) 0 (1 : Int) 0), (.int .i64 0)])) (c4 : Impl Tryz.prog Amb 17 [(.int .i64 1)] (yV (1 : Int) 0)) (c5 : Impl Tryz.prog Amb 77 [(yV (1 : Int) 0), (yV (1 : Int) 0)] (.bool true)) (c6 : Impl Tryz.prog Amb 37 [(wV (-1 : Int) 0 (1 : Int) 0), (wV (-1 : Int) 0 (1 : Int) 0)] (.bool true)) : Impl Tryz.prog Amb 23 [] (.bool true) := by
 exact impl_ob hP hAmb Tryz.func23 (by kernel_rfl) (.lit <| .call (wV (-1 : Int) 0 (1 : Int) 0) <| .lit <| .call (.tup [(wV a1 a2 (1 : Int) 0), (.int .i64 0)]) <| .lits 2 <| .call (wV (0 : Int) 0 (7 : Int) 0) <| .lit <| .call (.tup [(wV (-1 : Int) 0 (1 : Int) 0), (.int .i64 0)]) <| .lits 11 <| .call (yV (1 : Int) 0) <| .lits 2 <| .call (.bool true) <| .lits 5 <| .call (wV (-1 : Int) 0 (1 : Int) 0) <| .lits 2 <| .call (.bool true) <| .lits 2 <| .ret)
  (cast_ob (aI True.intro (aI (c0 ) (aI (c1 ) (aI (c2 ) (aI (c3 ) (aI (c4 ) (aI (c5 ) (aI (c0 ) (aI (c6 ) ((vsub_refl (.bool true)))))))))))) (by kernel_rfl))
theorem l17_argF (b1 : Bool) (l1 : List Nat) (e1 : Int) (b2 : Bool) (l2 : List Nat) (e2 : Int) (fa : Int) (m : Int) (ee : Int) (n : Int) (f : Int) (c0 : Impl Tryz.prog Amb 78 [(.agg [(.bool b1), (.sl 1 (U l1)), (.int .i64 e1), (.bool b2), (.sl 1 (U l2)), (.int .i64 e2)]), (.int .i64 2), (.int .i64 40)] (.tup [(wV m ee n f), (.bool false)])) : Impl Tryz.prog Amb 24 [(.agg [(.bool b1), (.sl 1 (U l1)), (.int .i64 e1), (.bool b2), (.sl 1 (U l2)), (.int .i64 e2)]), (.int .i64 fa)] (.tup [(wV m ee n f), (.bool false)]) := by
 exact impl_ob hP hAmb Tryz.func24 (by kernel_rfl) (.lits 2 <| .call (.tup [(wV m ee n f), (.bool false)]) <| .lits 6 <| .ret)
  (cast_ob (aI True.intro (aI (c0 ) ((vsub_refl (.tup [(wV m ee n f), (.bool false)]))))) (by kernel_rfl))
def l17_arg_0_mk (b1 : Bool) (l1 : List Nat) (e1 : Int) (b2 : Bool) (l2 : List Nat) (e2 : Int) (fa m ee n f : Int) (_ : Nat) (x : Nat) : St := ⟨mkS 43 [(1, (.val (.int .i64 fa))), (4, (.own 1 0)), (6, (.own 2 0))], [⟨true, false, [(V.bool b1), (V.sl 1 (U l1)), (V.int .i64 e1), (V.bool b2), (V.sl 1 (U l2)), (V.int .i64 e2)]⟩, ⟨true, false, [(V.bool false), V.nil, (V.int .i64 0), (V.bool false), V.nil, (V.int .i64 0)]⟩, ⟨true, false, [(V.bool (decide (m < 0))), (N m.natAbs), (V.int .i64 (shc m ee x)), (V.bool (decide (n < 0))), (N n.natAbs), (V.int .i64 (shc n f x))]⟩]⟩
def l17_arg_0_I (_ : Bool) (_ : List Nat) (_ : Int) (_ : Bool) (_ : List Nat) (_ : Int) (_ _ _ _ _ : Int) (nn : Nat) (x : Nat) : Prop := x ≤ nn
def l17_arg_0_mu (_ : Bool) (_ : List Nat) (_ : Int) (_ : Bool) (_ : List Nat) (_ : Int) (_ _ _ _ _ : Int) (nn : Nat) (x : Nat) : Nat := nn - x
def l17_arg_0_ex (b1 : Bool) (l1 : List Nat) (e1 : Int) (b2 : Bool) (l2 : List Nat) (e2 : Int) (_ m ee n f : Int) (_ : Nat) (y : Nat) : Ex × St := (.exit 0, ⟨mkS 43 [(4, (.own 1 0)), (6, (.own 2 0))], [⟨true, false, [(V.bool b1), (V.sl 1 (U l1)), (V.int .i64 e1), (V.bool b2), (V.sl 1 (U l2)), (V.int .i64 e2)]⟩, ⟨true, false, [(V.bool false), V.nil, (V.int .i64 0), (V.bool false), V.nil, (V.int .i64 0)]⟩, ⟨true, false, [(V.bool (decide (m < 0))), (N m.natAbs), (V.int .i64 (shc m ee y)), (V.bool (decide (n < 0))), (N n.natAbs), (V.int .i64 (shc n f y))]⟩]⟩)
def l17_arg_0_J (_ : Bool) (_ : List Nat) (_ : Int) (_ : Bool) (_ : List Nat) (_ : Int) (_ _ _ _ _ : Int) (nn : Nat) (y : Nat) : Prop := y = nn
abbrev l17_arg_0_N (b1 : Bool) (l1 : List Nat) (e1 : Int) (b2 : Bool) (l2 : List Nat) (e2 : Int) (fa m ee n f : Int) (nn : Nat) := NX (l17_arg_0_mk b1 l1 e1 b2 l2 e2 fa m ee n f nn) (l17_arg_0_I b1 l1 e1 b2 l2 e2 fa m ee n f nn) (l17_arg_0_mu b1 l1 e1 b2 l2 e2 fa m ee n f nn) (l17_arg_0_ex b1 l1 e1 b2 l2 e2 fa m ee n f nn) (l17_arg_0_J b1 l1 e1 b2 l2 e2 fa m ee n f nn)
theorem l17_arg_0 (b1 : Bool) (l1 : List Nat) (e1 : Int) (b2 : Bool) (l2 : List Nat) (e2 : Int) (fa m ee n f : Int) (nn : Nat) (c0 : nn ≤ 100)(c1 : ∀ j, j ≤ nn → (j = nn ↔ (topD m (shc m ee j)) ≤ fa ∧ (topD n (shc n f j)) ≤ fa))(c2 : ∀ j, j ≤ nn → Impl Tryz.prog Amb 18 [(yV m (shc m ee j))] (.int .i64 (topD m (shc m ee j))))(c3 : ∀ j, j ≤ nn → Impl Tryz.prog Amb 18 [(yV n (shc n f j))] (.int .i64 (topD n (shc n f j))))(c4 : ∀ j, j < nn → Impl Tryz.prog Amb 38 [(yV m (shc m ee j)), (.int .i64 (-15))] (.tup [(yV m (shc m ee (j + 1))), (.int .i64 0)]))(c5 : ∀ j, j < nn → Impl Tryz.prog Amb 38 [(yV n (shc n f j)), (.int .i64 (-15))] (.tup [(yV n (shc n f (j + 1))), (.int .i64 0)])) (x0 : Nat) (hI : l17_arg_0_I b1 l1 e1 b2 l2 e2 fa m ee n f nn x0) : LoopOk Tryz.prog Amb (loopN Tryz.f24 0) (l17_arg_0_mk b1 l1 e1 b2 l2 e2 fa m ee n f nn x0) (fun e st_ => ∃ y, l17_arg_0_J b1 l1 e1 b2 l2 e2 fa m ee n f nn y ∧ l17_arg_0_ex b1 l1 e1 b2 l2 e2 fa m ee n f nn y = (e, st_)) :=
 loop_ob hP hAmb ⟨[1, 4, 6], 3, []⟩ (l17_arg_0_mk b1 l1 e1 b2 l2 e2 fa m ee n f nn) (l17_arg_0_I b1 l1 e1 b2 l2 e2 fa m ee n f nn) (l17_arg_0_mu b1 l1 e1 b2 l2 e2 fa m ee n f nn) (l17_arg_0_ex b1 l1 e1 b2 l2 e2 fa m ee n f nn) (l17_arg_0_J b1 l1 e1 b2 l2 e2 fa m ee n f nn) x0 hI (fun j => .lits 2 <| .call (.int .i64 (topD m (shc m ee j))) <| .lit <| .both (.lits 8 <| .call (.tup [(yV m (shc m ee (j + 1))), (.int .i64 0)]) <| .lits 3 <| .call (.tup [(yV n (shc n f (j + 1))), (.int .i64 0)]) <| .lit <| .fin2 ⟨[1, 4, 6], 3, []⟩) (.lits 4 <| .call (.int .i64 (topD n (shc n f j))) <| .lits 4 <| .both (.lits 2 <| .call (.tup [(yV m (shc m ee (j + 1))), (.int .i64 0)]) <| .lits 3 <| .call (.tup [(yV n (shc n f (j + 1))), (.int .i64 0)]) <| .lit <| .fin2 ⟨[1, 4, 6], 3, []⟩) (.fin2 ⟨[4, 6], 3, []⟩))) (by
  rintro j hI
  have hI : j ≤ nn := hI
  have h1 := hI
  have q := c1 j h1
  exact cast_ob (aI True.intro (aI (c2 j h1 ) (aI (fun (h101 : (iGt (topD m (shc m ee j)) fa) = true) => have _gh101 := iGt_t h101; aI (c4 j oO ) (aI (c5 j oO ) (aI tT ((nx_next (j + 1) (show (j + 1) ≤ nn from show j + 1 ≤ nn by omega) (show nn - (j + 1) < nn - j by omega) : l17_arg_0_N b1 l1 e1 b2 l2 e2 fa m ee n f nn j .normal (l17_arg_0_mk b1 l1 e1 b2 l2 e2 fa m ee n f nn (j + 1))))))) (fun (h102 : (iGt (topD m (shc m ee j)) fa) = false) => have _gh102 := iGt_f h102; aI (c3 j h1 ) (aI (fun (h103 : (iGt (topD n (shc n f j)) fa) = true) => have _gh103 := iGt_t h103; aI (c4 j oO ) (aI (c5 j oO ) (aI tT ((nx_next (j + 1) (show (j + 1) ≤ nn from show j + 1 ≤ nn by omega) (show nn - (j + 1) < nn - j by omega) : l17_arg_0_N b1 l1 e1 b2 l2 e2 fa m ee n f nn j .normal (l17_arg_0_mk b1 l1 e1 b2 l2 e2 fa m ee n f nn (j + 1))))))) (fun (h104 : (iGt (topD n (shc n f j)) fa) = false) => have _gh104 := iGt_f h104; aI tT ((nx_exit 0 ((l17_arg_0_ex b1 l1 e1 b2 l2 e2 fa m ee n f nn j).2) j (show j = nn from show j = nn by omega) rfl : l17_arg_0_N b1 l1 e1 b2 l2 e2 fa m ee n f nn j (.exit 0) ((l17_arg_0_ex b1 l1 e1 b2 l2 e2 fa m ee n f nn j).2))))))))) (by kernel_rfl))
theorem l17_argT (b1 : Bool) (l1 : List Nat) (e1 : Int) (b2 : Bool) (l2 : List Nat) (e2 : Int) (fa : Int) (m : Int) (ee : Int) (n : Int) (f : Int) (nn : Nat) (c0 : Impl Tryz.prog Amb 78 [(.agg [(.bool b1), (.sl 1 (U l1)), (.int .i64 e1), (.bool b2), (.sl 1 (U l2)), (.int .i64 e2)]), (.int .i64 2), (.int .i64 40)] (.tup [(wV m (shc m ee 0) n (shc n f 0)), (.bool true)])) (c1 : nn ≤ 100) (c2 : ∀ j, j ≤ nn → (j = nn ↔ (topD m (shc m ee j)) ≤ fa ∧ (topD n (shc n f j)) ≤ fa)) (c3 : ∀ j, j ≤ nn → Impl Tryz.prog Amb 18 [(yV m (shc m ee j))] (.int .i64 (topD m (shc m ee j)))) (c4 : ∀ j, j ≤ nn → Impl Tryz.prog Amb 18 [(yV n (shc n f j))] (.int .i64 (topD n (shc n f j)))) (c5 : ∀ j, j < nn → Impl Tryz.prog Amb 38 [(yV m (shc m ee j)), (.int .i64 (-15))] (.tup [(yV m (shc m ee (j + 1))), (.int .i64 0)])) (c6 : ∀ j, j < nn → Impl Tryz.prog Amb 38 [(yV n (shc n f j)), (.int .i64 (-15))] (.tup [(yV n (shc n f (j + 1))), (.int .i64 0)])) : Impl Tryz.prog Amb 24 [(.agg [(.bool b1), (.sl 1 (U l1)), (.int .i64 e1), (.bool b2), (.sl 1 (U l2)), (.int .i64 e2)]), (.int .i64 fa)] (.tup [(wV m (shc m ee nn) n (shc n f nn)), (.bool true)]) := by
 exact impl_ob hP hAmb Tryz.func24 (by kernel_rfl) (.lits 2 <| .call (.tup [(wV m (shc m ee 0) n (shc n f 0)), (.bool true)]) <| .lits 3 <| .loop ⟨[1, 4, 6], 3, []⟩ ((l17_arg_0_mk b1 l1 e1 b2 l2 e2 fa m ee n f nn 0)) (Nat) (l17_arg_0_ex b1 l1 e1 b2 l2 e2 fa m ee n f nn) (l17_arg_0_J b1 l1 e1 b2 l2 e2 fa m ee n f nn) (fun y => .lits 3 <| .ret))
  (cast_ob (aI True.intro (aI (c0 ) (aI tT (aI (rfl : (l17_arg_0_mk b1 l1 e1 b2 l2 e2 fa m ee n f nn 0) = (l17_arg_0_mk b1 l1 e1 b2 l2 e2 fa m ee n f nn 0)) (aI (l17_arg_0 b1 l1 e1 b2 l2 e2 fa m ee n f nn c1 c2 c3 c4 c5 c6 0 (show 0 ≤ nn from Nat.zero_le _)) (fun y (hJ : l17_arg_0_J b1 l1 e1 b2 l2 e2 fa m ee n f nn y) => have hJ : y = nn := hJ; (by rw [show y = nn from hJ]; exact vsub_refl _ : vsub (.tup [(wV m (shc m ee y) n (shc n f y)), (.bool true)]) (.tup [(wV m (shc m ee nn) n (shc n f nn)), (.bool true)])))))))) (by kernel_rfl))
theorem l17_arg (b1 : Bool) (l1 : List Nat) (e1 : Int) (b2 : Bool) (l2 : List Nat) (e2 : Int) (fa : Int) (c0 : Dig l1) (c1 : l1.length ≤ 9223372036854775807) (c2 : (-9223372036854775808 : Int) ≤ e1 ∧ e1 ≤ 9223372036854775807) (c3 : Dig l2) (c4 : l2.length ≤ 9223372036854775807) (c5 : (-9223372036854775808 : Int) ≤ e2 ∧ e2 ≤ 9223372036854775807) (hfa : 0 ≤ fa ∧ fa ≤ 100) : ∃ (m ee n f : Int) (ok : Bool), Impl Tryz.prog Amb 24 [(.agg [(.bool b1), (.sl 1 (U l1)), (.int .i64 e1), (.bool b2), (.sl 1 (U l2)), (.int .i64 e2)]), (.int .i64 fa)] (.tup [(wV m ee n f), (.bool ok)]) ∧ (L m.natAbs ≤ 2 ∧ L n.natAbs ≤ 2) ∧ ((-220 ≤ ee ∧ ee ≤ 104) ∧ (-220 ≤ f ∧ f ≤ 104)) ∧ (ok = true → (topD m ee ≤ fa ∧ topD n f ≤ fa) ∧ (vdb m ee = true ∧ vdb n f = true) ∧ dv m ee ≤ dv n f) := by
 have fa' := iv_fit (b := b1) (e := e1) (c := b2) (f := e2) (n := 2) (k := 40) c0 c3 oO oO
 have hi := mill_Iv b1 l1 e1 b2 l2 e2 2 40 c0 c1 c3 c4 c2 c5 oO oO
 generalize (ivM b1 l1 e1 b2 l2 e2 2 40) = m at fa' hi
 generalize (ivX b1 l1 e1 b2 l2 e2 2 40) = ee at fa' hi
 generalize (ivN b1 l1 e1 b2 l2 e2 2 40) = n at fa' hi
 generalize (ivF b1 l1 e1 b2 l2 e2 2 40) = f at fa' hi
 by_cases hok : ((l1.length : Int) ≤ 2 ∧ (l2.length : Int) ≤ 2)
 ·rw [decide_eq_true hok] at hi
  obtain ⟨nn, hn, ht⟩ := arg_rounds7 (m := m) (n := n) (ee := ee) (f := f) (fa := fa) oO oO oO oO oO
  have s1 := fun j (hj : j ≤ 12) => shc_fit (m := m) (e := ee) (j := j) oO hj
  have s2 := fun j (hj : j ≤ 12) => shc_fit (m := n) (e := f) (j := j) oO hj
  refine ⟨m, shc m ee nn, n, shc n f nn, true, l17_argT b1 l1 e1 b2 l2 e2 fa m ee n f nn ?_ oO ht ?_ ?_ ?_ ?_, by omega, ⟨s1 nn hn, s2 nn hn⟩, fun _ => ⟨(ht nn (Nat.le_refl _)).1 rfl, ⟨shc_vdb fa'.2.1 (by have := s1 nn hn; omega), shc_vdb fa'.2.2.1 (by have := s2 nn hn; omega)⟩, shc_le fa'.2.2.2⟩⟩
  ·rw [shc_zero fa'.2.1, shc_zero fa'.2.2.1]; exact hi
  ·intro j hj; have := s1 j oO; exact r08_Top m _ oO oO
  ·intro j hj; have := s2 j oO; exact r08_Top n _ oO oO
  ·intro j hj; exact shc_step fa'.2.1 oO oO oO
  ·intro j hj; exact shc_step fa'.2.2.1 oO oO oO
 ·rw [decide_eq_false hok] at hi
  exact ⟨m, ee, n, f, false, l17_argF b1 l1 e1 b2 l2 e2 fa m ee n f hi, by omega, by omega, fun h => by cases h⟩
theorem tp_k {a b : Rat} {w c k : Int} {g : Bool} (h : Tp a b w c g) (hk : (k - c) % 4 = 0) (hw : 0 ≤ w) (h1 : a ≤ (k : Rat) * cQ) (h2 : (k : Rat) * cQ ≤ b) : g = true := by
 cases g with
 | true => rfl
 | false =>
  have F0 : (0 : Rat) < ((2 ^ (w + 8).toNat : Int) : Rat) := Rat.intCast_pos.2 (two_pos _)
  have m1 := Rat.mul_le_mul_of_nonneg_right h1 (Rat.le_of_lt F0)
  have m2 := Rat.mul_le_mul_of_nonneg_right h2 (Rat.le_of_lt F0)
  rcases h.2 rfl k hk with q | q
  ·exfalso; grind
  ·exfalso; grind
theorem dvs : dv (-1) 0 = -1 ∧ dv 1 0 = 1 ∧ dv 0 0 = 0 ∧ dv 7 0 = 7 := ⟨of_decide_eq_true (by kernel_rfl), of_decide_eq_true (by kernel_rfl), of_decide_eq_true (by kernel_rfl), of_decide_eq_true (by kernel_rfl)⟩
theorem l17_awake : Impl Tryz.prog Amb 23 [] (.bool true) := by
 have cb := cQ_b
 have dd := dvs
 have l1 : L (1 : Int).natAbs ≤ 1 := L_lit 1 (by decide)
 have l2 : L (-1 : Int).natAbs ≤ 1 := L_lit 1 (by decide)
 have l3 : L (7 : Int).natAbs ≤ 1 := L_lit 7 (by decide)
 have l4 : L (0 : Int).natAbs ≤ 1 := L_lit 0 (by decide)
 obtain ⟨tp, bt, x1, x2, y1, y2, hC, _, _, t1, _⟩ := ci_imgE (-1) 0 1 0 1 6 (.inr rfl) oO oO oO (by rw [dd.1]; constructor <;> grind) oO oO (by rw [dd.2.1]; constructor <;> grind)
 rw [dd.1, dd.2.1] at t1
 have t1 := tp_k t1 (k := 0) (by decide) oO (by show -1 ≤ (0 : Rat) * cQ; grind) (by show (0 : Rat) * cQ ≤ 1; grind)
 subst t1
 obtain ⟨tp', bt', u1, u2, v1, v2, hS, _, _, t2, t3⟩ := ci_imgE 0 0 7 0 0 6 (.inl rfl) oO oO oO (by rw [dd.2.2.1]; constructor <;> grind) oO oO (by rw [dd.2.2.2]; constructor <;> grind)
 rw [dd.2.2.1, dd.2.2.2] at t2 t3
 have t2 := tp_k t2 (k := 1) (by decide) oO (by show 0 ≤ (1 : Rat) * cQ; grind) (by show (1 : Rat) * cQ ≤ 7; grind)
 have t3 := tp_k t3 (k := 3) (by decide) oO (by show 0 ≤ (3 : Rat) * cQ; grind) (by show (3 : Rat) * cQ ≤ 7; grind)
 subst t2 t3
 exact l17_awake0 _ _ (impl_eq (by kernel_rfl) (l17_of (-1) 1 oO oO)) (impl_eq (congrArg (fun d => V.tup [.agg [_, _, _, .bool (decide (d.1 < 0)), N d.1.natAbs, .int .i64 d.2], .int .i64 0]) (show ((mkM (2 ^ (6 : Int).toNat) (-6), mkX (2 ^ (6 : Int).toNat) (-6)) : Int × Int) = (1, 0) by kernel_rfl)) (ci_Cos (-1) 0 1 0 6 _ _ _ _ 0 hC))
  (impl_eq (by kernel_rfl) (l17_of 0 7 oO oO)) (impl_eq (by kernel_rfl) (ci_Sin 0 0 7 0 6 _ _ _ _ 0 hS)) (impl_eq (by kernel_rfl) (r08_Of 1 oO)) (impl_eq (congrArg V.bool (by decide)) (r08_Same 1 0 1 0 oO oO)) (impl_eq (congrArg V.bool (by decide)) (r10_Same (-1) 0 1 0 (-1) 0 1 0 oO oO oO oO))
theorem l17_EndsF (b1 : Bool) (l1 : List Nat) (e1 : Int) (b2 : Bool) (l2 : List Nat) (e2 : Int) (kk : Int) (w : Int) (m : Int) (ee : Int) (n : Int) (f : Int) (u1 : Int) (u2 : Int) (v1 : Int) (v2 : Int) (s1 : Int) (s2 : Int) (h1 : Int) (h2 : Int) (g1 : Int) (g2 : Int) (p : Int) (p2 : Int) (q : Int) (c0 : Impl Tryz.prog Amb 23 [] (.bool true)) (c1 : (-9223372036854775808 : Int) ≤ kk ∧ kk ≤ 9223372036854775807) (c2 : (-9223372036854775808 : Int) ≤ w ∧ w ≤ 9223372036854775807) (c3 : Impl Tryz.prog Amb 24 [(.agg [(.bool b1), (.sl 1 (U l1)), (.int .i64 e1), (.bool b2), (.sl 1 (U l2)), (.int .i64 e2)]), (.int .i64 8)] (.tup [(wV m ee n f), (.bool false)])) : Impl Tryz.prog Amb 7 [(.agg [(.bool b1), (.sl 1 (U l1)), (.int .i64 e1), (.bool b2), (.sl 1 (U l2)), (.int .i64 e2)]), (.int .i64 kk), (.int .i64 w)] (.bool true) := by
 exact impl_ob hP hAmb Tryz.func7 (by kernel_rfl) (.lit <| .call (.bool true) <| .lits 4 <| .call (.tup [(wV m ee n f), (.bool false)]) <| .lits 4 <| .ret)
  (cast_ob (aI True.intro (aI (c0 ) (aI (c3 ) ((vsub_refl (.bool true)))))) (by kernel_rfl))
theorem l17_EndsT (b1 : Bool) (l1 : List Nat) (e1 : Int) (b2 : Bool) (l2 : List Nat) (e2 : Int) (kk : Int) (w : Int) (m : Int) (ee : Int) (n : Int) (f : Int) (u1 : Int) (u2 : Int) (v1 : Int) (v2 : Int) (s1 : Int) (s2 : Int) (h1 : Int) (h2 : Int) (g1 : Int) (g2 : Int) (p : Int) (p2 : Int) (q : Int) (c0 : Impl Tryz.prog Amb 23 [] (.bool true)) (c1 : (-9223372036854775808 : Int) ≤ kk ∧ kk ≤ 9223372036854775807) (c2 : (-9223372036854775808 : Int) ≤ w ∧ w ≤ 9223372036854775807) (c3 : Impl Tryz.prog Amb 24 [(.agg [(.bool b1), (.sl 1 (U l1)), (.int .i64 e1), (.bool b2), (.sl 1 (U l2)), (.int .i64 e2)]), (.int .i64 8)] (.tup [(wV m ee n f), (.bool true)])) (c4 : Impl Tryz.prog Amb 34 [(wV m ee n f), (.int .i64 ((-1) - (w % 5)))] (.tup [(.agg [(.bool false), .nil, (.int .i64 0), (.bool false), .nil, (.int .i64 0)]), (.int .i64 1)])) (c5 : Impl Tryz.prog Amb 35 [(wV m ee n f), (.int .i64 ((4097 : Int) + (w % 5)))] (.tup [(.agg [(.bool false), .nil, (.int .i64 0), (.bool false), .nil, (.int .i64 0)]), (.int .i64 1)])) (c6 : Impl Tryz.prog Amb 17 [(.int .i64 1)] (yV u1 u2)) (c7 : Impl Tryz.prog Amb 27 [(zV u1), (.int .i64 32)] (.tup [(yV s1 s2), (.int .i64 p)])) (c8 : Impl Tryz.prog Amb 27 [(zV u1), (.int .i64 ((0 : Int) - (kk % 60)))] (.tup [(yV v1 v2), (.int .i64 p2)])) (c9 : Impl Tryz.prog Amb 33 [(yV s1 s2), (yV v1 v2)] (.tup [(yV h1 h2), (.int .i64 q)])) (c10 : Impl Tryz.prog Amb 34 [(wV m ee h1 h2), (.int .i64 (w % 40))] (.tup [(.agg [(.bool false), .nil, (.int .i64 0), (.bool false), .nil, (.int .i64 0)]), (.int .i64 3)])) (c11 : Impl Tryz.prog Amb 36 [(yV h1 h2)] (yV g1 g2)) (c12 : Impl Tryz.prog Amb 35 [(wV g1 g2 m ee), (.int .i64 (w % 40))] (.tup [(.agg [(.bool false), .nil, (.int .i64 0), (.bool false), .nil, (.int .i64 0)]), (.int .i64 3)])) (c13 : Impl Tryz.prog Amb 37 [(.agg [(.bool false), .nil, (.int .i64 0), (.bool false), .nil, (.int .i64 0)]), (.agg [(.bool false), .nil, (.int .i64 0), (.bool false), .nil, (.int .i64 0)])] (.bool true)) : Impl Tryz.prog Amb 7 [(.agg [(.bool b1), (.sl 1 (U l1)), (.int .i64 e1), (.bool b2), (.sl 1 (U l2)), (.int .i64 e2)]), (.int .i64 kk), (.int .i64 w)] (.bool true) := by
 exact impl_ob hP hAmb Tryz.func7 (by kernel_rfl) (.lit <| .call (.bool true) <| .lits 4 <| .call (.tup [(wV m ee n f), (.bool true)]) <| .lits 5 <| .call (.int .i64 (w % 5)) <| .lit <| .yes <| .lit <| .call (.tup [(.agg [(.bool false), .nil, (.int .i64 0), (.bool false), .nil, (.int .i64 0)]), (.int .i64 1)]) <| .lits 2 <| .call (.int .i64 (w % 5)) <| .lit <| .yes <| .lit <| .call (.tup [(.agg [(.bool false), .nil, (.int .i64 0), (.bool false), .nil, (.int .i64 0)]), (.int .i64 1)]) <| .lit <| .call (yV u1 u2) <| .lits 2 <| .call (.tup [(yV s1 s2), (.int .i64 p)]) <| .lits 2 <| .call (yV u1 u2) <| .lits 2 <| .call (.int .i64 (kk % 60)) <| .lit <| .yes <| .lit <| .call (.tup [(yV v1 v2), (.int .i64 p2)]) <| .lits 4 <| .call (.tup [(yV h1 h2), (.int .i64 q)]) <| .lits 3 <| .call (.int .i64 (w % 40)) <| .lit <| .call (.tup [(.agg [(.bool false), .nil, (.int .i64 0), (.bool false), .nil, (.int .i64 0)]), (.int .i64 3)]) <| .lits 2 <| .call (yV g1 g2) <| .lits 4 <| .call (.int .i64 (w % 40)) <| .lit <| .call (.tup [(.agg [(.bool false), .nil, (.int .i64 0), (.bool false), .nil, (.int .i64 0)]), (.int .i64 3)]) <| .lits 19 <| .call (.bool true) <| .lits 7 <| .call (.bool true) <| .lits 2 <| .ret)
  (cast_ob (aI True.intro (aI (c0 ) (aI (c3 ) (aI (mill_Mod w 5 oS oS) (have f10 := Int.emod_lt_of_pos w (show (0 : Int) < 5 by first | omega | assumption); have f9 := Int.emod_nonneg w (show (5 : Int) ≠ 0 by first | omega | assumption); aI (fits_i64 oS : (fits .i64 ((-1) - (w % 5))) = true) (aI (c4 ) (aI (mill_Mod w 5 oS oS) (have f8 := Int.emod_lt_of_pos w (show (0 : Int) < 5 by first | omega | assumption); have f7 := Int.emod_nonneg w (show (5 : Int) ≠ 0 by first | omega | assumption); aI (fits_i64 oS : (fits .i64 ((4097 : Int) + (w % 5))) = true) (aI (c5 ) (aI (c6 ) (aI (c7 ) (aI (c6 ) (aI (mill_Mod kk 60 oS oS) (have f6 := Int.emod_lt_of_pos kk (show (0 : Int) < 60 by first | omega | assumption); have f5 := Int.emod_nonneg kk (show (60 : Int) ≠ 0 by first | omega | assumption); aI (fits_i64 oS : (fits .i64 ((0 : Int) - (kk % 60))) = true) (aI (c8 ) (aI (c9 ) (aI (mill_Mod w 40 oS oS) (have f4 := Int.emod_lt_of_pos w (show (0 : Int) < 40 by first | omega | assumption); have f3 := Int.emod_nonneg w (show (40 : Int) ≠ 0 by first | omega | assumption); aI (c10 ) (aI (c11 ) (aI (mill_Mod w 40 oS oS) (have f2 := Int.emod_lt_of_pos w (show (0 : Int) < 40 by first | omega | assumption); have f1 := Int.emod_nonneg w (show (40 : Int) ≠ 0 by first | omega | assumption); aI (c12 ) (aI (c13 ) (aI (c13 ) ((vsub_refl (.bool true)))))))))))))))))))))))))) (by kernel_rfl))
theorem over_turn {k : Int} (hk : 0 ≤ k ∧ k < 60) : ∃ u1 u2 v1 v2 s1 s2 h1 h2 p p2 q : Int, Impl Tryz.prog Amb 17 [(.int .i64 1)] (yV u1 u2) ∧ Impl Tryz.prog Amb 27 [(zV u1), (.int .i64 32)] (.tup [(yV s1 s2), (.int .i64 p)]) ∧ Impl Tryz.prog Amb 27 [(zV u1), (.int .i64 ((0 : Int) - k))] (.tup [(yV v1 v2), (.int .i64 p2)]) ∧ Impl Tryz.prog Amb 33 [(yV s1 s2), (yV v1 v2)] (.tup [(yV h1 h2), (.int .i64 q)]) ∧
  Impl Tryz.prog Amb 93 [(yV h1 h2)] (.bool false) ∧ Impl Tryz.prog Amb 36 [(yV h1 h2)] (yV (-h1) h2) ∧ Impl Tryz.prog Amb 93 [(yV (-h1) h2)] (.bool false) := by
 have f1 := of_fit (n := 1) oO
 have one : mkM 1 0 = 1 := by kernel_rfl
 have z1 := L_lit 1 (by decide)
 have z2 : L (1 : Int).natAbs ≤ 1 := z1
 have mf := mk_fit (m := 1) (e := 0 - k) (by show L 1 ≤ 900; omega) oO
 have ms := mk_fit (m := 1) (e := 32) (by show L 1 ≤ 900; omega) oO
 have i1 := iMin_range (0 - k) 0
 have i2 : iMax (0 - k) 0 ≤ 0 := by unfold iMax; split <;> omega
 have i3 := iMin_range 32 0
 have i4 : iMax 32 0 ≤ 32 := by unfold iMax; split <;> omega
 have hM := r08_Make 1 (0 - k) (by show L 1 ≤ 32768; omega) oO
 have hN := r08_Make 1 32 (by show L 1 ≤ 32768; omega) oO
 have l1 : L (mkM 1 (0 - k)).natAbs ≤ 1 := by have : L (1 : Int).natAbs = L 1 := rfl; omega
 have l2 : L (mkM 1 32).natAbs ≤ 1 := by have : L (1 : Int).natAbs = L 1 := rfl; omega
 have hA := r08_Add (mkM 1 32) (mkX 1 32) (mkM 1 (0 - k)) (mkX 1 (0 - k)) oO oO oO oO
 have m1 := iMin_range (mkX 1 32) (mkX 1 (0 - k))
 have sl := adS_L (m := mkM 1 32) (e := mkX 1 32) (n := mkM 1 (0 - k)) (f := mkX 1 (0 - k)) (a := 2) (c := 8) oO oO oO oO
 have sf := mk_fit (m := adS (mkM 1 32) (mkX 1 32) (mkM 1 (0 - k)) (mkX 1 (0 - k))) (e := iMin (mkX 1 32) (mkX 1 (0 - k))) oO oO
 have j1 := iMin_range (iMin (mkX 1 32) (mkX 1 (0 - k))) 0
 have j2 : iMax (iMin (mkX 1 32) (mkX 1 (0 - k))) 0 ≤ 64 := by unfold iMax; split <;> omega
 have hO := r08_Of 1 oO
 have hd : dv 1 32 < dv (mkM (adS (mkM 1 32) (mkX 1 32) (mkM 1 (0 - k)) (mkX 1 (0 - k))) (iMin (mkX 1 32) (mkX 1 (0 - k)))) (mkX (adS (mkM 1 32) (mkX 1 32) (mkM 1 (0 - k)) (mkX 1 (0 - k))) (iMin (mkX 1 32) (mkX 1 (0 - k)))) := by
  rw [sf.2.2.2.2.2, dv_ad, mf.2.2.2.2.2, ms.2.2.2.2.2]
  have : 0 < dv 1 (0 - k) := dv_pos.2 (by decide)
  grind
 have p32 : 0 < dv 1 32 := dv_pos.2 (by decide)
 generalize mkM (adS (mkM 1 32) (mkX 1 32) (mkM 1 (0 - k)) (mkX 1 (0 - k))) (iMin (mkX 1 32) (mkX 1 (0 - k))) = h1 at *
 generalize mkX (adS (mkM 1 32) (mkX 1 32) (mkM 1 (0 - k)) (mkX 1 (0 - k))) (iMin (mkX 1 32) (mkX 1 (0 - k))) = h2 at *
 have n1 := L_abs_neg h1
 refine ⟨_, _, _, _, _, _, h1, h2, _, _, _, hO, by rw [one]; exact hN, by rw [one]; exact hM, hA, ci_insF h1 h2 oO oO (cmpD_pos.2 hd), r08_Neg h1 h2 oO, ci_insG (-h1) h2 oO oO (cmpD_le.2 ?_) (by rw [Int.neg_neg]; exact cmpD_pos.2 hd)⟩
 rw [dv_neg]; grind
theorem l17_CircularEnds (b1 : Bool) (l1 : List Nat) (e1 : Int) (b2 : Bool) (l2 : List Nat) (e2 : Int) (kk w : Int) (c0 : Dig l1) (c1 : l1.length ≤ 9223372036854775807) (c2 : (-9223372036854775808 : Int) ≤ e1 ∧ e1 ≤ 9223372036854775807) (c3 : Dig l2) (c4 : l2.length ≤ 9223372036854775807) (c5 : (-9223372036854775808 : Int) ≤ e2 ∧ e2 ≤ 9223372036854775807) (c6 : (-9223372036854775808 : Int) ≤ kk ∧ kk ≤ 9223372036854775807) (c7 : (-9223372036854775808 : Int) ≤ w ∧ w ≤ 9223372036854775807) : Impl Tryz.prog Amb 7 [(.agg [(.bool b1), (.sl 1 (U l1)), (.int .i64 e1), (.bool b2), (.sl 1 (U l2)), (.int .i64 e2)]), .int .i64 kk, .int .i64 w] (.bool true) := by
 have w5 := Int.emod_nonneg w (show (5 : Int) ≠ 0 by omega)
 have w6 := Int.emod_lt_of_pos w (show (0 : Int) < 5 by omega)
 have w7 := Int.emod_nonneg w (show (40 : Int) ≠ 0 by omega)
 have w8 := Int.emod_lt_of_pos w (show (0 : Int) < 40 by omega)
 have k1 := Int.emod_nonneg kk (show (60 : Int) ≠ 0 by omega)
 have k2 := Int.emod_lt_of_pos kk (show (0 : Int) < 60 by omega)
 obtain ⟨m, ee, n, f, ok, hA, lm, le, hok⟩ := l17_arg b1 l1 e1 b2 l2 e2 8 c0 c1 c2 c3 c4 c5 oO
 cases ok with
 | false => exact l17_EndsF b1 l1 e1 b2 l2 e2 kk w m ee n f 0 0 0 0 0 0 0 0 0 0 0 0 0 l17_awake c6 c7 hA
 | true =>
  obtain ⟨⟨t1, t2⟩, _⟩ := hok rfl
  have s1 := dv_tople t1
  have d8 : dv 1 8 = 256 := of_decide_eq_true (by kernel_rfl)
  rw [d8] at s1
  have hI := ins_ok m ee oO oO (by constructor <;> grind)
  obtain ⟨u1, u2, v1, v2, s1', s2, h1, h2, p, p2, q, a1, a2, a3, a4, a5, a6, a7⟩ := over_turn (k := kk % 60) oO
  exact l17_EndsT b1 l1 e1 b2 l2 e2 kk w m ee n f u1 u2 v1 v2 s1' s2 h1 h2 (-h1) h2 p p2 q l17_awake c6 c7 hA (ci_Sin1 m ee n f _ (ci_imgA m ee n f 0 _ oO oO)) (ci_Cos1 m ee n f _ (ci_imgA m ee n f 1 _ oO oO)) a1 a2 a3 a4 (ci_Sin3 m ee h1 h2 _ (ci_imgM m ee h1 h2 0 _ oO hI a5)) a6 (ci_Cos3 (-h1) h2 m ee _ (ci_imgL (-h1) h2 m ee 1 _ oO a7)) same0
end Go.Proofs.YtcbihoojfakhdaaGreatDoor

namespace Go.Proofs.YtcbihoojfakhdaaGreatDoor
open Go.ChangeShapes Go.WideShapes Go.ChangeAt Go.RowKit
theorem ownNone : ownKnob Tryz.prog.godebug = none := by kernel_rfl
theorem gTab : Tryz.prog.globalNamed "math/bits.deBruijn32tab" = some 0 := by kernel_rfl
theorem gTabType : (Tryz.prog.globals[0]?).map (·.type) = some 184 := by kernel_rfl
theorem cellsTab : Tryz.prog.cellsOf 184 = 32 := by kernel_rfl
theorem cellsU8 : Tryz.prog.cellsOf 5 = 1 := by kernel_rfl
theorem amb_of {W : World} (h : laidMetH Tryz.prog [("math/bits.deBruijn32tab", Rows.laid_math_bits_deBruijn32tab)] W) : Amb W := by
 have t : Lib.TabIs Tryz.prog W "math/bits.deBruijn32tab" .u8 tab32 := Lib.tabIs_of_head (rest := []) gTab gTabType Tryz.underlying184 Tryz.underlying5 cellsU8 cellsTab h
 intro i v hi
 have hlt : i < tab32.length := by
  rcases Nat.lt_or_ge i tab32.length with q | q
  ·exact q
  ·rw [List.getElem?_eq_none q] at hi; cases hi
 have h1 := t.cell gTab i hlt
 rw [List.getD_eq_getElem?_getD, hi] at h1
 exact h1
theorem int_wf {n : Int} (h : (Lit.int .i64 n).wf = true) : (-9223372036854775808 : Int) ≤ n ∧ n ≤ 9223372036854775807 := by
 simp only [Lit.wf, Bool.and_eq_true, decide_eq_true_eq] at h
 simp [IntKind.min, IntKind.max, IntKind.signed, IntKind.bits] at h
 omega
noncomputable def laidWorld (os : Os) : World :=
  { World.holding Tryz.prog os ⟨#[], #[], []⟩ with heap := (World.holding Tryz.prog os ⟨#[], #[], []⟩).heap.modify 0 fun
      | .cells _ t frozen => .cells (tab32.map (Value.int .u8)).toArray t frozen
      | o => o }
theorem post_of_below {H : Type} {enc : TypeId × Value → H} {P : Program} {f : Func} {s : ChangeSpec} {apart fresh handsOn again : Bool} {W W' : World} {args : Array Value} {v : Value} {ds gs : List (DataW H)} {before pa pv : List MemPlace}
  (hW : DataW.Whole enc P f.params.toList s.vars apart W args.toList ds gs before)
  (hres : ∀ (b : Nat) (sp : Nat → Bool) (hd : Bool), DataW.TrodAll enc P W' b sp hd f.resultTypes.toList (v.resultList f.resultTypes.size) (s.fn H (ds ++ gs)).results [])
  (hargs : ∀ sp : Nat → Bool, (∀ p ∈ before, sp p.block = true) → DataW.TrodAll enc P W' 0 sp true f.params.toList args.toList (s.fn H (ds ++ gs)).args pa)
  (hvars : ∀ sp : Nat → Bool, (∀ p ∈ before, sp p.block = true) → DataW.TrodVars enc P W' sp s.vars (s.fn H (ds ++ gs)).vars pv)
  (hps : before = pa ++ pv) (hb : Below W.heap.size W W')
  (hok : ∀ (j : Nat) (t : TypeId) (r : Value), f.resultTypes[j]? = some t → (v.resultList f.resultTypes.size)[j]? = some r → Value.okWide P W' .any 0 t r) : s.post enc P f apart fresh handsOn again W args v W' := by
 have lt := hW.lt
 have old : ∀ p ∈ before, (fun b => decide (b < W.heap.size)) p.block = true := fun p hp => decide_eq_true (lt p hp)
 subst hps
 refine ⟨ds, gs, pa ++ pv, [], pa, pv, hW, hres _ _ _, hargs _ old, hvars _ old, hb.frame _, fun _ => ?_⟩
 obtain ⟨_, _, _, _, _, hz, hn⟩ := hW
 have h1 := trodAll_append (hargs (fun _ => true) fun _ _ => rfl) (hres 0 (fun _ => true) true)
 refine ⟨hok, _, _, _, ⟨_, pv, h1, hvars _ fun _ _ => rfl, rfl, fun b off hp => ?_, fun ha => ?_⟩, fun p hp _ => ?_⟩
 ·have hp' : MemPlace.cell b off ∈ pa ++ pv := by simpa using hp
  rw [hb.frozen (lt _ hp')]
  exact hz b off hp'
 ·simpa using hn ha
 ·simpa using hp
end Go.Proofs.YtcbihoojfakhdaaGreatDoor

namespace Go.Proofs.YtcbihoojfakhdaaGreatDoor
open Go.ChangeShapes Go.WideShapes Go.ChangeAt Go.RowKit
set_option maxRecDepth 100000
variable {H : Type} {enc : TypeId × Value → H} {W : World} {sp : Nat → Bool} {held : Bool}
theorem laidOut : laidOutB Tryz.prog = true := by kernel_rfl
theorem cellsU32 : Tryz.prog.cellsOf 141 = 1 := by kernel_rfl
theorem cellsSl : Tryz.prog.cellsOf 22 = 1 := by kernel_rfl
theorem cellsBool : Tryz.prog.cellsOf 4 = 1 := by kernel_rfl
theorem cellsInt : Tryz.prog.cellsOf 3 = 1 := by kernel_rfl
theorem cellsZ : Tryz.prog.cellsOf 24 = 2 := by kernel_rfl
theorem cellsY : Tryz.prog.cellsOf 26 = 3 := by kernel_rfl
theorem cellsW : Tryz.prog.cellsOf 38 = 6 := by kernel_rfl
theorem rdl_U (S : Nat → Prop) : ∀ l : List Nat, RdL W S (l.map fun (d : Nat) => Value.int .u32 (d : Int)) (U l)
 | [] => .nil
 | _ :: l => .cons .int (rdl_U S l)
theorem wf_u32 {n : Int} (h : (Lit.int .u32 n).wf = true) : 0 ≤ n ∧ n < 4294967296 := by
 simp only [Lit.wf, Bool.and_eq_true, decide_eq_true_eq] at h
 simp [IntKind.min, IntKind.max, IntKind.signed, IntKind.bits] at h
 omega
theorem open_slice32 {n : Nat} {c : Value} {x : DataW H × List MemPlace} {b0 : Nat} (h : DataW.trod enc Tryz.prog W 0 sp held n 22 [c] = some x) (hok : Cell.okWide Tryz.prog W .any b0 22 c) :
  ∃ l : List Nat, Dig l ∧ l.length ≤ maxLen ∧ Rd W (fun _ => True) c (.sl 1 (U l)) := by
 rcases open_ints Tryz.underlying22 Tryz.underlying141 cellsU32 h with ⟨hc, _⟩ | ⟨a, len, cap, zs, hc, _, hl, hm, hz, _, hcell, hwf⟩
 ·obtain rfl : c = .slice none 0 0 := by simpa using hc
  exact ⟨[], (fun d hd => by cases hd), Nat.zero_le _, .nilsl⟩
 ·obtain rfl : c = .slice (some a) len cap := by simpa using hc
  have hlen : len ≤ zs.length := by rw [hz]; split <;> omega
  simp only [Cell.okWide, Cell.ok, Tryz.underlying22, World.has] at hok
  obtain ⟨_, _, _, hs, row, cells, hsh, _⟩ := hok
  obtain ⟨ab, ao, spot⟩ := a
  simp only at hs hsh
  subst hs
  have hb : ab < W.heap.size := by
   unfold World.shape? at hsh
   split at hsh
   ·rename_i q; exact (Array.getElem?_eq_some_iff.1 q).1
   ·cases hsh
  refine ⟨(zs.take len).map Int.toNat, ?_, ?_, ?_⟩
  ·intro d hd
   obtain ⟨z, hz', rfl⟩ := List.mem_map.1 hd
   have := wf_u32 (hwf z (List.mem_of_mem_take hz'))
   show z.toNat < 4294967296
   omega
  ·simp; omega
  ·refine .sl (vals := ((zs.take len).map Int.toNat).map fun (d : Nat) => Value.int .u32 (d : Int)) trivial hb hl (by simp [U]; omega) (rdl_U _ _) ?_
   intro i v hv
   simp only [List.getElem?_map, Option.map_eq_some_iff] at hv
   obtain ⟨d, ⟨z, hz', rfl⟩, rfl⟩ := hv
   have hi : i < len := by
    rcases Nat.lt_or_ge i len with q | q
    ·exact q
    ·rw [List.getElem?_eq_none (by simp; omega)] at hz'; cases hz'
   rw [List.getElem?_take, if_pos hi] at hz'
   have h1 := hcell i (by omega)
   rw [List.getD_eq_getElem?_getD, hz'] at h1
   have h2 := wf_u32 (hwf z (List.mem_of_getElem? hz'))
   have h3 : ((z.toNat : Nat) : Int) = z := Int.toNat_of_nonneg h2.1
   simp only [Option.getD_some] at h1
   rw [h3]
   have h4 : (Addr.mk ab ao none).add i = ⟨ab, ao + i, none⟩ := by
    unfold Addr.add; split
    ·rename_i q; subst q; rfl
    ·rfl
   rw [h4] at h1
   exact h1
theorem open_Z {n : Nat} {c0 c1 : Value} {x : DataW H × List MemPlace} {b0 : Nat} (h : DataW.trod enc Tryz.prog W 0 sp held n 24 [c0, c1] = some x) (hok : Cell.okWide Tryz.prog W .any b0 22 c1) :
  ∃ (b : Bool) (l : List Nat), Dig l ∧ l.length ≤ maxLen ∧ RdL W (fun _ => True) [c0, c1] [.bool b, .sl 1 (U l)] := by
 obtain ⟨y0, y1, m, _, _, h0, h1⟩ := trod_struct2 Tryz.underlying24 h
 have k0 : DataW.trod enc Tryz.prog W 0 sp held m 4 [c0] = some y0 := by simpa [cellsBool] using h0
 have k1 : DataW.trod enc Tryz.prog W 0 sp held m 22 [c1] = some y1 := by simpa [cellsSl] using h1
 obtain ⟨b, hb, _⟩ := DataW.trod_bool Tryz.underlying4 k0
 obtain rfl : c0 = .bool b := by simpa using hb
 obtain ⟨l, d, e, r⟩ := open_slice32 k1 hok
 exact ⟨b, l, d, e, .cons .bool (.cons r .nil)⟩
theorem open_Y {n : Nat} {c0 c1 c2 : Value} {x : DataW H × List MemPlace} {b0 : Nat} (h : DataW.trod enc Tryz.prog W 0 sp held n 26 [c0, c1, c2] = some x) (hok : Cell.okWide Tryz.prog W .any b0 22 c1) :
  ∃ (b : Bool) (l : List Nat) (e : Int), Dig l ∧ l.length ≤ maxLen ∧ ((-9223372036854775808 : Int) ≤ e ∧ e ≤ 9223372036854775807) ∧ RdL W (fun _ => True) [c0, c1, c2] [.bool b, .sl 1 (U l), .int .i64 e] := by
 obtain ⟨y0, y1, m, _, _, h0, h1⟩ := trod_struct2 Tryz.underlying26 h
 have k0 : DataW.trod enc Tryz.prog W 0 sp held m 24 [c0, c1] = some y0 := by simpa [cellsZ] using h0
 have k1 : DataW.trod enc Tryz.prog W 0 sp held m 3 [c2] = some y1 := by simpa [cellsInt] using h1
 obtain ⟨b, l, d, e, r⟩ := open_Z k0 hok
 obtain ⟨z, hz, _, hw⟩ := DataW.trod_int Tryz.underlying3 k1
 obtain rfl : c2 = .int .i64 z := by simpa using hz
 cases r with | cons r0 r => cases r with | cons r1 r => cases r with | nil =>
  exact ⟨b, l, z, d, e, int_wf hw, .cons r0 (.cons r1 (.cons .int .nil))⟩
theorem array6 {α : Type} {cs : Array α} (h : cs.size = 6) : ∃ c0 c1 c2 c3 c4 c5, cs = #[c0, c1, c2, c3, c4, c5] := by
 obtain ⟨l⟩ := cs
 match l, h with
 | [c0, c1, c2, c3, c4, c5], _ => exact ⟨c0, c1, c2, c3, c4, c5, rfl⟩
theorem open_W {v : Value} {d : DataW H} {p : List MemPlace} {b0 : Nat} (hv : Value.okWide Tryz.prog W .any b0 38 v) (h : DataW.Trod enc Tryz.prog W 0 sp held 38 v d p) :
  ∃ (b : Bool) (l : List Nat) (e : Int) (c : Bool) (r : List Nat) (f : Int), (Dig l ∧ l.length ≤ maxLen ∧ ((-9223372036854775808 : Int) ≤ e ∧ e ≤ 9223372036854775807)) ∧ (Dig r ∧ r.length ≤ maxLen ∧ ((-9223372036854775808 : Int) ≤ f ∧ f ≤ 9223372036854775807)) ∧
   Rd W (fun _ => True) v (.agg [.bool b, .sl 1 (U l), .int .i64 e, .bool c, .sl 1 (U r), .int .i64 f]) := by
 simp only [Value.okWide, Tryz.underlying38] at hv
 obtain ⟨cs, rfl, hsz, ts, hts, _, hrow⟩ := hv
 have e0 : Tryz.prog.cellTypes Tryz.prog.depth 38 = some [4, 22, 3, 4, 22, 3] := by kernel_rfl
 rw [e0] at hts
 obtain rfl := Option.some.inj hts
 obtain ⟨c0, c1, c2, c3, c4, c5, rfl⟩ := array6 (hsz.trans cellsW)
 obtain ⟨u1, q1, ok1⟩ := hrow 1 c1 rfl
 obtain rfl : 22 = u1 := by simpa using q1
 obtain ⟨u4, q4, ok4⟩ := hrow 4 c4 rfl
 obtain rfl : 22 = u4 := by simpa using q4
 obtain ⟨n, hn⟩ := h
 obtain ⟨y0, y1, m, _, _, h0, h1⟩ := trod_struct2 Tryz.underlying38 hn
 have k0 : DataW.trod enc Tryz.prog W 0 sp held m 26 [c0, c1, c2] = some y0 := by simpa [cellsY, Value.cells] using h0
 have k1 : DataW.trod enc Tryz.prog W 0 sp held m 26 [c3, c4, c5] = some y1 := by simpa [cellsY, Value.cells] using h1
 obtain ⟨b, l, e, d1, d2, d3, r1⟩ := open_Y k0 ok1
 obtain ⟨c, r, f, f1, f2, f3, r2⟩ := open_Y k1 ok4
 refine ⟨b, l, e, c, r, f, ⟨d1, d2, d3⟩, ⟨f1, f2, f3⟩, ?_⟩
 cases r1 with | cons a0 r1 => cases r1 with | cons a1 r1 => cases r1 with | cons a2 r1 => cases r1 with | nil =>
 cases r2 with | cons b0 r2 => cases r2 with | cons b1 r2 => cases r2 with | cons b2 r2 => cases r2 with | nil =>
  exact .agg (.cons a0 (.cons a1 (.cons a2 (.cons b0 (.cons b1 (.cons b2 .nil))))))
end Go.Proofs.YtcbihoojfakhdaaGreatDoor

namespace Go.Proofs.YtcbihoojfakhdaaGreatDoor.circularEnds
open Go.ChangeShapes Go.WideShapes Go.ChangeAt Go.RowKit
set_option maxRecDepth 100000 in
theorem contract (H : Type) (enc : TypeId × Value → H) (W : World) (base : Nat) (args : Array Value) (ds gs : List (DataW H)) (before : List MemPlace)
  (hval : ∀ (j : Nat) t v, Tryz.f7.params[j]? = some t → args[j]? = some v → Value.okWide Tryz.prog W .any base t v)
  (hW : DataW.Whole enc Tryz.prog Tryz.f7.params.toList Rows.circularEndsSpec.vars false W args.toList ds gs before) (hL : laidMetH Tryz.prog Rows.circularEndsRow.laid W) :
  Calls Tryz.prog 7 args W fun e W' => ∃ v, e = .returned v ∧ Rows.circularEndsSpec.post enc Tryz.prog Tryz.f7 false true false false W args v W' := by
 have hW' := hW
 obtain ⟨p, q, hA0, hV, rfl, hfz, hnd⟩ := hW
 have hA : DataW.TrodAll enc Tryz.prog W 0 (fun _ => true) true Tryz.f7.params.toList args.toList ds p := hA0
 rw [Tryz.params7] at hA hval
 obtain ⟨v0, vs0, d0, ds0, p0, q0, hargs0, rfl, rfl, h0, r0⟩ := trodAll_cons hA
 obtain ⟨v1, vs1, d1, ds1, p1, q1, hargs1, rfl, rfl, h1, r1⟩ := trodAll_cons r0
 obtain ⟨v2, vs2, d2, ds2, p2, q2, hargs2, rfl, rfl, h2, r2⟩ := trodAll_cons r1
 obtain ⟨rfl, rfl, rfl⟩ := trodAll_nil r2
 obtain rfl : args = #[v0, v1, v2] := by cases args; simp_all
 obtain ⟨rfl, rfl⟩ := trodVars_none hV
 obtain ⟨b0, l0, e0, c0, s0, f0, ⟨a0, a0', a0''⟩, ⟨z0, z0', z0''⟩, t0⟩ := open_W (hval 0 38 v0 rfl rfl) h0
 have m0 : l0.length ≤ 9223372036854775807 := a0'
 have n0 : s0.length ≤ 9223372036854775807 := z0'
 have k1 := h1
 obtain ⟨x1, rfl, rfl, rfl, w1⟩ := open_int Tryz.underlying3 (hval 1 3 v1 rfl rfl) h1
 have b1 := int_wf w1
 have k2 := h2
 obtain ⟨x2, rfl, rfl, rfl, w2⟩ := open_int Tryz.underlying3 (hval 2 3 v2 rfl rfl) h2
 have b2 := int_wf w2
 clear hA0
 have hlt := hW'.lt
 have hI := l17_CircularEnds b0 l0 e0 c0 s0 f0 x1 x2 a0 m0 a0'' z0 n0 z0'' b1 b2
 have hC := hI.2 W (fun _ => True) [v0, .int .i64 x1, .int .i64 x2] (amb_of hL) (fun _ _ => trivial) (.cons t0 (.cons .int (.cons .int (.nil))))
 refine hC.mono fun e W' hh => ?_
 obtain ⟨v, rfl, hv, hb⟩ := hh
 have hv := hv.bool_inv
 subst hv
 exact ⟨_, rfl, post_of_below (pa := (p0 ++ ([] ++ ([] ++ [])))) (pv := []) hW' (fun _ _ _ => trodAll_cons_mk (shut_bool Tryz.underlying4 _) trodAll_mk0) (fun sp hsp => (trodAll_cons_mk (WideElems.Trod_stays laidOut (by kernel_rfl) (of_decide_eq_true (by kernel_rfl)) h0 (fun x hx => hb.same (hlt x (by simp [hx]))) (fun x hx => hsp x (by simp [hx]))) (trodAll_cons_mk (shut_int Tryz.underlying3 w1) (trodAll_cons_mk (shut_int Tryz.underlying3 w2) trodAll_mk0)))) (fun _ _ => rfl) rfl
  hb (ok_one (by kernel_rfl) rfl (okWide_bool_mk Tryz.underlying4 _))⟩
theorem laid_met (os : Os) : laidMet Tryz.prog Rows.circularEndsRow.laid ((laidWorld os).forCall (fun _ _ => 0) ⟨#[], #[.agg #[.bool false, .slice none 0 0, .int .i64 0, .bool false, .slice none 0 0, .int .i64 0], .int .i64 0, .int .i64 0], []⟩).memory :=
 laidMet_of_run' 64 (by kernel_rfl) (by kernel_rfl)
theorem reads (os : Os) {H : Type} (enc : TypeId × Value → H) : ∃ places, DataW.whole enc Tryz.prog ((laidWorld os).forCall (fun _ _ => 0) ⟨#[], #[.agg #[.bool false, .slice none 0 0, .int .i64 0, .bool false, .slice none 0 0, .int .i64 0], .int .i64 0, .int .i64 0], []⟩).memory Tryz.f7.params.toList Rows.circularEndsSpec.vars false #[Value.agg #[.bool false, .slice none 0 0, .int .i64 0, .bool false, .slice none 0 0, .int .i64 0], Value.int .i64 0, Value.int .i64 0].toList 64 = some ([.agg [.agg [.agg [.lit (.bool false), .nil], .lit (.int .i64 0)], .agg [.agg [.lit (.bool false), .nil], .lit (.int .i64 0)]], .lit (.int .i64 0), .lit (.int .i64 0)], [], places) :=
 ⟨[], by kernel_rfl⟩
set_option maxRecDepth 100000 in
theorem lifted (os : Os) (started : os.Started) (H : Type) (enc : TypeId × Value → H) (F : Stop.Interp) :
  ReturnsInHanded {} Tryz.checked os 7 .any ((OpenSpec.ofChange Rows.circularEndsSpec).preRow enc Tryz.prog Tryz.f7 Rows.circularEndsRow.domain false Rows.circularEndsRow.laid) (((OpenSpec.ofChange Rows.circularEndsSpec).at F).post enc Tryz.prog Tryz.f7 false true false false) := by
 obtain ⟨places, hx⟩ := reads os enc
 refine returnsInHanded_of_row (C := Tryz.checked) (s := OpenSpec.ofChange Rows.circularEndsSpec) ownNone started (by kernel_rfl) Tryz.func7
  (witness_row_at (enc := enc) (C := Tryz.checked) false (laidWorld os) #[.agg #[.bool false, .slice none 0 0, .int .i64 0, .bool false, .slice none 0 0, .int .i64 0], .int .i64 0, .int .i64 0] rfl (by kernel_rfl) (by kernel_rfl) (by kernel_rfl)
   (OpenSpec.preRow_of_cond 64 hx (by kernel_rfl) (fun k hk => by cases hk) (by kernel_rfl) (laid_met os))) ?_
 intro W base args ds gs before hval hW _ _ _ hL _ _
 exact contract H enc W base args ds gs before hval hW hL
end Go.Proofs.YtcbihoojfakhdaaGreatDoor.circularEnds
