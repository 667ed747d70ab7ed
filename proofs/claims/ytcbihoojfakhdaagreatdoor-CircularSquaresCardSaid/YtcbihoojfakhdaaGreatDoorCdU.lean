/-
  Lower layers: what functions of the program compute, and plain facts. Conditions: as the theorems say.
-/
import Derived.Test.YtcbihoojfakhdaaGreatDoorChecked
import Derived.Test.YtcbihoojfakhdaaGreatDoorRows
import Derived.WalkKit
import Derived.ProofKit
import Derived.OpenShut
import Derived.Deep.DeepHandedRow
import Derived.Lib.LaidTab
import Derived.Lib.SmallJoins
import Derived.ChangeSlices
import Derived.Carry
import Derived.Test.YtcbihoojfakhdaaGreatDoorCards
import Derived.Test.YtcbihoojfakhdaaGreatDoorTie
import Derived.Test.YtcbihoojfakhdaaGreatDoorCdT
set_option linter.unusedVariables false
set_option linter.unusedSimpArgs false
namespace Go.Proofs.YtcbihoojfakhdaaGreatDoor
open Go.RowKit
set_option maxRecDepth 100000
set_option maxHeartbeats 2000000
def shc (m e : Int) (j : Nat) : Int := if m = 0 then 0 else e - 15 * (j : Int)
theorem shc_fit {m e : Int} (he : -40 ≤ e ∧ e ≤ 104) {j : Nat} (hj : j ≤ 12) : -220 ≤ shc m e j ∧ shc m e j ≤ 104 := by
 unfold shc; split <;> omega
theorem shc_step {m e : Int} (hv : vdb m e = true) (hm : L m.natAbs ≤ 2) (he : -40 ≤ e ∧ e ≤ 104) {j : Nat} (hj : j < 12) : Impl Tryz.prog Amb 38 [(yV m (shc m e j)), (.int .i64 (-15))] (.tup [(yV m (shc m e (j + 1))), (.int .i64 0)]) := by
 have f := shc_fit (m := m) he (j := j) oO
 have h := r08_Shift m (shc m e j) (-15) oO oO oO
 have key : mkM m (shc m e j + -15) = m ∧ mkX m (shc m e j + -15) = shc m e (j + 1) ∧ mkE m (shc m e j + -15) = 0 := by
  by_cases hz : m = 0
  ·subst hz
   have := mk_r2 (m := 0) (e := shc 0 e j + -15) oO rfl
   exact ⟨this.1, this.2.1, this.2.2⟩
  ·have s : shc m e j + -15 = shc m e (j + 1) := by unfold shc; rw [if_neg hz, if_neg hz]; omega
   rw [s]
   have f' := shc_fit (m := m) he (j := j + 1) oO
   refine mk_valid ?_
   rcases vdb_iff.1 hv with q | q
   ·exact absurd q.1 hz
   ·exact vdb_iff.2 (.inr ⟨hz, q.2.1, by omega, by omega, q.2.2.2.2⟩)
 rw [key.1, key.2.1, key.2.2] at h
 exact h
theorem shc_zero {m e : Int} (hv : vdb m e = true) : shc m e 0 = e := by
 unfold shc
 split
 ·rename_i h
  rcases vdb_iff.1 hv with q | q
  ·exact q.2.symm
  ·exact absurd h q.1
 ·omega
theorem shc_vdb {m e : Int} (hv : vdb m e = true) {j : Nat} (hf : -65536 ≤ shc m e j ∧ shc m e j ≤ 65536) : vdb m (shc m e j) = true := by
 by_cases hm : m = 0
 ·subst hm
  exact vdb_iff.2 (.inl ⟨rfl, by unfold shc; rw [if_pos rfl]⟩)
 ·exact vdb_sh hv hm hf
theorem shc_dv (m e : Int) (j : Nat) : dv m (shc m e j) * (2 : Rat) ^ ((15 * (j : Int) : Int)) = dv m e := by
 by_cases hm : m = 0
 ·subst hm; rw [dv_zero, dv_zero, Rat.zero_mul]
 ·rw [dv_exp m e (15 * (j : Int))]
  unfold shc; rw [if_neg hm]
theorem shc_le {m e n f : Int} {j : Nat} (h : dv m e ≤ dv n f) : dv m (shc m e j) ≤ dv n (shc n f j) := by
 refine Rat.le_of_mul_le_mul_right (c := (2 : Rat) ^ ((15 * (j : Int) : Int))) ?_ (zp_pos _)
 rw [shc_dv, shc_dv]; exact h
theorem shc_top {m e : Int} (hm : L m.natAbs ≤ 2) (he : -40 ≤ e ∧ e ≤ 104) : topD m (shc m e 12) ≤ 0 := by
 by_cases hz : m = 0
 ·subst hz
  unfold topD
  rw [if_pos rfl]; omega
 ·have s : shc m e 12 = e - 180 := by unfold shc; rw [if_neg hz]; omega
  rw [s]
  have r := topD_range m (e - 180)
  omega
theorem arg_rounds7 {m ee n f fa : Int} (hm : L m.natAbs ≤ 2) (hn : L n.natAbs ≤ 2) (he : -40 ≤ ee ∧ ee ≤ 104) (hf : -40 ≤ f ∧ f ≤ 104) (hfa : 0 ≤ fa) :
  ∃ nn, nn ≤ 12 ∧ ∀ j, j ≤ nn → (j = nn ↔ topD m (shc m ee j) ≤ fa ∧ topD n (shc n f j) ≤ fa) := by
 have t1 := shc_top (m := m) hm he
 have t2 := shc_top (m := n) hn hf
 obtain ⟨nn, h1, h2, h3⟩ := least (P := fun j => topD m (shc m ee j) ≤ fa ∧ topD n (shc n f j) ≤ fa) (n := 12) ⟨by omega, by omega⟩
 refine ⟨nn, h1, fun j hj => ⟨fun q => by rw [q]; exact h2, fun q => ?_⟩⟩
 exact Decidable.byContradiction fun hn => h3 j oO q
theorem l17_of (a : Int) (b : Int) (c0 : (-9223372036854775808 : Int) ≤ a ∧ a ≤ 9223372036854775807) (c1 : (-9223372036854775808 : Int) ≤ b ∧ b ≤ 9223372036854775807) : Impl Tryz.prog Amb 63 [(.int .i64 a), (.int .i64 b)] (wV (mkM a 0) (mkX a 0) (mkM b 0) (mkX b 0)) := by
 exact impl_ob hP hAmb Tryz.func63 (by kernel_rfl) (.lit <| .call (yV (mkM a 0) (mkX a 0)) <| .lit <| .call (yV (mkM b 0) (mkX b 0)) <| .lits 3 <| .ret)
  (cast_ob (aI True.intro (aI (r08_Of a oO) (have f14 := (of_fit (n := a) oO).2.2.2.2.1; have f13 := (of_fit (n := a) oO).2.2.2.1; have f12 := (of_fit (n := a) oO).2.2.1; have f11 := (of_fit (n := a) oO).2.1; have f10 := (of_fit (n := a) oO).1; have f9 := (L_i64 oO : L (a : Int).natAbs ≤ 2); have f8 := mk_facts a 0; aI (r08_Of b oO) (have f7 := (of_fit (n := b) oO).2.2.2.2.1; have f6 := (of_fit (n := b) oO).2.2.2.1; have f5 := (of_fit (n := b) oO).2.2.1; have f4 := (of_fit (n := b) oO).2.1; have f3 := (of_fit (n := b) oO).1; have f2 := (L_i64 oO : L (b : Int).natAbs ≤ 2); have f1 := mk_facts b 0; (vsub_refl (wV (mkM a 0) (mkX a 0) (mkM b 0) (mkX b 0))))))) (by kernel_rfl))
theorem l17_awake0 (a1 : Int) (a2 : Int) (c0 : Impl Tryz.prog Amb 63 [(.int .i64 (-1)), (.int .i64 1)] (wV (-1 : Int) 0 (1 : Int) 0)) (c1 : Impl Tryz.prog Amb 35 [(wV (-1 : Int) 0 (1 : Int) 0), (.int .i64 6)] (.tup [(wV a1 a2 (1 : Int) 0), (.int .i64 0)])) (c2 : Impl Tryz.prog Amb 63 [(.int .i64 0), (.int .i64 7)] (wV (0 : Int) 0 (7 : Int) 0)) (c3 : Impl Tryz.prog Amb 34 [(wV (0 : Int) 0 (7 : Int) 0), (.int .i64 6)] (.tup [(wV (-1 : Int) 0 (1 : Int) 0), (.int .i64 0)])) (c4 : Impl Tryz.prog Amb 17 [(.int .i64 1)] (yV (1 : Int) 0)) (c5 : Impl Tryz.prog Amb 77 [(yV (1 : Int) 0), (yV (1 : Int) 0)] (.bool true)) (c6 : Impl Tryz.prog Amb 37 [(wV (-1 : Int) 0 (1 : Int) 0), (wV (-1 : Int) 0 (1 : Int) 0)] (.bool true)) : Impl Tryz.prog Amb 23 [] (.bool true) := by
 exact impl_ob hP hAmb Tryz.func23 (by kernel_rfl) (.lit <| .call (wV (-1 : Int) 0 (1 : Int) 0) <| .lit <| .call (.tup [(wV a1 a2 (1 : Int) 0), (.int .i64 0)]) <| .lits 2 <| .call (wV (0 : Int) 0 (7 : Int) 0) <| .lit <| .call (.tup [(wV (-1 : Int) 0 (1 : Int) 0), (.int .i64 0)]) <| .lits 11 <| .call (yV (1 : Int) 0) <| .lits 2 <| .call (.bool true) <| .lits 5 <| .call (wV (-1 : Int) 0 (1 : Int) 0) <| .lits 2 <| .call (.bool true) <| .lits 2 <| .ret)
  (cast_ob (aI True.intro (aI (c0 ) (aI (c1 ) (aI (c2 ) (aI (c3 ) (aI (c4 ) (aI (c5 ) (aI (c0 ) (aI (c6 ) ((vsub_refl (.bool true)))))))))))) (by kernel_rfl))
theorem l17_argF (b1 : Bool) (l1 : List Nat) (e1 : Int) (b2 : Bool) (l2 : List Nat) (e2 : Int) (fa : Int) (m : Int) (ee : Int) (n : Int) (f : Int) (c0 : Impl Tryz.prog Amb 78 [(.agg [(.bool b1), (.sl 1 (U l1)), (.int .i64 e1), (.bool b2), (.sl 1 (U l2)), (.int .i64 e2)]), (.int .i64 2), (.int .i64 40)] (.tup [(wV m ee n f), (.bool false)])) : Impl Tryz.prog Amb 24 [(.agg [(.bool b1), (.sl 1 (U l1)), (.int .i64 e1), (.bool b2), (.sl 1 (U l2)), (.int .i64 e2)]), (.int .i64 fa)] (.tup [(wV m ee n f), (.bool false)]) := by
 exact impl_ob hP hAmb Tryz.func24 (by kernel_rfl) (.lits 2 <| .call (.tup [(wV m ee n f), (.bool false)]) <| .lits 6 <| .ret)
  (cast_ob (aI True.intro (aI (c0 ) ((vsub_refl (.tup [(wV m ee n f), (.bool false)]))))) (by kernel_rfl))
def l17_arg_0_mk (b1 : Bool) (l1 : List Nat) (e1 : Int) (b2 : Bool) (l2 : List Nat) (e2 : Int) (fa m ee n f : Int) (_ : Nat) (x : Nat) : St := ⟨mkS 43 [(1, (.val (.int .i64 fa))), (4, (.own 1 0)), (6, (.own 2 0))], [⟨true, false, [(V.bool b1), (V.sl 1 (U l1)), (V.int .i64 e1), (V.bool b2), (V.sl 1 (U l2)), (V.int .i64 e2)]⟩, ⟨true, false, [(V.bool false), V.nil, (V.int .i64 0), (V.bool false), V.nil, (V.int .i64 0)]⟩, ⟨true, false, [(V.bool (decide (m < 0))), (N m.natAbs), (V.int .i64 (shc m ee x)), (V.bool (decide (n < 0))), (N n.natAbs), (V.int .i64 (shc n f x))]⟩]⟩
def l17_arg_0_I (_ : Bool) (_ : List Nat) (_ : Int) (_ : Bool) (_ : List Nat) (_ : Int) (_ _ _ _ _ : Int) (nn : Nat) (x : Nat) : Prop := x ≤ nn
def l17_arg_0_mu (_ : Bool) (_ : List Nat) (_ : Int) (_ : Bool) (_ : List Nat) (_ : Int) (_ _ _ _ _ : Int) (nn : Nat) (x : Nat) : Nat := nn - x
def l17_arg_0_ex (b1 : Bool) (l1 : List Nat) (e1 : Int) (b2 : Bool) (l2 : List Nat) (e2 : Int) (_ m ee n f : Int) (_ : Nat) (y : Nat) : Ex × St := (.exit 0, ⟨mkS 43 [(4, (.own 1 0)), (6, (.own 2 0))], [⟨true, false, [(V.bool b1), (V.sl 1 (U l1)), (V.int .i64 e1), (V.bool b2), (V.sl 1 (U l2)), (V.int .i64 e2)]⟩, ⟨true, false, [(V.bool false), V.nil, (V.int .i64 0), (V.bool false), V.nil, (V.int .i64 0)]⟩, ⟨true, false, [(V.bool (decide (m < 0))), (N m.natAbs), (V.int .i64 (shc m ee y)), (V.bool (decide (n < 0))), (N n.natAbs), (V.int .i64 (shc n f y))]⟩]⟩)
def l17_arg_0_J (_ : Bool) (_ : List Nat) (_ : Int) (_ : Bool) (_ : List Nat) (_ : Int) (_ _ _ _ _ : Int) (nn : Nat) (y : Nat) : Prop := y = nn
abbrev l17_arg_0_N (b1 : Bool) (l1 : List Nat) (e1 : Int) (b2 : Bool) (l2 : List Nat) (e2 : Int) (fa m ee n f : Int) (nn : Nat) := NX (l17_arg_0_mk b1 l1 e1 b2 l2 e2 fa m ee n f nn) (l17_arg_0_I b1 l1 e1 b2 l2 e2 fa m ee n f nn) (l17_arg_0_mu b1 l1 e1 b2 l2 e2 fa m ee n f nn) (l17_arg_0_ex b1 l1 e1 b2 l2 e2 fa m ee n f nn) (l17_arg_0_J b1 l1 e1 b2 l2 e2 fa m ee n f nn)
theorem l17_arg_0 (b1 : Bool) (l1 : List Nat) (e1 : Int) (b2 : Bool) (l2 : List Nat) (e2 : Int) (fa m ee n f : Int) (nn : Nat) (c0 : nn ≤ 100)(c1 : ∀ j, j ≤ nn → (j = nn ↔ (topD m (shc m ee j)) ≤ fa ∧ (topD n (shc n f j)) ≤ fa))(c2 : ∀ j, j ≤ nn → Impl Tryz.prog Amb 18 [(yV m (shc m ee j))] (.int .i64 (topD m (shc m ee j))))(c3 : ∀ j, j ≤ nn → Impl Tryz.prog Amb 18 [(yV n (shc n f j))] (.int .i64 (topD n (shc n f j))))(c4 : ∀ j, j < nn → Impl Tryz.prog Amb 38 [(yV m (shc m ee j)), (.int .i64 (-15))] (.tup [(yV m (shc m ee (j + 1))), (.int .i64 0)]))(c5 : ∀ j, j < nn → Impl Tryz.prog Amb 38 [(yV n (shc n f j)), (.int .i64 (-15))] (.tup [(yV n (shc n f (j + 1))), (.int .i64 0)])) (x0 : Nat) (hI : l17_arg_0_I b1 l1 e1 b2 l2 e2 fa m ee n f nn x0) : LoopOk Tryz.prog Amb (loopN Tryz.f24 0) (l17_arg_0_mk b1 l1 e1 b2 l2 e2 fa m ee n f nn x0) (fun e st_ => ∃ y, l17_arg_0_J b1 l1 e1 b2 l2 e2 fa m ee n f nn y ∧ l17_arg_0_ex b1 l1 e1 b2 l2 e2 fa m ee n f nn y = (e, st_)) :=
 loop_ob hP hAmb ⟨[1, 4, 6], 3, []⟩ (l17_arg_0_mk b1 l1 e1 b2 l2 e2 fa m ee n f nn) (l17_arg_0_I b1 l1 e1 b2 l2 e2 fa m ee n f nn) (l17_arg_0_mu b1 l1 e1 b2 l2 e2 fa m ee n f nn) (l17_arg_0_ex b1 l1 e1 b2 l2 e2 fa m ee n f nn) (l17_arg_0_J b1 l1 e1 b2 l2 e2 fa m ee n f nn) x0 hI (fun j => .lits 2 <| .call (.int .i64 (topD m (shc m ee j))) <| .lit <| .both (.lits 8 <| .call (.tup [(yV m (shc m ee (j + 1))), (.int .i64 0)]) <| .lits 3 <| .call (.tup [(yV n (shc n f (j + 1))), (.int .i64 0)]) <| .lit <| .fin2 ⟨[1, 4, 6], 3, []⟩) (.lits 4 <| .call (.int .i64 (topD n (shc n f j))) <| .lits 4 <| .both (.lits 2 <| .call (.tup [(yV m (shc m ee (j + 1))), (.int .i64 0)]) <| .lits 3 <| .call (.tup [(yV n (shc n f (j + 1))), (.int .i64 0)]) <| .lit <| .fin2 ⟨[1, 4, 6], 3, []⟩) (.fin2 ⟨[4, 6], 3, []⟩))) (by
  rintro j hI
  have hI : j ≤ nn := hI
  have h1 := hI
  have q := c1 j h1
  exact cast_ob (aI True.intro (aI (c2 j h1 ) (aI (fun (h101 : (iGt (topD m (shc m ee j)) fa) = true) => have _gh101 := iGt_t h101; aI (c4 j oO ) (aI (c5 j oO ) (aI tT ((nx_next (j + 1) (show (j + 1) ≤ nn from show j + 1 ≤ nn by omega) (show nn - (j + 1) < nn - j by omega) : l17_arg_0_N b1 l1 e1 b2 l2 e2 fa m ee n f nn j .normal (l17_arg_0_mk b1 l1 e1 b2 l2 e2 fa m ee n f nn (j + 1))))))) (fun (h102 : (iGt (topD m (shc m ee j)) fa) = false) => have _gh102 := iGt_f h102; aI (c3 j h1 ) (aI (fun (h103 : (iGt (topD n (shc n f j)) fa) = true) => have _gh103 := iGt_t h103; aI (c4 j oO ) (aI (c5 j oO ) (aI tT ((nx_next (j + 1) (show (j + 1) ≤ nn from show j + 1 ≤ nn by omega) (show nn - (j + 1) < nn - j by omega) : l17_arg_0_N b1 l1 e1 b2 l2 e2 fa m ee n f nn j .normal (l17_arg_0_mk b1 l1 e1 b2 l2 e2 fa m ee n f nn (j + 1))))))) (fun (h104 : (iGt (topD n (shc n f j)) fa) = false) => have _gh104 := iGt_f h104; aI tT ((nx_exit 0 ((l17_arg_0_ex b1 l1 e1 b2 l2 e2 fa m ee n f nn j).2) j (show j = nn from show j = nn by omega) rfl : l17_arg_0_N b1 l1 e1 b2 l2 e2 fa m ee n f nn j (.exit 0) ((l17_arg_0_ex b1 l1 e1 b2 l2 e2 fa m ee n f nn j).2))))))))) (by kernel_rfl))
theorem l17_argT (b1 : Bool) (l1 : List Nat) (e1 : Int) (b2 : Bool) (l2 : List Nat) (e2 : Int) (fa : Int) (m : Int) (ee : Int) (n : Int) (f : Int) (nn : Nat) (c0 : Impl Tryz.prog Amb 78 [(.agg [(.bool b1), (.sl 1 (U l1)), (.int .i64 e1), (.bool b2), (.sl 1 (U l2)), (.int .i64 e2)]), (.int .i64 2), (.int .i64 40)] (.tup [(wV m (shc m ee 0) n (shc n f 0)), (.bool true)])) (c1 : nn ≤ 100) (c2 : ∀ j, j ≤ nn → (j = nn ↔ (topD m (shc m ee j)) ≤ fa ∧ (topD n (shc n f j)) ≤ fa)) (c3 : ∀ j, j ≤ nn → Impl Tryz.prog Amb 18 [(yV m (shc m ee j))] (.int .i64 (topD m (shc m ee j)))) (c4 : ∀ j, j ≤ nn → Impl Tryz.prog Amb 18 [(yV n (shc n f j))] (.int .i64 (topD n (shc n f j)))) (c5 : ∀ j, j < nn → Impl Tryz.prog Amb 38 [(yV m (shc m ee j)), (.int .i64 (-15))] (.tup [(yV m (shc m ee (j + 1))), (.int .i64 0)])) (c6 : ∀ j, j < nn → Impl Tryz.prog Amb 38 [(yV n (shc n f j)), (.int .i64 (-15))] (.tup [(yV n (shc n f (j + 1))), (.int .i64 0)])) : Impl Tryz.prog Amb 24 [(.agg [(.bool b1), (.sl 1 (U l1)), (.int .i64 e1), (.bool b2), (.sl 1 (U l2)), (.int .i64 e2)]), (.int .i64 fa)] (.tup [(wV m (shc m ee nn) n (shc n f nn)), (.bool true)]) := by
 exact impl_ob hP hAmb Tryz.func24 (by kernel_rfl) (.lits 2 <| .call (.tup [(wV m (shc m ee 0) n (shc n f 0)), (.bool true)]) <| .lits 3 <| .loop ⟨[1, 4, 6], 3, []⟩ ((l17_arg_0_mk b1 l1 e1 b2 l2 e2 fa m ee n f nn 0)) (Nat) (l17_arg_0_ex b1 l1 e1 b2 l2 e2 fa m ee n f nn) (l17_arg_0_J b1 l1 e1 b2 l2 e2 fa m ee n f nn) (fun y => .lits 3 <| .ret))
  (cast_ob (aI True.intro (aI (c0 ) (aI tT (aI (rfl : (l17_arg_0_mk b1 l1 e1 b2 l2 e2 fa m ee n f nn 0) = (l17_arg_0_mk b1 l1 e1 b2 l2 e2 fa m ee n f nn 0)) (aI (l17_arg_0 b1 l1 e1 b2 l2 e2 fa m ee n f nn c1 c2 c3 c4 c5 c6 0 (show 0 ≤ nn from Nat.zero_le _)) (fun y (hJ : l17_arg_0_J b1 l1 e1 b2 l2 e2 fa m ee n f nn y) => have hJ : y = nn := hJ; (by rw [show y = nn from hJ]; exact vsub_refl _ : vsub (.tup [(wV m (shc m ee y) n (shc n f y)), (.bool true)]) (.tup [(wV m (shc m ee nn) n (shc n f nn)), (.bool true)])))))))) (by kernel_rfl))
theorem l17_arg (b1 : Bool) (l1 : List Nat) (e1 : Int) (b2 : Bool) (l2 : List Nat) (e2 : Int) (fa : Int) (c0 : Dig l1) (c1 : l1.length ≤ 9223372036854775807) (c2 : (-9223372036854775808 : Int) ≤ e1 ∧ e1 ≤ 9223372036854775807) (c3 : Dig l2) (c4 : l2.length ≤ 9223372036854775807) (c5 : (-9223372036854775808 : Int) ≤ e2 ∧ e2 ≤ 9223372036854775807) (hfa : 0 ≤ fa ∧ fa ≤ 100) : ∃ (m ee n f : Int) (ok : Bool), Impl Tryz.prog Amb 24 [(.agg [(.bool b1), (.sl 1 (U l1)), (.int .i64 e1), (.bool b2), (.sl 1 (U l2)), (.int .i64 e2)]), (.int .i64 fa)] (.tup [(wV m ee n f), (.bool ok)]) ∧ (L m.natAbs ≤ 2 ∧ L n.natAbs ≤ 2) ∧ ((-220 ≤ ee ∧ ee ≤ 104) ∧ (-220 ≤ f ∧ f ≤ 104)) ∧ (ok = true → (topD m ee ≤ fa ∧ topD n f ≤ fa) ∧ (vdb m ee = true ∧ vdb n f = true) ∧ dv m ee ≤ dv n f) := by
 have fa' := iv_fit (b := b1) (e := e1) (c := b2) (f := e2) (n := 2) (k := 40) c0 c3 oO oO
 have hi := mill_Iv b1 l1 e1 b2 l2 e2 2 40 c0 c1 c3 c4 c2 c5 oO oO
 generalize (ivM b1 l1 e1 b2 l2 e2 2 40) = m at fa' hi
 generalize (ivX b1 l1 e1 b2 l2 e2 2 40) = ee at fa' hi
 generalize (ivN b1 l1 e1 b2 l2 e2 2 40) = n at fa' hi
 generalize (ivF b1 l1 e1 b2 l2 e2 2 40) = f at fa' hi
 by_cases hok : ((l1.length : Int) ≤ 2 ∧ (l2.length : Int) ≤ 2)
 ·rw [decide_eq_true hok] at hi
  obtain ⟨nn, hn, ht⟩ := arg_rounds7 (m := m) (n := n) (ee := ee) (f := f) (fa := fa) oO oO oO oO oO
  have s1 := fun j (hj : j ≤ 12) => shc_fit (m := m) (e := ee) (j := j) oO hj
  have s2 := fun j (hj : j ≤ 12) => shc_fit (m := n) (e := f) (j := j) oO hj
  refine ⟨m, shc m ee nn, n, shc n f nn, true, l17_argT b1 l1 e1 b2 l2 e2 fa m ee n f nn ?_ oO ht ?_ ?_ ?_ ?_, by omega, ⟨s1 nn hn, s2 nn hn⟩, fun _ => ⟨(ht nn (Nat.le_refl _)).1 rfl, ⟨shc_vdb fa'.2.1 (by have := s1 nn hn; omega), shc_vdb fa'.2.2.1 (by have := s2 nn hn; omega)⟩, shc_le fa'.2.2.2⟩⟩
  ·rw [shc_zero fa'.2.1, shc_zero fa'.2.2.1]; exact hi
  ·intro j hj; have := s1 j oO; exact r08_Top m _ oO oO
  ·intro j hj; have := s2 j oO; exact r08_Top n _ oO oO
  ·intro j hj; exact shc_step fa'.2.1 oO oO oO
  ·intro j hj; exact shc_step fa'.2.2.1 oO oO oO
 ·rw [decide_eq_false hok] at hi
  exact ⟨m, ee, n, f, false, l17_argF b1 l1 e1 b2 l2 e2 fa m ee n f hi, by omega, by omega, fun h => by cases h⟩
theorem tp_k {a b : Rat} {w c k : Int} {g : Bool} (h : Tp a b w c g) (hk : (k - c) % 4 = 0) (hw : 0 ≤ w) (h1 : a ≤ (k : Rat) * cQ) (h2 : (k : Rat) * cQ ≤ b) : g = true := by
 cases g with
 | true => rfl
 | false =>
  have F0 : (0 : Rat) < ((2 ^ (w + 8).toNat : Int) : Rat) := Rat.intCast_pos.2 (two_pos _)
  have m1 := Rat.mul_le_mul_of_nonneg_right h1 (Rat.le_of_lt F0)
  have m2 := Rat.mul_le_mul_of_nonneg_right h2 (Rat.le_of_lt F0)
  rcases h.2 rfl k hk with q | q
  ·exfalso; grind
  ·exfalso; grind
theorem dvs : dv (-1) 0 = -1 ∧ dv 1 0 = 1 ∧ dv 0 0 = 0 ∧ dv 7 0 = 7 := ⟨of_decide_eq_true (by kernel_rfl), of_decide_eq_true (by kernel_rfl), of_decide_eq_true (by kernel_rfl), of_decide_eq_true (by kernel_rfl)⟩
theorem l17_awake : Impl Tryz.prog Amb 23 [] (.bool true) := by
 have cb := cQ_b
 have dd := dvs
 have l1 : L (1 : Int).natAbs ≤ 1 := L_lit 1 (by decide)
 have l2 : L (-1 : Int).natAbs ≤ 1 := L_lit 1 (by decide)
 have l3 : L (7 : Int).natAbs ≤ 1 := L_lit 7 (by decide)
 have l4 : L (0 : Int).natAbs ≤ 1 := L_lit 0 (by decide)
 obtain ⟨tp, bt, x1, x2, y1, y2, hC, _, _, t1, _⟩ := ci_imgE (-1) 0 1 0 1 6 (.inr rfl) oO oO oO (by rw [dd.1]; constructor <;> grind) oO oO (by rw [dd.2.1]; constructor <;> grind)
 rw [dd.1, dd.2.1] at t1
 have t1 := tp_k t1 (k := 0) (by decide) oO (by show -1 ≤ (0 : Rat) * cQ; grind) (by show (0 : Rat) * cQ ≤ 1; grind)
 subst t1
 obtain ⟨tp', bt', u1, u2, v1, v2, hS, _, _, t2, t3⟩ := ci_imgE 0 0 7 0 0 6 (.inl rfl) oO oO oO (by rw [dd.2.2.1]; constructor <;> grind) oO oO (by rw [dd.2.2.2]; constructor <;> grind)
 rw [dd.2.2.1, dd.2.2.2] at t2 t3
 have t2 := tp_k t2 (k := 1) (by decide) oO (by show 0 ≤ (1 : Rat) * cQ; grind) (by show (1 : Rat) * cQ ≤ 7; grind)
 have t3 := tp_k t3 (k := 3) (by decide) oO (by show 0 ≤ (3 : Rat) * cQ; grind) (by show (3 : Rat) * cQ ≤ 7; grind)
 subst t2 t3
 exact l17_awake0 _ _ (impl_eq (by kernel_rfl) (l17_of (-1) 1 oO oO)) (impl_eq (congrArg (fun d => V.tup [.agg [_, _, _, .bool (decide (d.1 < 0)), N d.1.natAbs, .int .i64 d.2], .int .i64 0]) (show ((mkM (2 ^ (6 : Int).toNat) (-6), mkX (2 ^ (6 : Int).toNat) (-6)) : Int × Int) = (1, 0) by kernel_rfl)) (ci_Cos (-1) 0 1 0 6 _ _ _ _ 0 hC))
  (impl_eq (by kernel_rfl) (l17_of 0 7 oO oO)) (impl_eq (by kernel_rfl) (ci_Sin 0 0 7 0 6 _ _ _ _ 0 hS)) (impl_eq (by kernel_rfl) (r08_Of 1 oO)) (impl_eq (congrArg V.bool (by decide)) (r08_Same 1 0 1 0 oO oO)) (impl_eq (congrArg V.bool (by decide)) (r10_Same (-1) 0 1 0 (-1) 0 1 0 oO oO oO oO))
end Go.Proofs.YtcbihoojfakhdaaGreatDoor





namespace Go.Proofs.YtcbihoojfakhdaaGreatDoor
open Go.RowKit
set_option maxRecDepth 100000
def eA (w : Int) : Int := (mkM ((eLo (w + 24)) / 2 ^ 24) (-w))
def eB (w : Int) : Int := (mkX ((eLo (w + 24)) / 2 ^ 24) (-w))
def eC (w : Int) : Int := (mkM (-(-(eHi (w + 24)) / 2 ^ 24)) (-w))
def eD (w : Int) : Int := (mkX (-(-(eHi (w + 24)) / 2 ^ 24)) (-w))
end Go.Proofs.YtcbihoojfakhdaaGreatDoor


namespace Go.Proofs.YtcbihoojfakhdaaGreatDoor
structure Sq where
 s1 : Int
 s2 : Int
 c1 : Int
 c2 : Int
end Go.Proofs.YtcbihoojfakhdaaGreatDoor






namespace Go.Proofs.YtcbihoojfakhdaaGreatDoor
open Go.RowKit
set_option maxRecDepth 100000
set_option maxHeartbeats 4000000
structure QtH (a b T : Rat) (n1 n2 l1 l2 g1 g2 : Int) : Prop where
 T0 : 1208925819614629174706176 ≤ T
 c1 : (n1 : Rat) ≤ cQ * T
 c2 : cQ * T ≤ (n2 : Rat)
 cw : n2 - n1 ≤ 8194
 a1 : (l1 : Rat) ≤ a * T
 a2 : a * T ≤ (l1 : Rat) + 1
 b2 : b * T ≤ (g2 : Rat)
 b1 : (g2 : Rat) ≤ b * T + 1
 ad : -4294967296 ≤ a ∧ a ≤ 4294967296
theorem SC_one (more : Int) (d : Rat) {e : Rat} (he : 0 < e) : ∃ N, ∀ K, N ≤ K → -(1 + e) ≤ SC more d K ∧ SC more d K ≤ 1 + e := by
 obtain ⟨N, h⟩ := CS_one d he
 refine ⟨N, fun K hK => ?_⟩
 unfold SC
 split
 ·exact (h K hK).2
 ·exact (h K hK).1
theorem enc_one {more : Int} {d : Rat} {s : Nat} {lo hi : Int} {g : Rat} (hg : 2 * g ≤ 1) (h : EnE (SC more d) s lo hi g) : lo ≤ 2 ^ s ∧ -(2 ^ s) ≤ hi := by
 have P : (0 : Rat) < ((2 ^ s : Int) : Rat) := Rat.intCast_pos.2 (two_pos s)
 have i0 := Rat.inv_pos.2 P
 have ie := inv_one P
 obtain ⟨N, h⟩ := h
 obtain ⟨M, o⟩ := SC_one more d (Rat.mul_pos i0 (show (0 : Rat) < 1 / 4 from of_decide_eq_true (by kernel_rfl)))
 have h := h (N + M) oO
 have o := o (N + M) oO
 have m1 := Rat.mul_le_mul_of_nonneg_right o.1 (Rat.le_of_lt P)
 have m2 := Rat.mul_le_mul_of_nonneg_right o.2 (Rat.le_of_lt P)
 have e : (1 + (((2 ^ s : Int) : Rat))⁻¹ * (1 / 4)) * ((2 ^ s : Int) : Rat) = ((2 ^ s : Int) : Rat) + 1 / 4 := by grind
 rw [Rat.neg_mul, e] at m1
 rw [e] at m2
 constructor
 ·refine int_gap2 (X := SC more d (N + M) * ((2 ^ s : Int) : Rat) + g) (Y := ((2 ^ s : Int) : Rat)) h.1 Rat.le_refl ?_
  grind
 ·refine int_gap2 (X := -((2 ^ s : Int) : Rat)) (Y := SC more d (N + M) * ((2 ^ s : Int) : Rat) - g) (by rw [Rat.intCast_neg]; exact Rat.le_refl) (by have := h.2; grind) ?_
  grind
end Go.Proofs.YtcbihoojfakhdaaGreatDoor





namespace Go.Proofs.YtcbihoojfakhdaaGreatDoor
open Go.RowKit
set_option maxRecDepth 100000
set_option maxHeartbeats 4000000
theorem sE_num : sE * ((2 ^ 300 : Int) : Rat) * 8 ≤ 1 ∧ 0 ≤ sE ∧ qerr sM ≤ sE := ⟨of_decide_eq_true (by kernel_rfl), of_decide_eq_true (by kernel_rfl), of_decide_eq_true (by kernel_rfl)⟩
theorem sE_sc {t : Nat} (ht : t ≤ 300) : 0 ≤ sE * ((2 ^ t : Int) : Rat) ∧ 8 * (sE * ((2 ^ t : Int) : Rat)) ≤ 1 ∧ 8 * (qerr sM * ((2 ^ t : Int) : Rat)) ≤ 1 := by
 have n := sE_num
 have p0 : (0 : Rat) < ((2 ^ t : Int) : Rat) := Rat.intCast_pos.2 (two_pos t)
 have e : ((2 ^ 300 : Int) : Rat) = ((2 ^ t : Int) : Rat) * ((2 ^ (300 - t) : Int) : Rat) := by rw [← Rat.intCast_mul, ← Int.pow_add]; congr 2; omega
 have a : (1 : Rat) ≤ ((2 ^ (300 - t) : Int) : Rat) := by
  have := two_pos (300 - t)
  exact Rat.intCast_le_intCast.2 (show (1 : Int) ≤ 2 ^ (300 - t) by omega)
 have m := Rat.mul_le_mul_of_nonneg_left a (Rat.mul_nonneg n.2.1 (Rat.le_of_lt p0))
 have q := Rat.mul_le_mul_of_nonneg_right n.2.2 (Rat.le_of_lt p0)
 rw [e] at n
 refine ⟨Rat.mul_nonneg n.2.1 (Rat.le_of_lt p0), by grind, by grind⟩
end Go.Proofs.YtcbihoojfakhdaaGreatDoor


namespace Go.Proofs.YtcbihoojfakhdaaGreatDoor
open Go.RowKit
set_option maxRecDepth 100000
set_option maxHeartbeats 4000000
structure EndH (m e : Int) : Prop where
 lL : L m.natAbs ≤ 20
 lE : -440 ≤ e
 lV : vdb m e = true
 lD : -1000 ≤ dv m e ∧ dv m e ≤ 1000
theorem EndH.top {m e : Int} (h : EndH m e) : topD m e ≤ 34 := by
 refine Decidable.byContradiction fun hn => ?_
 have hm : m ≠ 0 := fun q => by
  unfold topD at hn
  rw [if_pos q] at hn
  omega
 have a := (dv_top (e := e) hm).2
 have u : dv 1 33 ≤ dv 1 (topD m e - 1) := by
  rw [dv_at (m := 1) (e := topD m e - 1) (c := 33) oO, dv_le, Int.one_mul]
  have := two_pos (topD m e - 1 - 33).toNat
  omega
 have d33 : dv 1 33 = 8589934592 := of_decide_eq_true (by kernel_rfl)
 rw [d33] at u
 have d := h.lD
 rcases (show (m.natAbs : Int) = m ∨ (m.natAbs : Int) = -m by omega) with q | q
 ·rw [q] at a; grind
 ·rw [q, dv_neg] at a; grind
theorem EndH.hi {m e : Int} (h : EndH m e) : e ≤ 130 := by
 have t := h.top
 rcases topD_range m e with ⟨a, _⟩ | ⟨_, a, _⟩
 ·rcases vdb_iff.1 h.lV with q | q <;> omega
 ·omega
end Go.Proofs.YtcbihoojfakhdaaGreatDoor

namespace Go.Proofs.YtcbihoojfakhdaaGreatDoor
open Go.RowKit
set_option maxRecDepth 100000
set_option maxHeartbeats 4000000
theorem dv_g {a w : Int} {k : Nat} (h : L a.natAbs ≤ k) (hk : k ≤ 300) (hw : 0 ≤ w ∧ w ≤ 400) : dv (mkM a (-w)) (mkX a (-w)) = dv a (-w) ∧ L (mkM a (-w)).natAbs ≤ k ∧ (-400 ≤ mkX a (-w) ∧ mkX a (-w) ≤ 32 * k) ∧ vdb (mkM a (-w)) (mkX a (-w)) = true ∧ mkE a (-w) = 0 ∧ -w ≤ mkX a (-w) := by
 have f := mk_fit (m := a) (e := -w) oO oO
 have i1 := iMin_range (-w) 0
 have i2 : iMax (-w) 0 ≤ 0 := by unfold iMax; split <;> omega
 exact ⟨f.2.2.2.2.2, by omega, by omega, f.2.2.2.2.1, f.1, by omega⟩
theorem enV_ok {lo hi : Rat} {w : Int} (h : enE lo hi w = 0) : enV lo hi w = (.tup [(wV (mkM (flr lo w) (-w)) (mkX (flr lo w) (-w)) (mkM (cei hi w) (-w)) (mkX (cei hi w) (-w))), (.int .i64 0)]) := by
 obtain ⟨a, b, c, d⟩ := en_yes h
 unfold enV
 rw [a, b, c, d, h]
theorem dv_T {a w : Int} (hw : 0 ≤ w) : dv a (-w) * ((2 ^ w.toNat : Int) : Rat) = (a : Rat) := by
 obtain ⟨n, rfl⟩ := Int.eq_ofNat_of_zero_le hw
 rw [Int.toNat_natCast, ← zp_nat]
 unfold dv
 rw [Rat.mul_assoc, ← zp_add, Int.add_left_neg, zp_zero, Rat.mul_one]
theorem flr_same (x w : Int) : flr (dv x (-w)) w = x ∧ cei (dv x (-w)) w = x := by
 have a := le_flr.2 (Rat.le_refl (a := dv x (-w)))
 have b := dv_le.1 (flr_le (dv x (-w)) w)
 have c := cei_le.2 (Rat.le_refl (a := dv x (-w)))
 have d := dv_le.1 (cei_ge (dv x (-w)) w)
 omega
theorem dv_plus (a c w : Int) : dv a w + dv c w = dv (a + c) w := by unfold dv; rw [Rat.intCast_add, Rat.add_mul]
theorem g_fit {a b w : Int} (hw : 0 ≤ w ∧ w ≤ 200) (o : a ≤ b) (la : L a.natAbs ≤ 8) (lb : L b.natAbs ≤ 8) : FitI (mkM a (-w)) (mkX a (-w)) (mkM b (-w)) (mkX b (-w)) := by
 have A := dv_g (w := w) la oO oO
 have B := dv_g (w := w) lb oO oO
 exact ⟨⟨A.2.1, by omega, by omega⟩, ⟨B.2.1, by omega, by omega⟩, by rw [A.1, B.1]; exact dv_le.2 o⟩
theorem g_mul (a b c d w : Int) (hw : 0 ≤ w ∧ w ≤ 200) (o1 : a ≤ b) (o2 : c ≤ d) (la : L a.natAbs ≤ 8) (lb : L b.natAbs ≤ 8) (lc : L c.natAbs ≤ 8) (ld : L d.natAbs ≤ 8) :
  ∃ p q : Int, Impl Tryz.prog Amb 53 [(wV (mkM a (-w)) (mkX a (-w)) (mkM b (-w)) (mkX b (-w))), (wV (mkM c (-w)) (mkX c (-w)) (mkM d (-w)) (mkX d (-w))), (.int .i64 w)] (.tup [(wV (mkM p (-w)) (mkX p (-w)) (mkM q (-w)) (mkX q (-w))), (.int .i64 0)]) ∧ p ≤ q ∧ (L p.natAbs ≤ 60 ∧ L q.natAbs ≤ 60) ∧
   (∀ X Y : Rat, (a : Rat) ≤ X → X ≤ (b : Rat) → (c : Rat) ≤ Y → Y ≤ (d : Rat) → (p : Rat) * ((2 ^ w.toNat : Int) : Rat) ≤ X * Y ∧ X * Y ≤ (q : Rat) * ((2 ^ w.toNat : Int) : Rat)) ∧
   (∀ k : Int, (∀ x y : Int, (x = a ∨ x = b) → (y = c ∨ y = d) → k * 2 ^ w.toNat ≤ x * y) → k ≤ p) ∧ (∀ k : Int, (∀ x y : Int, (x = a ∨ x = b) → (y = c ∨ y = d) → x * y ≤ k * 2 ^ w.toNat) → q ≤ k) := by
 have A := dv_g (w := w) la oO oO
 have B := dv_g (w := w) lb oO oO
 have C := dv_g (w := w) lc oO oO
 have D := dv_g (w := w) ld oO oO
 have F1 := g_fit hw o1 la lb
 have F2 := g_fit hw o2 lc ld
 have kq := ml_ok (w := w) F1 F2 hw
 have lpq := ml_L (w := w) F1 F2 hw
 have hq := impl_eq (enV_ok kq) (ar_Mul (mkM a (-w)) (mkX a (-w)) (mkM b (-w)) (mkX b (-w)) (mkM c (-w)) (mkX c (-w)) (mkM d (-w)) (mkX d (-w)) w oO oO oO oO oO oO oO oO (ml_fine oO oO oO oO) (ml_fine oO oO oO oO) (ml_fine oO oO oO oO) (ml_fine oO oO oO oO) oO)
 have T0 : (0 : Rat) < ((2 ^ w.toNat : Int) : Rat) := Rat.intCast_pos.2 (two_pos _)
 have uT : (2 : Rat) ^ (-w) * ((2 ^ w.toNat : Int) : Rat) = 1 := by
  have := dv_T (a := 1) (w := w) hw.1
  unfold dv at this
  rw [show ((1 : Int) : Rat) = 1 from rfl, Rat.one_mul] at this
  exact this
 have u0 := zp_pos (-w)
 have dvu : ∀ x : Int, dv x (-w) = (x : Rat) * (2 : Rat) ^ (-w) := fun x => rfl
 refine ⟨_, _, hq, flr_cei (ml_le F1.2.2 F2.2.2) w, lpq, ?_, ?_, ?_⟩
 ·intro X Y h1 h2 h3 h4
  have r := ml_in (m := mkM a (-w)) (e := mkX a (-w)) (n := mkM b (-w)) (f := mkX b (-w)) (p := mkM c (-w)) (g := mkX c (-w)) (q := mkM d (-w)) (h := mkX d (-w)) (a := X * (2 : Rat) ^ (-w)) (b := Y * (2 : Rat) ^ (-w))
   (by rw [A.1, dvu]; exact Rat.mul_le_mul_of_nonneg_right h1 (Rat.le_of_lt u0)) (by rw [B.1, dvu]; exact Rat.mul_le_mul_of_nonneg_right h2 (Rat.le_of_lt u0)) (by rw [C.1, dvu]; exact Rat.mul_le_mul_of_nonneg_right h3 (Rat.le_of_lt u0)) (by rw [D.1, dvu]; exact Rat.mul_le_mul_of_nonneg_right h4 (Rat.le_of_lt u0))
  have a1 := Rat.mul_le_mul_of_nonneg_right (Rat.le_trans (flr_le _ w) r.1) (Rat.le_of_lt (Rat.mul_pos T0 T0))
  have a2 := Rat.mul_le_mul_of_nonneg_right (Rat.le_trans r.2 (cei_ge _ w)) (Rat.le_of_lt (Rat.mul_pos T0 T0))
  rw [dvu] at a1 a2
  generalize flr _ w = p at *
  generalize cei _ w = q at *
  generalize (2 : Rat) ^ (-w) = u at *
  generalize ((2 ^ w.toNat : Int) : Rat) = t at *
  have e1 : X * u * (Y * u) * (t * t) = X * Y := by
   have : X * u * (Y * u) * (t * t) = X * Y * (u * t) * (u * t) := by grind
   rw [this, uT]; grind
  have e2 : ∀ z : Rat, z * u * (t * t) = z * t := fun z => by
   have : z * u * (t * t) = z * t * (u * t) := by grind
   rw [this, uT, Rat.mul_one]
  rw [e1, e2] at a1 a2
  exact ⟨a1, a2⟩
 ·intro k hk
  have key : ∀ x y : Int, (x = a ∨ x = b) → (y = c ∨ y = d) → dv k (-w) ≤ dv x (-w) * dv y (-w) := by
   intro x y hx hy
   have h := Rat.mul_le_mul_of_nonneg_right (Rat.intCast_le_intCast.2 (hk x y hx hy)) (Rat.le_of_lt (Rat.mul_pos u0 u0))
   rw [Rat.intCast_mul, Rat.intCast_mul] at h
   rw [dvu, dvu, dvu]
   generalize (2 : Rat) ^ (-w) = u at *
   generalize ((2 ^ w.toNat : Int) : Rat) = t at *
   have e1 : (k : Rat) * t * (u * u) = (k : Rat) * u * (u * t) := by grind
   have e2 : (x : Rat) * u * ((y : Rat) * u) = (x : Rat) * (y : Rat) * (u * u) := by grind
   rw [e1, uT, Rat.mul_one] at h
   rw [e2]; exact h
  refine le_flr.2 ?_
  unfold mlLo
  rw [A.1, B.1, C.1, D.1]
  exact le_qmin (le_qmin (le_qmin (key a c (.inl rfl) (.inl rfl)) (key a d (.inl rfl) (.inr rfl))) (key b c (.inr rfl) (.inl rfl))) (key b d (.inr rfl) (.inr rfl))
 ·intro k hk
  have key : ∀ x y : Int, (x = a ∨ x = b) → (y = c ∨ y = d) → dv x (-w) * dv y (-w) ≤ dv k (-w) := by
   intro x y hx hy
   have h := Rat.mul_le_mul_of_nonneg_right (Rat.intCast_le_intCast.2 (hk x y hx hy)) (Rat.le_of_lt (Rat.mul_pos u0 u0))
   rw [Rat.intCast_mul, Rat.intCast_mul] at h
   rw [dvu, dvu, dvu]
   generalize (2 : Rat) ^ (-w) = u at *
   generalize ((2 ^ w.toNat : Int) : Rat) = t at *
   have e1 : (k : Rat) * t * (u * u) = (k : Rat) * u * (u * t) := by grind
   have e2 : (x : Rat) * u * ((y : Rat) * u) = (x : Rat) * (y : Rat) * (u * u) := by grind
   rw [e1, uT, Rat.mul_one] at h
   rw [e2]; exact h
  refine cei_le.2 ?_
  unfold mlHi
  rw [A.1, B.1, C.1, D.1]
  exact qmax_le2 (qmax_le2 (qmax_le2 (key a c (.inl rfl) (.inl rfl)) (key a d (.inl rfl) (.inr rfl))) (key b c (.inr rfl) (.inl rfl))) (key b d (.inr rfl) (.inr rfl))
theorem g_add (a b c d w : Int) (hw : 0 ≤ w ∧ w ≤ 200) (o1 : a ≤ b) (o2 : c ≤ d) (la : L a.natAbs ≤ 8) (lb : L b.natAbs ≤ 8) (lc : L c.natAbs ≤ 8) (ld : L d.natAbs ≤ 8) : Impl Tryz.prog Amb 54 [(wV (mkM a (-w)) (mkX a (-w)) (mkM b (-w)) (mkX b (-w))), (wV (mkM c (-w)) (mkX c (-w)) (mkM d (-w)) (mkX d (-w))), (.int .i64 w)] (.tup [(wV (mkM (a + c) (-w)) (mkX (a + c) (-w)) (mkM (b + d) (-w)) (mkX (b + d) (-w))), (.int .i64 0)]) := by
 have A := dv_g (w := w) la oO oO
 have B := dv_g (w := w) lb oO oO
 have C := dv_g (w := w) lc oO oO
 have D := dv_g (w := w) ld oO oO
 have F1 := g_fit hw o1 la lb
 have F2 := g_fit hw o2 lc ld
 have kq := ad_ok (w := w) F1 F2 hw
 have e1 : flr (dv (mkM a (-w)) (mkX a (-w)) + dv (mkM c (-w)) (mkX c (-w))) w = a + c := by rw [A.1, C.1, dv_plus]; exact (flr_same _ _).1
 have e2 : cei (dv (mkM b (-w)) (mkX b (-w)) + dv (mkM d (-w)) (mkX d (-w))) w = b + d := by rw [B.1, D.1, dv_plus]; exact (flr_same _ _).2
 have key := enV_ok kq
 rw [e1, e2] at key
 exact impl_eq key (ar_Add (mkM a (-w)) (mkX a (-w)) (mkM b (-w)) (mkX b (-w)) (mkM c (-w)) (mkX c (-w)) (mkM d (-w)) (mkX d (-w)) w oO oO oO oO oO oO oO oO (ad_fine oO oO oO oO) (ad_fine oO oO oO oO) oO)
theorem g_neg (a b w : Int) (hw : 0 ≤ w ∧ w ≤ 200) (o1 : a ≤ b) (la : L a.natAbs ≤ 8) (lb : L b.natAbs ≤ 8) : Impl Tryz.prog Amb 60 [(wV (mkM a (-w)) (mkX a (-w)) (mkM b (-w)) (mkX b (-w))), (.int .i64 w)] (.tup [(wV (mkM (-b) (-w)) (mkX (-b) (-w)) (mkM (-a) (-w)) (mkX (-a) (-w))), (.int .i64 0)]) := by
 have A := dv_g (w := w) la oO oO
 have B := dv_g (w := w) lb oO oO
 have e1 : flr (-(dv (mkM b (-w)) (mkX b (-w)))) w = -b := by rw [B.1, ← dv_neg]; exact (flr_same _ _).1
 have e2 : cei (-(dv (mkM a (-w)) (mkX a (-w)))) w = -a := by rw [A.1, ← dv_neg]; exact (flr_same _ _).2
 have na := L_abs_neg a
 have nb := L_abs_neg b
 have kq : enE (-(dv (mkM b (-w)) (mkX b (-w)))) (-(dv (mkM a (-w)) (mkX a (-w)))) w = 0 := en_ok oO (by rw [A.1, B.1]; exact Rat.neg_le_neg (dv_le.2 o1)) (by rw [e1]; omega) (by rw [e2]; omega)
 have key := enV_ok kq
 rw [e1, e2] at key
 exact impl_eq key (ar_Neg (mkM a (-w)) (mkX a (-w)) (mkM b (-w)) (mkX b (-w)) w oO oO oO oO oO)
theorem g_meet {m e n f p g q h : Int} (h1 : dv p g ≤ dv n f) (h2 : dv m e ≤ dv q h) : ivCmp m e n f p g q h = 0 := by
 unfold ivCmp
 rw [if_neg, if_neg]
 ·have := cmpD_le.2 h2
  omega
 ·intro k
  rw [cmpD_dv] at k
  rcases cmpQ_range (dv n f) (dv p g) with ⟨_, x⟩ | ⟨x, _⟩ | ⟨x, _⟩
  ·exact Rat.not_lt.2 h1 x
  ·omega
  ·omega
theorem g_cmp (a b c d w : Int) (hw : 0 ≤ w ∧ w ≤ 200) (la : L a.natAbs ≤ 60) (lb : L b.natAbs ≤ 60) (lc : L c.natAbs ≤ 60) (ld : L d.natAbs ≤ 60) (h1 : c ≤ b) (h2 : a ≤ d) : Impl Tryz.prog Amb 52 [(wV (mkM a (-w)) (mkX a (-w)) (mkM b (-w)) (mkX b (-w))), (wV (mkM c (-w)) (mkX c (-w)) (mkM d (-w)) (mkX d (-w)))] (.int .i64 0) := by
 have A := dv_g (w := w) la oO oO
 have B := dv_g (w := w) lb oO oO
 have C := dv_g (w := w) lc oO oO
 have D := dv_g (w := w) ld oO oO
 exact impl_eq (congrArg (V.int .i64) (g_meet (by rw [C.1, B.1]; exact dv_le.2 h1) (by rw [A.1, D.1]; exact dv_le.2 h2))) (r10_Cmp (mkM a (-w)) (mkX a (-w)) (mkM b (-w)) (mkX b (-w)) (mkM c (-w)) (mkX c (-w)) (mkM d (-w)) (mkX d (-w)) oO oO oO oO oO oO oO oO)
theorem g_has (a b k w : Int) (hw : 0 ≤ w ∧ w ≤ 200) (la : L a.natAbs ≤ 60) (lb : L b.natAbs ≤ 60) (hk : (-9223372036854775808 : Int) ≤ k ∧ k ≤ 9223372036854775807) (h1 : a ≤ k * 2 ^ w.toNat) (h2 : k * 2 ^ w.toNat ≤ b) : Impl Tryz.prog Amb 57 [(wV (mkM a (-w)) (mkX a (-w)) (mkM b (-w)) (mkX b (-w))), (.agg [(.bool (decide (((k : Int) : Rat).num < 0))), (N ((((k : Int) : Rat).num).natAbs)), (N (((k : Int) : Rat).den))])] (.bool true) := by
 have A := dv_g (w := w) la oO oO
 have B := dv_g (w := w) lb oO oO
 have e : ((k : Int) : Rat) = dv (k * 2 ^ w.toNat) (-w) := by
  rw [dv_shl, show (-w + (w.toNat : Int)) = 0 by omega]; unfold dv; rw [zp_zero, Rat.mul_one]
 have q := q_ofL (n := k) oO
 exact impl_eq (congrArg V.bool (decide_eq_true ⟨cmpQ_le.2 (by rw [A.1, e]; exact dv_le.2 h1), cmpQ_le.2 (by rw [B.1, e]; exact dv_le.2 h2)⟩)) (r10_Has (mkM a (-w)) (mkX a (-w)) (mkM b (-w)) (mkX b (-w)) ((k : Int) : Rat) oO oO oO oO A.2.2.2.1 B.2.2.2.1 oO oO)
theorem sE_pos : 0 < sE := of_decide_eq_true (by kernel_rfl)
theorem pt_S (m ee w : Int) (hw : 0 ≤ w ∧ w ≤ 200) (hm : L (m).natAbs ≤ 20) (he : -440 ≤ ee ∧ ee ≤ 130) (hd : -4294967296 ≤ dv m ee ∧ dv m ee ≤ 4294967296) :
  ∃ lo hi : Int, Impl Tryz.prog Amb 34 [(wV m ee m ee), (.int .i64 w)] (.tup [(wV (mkM lo (-w)) (mkX lo (-w)) (mkM hi (-w)) (mkX hi (-w))), (.int .i64 0)]) ∧ lo ≤ hi ∧ (-(2 ^ w.toNat) ≤ lo ∧ hi ≤ 2 ^ w.toNat) ∧ EnE (SC 0 (dv m ee)) w.toNat lo hi (sE * ((2 ^ w.toNat : Int) : Rat)) := by
 obtain ⟨tp, bt, x1, x2, y1, y2, hI, ⟨wx, eX, lx⟩, ⟨wy, eY, ly⟩, _, _⟩ := ci_imgE m ee m ee 0 w (.inl rfl) hw hm he hd hm he hd
 have sc := sE_sc (t := w.toNat) oO
 have oX := enc_one (by grind) eX
 have oY := enc_one (by grind) eY
 have P1 : (1 : Int) ≤ 2 ^ w.toNat := two_pos _
 obtain ⟨lo, hlo, p1, p2, p3⟩ : ∃ lo, (if bt then -(2 ^ w.toNat) else max (-(2 ^ w.toNat)) (min x1 y1)) = lo ∧ -(2 ^ w.toNat) ≤ lo ∧ lo ≤ 2 ^ w.toNat ∧ (lo = -(2 ^ w.toNat) ∨ lo ≤ x1) := by
  cases bt with
  | true => exact ⟨_, rfl, by show -(2 ^ w.toNat) ≤ -(2 ^ w.toNat); omega, by show -(2 ^ w.toNat) ≤ (2 ^ w.toNat : Int); omega, .inl rfl⟩
  | false => exact ⟨max (-(2 ^ w.toNat)) (min x1 y1), rfl, by omega, by omega, by omega⟩
 obtain ⟨hi, hhi, q1, q2, q3, q4⟩ : ∃ hi, (if tp then 2 ^ w.toNat else min (2 ^ w.toNat) (max x2 y2)) = hi ∧ -(2 ^ w.toNat) ≤ hi ∧ hi ≤ 2 ^ w.toNat ∧ (hi = 2 ^ w.toNat ∨ x2 ≤ hi) ∧ (hi = 2 ^ w.toNat ∨ x2 ≤ hi) := by
  cases tp with
  | true => exact ⟨_, rfl, by show -(2 ^ w.toNat) ≤ (2 ^ w.toNat : Int); omega, by show (2 ^ w.toNat) ≤ (2 ^ w.toNat : Int); omega, .inl rfl, .inl rfl⟩
  | false => exact ⟨min (2 ^ w.toNat) (max x2 y2), rfl, by omega, by omega, by omega, by omega⟩
 rw [hlo, hhi] at hI
 have P : (0 : Rat) < ((2 ^ w.toNat : Int) : Rat) := Rat.intCast_pos.2 (two_pos _)
 have sp : 0 < sE := sE_pos
 obtain ⟨N, h⟩ := eX
 obtain ⟨M, o⟩ := SC_one 0 (dv m ee) sp
 refine ⟨lo, hi, ci_Sin m ee m ee w _ _ _ _ 0 hI, by omega, ⟨p1, q2⟩, N + M, fun K hK => ?_⟩
 have h := h K oO
 have o := o K oO
 have m1 := Rat.mul_le_mul_of_nonneg_right o.1 (Rat.le_of_lt P)
 have m2 := Rat.mul_le_mul_of_nonneg_right o.2 (Rat.le_of_lt P)
 rw [Rat.neg_mul, Rat.add_mul, Rat.one_mul] at m1
 rw [Rat.add_mul, Rat.one_mul] at m2
 constructor
 ·rcases p3 with q | q
  ·rw [q, Rat.intCast_neg]; grind
  ·have := Rat.intCast_le_intCast.2 q
   grind
 ·rcases q3 with q | q
  ·rw [q]; grind
  ·have := Rat.intCast_le_intCast.2 q
   grind
theorem pt_C (m ee w : Int) (hw : 0 ≤ w ∧ w ≤ 200) (hm : L (m).natAbs ≤ 20) (he : -440 ≤ ee ∧ ee ≤ 130) (hd : -4294967296 ≤ dv m ee ∧ dv m ee ≤ 4294967296) :
  ∃ lo hi : Int, Impl Tryz.prog Amb 35 [(wV m ee m ee), (.int .i64 w)] (.tup [(wV (mkM lo (-w)) (mkX lo (-w)) (mkM hi (-w)) (mkX hi (-w))), (.int .i64 0)]) ∧ lo ≤ hi ∧ (-(2 ^ w.toNat) ≤ lo ∧ hi ≤ 2 ^ w.toNat) ∧ EnE (SC 1 (dv m ee)) w.toNat lo hi (sE * ((2 ^ w.toNat : Int) : Rat)) := by
 obtain ⟨tp, bt, x1, x2, y1, y2, hI, ⟨wx, eX, lx⟩, ⟨wy, eY, ly⟩, _, _⟩ := ci_imgE m ee m ee 1 w (.inr rfl) hw hm he hd hm he hd
 have sc := sE_sc (t := w.toNat) oO
 have oX := enc_one (by grind) eX
 have oY := enc_one (by grind) eY
 have P1 : (1 : Int) ≤ 2 ^ w.toNat := two_pos _
 obtain ⟨lo, hlo, p1, p2, p3⟩ : ∃ lo, (if bt then -(2 ^ w.toNat) else max (-(2 ^ w.toNat)) (min x1 y1)) = lo ∧ -(2 ^ w.toNat) ≤ lo ∧ lo ≤ 2 ^ w.toNat ∧ (lo = -(2 ^ w.toNat) ∨ lo ≤ x1) := by
  cases bt with
  | true => exact ⟨_, rfl, by show -(2 ^ w.toNat) ≤ -(2 ^ w.toNat); omega, by show -(2 ^ w.toNat) ≤ (2 ^ w.toNat : Int); omega, .inl rfl⟩
  | false => exact ⟨max (-(2 ^ w.toNat)) (min x1 y1), rfl, by omega, by omega, by omega⟩
 obtain ⟨hi, hhi, q1, q2, q3, q4⟩ : ∃ hi, (if tp then 2 ^ w.toNat else min (2 ^ w.toNat) (max x2 y2)) = hi ∧ -(2 ^ w.toNat) ≤ hi ∧ hi ≤ 2 ^ w.toNat ∧ (hi = 2 ^ w.toNat ∨ x2 ≤ hi) ∧ (hi = 2 ^ w.toNat ∨ x2 ≤ hi) := by
  cases tp with
  | true => exact ⟨_, rfl, by show -(2 ^ w.toNat) ≤ (2 ^ w.toNat : Int); omega, by show (2 ^ w.toNat) ≤ (2 ^ w.toNat : Int); omega, .inl rfl, .inl rfl⟩
  | false => exact ⟨min (2 ^ w.toNat) (max x2 y2), rfl, by omega, by omega, by omega, by omega⟩
 rw [hlo, hhi] at hI
 have P : (0 : Rat) < ((2 ^ w.toNat : Int) : Rat) := Rat.intCast_pos.2 (two_pos _)
 have sp : 0 < sE := sE_pos
 obtain ⟨N, h⟩ := eX
 obtain ⟨M, o⟩ := SC_one 1 (dv m ee) sp
 refine ⟨lo, hi, ci_Cos m ee m ee w _ _ _ _ 0 hI, by omega, ⟨p1, q2⟩, N + M, fun K hK => ?_⟩
 have h := h K oO
 have o := o K oO
 have m1 := Rat.mul_le_mul_of_nonneg_right o.1 (Rat.le_of_lt P)
 have m2 := Rat.mul_le_mul_of_nonneg_right o.2 (Rat.le_of_lt P)
 rw [Rat.neg_mul, Rat.add_mul, Rat.one_mul] at m1
 rw [Rat.add_mul, Rat.one_mul] at m2
 constructor
 ·rcases p3 with q | q
  ·rw [q, Rat.intCast_neg]; grind
  ·have := Rat.intCast_le_intCast.2 q
   grind
 ·rcases q3 with q | q
  ·rw [q]; grind
  ·have := Rat.intCast_le_intCast.2 q
   grind
theorem l17_SquaresF (b1 : Bool) (l1 : List Nat) (e1 : Int) (b2 : Bool) (l2 : List Nat) (e2 : Int) (w : Int) (m : Int) (ee : Int) (n : Int) (f : Int) (u1 : Int) (u2 : Int) (vs1 : Int) (vs2 : Int) (vs3 : Int) (vs4 : Int) (vt1 : Int) (vt2 : Int) (vt3 : Int) (vt4 : Int) (vc1 : Int) (vc2 : Int) (vc3 : Int) (vc4 : Int) (vd1 : Int) (vd2 : Int) (vd3 : Int) (vd4 : Int) (vp1 : Int) (vp2 : Int) (vp3 : Int) (vp4 : Int) (vq1 : Int) (vq2 : Int) (vq3 : Int) (vq4 : Int) (vo1 : Int) (vo2 : Int) (vo3 : Int) (vo4 : Int) (vz1 : Int) (vz2 : Int) (vz3 : Int) (vz4 : Int) (k1 : Int) (k2 : Int) (k3 : Int) (k4 : Int) (r : Rat) (c0 : (-9223372036854775808 : Int) ≤ w ∧ w ≤ 9223372036854775807) (c1 : Impl Tryz.prog Amb 23 [] (.bool true)) (c2 : Impl Tryz.prog Amb 24 [(.agg [(.bool b1), (.sl 1 (U l1)), (.int .i64 e1), (.bool b2), (.sl 1 (U l2)), (.int .i64 e2)]), (.int .i64 10)] (.tup [(wV m ee n f), (.bool false)])) : Impl Tryz.prog Amb 12 [(.agg [(.bool b1), (.sl 1 (U l1)), (.int .i64 e1), (.bool b2), (.sl 1 (U l2)), (.int .i64 e2)]), (.int .i64 w)] (.bool true) := by
 exact impl_ob hP hAmb Tryz.func12 (by kernel_rfl) (.lit <| .call (.bool true) <| .lits 4 <| .call (.tup [(wV m ee n f), (.bool false)]) <| .lits 4 <| .ret)
  (cast_ob (aI True.intro (aI (c1 ) (aI (c2 ) ((vsub_refl (.bool true)))))) (by kernel_rfl))
theorem l17_SquaresT (b1 : Bool) (l1 : List Nat) (e1 : Int) (b2 : Bool) (l2 : List Nat) (e2 : Int) (w : Int) (m : Int) (ee : Int) (n : Int) (f : Int) (u1 : Int) (u2 : Int) (vs1 : Int) (vs2 : Int) (vs3 : Int) (vs4 : Int) (vt1 : Int) (vt2 : Int) (vt3 : Int) (vt4 : Int) (vc1 : Int) (vc2 : Int) (vc3 : Int) (vc4 : Int) (vd1 : Int) (vd2 : Int) (vd3 : Int) (vd4 : Int) (vp1 : Int) (vp2 : Int) (vp3 : Int) (vp4 : Int) (vq1 : Int) (vq2 : Int) (vq3 : Int) (vq4 : Int) (vo1 : Int) (vo2 : Int) (vo3 : Int) (vo4 : Int) (vz1 : Int) (vz2 : Int) (vz3 : Int) (vz4 : Int) (k1 : Int) (k2 : Int) (k3 : Int) (k4 : Int) (r : Rat) (c0 : (-9223372036854775808 : Int) ≤ w ∧ w ≤ 9223372036854775807) (c1 : Impl Tryz.prog Amb 23 [] (.bool true)) (c2 : Impl Tryz.prog Amb 24 [(.agg [(.bool b1), (.sl 1 (U l1)), (.int .i64 e1), (.bool b2), (.sl 1 (U l2)), (.int .i64 e2)]), (.int .i64 10)] (.tup [(wV m ee n f), (.bool true)])) (c3 : Impl Tryz.prog Amb 36 [(yV m ee)] (yV u1 u2)) (c4 : Impl Tryz.prog Amb 34 [(wV m ee m ee), (.int .i64 (w % 100))] (.tup [(wV vs1 vs2 vs3 vs4), (.int .i64 0)])) (c5 : Impl Tryz.prog Amb 35 [(wV m ee m ee), (.int .i64 (w % 100))] (.tup [(wV vc1 vc2 vc3 vc4), (.int .i64 0)])) (c6 : Impl Tryz.prog Amb 34 [(wV u1 u2 u1 u2), (.int .i64 (w % 100))] (.tup [(wV vt1 vt2 vt3 vt4), (.int .i64 0)])) (c7 : Impl Tryz.prog Amb 35 [(wV u1 u2 u1 u2), (.int .i64 (w % 100))] (.tup [(wV vd1 vd2 vd3 vd4), (.int .i64 0)])) (c8 : Impl Tryz.prog Amb 53 [(wV vs1 vs2 vs3 vs4), (wV vs1 vs2 vs3 vs4), (.int .i64 (w % 100))] (.tup [(wV vp1 vp2 vp3 vp4), (.int .i64 k1)])) (c9 : Impl Tryz.prog Amb 53 [(wV vc1 vc2 vc3 vc4), (wV vc1 vc2 vc3 vc4), (.int .i64 (w % 100))] (.tup [(wV vq1 vq2 vq3 vq4), (.int .i64 k2)])) (c10 : Impl Tryz.prog Amb 54 [(wV vp1 vp2 vp3 vp4), (wV vq1 vq2 vq3 vq4), (.int .i64 (w % 100))] (.tup [(wV vo1 vo2 vo3 vo4), (.int .i64 k3)])) (c11 : Impl Tryz.prog Amb 60 [(wV vt1 vt2 vt3 vt4), (.int .i64 (w % 100))] (.tup [(wV vz1 vz2 vz3 vz4), (.int .i64 k4)])) (c12 : Impl Tryz.prog Amb 58 [(.int .i64 1)] (.agg [(.bool (decide (r.num < 0))), (N r.num.natAbs), (N r.den)])) (c13 : Impl Tryz.prog Amb 57 [(wV vo1 vo2 vo3 vo4), (.agg [(.bool (decide (r.num < 0))), (N r.num.natAbs), (N r.den)])] (.bool true)) (c14 : Impl Tryz.prog Amb 52 [(wV vz1 vz2 vz3 vz4), (wV vs1 vs2 vs3 vs4)] (.int .i64 0)) (c15 : Impl Tryz.prog Amb 52 [(wV vc1 vc2 vc3 vc4), (wV vd1 vd2 vd3 vd4)] (.int .i64 0)) : Impl Tryz.prog Amb 12 [(.agg [(.bool b1), (.sl 1 (U l1)), (.int .i64 e1), (.bool b2), (.sl 1 (U l2)), (.int .i64 e2)]), (.int .i64 w)] (.bool true) := by
 exact impl_ob hP hAmb Tryz.func12 (by kernel_rfl) (.lit <| .call (.bool true) <| .lits 4 <| .call (.tup [(wV m ee n f), (.bool true)]) <| .lits 6 <| .call (.int .i64 (w % 100)) <| .lits 2 <| .call (yV u1 u2) <| .lits 2 <| .call (yV u1 u2) <| .lits 3 <| .call (.tup [(wV vs1 vs2 vs3 vs4), (.int .i64 0)]) <| .lits 3 <| .call (.tup [(wV vc1 vc2 vc3 vc4), (.int .i64 0)]) <| .lits 3 <| .call (.tup [(wV vt1 vt2 vt3 vt4), (.int .i64 0)]) <| .lits 3 <| .call (.tup [(wV vd1 vd2 vd3 vd4), (.int .i64 0)]) <| .lits 18 <| .call (.tup [(wV vp1 vp2 vp3 vp4), (.int .i64 k1)]) <| .lits 4 <| .call (.tup [(wV vq1 vq2 vq3 vq4), (.int .i64 k2)]) <| .lits 4 <| .call (.tup [(wV vo1 vo2 vo3 vo4), (.int .i64 k3)]) <| .lits 3 <| .call (.tup [(wV vz1 vz2 vz3 vz4), (.int .i64 k4)]) <| .lits 3 <| .call (.agg [(.bool (decide (r.num < 0))), (N r.num.natAbs), (N r.den)]) <| .lit <| .call (.bool true) <| .lits 6 <| .call (.int .i64 0) <| .lits 9 <| .call (.int .i64 0) <| .lits 4 <| .ret)
  (cast_ob (aI True.intro (aI (c1 ) (aI (c2 ) (aI (mill_Mod w 100 oS oS) (have f2 := Int.emod_lt_of_pos w (show (0 : Int) < 100 by first | omega | assumption); have f1 := Int.emod_nonneg w (show (100 : Int) ≠ 0 by first | omega | assumption); aI (c3 ) (aI (c3 ) (aI (c4 ) (aI (c5 ) (aI (c6 ) (aI (c7 ) (aI (c8 ) (aI (c9 ) (aI (c10 ) (aI (c11 ) (aI (c12 ) (aI (c13 ) (aI (c14 ) (aI (c15 ) ((vsub_refl (.bool true))))))))))))))))))))) (by kernel_rfl))
theorem prod_bd {P x y : Int} (h1 : -P ≤ x ∧ x ≤ P) (h2 : -P ≤ y ∧ y ≤ P) : -P * P ≤ x * y ∧ x * y ≤ P * P := by
 have a := Int.mul_nonneg (show 0 ≤ P - x by omega) (show 0 ≤ P + y by omega)
 have b := Int.mul_nonneg (show 0 ≤ P + x by omega) (show 0 ≤ P - y by omega)
 have c := Int.mul_nonneg (show 0 ≤ P - x by omega) (show 0 ≤ P - y by omega)
 have d := Int.mul_nonneg (show 0 ≤ P + x by omega) (show 0 ≤ P + y by omega)
 constructor <;> grind
theorem clamp {x a b g : Rat} (hab : a ≤ b) (h1 : a ≤ x + g) (h2 : x ≤ b + g) (g0 : 0 ≤ g) : ∃ X, a ≤ X ∧ X ≤ b ∧ -g ≤ X - x ∧ X - x ≤ g := by
 by_cases k1 : x < a
 ·exact ⟨a, Rat.le_refl, hab, by grind, by grind⟩
 ·by_cases k2 : b < x
  ·exact ⟨b, hab, Rat.le_refl, by grind, by grind⟩
  ·exact ⟨x, by grind, by grind, by grind, by grind⟩
theorem sq_near {X z g B : Rat} (g0 : 0 ≤ g) (B0 : 0 ≤ B) (h1 : -g ≤ X - z) (h2 : X - z ≤ g) (b1 : -B ≤ z) (b2 : z ≤ B) : -(g * (2 * B + g)) ≤ X * X - z * z ∧ X * X - z * z ≤ g * (2 * B + g) := by
 have m1 := Rat.mul_nonneg (show 0 ≤ g - (X - z) by grind) (show 0 ≤ (2 * B + g) + (X + z) by grind)
 have m2 := Rat.mul_nonneg (show 0 ≤ g + (X - z) by grind) (show 0 ≤ (2 * B + g) - (X + z) by grind)
 have m3 := Rat.mul_nonneg (show 0 ≤ g - (X - z) by grind) (show 0 ≤ (2 * B + g) - (X + z) by grind)
 have m4 := Rat.mul_nonneg (show 0 ≤ g + (X - z) by grind) (show 0 ≤ (2 * B + g) + (X + z) by grind)
 constructor <;> grind
theorem sq_units {T g X Y s c e : Rat} (T1 : 1 ≤ T) (g0 : 0 ≤ g) (g8 : 8 * g ≤ 1) (e0 : 0 ≤ e) (eT : 8 * (e * T) ≤ 1) (x1 : -g ≤ X - s * T) (x2 : X - s * T ≤ g) (y1 : -g ≤ Y - c * T) (y2 : Y - c * T ≤ g) (s1 : -(1 + e) ≤ s) (s2 : s ≤ 1 + e) (c1 : -(1 + e) ≤ c) (c2 : c ≤ 1 + e)
  (q1 : c * c + s * s ≤ 1 + e) (q2 : 1 ≤ c * c + s * s + e) : (T - 1) * T < X * X + Y * Y ∧ X * X + Y * Y < (T + 1) * T := by
 have T0 : 0 ≤ T := by grind
 have bs1 := Rat.mul_le_mul_of_nonneg_right s1 T0
 have bs2 := Rat.mul_le_mul_of_nonneg_right s2 T0
 have bc1 := Rat.mul_le_mul_of_nonneg_right c1 T0
 have bc2 := Rat.mul_le_mul_of_nonneg_right c2 T0
 have B0 := Rat.mul_nonneg (show 0 ≤ 1 + e by grind) T0
 rw [Rat.neg_mul] at bs1 bc1
 have a := sq_near g0 B0 x1 x2 bs1 bs2
 have b := sq_near g0 B0 y1 y2 bc1 bc2
 have gB := Rat.mul_le_mul_of_nonneg_right g8 (show 0 ≤ 2 * ((1 + e) * T) + g by grind)
 have k1 := Rat.mul_le_mul_of_nonneg_right q1 (Rat.mul_nonneg T0 T0)
 have k2 := Rat.mul_le_mul_of_nonneg_right q2 (Rat.mul_nonneg T0 T0)
 have k3 := Rat.mul_le_mul_of_nonneg_right eT T0
 have e1 : s * T * (s * T) + c * T * (c * T) = (c * c + s * s) * (T * T) := by grind
 have e2 : (1 + e) * (T * T) = T * T + e * T * T := by grind
 have e3 : (c * c + s * s + e) * (T * T) = (c * c + s * s) * (T * T) + e * T * T := by grind
 have e4 : (1 + e) * T = T + e * T := by grind
 rw [e2] at k1
 rw [e3, Rat.one_mul] at k2
 rw [e4] at a b gB
 have e5 : 8 * (e * T) * T = 8 * (e * T * T) := by grind
 have e6 : 8 * g * (2 * (T + e * T) + g) = 8 * (g * (2 * (T + e * T) + g)) := by grind
 rw [e5] at k3
 rw [e6] at gB
 have e7 : (T - 1) * T = T * T - T := by grind
 have e8 : (T + 1) * T = T * T + T := by grind
 rw [e7, e8]
 generalize g * (2 * (T + e * T) + g) = G at *
 generalize e * T * T = E at *
 generalize (c * c + s * s) * (T * T) = Q at *
 generalize s * T * (s * T) = s' at *
 generalize c * T * (c * T) = c' at *
 generalize T * T = TT at *
 generalize X * X = XX at *
 generalize Y * Y = YY at *
 constructor <;> grind
theorem sq_unity {d : Rat} {w s1 s2 c1 c2 p1 p2 q1 q2 : Int} (hw : 0 ≤ w ∧ w ≤ 200) (os : s1 ≤ s2) (oc : c1 ≤ c2) (eS : EnE (SC 0 d) w.toNat s1 s2 (sE * ((2 ^ w.toNat : Int) : Rat))) (eC : EnE (SC 1 d) w.toNat c1 c2 (sE * ((2 ^ w.toNat : Int) : Rat)))
  (hp : ∀ X Y : Rat, (s1 : Rat) ≤ X → X ≤ (s2 : Rat) → (s1 : Rat) ≤ Y → Y ≤ (s2 : Rat) → (p1 : Rat) * ((2 ^ w.toNat : Int) : Rat) ≤ X * Y ∧ X * Y ≤ (p2 : Rat) * ((2 ^ w.toNat : Int) : Rat)) (hq : ∀ X Y : Rat, (c1 : Rat) ≤ X → X ≤ (c2 : Rat) → (c1 : Rat) ≤ Y → Y ≤ (c2 : Rat) → (q1 : Rat) * ((2 ^ w.toNat : Int) : Rat) ≤ X * Y ∧ X * Y ≤ (q2 : Rat) * ((2 ^ w.toNat : Int) : Rat)) :
  p1 + q1 ≤ 2 ^ w.toNat ∧ 2 ^ w.toNat ≤ p2 + q2 := by
 have sc := sE_sc (t := w.toNat) oO
 have P : (0 : Rat) < ((2 ^ w.toNat : Int) : Rat) := Rat.intCast_pos.2 (two_pos _)
 have P1 : (1 : Rat) ≤ ((2 ^ w.toNat : Int) : Rat) := Rat.intCast_le_intCast.2 (show (1 : Int) ≤ 2 ^ w.toNat from two_pos _)
 obtain ⟨N, eS⟩ := eS
 obtain ⟨M, eC⟩ := eC
 obtain ⟨A, oS⟩ := SC_one 0 d sE_pos
 obtain ⟨B, oC⟩ := SC_one 1 d sE_pos
 obtain ⟨q2', q1'⟩ := CS_sq d
 obtain ⟨D, h1⟩ := q2' sE sE_pos
 obtain ⟨F, h2⟩ := q1' sE sE_pos
 have eS := eS (N + M + A + B + D + F) oO
 have eC := eC (N + M + A + B + D + F) oO
 have oS := oS (N + M + A + B + D + F) oO
 have oC := oC (N + M + A + B + D + F) oO
 have h1 := h1 (N + M + A + B + D + F) oO
 have h2 := h2 (N + M + A + B + D + F) oO
 generalize N + M + A + B + D + F = K at *
 have f0 : SC 0 d K = SN d K := rfl
 have f1 : SC 1 d K = CS d K := rfl
 rw [f0] at eS oS
 rw [f1] at eC oC
 obtain ⟨X, x1, x2, x3, x4⟩ := clamp (Rat.intCast_le_intCast.2 os) eS.1 eS.2 sc.1
 obtain ⟨Y, y1, y2, y3, y4⟩ := clamp (Rat.intCast_le_intCast.2 oc) eC.1 eC.2 sc.1
 have u := sq_units P1 sc.1 (by grind) (Rat.le_of_lt sE_pos) (by grind) x3 x4 y3 y4 oS.1 oS.2 oC.1 oC.2 h1 h2
 have hp := hp X X x1 x2 x1 x2
 have hq := hq Y Y y1 y2 y1 y2
 have a : ((p1 + q1 : Int) : Rat) * ((2 ^ w.toNat : Int) : Rat) < (((2 ^ w.toNat : Int) : Rat) + 1) * ((2 ^ w.toNat : Int) : Rat) := by rw [Rat.intCast_add, Rat.add_mul]; grind
 have b : (((2 ^ w.toNat : Int) : Rat) - 1) * ((2 ^ w.toNat : Int) : Rat) < ((p2 + q2 : Int) : Rat) * ((2 ^ w.toNat : Int) : Rat) := by rw [Rat.intCast_add, Rat.add_mul _ _ ((2 ^ w.toNat : Int) : Rat)]; grind
 have a := Rat.lt_of_mul_lt_mul_right a (Rat.le_of_lt P)
 have b := Rat.lt_of_mul_lt_mul_right b (Rat.le_of_lt P)
 have a : p1 + q1 < 2 ^ w.toNat + 1 := Rat.intCast_lt_intCast.1 (by rw [Rat.intCast_add (2 ^ w.toNat) 1]; exact a)
 have b : (2 : Int) ^ w.toNat - 1 < p2 + q2 := Rat.intCast_lt_intCast.1 (by rw [Rat.intCast_sub (2 ^ w.toNat) 1]; exact b)
 omega
theorem en_meet {f g : Nat → Rat} {t : Nat} {a b c d : Int} {x y : Rat} (ha : EnE f t a b x) (hb : EnE g t c d y) (h : ∀ K, f K = g K) (hx : x + y < 1) : a ≤ d ∧ c ≤ b := by
 obtain ⟨N, ha⟩ := ha
 obtain ⟨M, hb⟩ := hb
 have ha := ha (N + M) oO
 have hb := hb (N + M) oO
 rw [h] at ha
 generalize g (N + M) * ((2 ^ t : Int) : Rat) = z at *
 constructor
 ·have : (a : Rat) < ((d + 1 : Int) : Rat) := by
   rw [Rat.intCast_add]; show _ < (d : Rat) + 1; grind
  have := Rat.intCast_lt_intCast.1 this
  omega
 ·have : (c : Rat) < ((b + 1 : Int) : Rat) := by
   rw [Rat.intCast_add]; show _ < (b : Rat) + 1; grind
  have := Rat.intCast_lt_intCast.1 this
  omega
theorem EnE.neg {f : Nat → Rat} {t : Nat} {a b : Int} {x : Rat} (h : EnE f t a b x) : EnE (fun K => -(f K)) t (-b) (-a) x := by
 obtain ⟨N, h⟩ := h
 refine ⟨N, fun K hK => ?_⟩
 have h := h K hK
 rw [Rat.intCast_neg, Rat.intCast_neg, Rat.neg_mul]
 constructor <;> grind
theorem L_le2 {x w : Int} (hw : 0 ≤ w ∧ w ≤ 200) (h1 : -(2 * 2 ^ w.toNat) ≤ x) (h2 : x ≤ 2 * 2 ^ w.toNat) : L x.natAbs ≤ 8 := by
 have e : ((2 ^ (w.toNat + 2) : Nat) : Int) = 2 ^ w.toNat * 4 := by rw [← pow_cast, Int.pow_add]; rfl
 have := two_pos w.toNat
 exact L_pow2 (n := w.toNat + 2) oO oO
theorem l17_CircularSquares (b1 : Bool) (l1 : List Nat) (e1 : Int) (b2 : Bool) (l2 : List Nat) (e2 : Int) (w : Int) (c0 : Dig l1) (c1 : l1.length ≤ 9223372036854775807) (c2 : (-9223372036854775808 : Int) ≤ e1 ∧ e1 ≤ 9223372036854775807) (c3 : Dig l2) (c4 : l2.length ≤ 9223372036854775807) (c5 : (-9223372036854775808 : Int) ≤ e2 ∧ e2 ≤ 9223372036854775807) (c6 : (-9223372036854775808 : Int) ≤ w ∧ w ≤ 9223372036854775807) : Impl Tryz.prog Amb 12 [(.agg [(.bool b1), (.sl 1 (U l1)), (.int .i64 e1), (.bool b2), (.sl 1 (U l2)), (.int .i64 e2)]), .int .i64 w] (.bool true) := by
 have w1 := Int.emod_nonneg w (show (100 : Int) ≠ 0 by omega)
 have w2 := Int.emod_lt_of_pos w (show (0 : Int) < 100 by omega)
 obtain ⟨m, ee, n, f, ok, hA, lm, le, hok⟩ := l17_arg b1 l1 e1 b2 l2 e2 10 c0 c1 c2 c3 c4 c5 oO
 cases ok with
 | false => exact l17_SquaresF b1 l1 e1 b2 l2 e2 w m ee n f 0 0 0 0 0 0 0 0 0 0 0 0 0 0 0 0 0 0 0 0 0 0 0 0 0 0 0 0 0 0 0 0 0 0 0 0 0 0 0 c6 l17_awake hA
 | true =>
  obtain ⟨⟨t1, _⟩, _⟩ := hok rfl
  have s1 := dv_tople t1
  have d10 : dv 1 10 = 1024 := of_decide_eq_true (by kernel_rfl)
  rw [d10] at s1
  have nm := L_abs_neg m
  have hN := r08_Neg m ee oO
  generalize hv : w % 100 = v at *
  obtain ⟨sa, sb, hS, os, bs, eS⟩ := pt_S m ee v oO oO oO (by constructor <;> grind)
  obtain ⟨ca, cb, hC, oc, bc, eC⟩ := pt_C m ee v oO oO oO (by constructor <;> grind)
  obtain ⟨ta, tb, hT, ot, bt, eT⟩ := pt_S (-m) ee v oO oO oO (by rw [dv_neg]; constructor <;> grind)
  obtain ⟨da, db, hD, od, bd, eD⟩ := pt_C (-m) ee v oO oO oO (by rw [dv_neg]; constructor <;> grind)
  have P1 : (1 : Int) ≤ 2 ^ v.toNat := two_pos _
  have Lg : ∀ x : Int, -(2 ^ v.toNat) ≤ x → x ≤ 2 ^ v.toNat → L x.natAbs ≤ 8 := fun x h1 h2 => L_le2 (w := v) oO oO oO
  obtain ⟨pa, pb, hP, op, lp, vp, p1, p2⟩ := g_mul sa sb sa sb v oO os os (Lg _ oO oO) (Lg _ oO oO) (Lg _ oO oO) (Lg _ oO oO)
  obtain ⟨qa, qb, hQ, oq, lq, vq, q1, q2⟩ := g_mul ca cb ca cb v oO oc oc (Lg _ oO oO) (Lg _ oO oO) (Lg _ oO oO) (Lg _ oO oO)
  have p1 := p1 (-(2 ^ v.toNat)) fun x y hx hy => (prod_bd (by rcases hx with h | h <;> omega) (by rcases hy with h | h <;> omega)).1
  have p2 := p2 (2 ^ v.toNat) fun x y hx hy => (prod_bd (by rcases hx with h | h <;> omega) (by rcases hy with h | h <;> omega)).2
  have q1 := q1 (-(2 ^ v.toNat)) fun x y hx hy => (prod_bd (by rcases hx with h | h <;> omega) (by rcases hy with h | h <;> omega)).1
  have q2 := q2 (2 ^ v.toNat) fun x y hx hy => (prod_bd (by rcases hx with h | h <;> omega) (by rcases hy with h | h <;> omega)).2
  have hO := g_add pa pb qa qb v oO op oq (Lg _ oO oO) (Lg _ oO oO) (Lg _ oO oO) (Lg _ oO oO)
  have hM := g_neg ta tb v oO ot (Lg _ oO oO) (Lg _ oO oO)
  have one := sq_unity oO os oc eS eC vp vq
  have L9 : ∀ x : Int, -(2 * 2 ^ v.toNat) ≤ x → x ≤ 2 * 2 ^ v.toNat → L x.natAbs ≤ 60 := fun x h1 h2 => Nat.le_trans (L_le2 (w := v) oO h1 h2) oO
  have hH := g_has (pa + qa) (pb + qb) 1 v oO (L9 _ oO oO) (L9 _ oO oO) oO oO oO
  have sc := sE_sc (t := v.toNat) oO
  rw [dv_neg] at eT eD
  have m1 := en_meet eT.neg eS (fun K => by show -(SN (-(dv m ee)) K) = SN (dv m ee) K; rw [SN_neg, Rat.neg_neg]) (by grind)
  have m2 := en_meet eC eD (fun K => by show CS (dv m ee) K = CS (-(dv m ee)) K; rw [CS_neg]) (by grind)
  have h1 := g_cmp (-tb) (-ta) sa sb v oO (L9 _ oO oO) (L9 _ oO oO) (L9 _ oO oO) (L9 _ oO oO) m1.2 m1.1
  have h2 := g_cmp ca cb da db v oO (L9 _ oO oO) (L9 _ oO oO) (L9 _ oO oO) (L9 _ oO oO) m2.2 m2.1
  subst hv
  exact l17_SquaresT b1 l1 e1 b2 l2 e2 w m ee n f (-m) ee _ _ _ _ _ _ _ _ _ _ _ _ _ _ _ _ _ _ _ _ _ _ _ _ _ _ _ _ _ _ _ _ 0 0 0 0 _ c6 l17_awake hA hN hS hC hT hD hP hQ hO hM (r07_Of 1 oO) hH h1 h2
end Go.Proofs.YtcbihoojfakhdaaGreatDoor

namespace Go.Proofs.YtcbihoojfakhdaaGreatDoor
open Go.ChangeShapes Go.WideShapes Go.ChangeAt Go.RowKit
theorem ownNone : ownKnob Tryz.prog.godebug = none := by kernel_rfl
theorem gTab : Tryz.prog.globalNamed "math/bits.deBruijn32tab" = some 0 := by kernel_rfl
theorem gTabType : (Tryz.prog.globals[0]?).map (·.type) = some 184 := by kernel_rfl
theorem cellsTab : Tryz.prog.cellsOf 184 = 32 := by kernel_rfl
theorem cellsU8 : Tryz.prog.cellsOf 5 = 1 := by kernel_rfl
theorem amb_of {W : World} (h : laidMetH Tryz.prog [("math/bits.deBruijn32tab", Rows.laid_math_bits_deBruijn32tab)] W) : Amb W := by
 have t : Lib.TabIs Tryz.prog W "math/bits.deBruijn32tab" .u8 tab32 := Lib.tabIs_of_head (rest := []) gTab gTabType Tryz.underlying184 Tryz.underlying5 cellsU8 cellsTab h
 intro i v hi
 have hlt : i < tab32.length := by
  rcases Nat.lt_or_ge i tab32.length with q | q
  ·exact q
  ·rw [List.getElem?_eq_none q] at hi; cases hi
 have h1 := t.cell gTab i hlt
 rw [List.getD_eq_getElem?_getD, hi] at h1
 exact h1
theorem int_wf {n : Int} (h : (Lit.int .i64 n).wf = true) : (-9223372036854775808 : Int) ≤ n ∧ n ≤ 9223372036854775807 := by
 simp only [Lit.wf, Bool.and_eq_true, decide_eq_true_eq] at h
 simp [IntKind.min, IntKind.max, IntKind.signed, IntKind.bits] at h
 omega
noncomputable def laidWorld (os : Os) : World :=
  { World.holding Tryz.prog os ⟨#[], #[], []⟩ with heap := (World.holding Tryz.prog os ⟨#[], #[], []⟩).heap.modify 0 fun
      | .cells _ t frozen => .cells (tab32.map (Value.int .u8)).toArray t frozen
      | o => o }
theorem post_of_below {H : Type} {enc : TypeId × Value → H} {P : Program} {f : Func} {s : ChangeSpec} {apart fresh handsOn again : Bool} {W W' : World} {args : Array Value} {v : Value} {ds gs : List (DataW H)} {before pa pv : List MemPlace}
  (hW : DataW.Whole enc P f.params.toList s.vars apart W args.toList ds gs before)
  (hres : ∀ (b : Nat) (sp : Nat → Bool) (hd : Bool), DataW.TrodAll enc P W' b sp hd f.resultTypes.toList (v.resultList f.resultTypes.size) (s.fn H (ds ++ gs)).results [])
  (hargs : ∀ sp : Nat → Bool, (∀ p ∈ before, sp p.block = true) → DataW.TrodAll enc P W' 0 sp true f.params.toList args.toList (s.fn H (ds ++ gs)).args pa)
  (hvars : ∀ sp : Nat → Bool, (∀ p ∈ before, sp p.block = true) → DataW.TrodVars enc P W' sp s.vars (s.fn H (ds ++ gs)).vars pv)
  (hps : before = pa ++ pv) (hb : Below W.heap.size W W')
  (hok : ∀ (j : Nat) (t : TypeId) (r : Value), f.resultTypes[j]? = some t → (v.resultList f.resultTypes.size)[j]? = some r → Value.okWide P W' .any 0 t r) : s.post enc P f apart fresh handsOn again W args v W' := by
 have lt := hW.lt
 have old : ∀ p ∈ before, (fun b => decide (b < W.heap.size)) p.block = true := fun p hp => decide_eq_true (lt p hp)
 subst hps
 refine ⟨ds, gs, pa ++ pv, [], pa, pv, hW, hres _ _ _, hargs _ old, hvars _ old, hb.frame _, fun _ => ?_⟩
 obtain ⟨_, _, _, _, _, hz, hn⟩ := hW
 have h1 := trodAll_append (hargs (fun _ => true) fun _ _ => rfl) (hres 0 (fun _ => true) true)
 refine ⟨hok, _, _, _, ⟨_, pv, h1, hvars _ fun _ _ => rfl, rfl, fun b off hp => ?_, fun ha => ?_⟩, fun p hp _ => ?_⟩
 ·have hp' : MemPlace.cell b off ∈ pa ++ pv := by simpa using hp
  rw [hb.frozen (lt _ hp')]
  exact hz b off hp'
 ·simpa using hn ha
 ·simpa using hp
end Go.Proofs.YtcbihoojfakhdaaGreatDoor

namespace Go.Proofs.YtcbihoojfakhdaaGreatDoor
open Go.ChangeShapes Go.WideShapes Go.ChangeAt Go.RowKit
set_option maxRecDepth 100000
variable {H : Type} {enc : TypeId × Value → H} {W : World} {sp : Nat → Bool} {held : Bool}
theorem laidOut : laidOutB Tryz.prog = true := by kernel_rfl
theorem cellsU32 : Tryz.prog.cellsOf 141 = 1 := by kernel_rfl
theorem cellsSl : Tryz.prog.cellsOf 22 = 1 := by kernel_rfl
theorem cellsBool : Tryz.prog.cellsOf 4 = 1 := by kernel_rfl
theorem cellsInt : Tryz.prog.cellsOf 3 = 1 := by kernel_rfl
theorem cellsZ : Tryz.prog.cellsOf 24 = 2 := by kernel_rfl
theorem cellsY : Tryz.prog.cellsOf 26 = 3 := by kernel_rfl
theorem cellsW : Tryz.prog.cellsOf 38 = 6 := by kernel_rfl
theorem rdl_U (S : Nat → Prop) : ∀ l : List Nat, RdL W S (l.map fun (d : Nat) => Value.int .u32 (d : Int)) (U l)
 | [] => .nil
 | _ :: l => .cons .int (rdl_U S l)
theorem wf_u32 {n : Int} (h : (Lit.int .u32 n).wf = true) : 0 ≤ n ∧ n < 4294967296 := by
 simp only [Lit.wf, Bool.and_eq_true, decide_eq_true_eq] at h
 simp [IntKind.min, IntKind.max, IntKind.signed, IntKind.bits] at h
 omega
theorem open_slice32 {n : Nat} {c : Value} {x : DataW H × List MemPlace} {b0 : Nat} (h : DataW.trod enc Tryz.prog W 0 sp held n 22 [c] = some x) (hok : Cell.okWide Tryz.prog W .any b0 22 c) :
  ∃ l : List Nat, Dig l ∧ l.length ≤ maxLen ∧ Rd W (fun _ => True) c (.sl 1 (U l)) := by
 rcases open_ints Tryz.underlying22 Tryz.underlying141 cellsU32 h with ⟨hc, _⟩ | ⟨a, len, cap, zs, hc, _, hl, hm, hz, _, hcell, hwf⟩
 ·obtain rfl : c = .slice none 0 0 := by simpa using hc
  exact ⟨[], (fun d hd => by cases hd), Nat.zero_le _, .nilsl⟩
 ·obtain rfl : c = .slice (some a) len cap := by simpa using hc
  have hlen : len ≤ zs.length := by rw [hz]; split <;> omega
  simp only [Cell.okWide, Cell.ok, Tryz.underlying22, World.has] at hok
  obtain ⟨_, _, _, hs, row, cells, hsh, _⟩ := hok
  obtain ⟨ab, ao, spot⟩ := a
  simp only at hs hsh
  subst hs
  have hb : ab < W.heap.size := by
   unfold World.shape? at hsh
   split at hsh
   ·rename_i q; exact (Array.getElem?_eq_some_iff.1 q).1
   ·cases hsh
  refine ⟨(zs.take len).map Int.toNat, ?_, ?_, ?_⟩
  ·intro d hd
   obtain ⟨z, hz', rfl⟩ := List.mem_map.1 hd
   have := wf_u32 (hwf z (List.mem_of_mem_take hz'))
   show z.toNat < 4294967296
   omega
  ·simp; omega
  ·refine .sl (vals := ((zs.take len).map Int.toNat).map fun (d : Nat) => Value.int .u32 (d : Int)) trivial hb hl (by simp [U]; omega) (rdl_U _ _) ?_
   intro i v hv
   simp only [List.getElem?_map, Option.map_eq_some_iff] at hv
   obtain ⟨d, ⟨z, hz', rfl⟩, rfl⟩ := hv
   have hi : i < len := by
    rcases Nat.lt_or_ge i len with q | q
    ·exact q
    ·rw [List.getElem?_eq_none (by simp; omega)] at hz'; cases hz'
   rw [List.getElem?_take, if_pos hi] at hz'
   have h1 := hcell i (by omega)
   rw [List.getD_eq_getElem?_getD, hz'] at h1
   have h2 := wf_u32 (hwf z (List.mem_of_getElem? hz'))
   have h3 : ((z.toNat : Nat) : Int) = z := Int.toNat_of_nonneg h2.1
   simp only [Option.getD_some] at h1
   rw [h3]
   have h4 : (Addr.mk ab ao none).add i = ⟨ab, ao + i, none⟩ := by
    unfold Addr.add; split
    ·rename_i q; subst q; rfl
    ·rfl
   rw [h4] at h1
   exact h1
theorem open_Z {n : Nat} {c0 c1 : Value} {x : DataW H × List MemPlace} {b0 : Nat} (h : DataW.trod enc Tryz.prog W 0 sp held n 24 [c0, c1] = some x) (hok : Cell.okWide Tryz.prog W .any b0 22 c1) :
  ∃ (b : Bool) (l : List Nat), Dig l ∧ l.length ≤ maxLen ∧ RdL W (fun _ => True) [c0, c1] [.bool b, .sl 1 (U l)] := by
 obtain ⟨y0, y1, m, _, _, h0, h1⟩ := trod_struct2 Tryz.underlying24 h
 have k0 : DataW.trod enc Tryz.prog W 0 sp held m 4 [c0] = some y0 := by simpa [cellsBool] using h0
 have k1 : DataW.trod enc Tryz.prog W 0 sp held m 22 [c1] = some y1 := by simpa [cellsSl] using h1
 obtain ⟨b, hb, _⟩ := DataW.trod_bool Tryz.underlying4 k0
 obtain rfl : c0 = .bool b := by simpa using hb
 obtain ⟨l, d, e, r⟩ := open_slice32 k1 hok
 exact ⟨b, l, d, e, .cons .bool (.cons r .nil)⟩
theorem open_Y {n : Nat} {c0 c1 c2 : Value} {x : DataW H × List MemPlace} {b0 : Nat} (h : DataW.trod enc Tryz.prog W 0 sp held n 26 [c0, c1, c2] = some x) (hok : Cell.okWide Tryz.prog W .any b0 22 c1) :
  ∃ (b : Bool) (l : List Nat) (e : Int), Dig l ∧ l.length ≤ maxLen ∧ ((-9223372036854775808 : Int) ≤ e ∧ e ≤ 9223372036854775807) ∧ RdL W (fun _ => True) [c0, c1, c2] [.bool b, .sl 1 (U l), .int .i64 e] := by
 obtain ⟨y0, y1, m, _, _, h0, h1⟩ := trod_struct2 Tryz.underlying26 h
 have k0 : DataW.trod enc Tryz.prog W 0 sp held m 24 [c0, c1] = some y0 := by simpa [cellsZ] using h0
 have k1 : DataW.trod enc Tryz.prog W 0 sp held m 3 [c2] = some y1 := by simpa [cellsInt] using h1
 obtain ⟨b, l, d, e, r⟩ := open_Z k0 hok
 obtain ⟨z, hz, _, hw⟩ := DataW.trod_int Tryz.underlying3 k1
 obtain rfl : c2 = .int .i64 z := by simpa using hz
 cases r with | cons r0 r => cases r with | cons r1 r => cases r with | nil =>
  exact ⟨b, l, z, d, e, int_wf hw, .cons r0 (.cons r1 (.cons .int .nil))⟩
theorem array6 {α : Type} {cs : Array α} (h : cs.size = 6) : ∃ c0 c1 c2 c3 c4 c5, cs = #[c0, c1, c2, c3, c4, c5] := by
 obtain ⟨l⟩ := cs
 match l, h with
 | [c0, c1, c2, c3, c4, c5], _ => exact ⟨c0, c1, c2, c3, c4, c5, rfl⟩
theorem open_W {v : Value} {d : DataW H} {p : List MemPlace} {b0 : Nat} (hv : Value.okWide Tryz.prog W .any b0 38 v) (h : DataW.Trod enc Tryz.prog W 0 sp held 38 v d p) :
  ∃ (b : Bool) (l : List Nat) (e : Int) (c : Bool) (r : List Nat) (f : Int), (Dig l ∧ l.length ≤ maxLen ∧ ((-9223372036854775808 : Int) ≤ e ∧ e ≤ 9223372036854775807)) ∧ (Dig r ∧ r.length ≤ maxLen ∧ ((-9223372036854775808 : Int) ≤ f ∧ f ≤ 9223372036854775807)) ∧
   Rd W (fun _ => True) v (.agg [.bool b, .sl 1 (U l), .int .i64 e, .bool c, .sl 1 (U r), .int .i64 f]) := by
 simp only [Value.okWide, Tryz.underlying38] at hv
 obtain ⟨cs, rfl, hsz, ts, hts, _, hrow⟩ := hv
 have e0 : Tryz.prog.cellTypes Tryz.prog.depth 38 = some [4, 22, 3, 4, 22, 3] := by kernel_rfl
 rw [e0] at hts
 obtain rfl := Option.some.inj hts
 obtain ⟨c0, c1, c2, c3, c4, c5, rfl⟩ := array6 (hsz.trans cellsW)
 obtain ⟨u1, q1, ok1⟩ := hrow 1 c1 rfl
 obtain rfl : 22 = u1 := by simpa using q1
 obtain ⟨u4, q4, ok4⟩ := hrow 4 c4 rfl
 obtain rfl : 22 = u4 := by simpa using q4
 obtain ⟨n, hn⟩ := h
 obtain ⟨y0, y1, m, _, _, h0, h1⟩ := trod_struct2 Tryz.underlying38 hn
 have k0 : DataW.trod enc Tryz.prog W 0 sp held m 26 [c0, c1, c2] = some y0 := by simpa [cellsY, Value.cells] using h0
 have k1 : DataW.trod enc Tryz.prog W 0 sp held m 26 [c3, c4, c5] = some y1 := by simpa [cellsY, Value.cells] using h1
 obtain ⟨b, l, e, d1, d2, d3, r1⟩ := open_Y k0 ok1
 obtain ⟨c, r, f, f1, f2, f3, r2⟩ := open_Y k1 ok4
 refine ⟨b, l, e, c, r, f, ⟨d1, d2, d3⟩, ⟨f1, f2, f3⟩, ?_⟩
 cases r1 with | cons a0 r1 => cases r1 with | cons a1 r1 => cases r1 with | cons a2 r1 => cases r1 with | nil =>
 cases r2 with | cons b0 r2 => cases r2 with | cons b1 r2 => cases r2 with | cons b2 r2 => cases r2 with | nil =>
  exact .agg (.cons a0 (.cons a1 (.cons a2 (.cons b0 (.cons b1 (.cons b2 .nil))))))
end Go.Proofs.YtcbihoojfakhdaaGreatDoor

namespace Go.Proofs.YtcbihoojfakhdaaGreatDoor.circularSquares
open Go.ChangeShapes Go.WideShapes Go.ChangeAt Go.RowKit
set_option maxRecDepth 100000 in
theorem contract (H : Type) (enc : TypeId × Value → H) (W : World) (base : Nat) (args : Array Value) (ds gs : List (DataW H)) (before : List MemPlace)
  (hval : ∀ (j : Nat) t v, Tryz.f12.params[j]? = some t → args[j]? = some v → Value.okWide Tryz.prog W .any base t v)
  (hW : DataW.Whole enc Tryz.prog Tryz.f12.params.toList Rows.circularSquaresSpec.vars false W args.toList ds gs before) (hL : laidMetH Tryz.prog Rows.circularSquaresRow.laid W) :
  Calls Tryz.prog 12 args W fun e W' => ∃ v, e = .returned v ∧ Rows.circularSquaresSpec.post enc Tryz.prog Tryz.f12 false true false false W args v W' := by
 have hW' := hW
 obtain ⟨p, q, hA0, hV, rfl, hfz, hnd⟩ := hW
 have hA : DataW.TrodAll enc Tryz.prog W 0 (fun _ => true) true Tryz.f12.params.toList args.toList ds p := hA0
 rw [Tryz.params12] at hA hval
 obtain ⟨v0, vs0, d0, ds0, p0, q0, hargs0, rfl, rfl, h0, r0⟩ := trodAll_cons hA
 obtain ⟨v1, vs1, d1, ds1, p1, q1, hargs1, rfl, rfl, h1, r1⟩ := trodAll_cons r0
 obtain ⟨rfl, rfl, rfl⟩ := trodAll_nil r1
 obtain rfl : args = #[v0, v1] := by cases args; simp_all
 obtain ⟨rfl, rfl⟩ := trodVars_none hV
 obtain ⟨b0, l0, e0, c0, s0, f0, ⟨a0, a0', a0''⟩, ⟨z0, z0', z0''⟩, t0⟩ := open_W (hval 0 38 v0 rfl rfl) h0
 have m0 : l0.length ≤ 9223372036854775807 := a0'
 have n0 : s0.length ≤ 9223372036854775807 := z0'
 have k1 := h1
 obtain ⟨x1, rfl, rfl, rfl, w1⟩ := open_int Tryz.underlying3 (hval 1 3 v1 rfl rfl) h1
 have b1 := int_wf w1
 clear hA0
 have hlt := hW'.lt
 have hI := l17_CircularSquares b0 l0 e0 c0 s0 f0 x1 a0 m0 a0'' z0 n0 z0'' b1
 have hC := hI.2 W (fun _ => True) [v0, .int .i64 x1] (amb_of hL) (fun _ _ => trivial) (.cons t0 (.cons .int (.nil)))
 refine hC.mono fun e W' hh => ?_
 obtain ⟨v, rfl, hv, hb⟩ := hh
 have hv := hv.bool_inv
 subst hv
 exact ⟨_, rfl, post_of_below (pa := (p0 ++ ([] ++ []))) (pv := []) hW' (fun _ _ _ => trodAll_cons_mk (shut_bool Tryz.underlying4 _) trodAll_mk0) (fun sp hsp => (trodAll_cons_mk (WideElems.Trod_stays laidOut (by kernel_rfl) (of_decide_eq_true (by kernel_rfl)) h0 (fun x hx => hb.same (hlt x (by simp [hx]))) (fun x hx => hsp x (by simp [hx]))) (trodAll_cons_mk (shut_int Tryz.underlying3 w1) trodAll_mk0))) (fun _ _ => rfl) rfl
  hb (ok_one (by kernel_rfl) rfl (okWide_bool_mk Tryz.underlying4 _))⟩
theorem laid_met (os : Os) : laidMet Tryz.prog Rows.circularSquaresRow.laid ((laidWorld os).forCall (fun _ _ => 0) ⟨#[], #[.agg #[.bool false, .slice none 0 0, .int .i64 0, .bool false, .slice none 0 0, .int .i64 0], .int .i64 0], []⟩).memory :=
 laidMet_of_run' 64 (by kernel_rfl) (by kernel_rfl)
theorem reads (os : Os) {H : Type} (enc : TypeId × Value → H) : ∃ places, DataW.whole enc Tryz.prog ((laidWorld os).forCall (fun _ _ => 0) ⟨#[], #[.agg #[.bool false, .slice none 0 0, .int .i64 0, .bool false, .slice none 0 0, .int .i64 0], .int .i64 0], []⟩).memory Tryz.f12.params.toList Rows.circularSquaresSpec.vars false #[Value.agg #[.bool false, .slice none 0 0, .int .i64 0, .bool false, .slice none 0 0, .int .i64 0], Value.int .i64 0].toList 64 = some ([.agg [.agg [.agg [.lit (.bool false), .nil], .lit (.int .i64 0)], .agg [.agg [.lit (.bool false), .nil], .lit (.int .i64 0)]], .lit (.int .i64 0)], [], places) :=
 ⟨[], by kernel_rfl⟩
set_option maxRecDepth 100000 in
theorem lifted (os : Os) (started : os.Started) (H : Type) (enc : TypeId × Value → H) (F : Stop.Interp) :
  ReturnsInHanded {} Tryz.checked os 12 .any ((OpenSpec.ofChange Rows.circularSquaresSpec).preRow enc Tryz.prog Tryz.f12 Rows.circularSquaresRow.domain false Rows.circularSquaresRow.laid) (((OpenSpec.ofChange Rows.circularSquaresSpec).at F).post enc Tryz.prog Tryz.f12 false true false false) := by
 obtain ⟨places, hx⟩ := reads os enc
 refine returnsInHanded_of_row (C := Tryz.checked) (s := OpenSpec.ofChange Rows.circularSquaresSpec) ownNone started (by kernel_rfl) Tryz.func12
  (witness_row_at (enc := enc) (C := Tryz.checked) false (laidWorld os) #[.agg #[.bool false, .slice none 0 0, .int .i64 0, .bool false, .slice none 0 0, .int .i64 0], .int .i64 0] rfl (by kernel_rfl) (by kernel_rfl) (by kernel_rfl)
   (OpenSpec.preRow_of_cond 64 hx (by kernel_rfl) (fun k hk => by cases hk) (by kernel_rfl) (laid_met os))) ?_
 intro W base args ds gs before hval hW _ _ _ hL _ _
 exact contract H enc W base args ds gs before hval hW hL
end Go.Proofs.YtcbihoojfakhdaaGreatDoor.circularSquares
