/-
  Lower layers: what functions of the program compute, and plain facts. Conditions: as the theorems say.
-/
import Derived.Test.YtlaciaoiihannaaGreatDoorChecked
import Derived.Test.YtlaciaoiihannaaGreatDoorRows
import Derived.WalkKit
import Derived.ProofKit
import Derived.OpenShut
import Derived.Deep.DeepHandedRow
import Derived.Lib.LaidTab
import Derived.Lib.SmallJoins
import Derived.ChangeSlices
import Derived.Carry
import Derived.Test.YtlaciaoiihannaaGreatDoorCards
import Derived.Test.YtlaciaoiihannaaGreatDoorTie
import Derived.Test.YtlaciaoiihannaaGreatDoorXcT
set_option linter.unusedVariables false
set_option linter.unusedSimpArgs false
namespace Go.Proofs.YtlaciaoiihannaaGreatDoor
open Go.RowKit
set_option maxRecDepth 100000
set_option maxHeartbeats 2000000
theorem l14_CloseFF (b1 : Bool) (l1 : List Nat) (e1 : Int) (b2 : Bool) (l2 : List Nat) (e2 : Int) (w : Int) (m : Int) (ee : Int) (n : Int) (f : Int) (c0 : (-9223372036854775808 : Int) ≤ w ∧ w ≤ 9223372036854775807) (c1 : Impl Tryz.prog Amb 16 [(.agg [(.bool b1), (.sl 1 (U l1)), (.int .i64 e1), (.bool b2), (.sl 1 (U l2)), (.int .i64 e2)]), (.int .i64 5)] (.tup [(wV m ee n f), (.bool false)])) : Impl Tryz.prog Amb 3 [(.agg [(.bool b1), (.sl 1 (U l1)), (.int .i64 e1), (.bool b2), (.sl 1 (U l2)), (.int .i64 e2)]), (.int .i64 w), (.bool false)] (.bool true) := by
 exact impl_ob hP hAmb Tryz.func3 (by kernel_rfl) (.lit <| .call (.bool true) <| .lits 4 <| .call (.tup [(wV m ee n f), (.bool false)]) <| .lits 4 <| .ret)
  (cast_ob (aI True.intro (aI (l14_awake ) (aI (c1 ) ((vsub_refl (.bool true)))))) (by kernel_rfl))
theorem l14_CloseFT (b1 : Bool) (l1 : List Nat) (e1 : Int) (b2 : Bool) (l2 : List Nat) (e2 : Int) (w : Int) (m : Int) (ee : Int) (n : Int) (f : Int) (c0 : (-9223372036854775808 : Int) ≤ w ∧ w ≤ 9223372036854775807) (c1 : Impl Tryz.prog Amb 16 [(.agg [(.bool b1), (.sl 1 (U l1)), (.int .i64 e1), (.bool b2), (.sl 1 (U l2)), (.int .i64 e2)]), (.int .i64 5)] (.tup [(wV m ee n f), (.bool false)])) : Impl Tryz.prog Amb 3 [(.agg [(.bool b1), (.sl 1 (U l1)), (.int .i64 e1), (.bool b2), (.sl 1 (U l2)), (.int .i64 e2)]), (.int .i64 w), (.bool true)] (.bool true) := by
 exact impl_ob hP hAmb Tryz.func3 (by kernel_rfl) (.lit <| .call (.bool true) <| .lits 4 <| .call (.tup [(wV m ee n f), (.bool false)]) <| .lits 4 <| .ret)
  (cast_ob (aI True.intro (aI (l14_awake ) (aI (c1 ) ((vsub_refl (.bool true)))))) (by kernel_rfl))
def l14_CloseTF_0_mk (b1 : Bool) (l1 : List Nat) (e1 : Int) (b2 : Bool) (l2 : List Nat) (e2 : Int) (w m ee n f _ _ _ _ _ _ _ _ _ _ _ _ _ _ _ _ _ _ _ _ _ _ _ _ : Int) (x : (Int) ⊕ ((Int) ⊕ (Int))) : St := Sum.elim (fun (x : Int) => ⟨mkS 64 [(7, (.own 1 0)), (29, (.osl 2 0 2 1)), (30, (.val (.int .i64 2))), (31, (.val (.int .i64 0)))], [⟨true, false, [(V.bool b1), (V.sl 1 (U l1)), (V.int .i64 e1), (V.bool b2), (V.sl 1 (U l2)), (V.int .i64 e2)]⟩, ⟨true, false, [(V.bool (decide (m < 0))), (N m.natAbs), (V.int .i64 ee), (V.bool (decide (n < 0))), (N n.natAbs), (V.int .i64 f)]⟩, ⟨true, false, [(V.int .i64 (w % 120)), (V.int .i64 (w % 4))]⟩]⟩) (fun (x : (Int) ⊕ (Int)) => Sum.elim (fun (x : Int) => ⟨mkS 64 [(7, (.own 1 0)), (29, (.osl 2 0 2 1)), (30, (.val (.int .i64 2))), (31, (.val (.int .i64 1)))], [⟨true, false, [(V.bool b1), (V.sl 1 (U l1)), (V.int .i64 e1), (V.bool b2), (V.sl 1 (U l2)), (V.int .i64 e2)]⟩, ⟨true, false, [(V.bool (decide (m < 0))), (N m.natAbs), (V.int .i64 ee), (V.bool (decide (n < 0))), (N n.natAbs), (V.int .i64 f)]⟩, ⟨true, false, [(V.int .i64 (w % 120)), (V.int .i64 (w % 4))]⟩]⟩) (fun (x : Int) => ⟨mkS 64 [(7, (.own 1 0)), (29, (.osl 2 0 2 1)), (30, (.val (.int .i64 2))), (31, (.val (.int .i64 2)))], [⟨true, false, [(V.bool b1), (V.sl 1 (U l1)), (V.int .i64 e1), (V.bool b2), (V.sl 1 (U l2)), (V.int .i64 e2)]⟩, ⟨true, false, [(V.bool (decide (m < 0))), (N m.natAbs), (V.int .i64 ee), (V.bool (decide (n < 0))), (N n.natAbs), (V.int .i64 f)]⟩, ⟨true, false, [(V.int .i64 (w % 120)), (V.int .i64 (w % 4))]⟩]⟩) x) x
def l14_CloseTF_0_I (_ : Bool) (_ : List Nat) (_ : Int) (_ : Bool) (_ : List Nat) (_ : Int) (_ _ _ _ _ _ _ _ _ _ _ _ _ _ _ _ _ _ _ _ _ _ _ _ _ _ _ _ _ : Int) (x : (Int) ⊕ ((Int) ⊕ (Int))) : Prop := Sum.elim (fun (x : Int) => x = x) (fun (x : (Int) ⊕ (Int)) => Sum.elim (fun (x : Int) => x = x) (fun (x : Int) => x = x) x) x
def l14_CloseTF_0_mu (_ : Bool) (_ : List Nat) (_ : Int) (_ : Bool) (_ : List Nat) (_ : Int) (_ _ _ _ _ _ _ _ _ _ _ _ _ _ _ _ _ _ _ _ _ _ _ _ _ _ _ _ _ : Int) (x : (Int) ⊕ ((Int) ⊕ (Int))) : Nat := Sum.elim (fun (x : Int) => 9 - 0) (fun (x : (Int) ⊕ (Int)) => Sum.elim (fun (x : Int) => 9 - 1) (fun (x : Int) => 9 - 2) x) x
def l14_CloseTF_0_ex (b1 : Bool) (l1 : List Nat) (e1 : Int) (b2 : Bool) (l2 : List Nat) (e2 : Int) (_ m ee n f _ _ _ _ _ _ _ _ _ _ _ _ _ _ _ _ _ _ _ _ _ _ _ _ : Int) (y : Int) : Ex × St := (.exit 0, ⟨mkS 64 [], [⟨true, false, [(V.bool b1), (V.sl 1 (U l1)), (V.int .i64 e1), (V.bool b2), (V.sl 1 (U l2)), (V.int .i64 e2)]⟩, ⟨true, false, [(V.bool (decide (m < 0))), (N m.natAbs), (V.int .i64 ee), (V.bool (decide (n < 0))), (N n.natAbs), (V.int .i64 f)]⟩]⟩)
def l14_CloseTF_0_J (_ : Bool) (_ : List Nat) (_ : Int) (_ : Bool) (_ : List Nat) (_ : Int) (_ _ _ _ _ _ _ _ _ _ _ _ _ _ _ _ _ _ _ _ _ _ _ _ _ _ _ _ _ : Int) (y : Int) : Prop := y = y
abbrev l14_CloseTF_0_N (b1 : Bool) (l1 : List Nat) (e1 : Int) (b2 : Bool) (l2 : List Nat) (e2 : Int) (w m ee n f y0a y0b y0c y0d l0a l0b l0c l0d h0a h0b h0c h0d y1a y1b y1c y1d l1a l1b l1c l1d h1a h1b h1c h1d : Int) := NX (l14_CloseTF_0_mk b1 l1 e1 b2 l2 e2 w m ee n f y0a y0b y0c y0d l0a l0b l0c l0d h0a h0b h0c h0d y1a y1b y1c y1d l1a l1b l1c l1d h1a h1b h1c h1d) (l14_CloseTF_0_I b1 l1 e1 b2 l2 e2 w m ee n f y0a y0b y0c y0d l0a l0b l0c l0d h0a h0b h0c h0d y1a y1b y1c y1d l1a l1b l1c l1d h1a h1b h1c h1d) (l14_CloseTF_0_mu b1 l1 e1 b2 l2 e2 w m ee n f y0a y0b y0c y0d l0a l0b l0c l0d h0a h0b h0c h0d y1a y1b y1c y1d l1a l1b l1c l1d h1a h1b h1c h1d) (l14_CloseTF_0_ex b1 l1 e1 b2 l2 e2 w m ee n f y0a y0b y0c y0d l0a l0b l0c l0d h0a h0b h0c h0d y1a y1b y1c y1d l1a l1b l1c l1d h1a h1b h1c h1d) (l14_CloseTF_0_J b1 l1 e1 b2 l2 e2 w m ee n f y0a y0b y0c y0d l0a l0b l0c l0d h0a h0b h0c h0d y1a y1b y1c y1d l1a l1b l1c l1d h1a h1b h1c h1d)
theorem l14_CloseTF_0 (b1 : Bool) (l1 : List Nat) (e1 : Int) (b2 : Bool) (l2 : List Nat) (e2 : Int) (w m ee n f y0a y0b y0c y0d l0a l0b l0c l0d h0a h0b h0c h0d y1a y1b y1c y1d l1a l1b l1c l1d h1a h1b h1c h1d : Int) (c0 : (-9223372036854775808 : Int) ≤ w ∧ w ≤ 9223372036854775807)(c1 : Impl Tryz.prog Amb 16 [(.agg [(.bool b1), (.sl 1 (U l1)), (.int .i64 e1), (.bool b2), (.sl 1 (U l2)), (.int .i64 e2)]), (.int .i64 5)] (.tup [(wV m ee n f), (.bool true)]))(c2 : Impl Tryz.prog Amb 19 [(wV m ee n f), (.int .i64 (w % 120))] (.tup [(wV y0a y0b y0c y0d), (.int .i64 0)]))(c3 : Impl Tryz.prog Amb 21 [(yV m ee), (.int .i64 (w % 120))] (wV l0a l0b l0c l0d))(c4 : Impl Tryz.prog Amb 21 [(yV n f), (.int .i64 (w % 120))] (wV h0a h0b h0c h0d))(c5 : Impl Tryz.prog Amb 20 [(wV y0a y0b y0c y0d), (wV l0a l0b l0c l0d), (wV h0a h0b h0c h0d), (.int .i64 (w % 120))] (.bool true))(c6 : Impl Tryz.prog Amb 19 [(wV m ee n f), (.int .i64 (w % 4))] (.tup [(wV y1a y1b y1c y1d), (.int .i64 0)]))(c7 : Impl Tryz.prog Amb 21 [(yV m ee), (.int .i64 (w % 4))] (wV l1a l1b l1c l1d))(c8 : Impl Tryz.prog Amb 21 [(yV n f), (.int .i64 (w % 4))] (wV h1a h1b h1c h1d))(c9 : Impl Tryz.prog Amb 20 [(wV y1a y1b y1c y1d), (wV l1a l1b l1c l1d), (wV h1a h1b h1c h1d), (.int .i64 (w % 4))] (.bool true))(c10 : 0 ≤ y0a ∧ 0 ≤ y1a) (x0 : (Int) ⊕ ((Int) ⊕ (Int))) (hI : l14_CloseTF_0_I b1 l1 e1 b2 l2 e2 w m ee n f y0a y0b y0c y0d l0a l0b l0c l0d h0a h0b h0c h0d y1a y1b y1c y1d l1a l1b l1c l1d h1a h1b h1c h1d x0) : LoopOk Tryz.prog Amb (loopN Tryz.f3 0) (l14_CloseTF_0_mk b1 l1 e1 b2 l2 e2 w m ee n f y0a y0b y0c y0d l0a l0b l0c l0d h0a h0b h0c h0d y1a y1b y1c y1d l1a l1b l1c l1d h1a h1b h1c h1d x0) (fun e st_ => ∃ y, l14_CloseTF_0_J b1 l1 e1 b2 l2 e2 w m ee n f y0a y0b y0c y0d l0a l0b l0c l0d h0a h0b h0c h0d y1a y1b y1c y1d l1a l1b l1c l1d h1a h1b h1c h1d y ∧ l14_CloseTF_0_ex b1 l1 e1 b2 l2 e2 w m ee n f y0a y0b y0c y0d l0a l0b l0c l0d h0a h0b h0c h0d y1a y1b y1c y1d l1a l1b l1c l1d h1a h1b h1c h1d y = (e, st_)) :=
 loop_ob hP hAmb ⟨[7, 29, 30, 31], 3, []⟩ (l14_CloseTF_0_mk b1 l1 e1 b2 l2 e2 w m ee n f y0a y0b y0c y0d l0a l0b l0c l0d h0a h0b h0c h0d y1a y1b y1c y1d l1a l1b l1c l1d h1a h1b h1c h1d) (l14_CloseTF_0_I b1 l1 e1 b2 l2 e2 w m ee n f y0a y0b y0c y0d l0a l0b l0c l0d h0a h0b h0c h0d y1a y1b y1c y1d l1a l1b l1c l1d h1a h1b h1c h1d) (l14_CloseTF_0_mu b1 l1 e1 b2 l2 e2 w m ee n f y0a y0b y0c y0d l0a l0b l0c l0d h0a h0b h0c h0d y1a y1b y1c y1d l1a l1b l1c l1d h1a h1b h1c h1d) (l14_CloseTF_0_ex b1 l1 e1 b2 l2 e2 w m ee n f y0a y0b y0c y0d l0a l0b l0c l0d h0a h0b h0c h0d y1a y1b y1c y1d l1a l1b l1c l1d h1a h1b h1c h1d) (l14_CloseTF_0_J b1 l1 e1 b2 l2 e2 w m ee n f y0a y0b y0c y0d l0a l0b l0c l0d h0a h0b h0c h0d y1a y1b y1c y1d l1a l1b l1c l1d h1a h1b h1c h1d) x0 hI (Sum.elim (fun u => .lits 6 <| .call (.tup [(wV y0a y0b y0c y0d), (.int .i64 0)]) <| .lits 8 <| .no <| .lits 7 <| .call (wV l0a l0b l0c l0d) <| .lits 6 <| .call (wV h0a h0b h0c h0d) <| .lits 3 <| .call (.bool true) <| .lits 5 <| .yes <| .fin3 ⟨[7, 29, 30, 31], [0, 1, 2]⟩) (Sum.elim (fun u => .lits 6 <| .call (.tup [(wV y1a y1b y1c y1d), (.int .i64 0)]) <| .lits 8 <| .no <| .lits 7 <| .call (wV l1a l1b l1c l1d) <| .lits 6 <| .call (wV h1a h1b h1c h1d) <| .lits 3 <| .call (.bool true) <| .lits 5 <| .yes <| .fin3 ⟨[7, 29, 30, 31], [0, 1, 2]⟩) (fun u => .lits 2 <| .fin3 ⟨[], [0, 1]⟩))) (by
  rintro (u | u | u) hI
  ·skip
   have hI : u = u := hI
   have h1 := hI
   exact cast_ob (aI True.intro (aI (c2 ) (aI (decide_eq_false oO : (decide (y0a < 0)) = false) (aI (c3 ) (aI (c4 ) (aI (c5 ) (aI tT (aI tT ((nx_next (Sum.inr (Sum.inl u)) (show u = u from rfl) (show 9 - 1 < 9 - 0 by omega) : l14_CloseTF_0_N b1 l1 e1 b2 l2 e2 w m ee n f y0a y0b y0c y0d l0a l0b l0c l0d h0a h0b h0c h0d y1a y1b y1c y1d l1a l1b l1c l1d h1a h1b h1c h1d (Sum.inl u) .normal (l14_CloseTF_0_mk b1 l1 e1 b2 l2 e2 w m ee n f y0a y0b y0c y0d l0a l0b l0c l0d h0a h0b h0c h0d y1a y1b y1c y1d l1a l1b l1c l1d h1a h1b h1c h1d (Sum.inr (Sum.inl u))))))))))))) (by kernel_rfl)
  ·skip
   have hI : u = u := hI
   have h1 := hI
   exact cast_ob (aI True.intro (aI (c6 ) (aI (decide_eq_false oO : (decide (y1a < 0)) = false) (aI (c7 ) (aI (c8 ) (aI (c9 ) (aI tT (aI tT ((nx_next (Sum.inr (Sum.inr u)) (show u = u from rfl) (show 9 - 2 < 9 - 1 by omega) : l14_CloseTF_0_N b1 l1 e1 b2 l2 e2 w m ee n f y0a y0b y0c y0d l0a l0b l0c l0d h0a h0b h0c h0d y1a y1b y1c y1d l1a l1b l1c l1d h1a h1b h1c h1d (Sum.inr (Sum.inl u)) .normal (l14_CloseTF_0_mk b1 l1 e1 b2 l2 e2 w m ee n f y0a y0b y0c y0d l0a l0b l0c l0d h0a h0b h0c h0d y1a y1b y1c y1d l1a l1b l1c l1d h1a h1b h1c h1d (Sum.inr (Sum.inr u))))))))))))) (by kernel_rfl)
  ·skip
   have hI : u = u := hI
   have h1 := hI
   exact cast_ob (aI True.intro (aI tT ((nx_exit 0 ((l14_CloseTF_0_ex b1 l1 e1 b2 l2 e2 w m ee n f y0a y0b y0c y0d l0a l0b l0c l0d h0a h0b h0c h0d y1a y1b y1c y1d l1a l1b l1c l1d h1a h1b h1c h1d u).2) u (show u = u from rfl) rfl : l14_CloseTF_0_N b1 l1 e1 b2 l2 e2 w m ee n f y0a y0b y0c y0d l0a l0b l0c l0d h0a h0b h0c h0d y1a y1b y1c y1d l1a l1b l1c l1d h1a h1b h1c h1d (Sum.inr (Sum.inr u)) (.exit 0) ((l14_CloseTF_0_ex b1 l1 e1 b2 l2 e2 w m ee n f y0a y0b y0c y0d l0a l0b l0c l0d h0a h0b h0c h0d y1a y1b y1c y1d l1a l1b l1c l1d h1a h1b h1c h1d u).2))))) (by kernel_rfl))
theorem l14_CloseTF (b1 : Bool) (l1 : List Nat) (e1 : Int) (b2 : Bool) (l2 : List Nat) (e2 : Int) (w : Int) (m : Int) (ee : Int) (n : Int) (f : Int) (y0a : Int) (y0b : Int) (y0c : Int) (y0d : Int) (l0a : Int) (l0b : Int) (l0c : Int) (l0d : Int) (h0a : Int) (h0b : Int) (h0c : Int) (h0d : Int) (y1a : Int) (y1b : Int) (y1c : Int) (y1d : Int) (l1a : Int) (l1b : Int) (l1c : Int) (l1d : Int) (h1a : Int) (h1b : Int) (h1c : Int) (h1d : Int) (c0 : (-9223372036854775808 : Int) ≤ w ∧ w ≤ 9223372036854775807) (c1 : Impl Tryz.prog Amb 16 [(.agg [(.bool b1), (.sl 1 (U l1)), (.int .i64 e1), (.bool b2), (.sl 1 (U l2)), (.int .i64 e2)]), (.int .i64 5)] (.tup [(wV m ee n f), (.bool true)])) (c2 : Impl Tryz.prog Amb 19 [(wV m ee n f), (.int .i64 (w % 120))] (.tup [(wV y0a y0b y0c y0d), (.int .i64 0)])) (c3 : Impl Tryz.prog Amb 21 [(yV m ee), (.int .i64 (w % 120))] (wV l0a l0b l0c l0d)) (c4 : Impl Tryz.prog Amb 21 [(yV n f), (.int .i64 (w % 120))] (wV h0a h0b h0c h0d)) (c5 : Impl Tryz.prog Amb 20 [(wV y0a y0b y0c y0d), (wV l0a l0b l0c l0d), (wV h0a h0b h0c h0d), (.int .i64 (w % 120))] (.bool true)) (c6 : Impl Tryz.prog Amb 19 [(wV m ee n f), (.int .i64 (w % 4))] (.tup [(wV y1a y1b y1c y1d), (.int .i64 0)])) (c7 : Impl Tryz.prog Amb 21 [(yV m ee), (.int .i64 (w % 4))] (wV l1a l1b l1c l1d)) (c8 : Impl Tryz.prog Amb 21 [(yV n f), (.int .i64 (w % 4))] (wV h1a h1b h1c h1d)) (c9 : Impl Tryz.prog Amb 20 [(wV y1a y1b y1c y1d), (wV l1a l1b l1c l1d), (wV h1a h1b h1c h1d), (.int .i64 (w % 4))] (.bool true)) (c10 : 0 ≤ y0a ∧ 0 ≤ y1a) : Impl Tryz.prog Amb 3 [(.agg [(.bool b1), (.sl 1 (U l1)), (.int .i64 e1), (.bool b2), (.sl 1 (U l2)), (.int .i64 e2)]), (.int .i64 w), (.bool false)] (.bool true) := by
 exact impl_ob hP hAmb Tryz.func3 (by kernel_rfl) (.lit <| .call (.bool true) <| .lits 4 <| .call (.tup [(wV m ee n f), (.bool true)]) <| .lits 5 <| .call (.int .i64 (w % 120)) <| .lit <| .call (.int .i64 (w % 4)) <| .loop ⟨[7, 29, 30, 31], 3, []⟩ ((l14_CloseTF_0_mk b1 l1 e1 b2 l2 e2 w m ee n f y0a y0b y0c y0d l0a l0b l0c l0d h0a h0b h0c h0d y1a y1b y1c y1d l1a l1b l1c l1d h1a h1b h1c h1d (Sum.inl (0 : Int)))) (Int) (l14_CloseTF_0_ex b1 l1 e1 b2 l2 e2 w m ee n f y0a y0b y0c y0d l0a l0b l0c l0d h0a h0b h0c h0d y1a y1b y1c y1d l1a l1b l1c l1d h1a h1b h1c h1d) (l14_CloseTF_0_J b1 l1 e1 b2 l2 e2 w m ee n f y0a y0b y0c y0d l0a l0b l0c l0d h0a h0b h0c h0d y1a y1b y1c y1d l1a l1b l1c l1d h1a h1b h1c h1d) (fun y => .lit <| .ret))
  (cast_ob (aI True.intro (aI (l14_awake ) (aI (c1 ) (aI (mill_Mod w 120 oS oS) (have f4 := Int.emod_lt_of_pos w (show (0 : Int) < 120 by first | omega | assumption); have f3 := Int.emod_nonneg w (show (120 : Int) ≠ 0 by first | omega | assumption); aI (mill_Mod w 4 oS oS) (have f2 := Int.emod_lt_of_pos w (show (0 : Int) < 4 by first | omega | assumption); have f1 := Int.emod_nonneg w (show (4 : Int) ≠ 0 by first | omega | assumption); aI tT (aI (rfl : (l14_CloseTF_0_mk b1 l1 e1 b2 l2 e2 w m ee n f y0a y0b y0c y0d l0a l0b l0c l0d h0a h0b h0c h0d y1a y1b y1c y1d l1a l1b l1c l1d h1a h1b h1c h1d (Sum.inl (0 : Int))) = (l14_CloseTF_0_mk b1 l1 e1 b2 l2 e2 w m ee n f y0a y0b y0c y0d l0a l0b l0c l0d h0a h0b h0c h0d y1a y1b y1c y1d l1a l1b l1c l1d h1a h1b h1c h1d (Sum.inl (0 : Int)))) (aI (l14_CloseTF_0 b1 l1 e1 b2 l2 e2 w m ee n f y0a y0b y0c y0d l0a l0b l0c l0d h0a h0b h0c h0d y1a y1b y1c y1d l1a l1b l1c l1d h1a h1b h1c h1d c0 c1 c2 c3 c4 c5 c6 c7 c8 c9 c10 (Sum.inl (0 : Int)) (show (0 : Int) = (0 : Int) from rfl)) (fun y (hJ : l14_CloseTF_0_J b1 l1 e1 b2 l2 e2 w m ee n f y0a y0b y0c y0d l0a l0b l0c l0d h0a h0b h0c h0d y1a y1b y1c y1d l1a l1b l1c l1d h1a h1b h1c h1d y) => have hJ : y = y := hJ; (vsub_refl (.bool true))))))))))) (by kernel_rfl))
def l14_CloseTT_0_mk (b1 : Bool) (l1 : List Nat) (e1 : Int) (b2 : Bool) (l2 : List Nat) (e2 : Int) (w _ _ _ _ p q r t _ _ _ _ _ _ _ _ _ _ _ _ _ _ _ _ _ _ _ _ _ _ _ _ : Int) (x : (Int) ⊕ ((Int) ⊕ (Int))) : St := Sum.elim (fun (x : Int) => ⟨mkS 64 [(7, (.own 1 0)), (29, (.osl 2 0 2 1)), (30, (.val (.int .i64 2))), (31, (.val (.int .i64 0)))], [⟨true, false, [(V.bool b1), (V.sl 1 (U l1)), (V.int .i64 e1), (V.bool b2), (V.sl 1 (U l2)), (V.int .i64 e2)]⟩, ⟨true, false, [(V.bool (decide (p < 0))), (N p.natAbs), (V.int .i64 q), (V.bool (decide (r < 0))), (N r.natAbs), (V.int .i64 t)]⟩, ⟨true, false, [(V.int .i64 (w % 120)), (V.int .i64 (w % 4))]⟩]⟩) (fun (x : (Int) ⊕ (Int)) => Sum.elim (fun (x : Int) => ⟨mkS 64 [(7, (.own 1 0)), (29, (.osl 2 0 2 1)), (30, (.val (.int .i64 2))), (31, (.val (.int .i64 1)))], [⟨true, false, [(V.bool b1), (V.sl 1 (U l1)), (V.int .i64 e1), (V.bool b2), (V.sl 1 (U l2)), (V.int .i64 e2)]⟩, ⟨true, false, [(V.bool (decide (p < 0))), (N p.natAbs), (V.int .i64 q), (V.bool (decide (r < 0))), (N r.natAbs), (V.int .i64 t)]⟩, ⟨true, false, [(V.int .i64 (w % 120)), (V.int .i64 (w % 4))]⟩]⟩) (fun (x : Int) => ⟨mkS 64 [(7, (.own 1 0)), (29, (.osl 2 0 2 1)), (30, (.val (.int .i64 2))), (31, (.val (.int .i64 2)))], [⟨true, false, [(V.bool b1), (V.sl 1 (U l1)), (V.int .i64 e1), (V.bool b2), (V.sl 1 (U l2)), (V.int .i64 e2)]⟩, ⟨true, false, [(V.bool (decide (p < 0))), (N p.natAbs), (V.int .i64 q), (V.bool (decide (r < 0))), (N r.natAbs), (V.int .i64 t)]⟩, ⟨true, false, [(V.int .i64 (w % 120)), (V.int .i64 (w % 4))]⟩]⟩) x) x
def l14_CloseTT_0_I (_ : Bool) (_ : List Nat) (_ : Int) (_ : Bool) (_ : List Nat) (_ : Int) (_ _ _ _ _ _ _ _ _ _ _ _ _ _ _ _ _ _ _ _ _ _ _ _ _ _ _ _ _ _ _ _ _ : Int) (x : (Int) ⊕ ((Int) ⊕ (Int))) : Prop := Sum.elim (fun (x : Int) => x = x) (fun (x : (Int) ⊕ (Int)) => Sum.elim (fun (x : Int) => x = x) (fun (x : Int) => x = x) x) x
def l14_CloseTT_0_mu (_ : Bool) (_ : List Nat) (_ : Int) (_ : Bool) (_ : List Nat) (_ : Int) (_ _ _ _ _ _ _ _ _ _ _ _ _ _ _ _ _ _ _ _ _ _ _ _ _ _ _ _ _ _ _ _ _ : Int) (x : (Int) ⊕ ((Int) ⊕ (Int))) : Nat := Sum.elim (fun (x : Int) => 9 - 0) (fun (x : (Int) ⊕ (Int)) => Sum.elim (fun (x : Int) => 9 - 1) (fun (x : Int) => 9 - 2) x) x
def l14_CloseTT_0_ex (b1 : Bool) (l1 : List Nat) (e1 : Int) (b2 : Bool) (l2 : List Nat) (e2 : Int) (_ _ _ _ _ p q r t _ _ _ _ _ _ _ _ _ _ _ _ _ _ _ _ _ _ _ _ _ _ _ _ : Int) (y : Int) : Ex × St := (.exit 0, ⟨mkS 64 [], [⟨true, false, [(V.bool b1), (V.sl 1 (U l1)), (V.int .i64 e1), (V.bool b2), (V.sl 1 (U l2)), (V.int .i64 e2)]⟩, ⟨true, false, [(V.bool (decide (p < 0))), (N p.natAbs), (V.int .i64 q), (V.bool (decide (r < 0))), (N r.natAbs), (V.int .i64 t)]⟩]⟩)
def l14_CloseTT_0_J (_ : Bool) (_ : List Nat) (_ : Int) (_ : Bool) (_ : List Nat) (_ : Int) (_ _ _ _ _ _ _ _ _ _ _ _ _ _ _ _ _ _ _ _ _ _ _ _ _ _ _ _ _ _ _ _ _ : Int) (y : Int) : Prop := y = y
abbrev l14_CloseTT_0_N (b1 : Bool) (l1 : List Nat) (e1 : Int) (b2 : Bool) (l2 : List Nat) (e2 : Int) (w m ee n f p q r t y0a y0b y0c y0d l0a l0b l0c l0d h0a h0b h0c h0d y1a y1b y1c y1d l1a l1b l1c l1d h1a h1b h1c h1d : Int) := NX (l14_CloseTT_0_mk b1 l1 e1 b2 l2 e2 w m ee n f p q r t y0a y0b y0c y0d l0a l0b l0c l0d h0a h0b h0c h0d y1a y1b y1c y1d l1a l1b l1c l1d h1a h1b h1c h1d) (l14_CloseTT_0_I b1 l1 e1 b2 l2 e2 w m ee n f p q r t y0a y0b y0c y0d l0a l0b l0c l0d h0a h0b h0c h0d y1a y1b y1c y1d l1a l1b l1c l1d h1a h1b h1c h1d) (l14_CloseTT_0_mu b1 l1 e1 b2 l2 e2 w m ee n f p q r t y0a y0b y0c y0d l0a l0b l0c l0d h0a h0b h0c h0d y1a y1b y1c y1d l1a l1b l1c l1d h1a h1b h1c h1d) (l14_CloseTT_0_ex b1 l1 e1 b2 l2 e2 w m ee n f p q r t y0a y0b y0c y0d l0a l0b l0c l0d h0a h0b h0c h0d y1a y1b y1c y1d l1a l1b l1c l1d h1a h1b h1c h1d) (l14_CloseTT_0_J b1 l1 e1 b2 l2 e2 w m ee n f p q r t y0a y0b y0c y0d l0a l0b l0c l0d h0a h0b h0c h0d y1a y1b y1c y1d l1a l1b l1c l1d h1a h1b h1c h1d)
theorem l14_CloseTT_0 (b1 : Bool) (l1 : List Nat) (e1 : Int) (b2 : Bool) (l2 : List Nat) (e2 : Int) (w m ee n f p q r t y0a y0b y0c y0d l0a l0b l0c l0d h0a h0b h0c h0d y1a y1b y1c y1d l1a l1b l1c l1d h1a h1b h1c h1d : Int) (c0 : (-9223372036854775808 : Int) ≤ w ∧ w ≤ 9223372036854775807)(c1 : Impl Tryz.prog Amb 16 [(.agg [(.bool b1), (.sl 1 (U l1)), (.int .i64 e1), (.bool b2), (.sl 1 (U l2)), (.int .i64 e2)]), (.int .i64 5)] (.tup [(wV m ee n f), (.bool true)]))(c2 : Impl Tryz.prog Amb 17 [(wV m ee n f), (.int .i64 30)] (wV p q r t))(c3 : Impl Tryz.prog Amb 19 [(wV p q r t), (.int .i64 (w % 120))] (.tup [(wV y0a y0b y0c y0d), (.int .i64 0)]))(c4 : Impl Tryz.prog Amb 21 [(yV p q), (.int .i64 (w % 120))] (wV l0a l0b l0c l0d))(c5 : Impl Tryz.prog Amb 21 [(yV r t), (.int .i64 (w % 120))] (wV h0a h0b h0c h0d))(c6 : Impl Tryz.prog Amb 20 [(wV y0a y0b y0c y0d), (wV l0a l0b l0c l0d), (wV h0a h0b h0c h0d), (.int .i64 (w % 120))] (.bool true))(c7 : Impl Tryz.prog Amb 19 [(wV p q r t), (.int .i64 (w % 4))] (.tup [(wV y1a y1b y1c y1d), (.int .i64 0)]))(c8 : Impl Tryz.prog Amb 21 [(yV p q), (.int .i64 (w % 4))] (wV l1a l1b l1c l1d))(c9 : Impl Tryz.prog Amb 21 [(yV r t), (.int .i64 (w % 4))] (wV h1a h1b h1c h1d))(c10 : Impl Tryz.prog Amb 20 [(wV y1a y1b y1c y1d), (wV l1a l1b l1c l1d), (wV h1a h1b h1c h1d), (.int .i64 (w % 4))] (.bool true))(c11 : 0 ≤ y0a ∧ 0 ≤ y1a) (x0 : (Int) ⊕ ((Int) ⊕ (Int))) (hI : l14_CloseTT_0_I b1 l1 e1 b2 l2 e2 w m ee n f p q r t y0a y0b y0c y0d l0a l0b l0c l0d h0a h0b h0c h0d y1a y1b y1c y1d l1a l1b l1c l1d h1a h1b h1c h1d x0) : LoopOk Tryz.prog Amb (loopN Tryz.f3 0) (l14_CloseTT_0_mk b1 l1 e1 b2 l2 e2 w m ee n f p q r t y0a y0b y0c y0d l0a l0b l0c l0d h0a h0b h0c h0d y1a y1b y1c y1d l1a l1b l1c l1d h1a h1b h1c h1d x0) (fun e st_ => ∃ y, l14_CloseTT_0_J b1 l1 e1 b2 l2 e2 w m ee n f p q r t y0a y0b y0c y0d l0a l0b l0c l0d h0a h0b h0c h0d y1a y1b y1c y1d l1a l1b l1c l1d h1a h1b h1c h1d y ∧ l14_CloseTT_0_ex b1 l1 e1 b2 l2 e2 w m ee n f p q r t y0a y0b y0c y0d l0a l0b l0c l0d h0a h0b h0c h0d y1a y1b y1c y1d l1a l1b l1c l1d h1a h1b h1c h1d y = (e, st_)) :=
 loop_ob hP hAmb ⟨[7, 29, 30, 31], 3, []⟩ (l14_CloseTT_0_mk b1 l1 e1 b2 l2 e2 w m ee n f p q r t y0a y0b y0c y0d l0a l0b l0c l0d h0a h0b h0c h0d y1a y1b y1c y1d l1a l1b l1c l1d h1a h1b h1c h1d) (l14_CloseTT_0_I b1 l1 e1 b2 l2 e2 w m ee n f p q r t y0a y0b y0c y0d l0a l0b l0c l0d h0a h0b h0c h0d y1a y1b y1c y1d l1a l1b l1c l1d h1a h1b h1c h1d) (l14_CloseTT_0_mu b1 l1 e1 b2 l2 e2 w m ee n f p q r t y0a y0b y0c y0d l0a l0b l0c l0d h0a h0b h0c h0d y1a y1b y1c y1d l1a l1b l1c l1d h1a h1b h1c h1d) (l14_CloseTT_0_ex b1 l1 e1 b2 l2 e2 w m ee n f p q r t y0a y0b y0c y0d l0a l0b l0c l0d h0a h0b h0c h0d y1a y1b y1c y1d l1a l1b l1c l1d h1a h1b h1c h1d) (l14_CloseTT_0_J b1 l1 e1 b2 l2 e2 w m ee n f p q r t y0a y0b y0c y0d l0a l0b l0c l0d h0a h0b h0c h0d y1a y1b y1c y1d l1a l1b l1c l1d h1a h1b h1c h1d) x0 hI (Sum.elim (fun u => .lits 6 <| .call (.tup [(wV y0a y0b y0c y0d), (.int .i64 0)]) <| .lits 8 <| .no <| .lits 7 <| .call (wV l0a l0b l0c l0d) <| .lits 6 <| .call (wV h0a h0b h0c h0d) <| .lits 3 <| .call (.bool true) <| .lits 5 <| .yes <| .fin3 ⟨[7, 29, 30, 31], [0, 1, 2]⟩) (Sum.elim (fun u => .lits 6 <| .call (.tup [(wV y1a y1b y1c y1d), (.int .i64 0)]) <| .lits 8 <| .no <| .lits 7 <| .call (wV l1a l1b l1c l1d) <| .lits 6 <| .call (wV h1a h1b h1c h1d) <| .lits 3 <| .call (.bool true) <| .lits 5 <| .yes <| .fin3 ⟨[7, 29, 30, 31], [0, 1, 2]⟩) (fun u => .lits 2 <| .fin3 ⟨[], [0, 1]⟩))) (by
  rintro (u | u | u) hI
  ·skip
   have hI : u = u := hI
   have h1 := hI
   exact cast_ob (aI True.intro (aI (c3 ) (aI (decide_eq_false oO : (decide (y0a < 0)) = false) (aI (c4 ) (aI (c5 ) (aI (c6 ) (aI tT (aI tT ((nx_next (Sum.inr (Sum.inl u)) (show u = u from rfl) (show 9 - 1 < 9 - 0 by omega) : l14_CloseTT_0_N b1 l1 e1 b2 l2 e2 w m ee n f p q r t y0a y0b y0c y0d l0a l0b l0c l0d h0a h0b h0c h0d y1a y1b y1c y1d l1a l1b l1c l1d h1a h1b h1c h1d (Sum.inl u) .normal (l14_CloseTT_0_mk b1 l1 e1 b2 l2 e2 w m ee n f p q r t y0a y0b y0c y0d l0a l0b l0c l0d h0a h0b h0c h0d y1a y1b y1c y1d l1a l1b l1c l1d h1a h1b h1c h1d (Sum.inr (Sum.inl u))))))))))))) (by kernel_rfl)
  ·skip
   have hI : u = u := hI
   have h1 := hI
   exact cast_ob (aI True.intro (aI (c7 ) (aI (decide_eq_false oO : (decide (y1a < 0)) = false) (aI (c8 ) (aI (c9 ) (aI (c10 ) (aI tT (aI tT ((nx_next (Sum.inr (Sum.inr u)) (show u = u from rfl) (show 9 - 2 < 9 - 1 by omega) : l14_CloseTT_0_N b1 l1 e1 b2 l2 e2 w m ee n f p q r t y0a y0b y0c y0d l0a l0b l0c l0d h0a h0b h0c h0d y1a y1b y1c y1d l1a l1b l1c l1d h1a h1b h1c h1d (Sum.inr (Sum.inl u)) .normal (l14_CloseTT_0_mk b1 l1 e1 b2 l2 e2 w m ee n f p q r t y0a y0b y0c y0d l0a l0b l0c l0d h0a h0b h0c h0d y1a y1b y1c y1d l1a l1b l1c l1d h1a h1b h1c h1d (Sum.inr (Sum.inr u))))))))))))) (by kernel_rfl)
  ·skip
   have hI : u = u := hI
   have h1 := hI
   exact cast_ob (aI True.intro (aI tT ((nx_exit 0 ((l14_CloseTT_0_ex b1 l1 e1 b2 l2 e2 w m ee n f p q r t y0a y0b y0c y0d l0a l0b l0c l0d h0a h0b h0c h0d y1a y1b y1c y1d l1a l1b l1c l1d h1a h1b h1c h1d u).2) u (show u = u from rfl) rfl : l14_CloseTT_0_N b1 l1 e1 b2 l2 e2 w m ee n f p q r t y0a y0b y0c y0d l0a l0b l0c l0d h0a h0b h0c h0d y1a y1b y1c y1d l1a l1b l1c l1d h1a h1b h1c h1d (Sum.inr (Sum.inr u)) (.exit 0) ((l14_CloseTT_0_ex b1 l1 e1 b2 l2 e2 w m ee n f p q r t y0a y0b y0c y0d l0a l0b l0c l0d h0a h0b h0c h0d y1a y1b y1c y1d l1a l1b l1c l1d h1a h1b h1c h1d u).2))))) (by kernel_rfl))
theorem l14_CloseTT (b1 : Bool) (l1 : List Nat) (e1 : Int) (b2 : Bool) (l2 : List Nat) (e2 : Int) (w : Int) (m : Int) (ee : Int) (n : Int) (f : Int) (p : Int) (q : Int) (r : Int) (t : Int) (y0a : Int) (y0b : Int) (y0c : Int) (y0d : Int) (l0a : Int) (l0b : Int) (l0c : Int) (l0d : Int) (h0a : Int) (h0b : Int) (h0c : Int) (h0d : Int) (y1a : Int) (y1b : Int) (y1c : Int) (y1d : Int) (l1a : Int) (l1b : Int) (l1c : Int) (l1d : Int) (h1a : Int) (h1b : Int) (h1c : Int) (h1d : Int) (c0 : (-9223372036854775808 : Int) ≤ w ∧ w ≤ 9223372036854775807) (c1 : Impl Tryz.prog Amb 16 [(.agg [(.bool b1), (.sl 1 (U l1)), (.int .i64 e1), (.bool b2), (.sl 1 (U l2)), (.int .i64 e2)]), (.int .i64 5)] (.tup [(wV m ee n f), (.bool true)])) (c2 : Impl Tryz.prog Amb 17 [(wV m ee n f), (.int .i64 30)] (wV p q r t)) (c3 : Impl Tryz.prog Amb 19 [(wV p q r t), (.int .i64 (w % 120))] (.tup [(wV y0a y0b y0c y0d), (.int .i64 0)])) (c4 : Impl Tryz.prog Amb 21 [(yV p q), (.int .i64 (w % 120))] (wV l0a l0b l0c l0d)) (c5 : Impl Tryz.prog Amb 21 [(yV r t), (.int .i64 (w % 120))] (wV h0a h0b h0c h0d)) (c6 : Impl Tryz.prog Amb 20 [(wV y0a y0b y0c y0d), (wV l0a l0b l0c l0d), (wV h0a h0b h0c h0d), (.int .i64 (w % 120))] (.bool true)) (c7 : Impl Tryz.prog Amb 19 [(wV p q r t), (.int .i64 (w % 4))] (.tup [(wV y1a y1b y1c y1d), (.int .i64 0)])) (c8 : Impl Tryz.prog Amb 21 [(yV p q), (.int .i64 (w % 4))] (wV l1a l1b l1c l1d)) (c9 : Impl Tryz.prog Amb 21 [(yV r t), (.int .i64 (w % 4))] (wV h1a h1b h1c h1d)) (c10 : Impl Tryz.prog Amb 20 [(wV y1a y1b y1c y1d), (wV l1a l1b l1c l1d), (wV h1a h1b h1c h1d), (.int .i64 (w % 4))] (.bool true)) (c11 : 0 ≤ y0a ∧ 0 ≤ y1a) : Impl Tryz.prog Amb 3 [(.agg [(.bool b1), (.sl 1 (U l1)), (.int .i64 e1), (.bool b2), (.sl 1 (U l2)), (.int .i64 e2)]), (.int .i64 w), (.bool true)] (.bool true) := by
 exact impl_ob hP hAmb Tryz.func3 (by kernel_rfl) (.lit <| .call (.bool true) <| .lits 4 <| .call (.tup [(wV m ee n f), (.bool true)]) <| .lits 6 <| .call (wV p q r t) <| .lits 2 <| .call (.int .i64 (w % 120)) <| .lit <| .call (.int .i64 (w % 4)) <| .loop ⟨[7, 29, 30, 31], 3, []⟩ ((l14_CloseTT_0_mk b1 l1 e1 b2 l2 e2 w m ee n f p q r t y0a y0b y0c y0d l0a l0b l0c l0d h0a h0b h0c h0d y1a y1b y1c y1d l1a l1b l1c l1d h1a h1b h1c h1d (Sum.inl (0 : Int)))) (Int) (l14_CloseTT_0_ex b1 l1 e1 b2 l2 e2 w m ee n f p q r t y0a y0b y0c y0d l0a l0b l0c l0d h0a h0b h0c h0d y1a y1b y1c y1d l1a l1b l1c l1d h1a h1b h1c h1d) (l14_CloseTT_0_J b1 l1 e1 b2 l2 e2 w m ee n f p q r t y0a y0b y0c y0d l0a l0b l0c l0d h0a h0b h0c h0d y1a y1b y1c y1d l1a l1b l1c l1d h1a h1b h1c h1d) (fun y => .lit <| .ret))
  (cast_ob (aI True.intro (aI (l14_awake ) (aI (c1 ) (aI (c2 ) (aI (mill_Mod w 120 oS oS) (have f4 := Int.emod_lt_of_pos w (show (0 : Int) < 120 by first | omega | assumption); have f3 := Int.emod_nonneg w (show (120 : Int) ≠ 0 by first | omega | assumption); aI (mill_Mod w 4 oS oS) (have f2 := Int.emod_lt_of_pos w (show (0 : Int) < 4 by first | omega | assumption); have f1 := Int.emod_nonneg w (show (4 : Int) ≠ 0 by first | omega | assumption); aI tT (aI (rfl : (l14_CloseTT_0_mk b1 l1 e1 b2 l2 e2 w m ee n f p q r t y0a y0b y0c y0d l0a l0b l0c l0d h0a h0b h0c h0d y1a y1b y1c y1d l1a l1b l1c l1d h1a h1b h1c h1d (Sum.inl (0 : Int))) = (l14_CloseTT_0_mk b1 l1 e1 b2 l2 e2 w m ee n f p q r t y0a y0b y0c y0d l0a l0b l0c l0d h0a h0b h0c h0d y1a y1b y1c y1d l1a l1b l1c l1d h1a h1b h1c h1d (Sum.inl (0 : Int)))) (aI (l14_CloseTT_0 b1 l1 e1 b2 l2 e2 w m ee n f p q r t y0a y0b y0c y0d l0a l0b l0c l0d h0a h0b h0c h0d y1a y1b y1c y1d l1a l1b l1c l1d h1a h1b h1c h1d c0 c1 c2 c3 c4 c5 c6 c7 c8 c9 c10 c11 (Sum.inl (0 : Int)) (show (0 : Int) = (0 : Int) from rfl)) (fun y (hJ : l14_CloseTT_0_J b1 l1 e1 b2 l2 e2 w m ee n f p q r t y0a y0b y0c y0d l0a l0b l0c l0d h0a h0b h0c h0d y1a y1b y1c y1d l1a l1b l1c l1d h1a h1b h1c h1d y) => have hJ : y = y := hJ; (vsub_refl (.bool true)))))))))))) (by kernel_rfl))
theorem top_between {m e x y n f t : Int} (t0 : 0 ≤ t) (h1 : topD m e ≤ t) (h2 : topD n f ≤ t) (o1 : dv m e ≤ dv x y) (o2 : dv x y ≤ dv n f) : topD x y ≤ t := by
 refine Decidable.byContradiction fun hn => ?_
 have hx : x ≠ 0 := fun q => by unfold topD at hn; rw [if_pos q] at hn; omega
 have a := (dv_top (e := y) hx).2
 have u := dv1_le (a := t) (b := topD x y - 1) oO
 have lt : ∀ {m e : Int}, topD m e ≤ t → -(dv 1 t) < dv m e ∧ dv m e < dv 1 t := by
  intro m e h
  have p1 : 0 < dv 1 t := dv_pos.2 (by decide)
  by_cases hm : m = 0
  ·rw [hm, dv_zero]; constructor <;> grind
  ·have b := (dv_top (e := e) hm).1
   have c := dv1_le h
   rcases (show (m.natAbs : Int) = m ∨ (m.natAbs : Int) = -m by omega) with q | q
   ·have n0 : 0 ≤ dv m e := dv_ge0.2 oO
    rw [q] at b
    clear q
    generalize dv m e = z at *
    generalize dv 1 t = g at *
    generalize dv 1 (topD m e) = i at *
    constructor <;> grind
   ·have n0 : 0 ≤ dv (-m) e := dv_ge0.2 oO
    rw [q] at b
    rw [dv_neg] at b n0
    clear q
    generalize dv m e = z at *
    generalize dv 1 t = g at *
    generalize dv 1 (topD m e) = i at *
    constructor <;> grind
 have b1 := (lt h1).1
 have b2 := (lt h2).2
 rcases (show (x.natAbs : Int) = x ∨ (x.natAbs : Int) = -x by omega) with q | q
 ·rw [q] at a
  grind
 ·rw [q, dv_neg] at a
  grind
theorem th_fit3 {m e n f k c : Int} (hm : L m.natAbs ≤ 2) (hn : L n.natAbs ≤ 2) (he : -440 ≤ e ∧ e ≤ 150) (hf : -440 ≤ f ∧ f ≤ 150) (hk : 0 ≤ k ∧ k ≤ 30) (hv : vdb n f = true) (ho : dv m e ≤ dv n f) {a b x y : Int}
  (ha : a = mkM (adS m e (mkM (1 : Int) ((0 : Int) - k)) (mkX (1 : Int) ((0 : Int) - k))) (iMin e (mkX (1 : Int) ((0 : Int) - k))))
  (hb : b = mkX (adS m e (mkM (1 : Int) ((0 : Int) - k)) (mkX (1 : Int) ((0 : Int) - k))) (iMin e (mkX (1 : Int) ((0 : Int) - k))))
  (hx : x = thM a b n f) (hy : y = thX a b n f) (hc : 0 ≤ c ∧ c ≤ 120) (h1 : topD m e ≤ c) (h2 : topD n f ≤ c) :
  (L x.natAbs ≤ 19 ∧ -440 ≤ y ∧ y ≤ 120) ∧ vdb x y = true ∧ (dv m e ≤ dv x y ∧ dv x y ≤ dv n f) ∧ topD x y ≤ c := by
 have l1 := L_le (n := 1) (k := 1) (by decide)
 have c1' := mk_fit (m := (1 : Int)) (e := (0 : Int) - k) (by show L 1 ≤ 900; omega) oO
 have c1 : L (1 : Int).natAbs ≤ 1 := l1
 have i0 := iMin_range ((0 : Int) - k) 0
 have i1 : iMax ((0 : Int) - k) 0 ≤ 0 := by unfold iMax; split <;> omega
 have i2 := iMin_range e (mkX (1 : Int) ((0 : Int) - k))
 have h1' := adS_L (a := 2) (c := 15) (e := e) (f := mkX (1 : Int) ((0 : Int) - k)) hm (show L (mkM (1 : Int) ((0 : Int) - k)).natAbs ≤ 2 by omega) oO oO
 have d := mk_fit (m := adS m e (mkM (1 : Int) ((0 : Int) - k)) (mkX (1 : Int) ((0 : Int) - k))) (e := iMin e (mkX (1 : Int) ((0 : Int) - k))) oO oO
 rw [← ha, ← hb] at d
 have i3 := iMin_range (iMin e (mkX (1 : Int) ((0 : Int) - k))) 0
 have hd : dv m e ≤ dv a b := by
  rw [d.2.2.2.2.2, dv_ad, c1'.2.2.2.2.2]
  have : 0 < dv 1 ((0 : Int) - k) := dv_pos.2 (by decide)
  grind
 have fin : ∀ {x y : Int}, L x.natAbs ≤ 19 → -440 ≤ y → vdb x y = true → dv m e ≤ dv x y → dv x y ≤ dv n f → (L x.natAbs ≤ 19 ∧ -440 ≤ y ∧ y ≤ 120) ∧ vdb x y = true ∧ (dv m e ≤ dv x y ∧ dv x y ≤ dv n f) ∧ topD x y ≤ c := by
  intro x y g1 g2 g3 g4 g5
  have tb := top_between hc.1 h1 h2 g4 g5
  refine ⟨⟨g1, g2, ?_⟩, g3, ⟨g4, g5⟩, tb⟩
  rcases topD_range x y with q | q
  ·rcases vdb_iff.1 g3 with r | r
   ·omega
   ·exact absurd q.1 r.1
  ·omega
 rcases th_facts a b n f with ⟨q1, q2, q3, q4⟩ | ⟨q1, q2, q3, q4⟩
 ·rw [hx, hy, q2, q3]
  exact fin oO oO d.2.2.2.2.1 hd (Rat.le_of_lt (cmpD_neg.1 q1))
 ·rw [hx, hy, q2, q3]
  exact fin oO oO hv ho Rat.le_refl
theorem mkM_nn {m e : Int} (h : 0 ≤ m) (hL : L m.natAbs ≤ 900) (he : -60000 ≤ e ∧ e ≤ 30000) : 0 ≤ mkM m e := by
 have f := mk_fit hL he
 refine (dv_ge0 (e := mkX m e)).1 ?_
 rw [f.2.2.2.2.2]
 exact dv_ge0.2 h
theorem l14_round (p q r t k : Int) (h1 : L p.natAbs ≤ 20 ∧ L r.natAbs ≤ 20) (h2 : (-440 ≤ q ∧ q ≤ 130) ∧ (-440 ≤ t ∧ t ≤ 130)) (h3 : topD p q ≤ 5 ∧ topD r t ≤ 5) (ho : dv p q ≤ dv r t) (hk : 0 ≤ k ∧ k ≤ 200) : ∃ ya yb yc yd la lb lc ld ha hb hc hd : Int, Impl Tryz.prog Amb 19 [(wV p q r t), (.int .i64 k)] (.tup [(wV ya yb yc yd), (.int .i64 0)]) ∧ Impl Tryz.prog Amb 21 [(yV p q), (.int .i64 k)] (wV la lb lc ld) ∧ Impl Tryz.prog Amb 21 [(yV r t), (.int .i64 k)] (wV ha hb hc hd) ∧ Impl Tryz.prog Amb 20 [(wV ya yb yc yd), (wV la lb lc ld), (wV ha hb hc hd), (.int .i64 k)] (.bool true) ∧ 0 ≤ ya := by
 have t1 := dv_tople h3.1
 have t2 := dv_tople h3.2
 have d5 : dv 1 5 = 32 := of_decide_eq_true (by kernel_rfl)
 rw [d5] at t1 t2
 have c69 : ((69 : Int) : Rat) = 69 := rfl
 obtain ⟨l1, h1', l2, h2', hA, ⟨e1, w1, p1, z1⟩, ⟨e2, w2, p2, z2⟩, z3⟩ := ex_ExpN p q r t k 69 oO oO oO (by grind) (by rw [c69]; grind) oO oO (by grind) (by rw [c69]; grind) oO oO
 obtain ⟨a1, b1, hB, ⟨z4, z5⟩, e3⟩ := r14_AtE p q k oO oO hk (by grind) oO
 obtain ⟨a2, b2, hC, ⟨z6, z7⟩, e4⟩ := r14_AtE r t k oO oO hk (by grind) oO
 obtain ⟨n1, n2, n3, n4, n5⟩ := near_E (EP_mono_lim ho) w1 w2 e1 e2 (e3 gE gE_b.1) (e4 gE gE_b.1)
 exact ⟨_, _, _, _, _, _, _, _, _, _, _, _, hA, hB, hC, r13_Near l1 h2' a1 b1 a2 b2 k oO oO oO oO oO oO oO n1 n2 n3 n4 n5, mkM_nn p1 oO oO⟩
theorem l14_ExponentialClose (b1 : Bool) (l1 : List Nat) (e1 : Int) (b2 : Bool) (l2 : List Nat) (e2 : Int) (w : Int) (thin : Bool) (c0 : Dig l1) (c1 : l1.length ≤ 9223372036854775807) (c2 : (-9223372036854775808 : Int) ≤ e1 ∧ e1 ≤ 9223372036854775807) (c3 : Dig l2) (c4 : l2.length ≤ 9223372036854775807) (c5 : (-9223372036854775808 : Int) ≤ e2 ∧ e2 ≤ 9223372036854775807) (c6 : (-9223372036854775808 : Int) ≤ w ∧ w ≤ 9223372036854775807) : Impl Tryz.prog Amb 3 [(.agg [(.bool b1), (.sl 1 (U l1)), (.int .i64 e1), (.bool b2), (.sl 1 (U l2)), (.int .i64 e2)]), .int .i64 w, .bool thin] (.bool true) := by
 have w1120 := Int.emod_nonneg w (show (120 : Int) ≠ 0 by omega)
 have w2120 := Int.emod_lt_of_pos w (show (0 : Int) < 120 by omega)
 have w14 := Int.emod_nonneg w (show (4 : Int) ≠ 0 by omega)
 have w24 := Int.emod_lt_of_pos w (show (0 : Int) < 4 by omega)
 obtain ⟨m, ee, n, f, ok, hA, ⟨lm, ln⟩, ⟨le, lf⟩, hok⟩ := l14_argN b1 l1 e1 b2 l2 e2 5 c0 c1 c2 c3 c4 c5 oO
 cases ok with
 | false =>
  cases thin with
  | false => exact l14_CloseFF b1 l1 e1 b2 l2 e2 w m ee n f c6 hA
  | true => exact l14_CloseFT b1 l1 e1 b2 l2 e2 w m ee n f c6 hA
 | true =>
  obtain ⟨⟨t1, t2⟩, ⟨v1, v2⟩, ho⟩ := hok rfl
  cases thin with
  | false =>
   obtain ⟨_, _, _, _, _, _, _, _, _, _, _, _, x1, x2, x3, x4, x5⟩ := l14_round m ee n f (w % 120) oO oO oO ho oO
   obtain ⟨_, _, _, _, _, _, _, _, _, _, _, _, y1, y2, y3, y4, y5⟩ := l14_round m ee n f (w % 4) oO oO oO ho oO
   exact l14_CloseTF b1 l1 e1 b2 l2 e2 w m ee n f _ _ _ _ _ _ _ _ _ _ _ _ _ _ _ _ _ _ _ _ _ _ _ _ c6 hA x1 x2 x3 x4 y1 y2 y3 y4 ⟨x5, y5⟩
  | true =>
   have hH := mill_Thin m ee n f 30 oO oO oO oO oO
   have tf := th_fit3 (m := m) (e := ee) (n := n) (f := f) (k := 30) (c := 5) oO oO oO oO oO v2 ho rfl rfl rfl rfl oO t1 t2
   have tt := tf.2.2.2
   obtain ⟨_, _, _, _, _, _, _, _, _, _, _, _, x1, x2, x3, x4, x5⟩ := l14_round m ee _ _ (w % 120) oO oO ⟨t1, tt⟩ tf.2.2.1.1 oO
   obtain ⟨_, _, _, _, _, _, _, _, _, _, _, _, y1, y2, y3, y4, y5⟩ := l14_round m ee _ _ (w % 4) oO oO ⟨t1, tt⟩ tf.2.2.1.1 oO
   exact l14_CloseTT b1 l1 e1 b2 l2 e2 w m ee n f m ee _ _ _ _ _ _ _ _ _ _ _ _ _ _ _ _ _ _ _ _ _ _ _ _ _ _ c6 hA hH x1 x2 x3 x4 y1 y2 y3 y4 ⟨x5, y5⟩
end Go.Proofs.YtlaciaoiihannaaGreatDoor

namespace Go.Proofs.YtlaciaoiihannaaGreatDoor
open Go.ChangeShapes Go.WideShapes Go.ChangeAt Go.RowKit
theorem ownNone : ownKnob Tryz.prog.godebug = none := by kernel_rfl
theorem gTab : Tryz.prog.globalNamed "math/bits.deBruijn32tab" = some 0 := by kernel_rfl
theorem gTabType : (Tryz.prog.globals[0]?).map (·.type) = some 184 := by kernel_rfl
theorem cellsTab : Tryz.prog.cellsOf 184 = 32 := by kernel_rfl
theorem cellsU8 : Tryz.prog.cellsOf 5 = 1 := by kernel_rfl
theorem amb_of {W : World} (h : laidMetH Tryz.prog [("math/bits.deBruijn32tab", Rows.laid_math_bits_deBruijn32tab)] W) : Amb W := by
 have t : Lib.TabIs Tryz.prog W "math/bits.deBruijn32tab" .u8 tab32 := Lib.tabIs_of_head (rest := []) gTab gTabType Tryz.underlying184 Tryz.underlying5 cellsU8 cellsTab h
 intro i v hi
 have hlt : i < tab32.length := by
  rcases Nat.lt_or_ge i tab32.length with q | q
  ·exact q
  ·rw [List.getElem?_eq_none q] at hi; cases hi
 have h1 := t.cell gTab i hlt
 rw [List.getD_eq_getElem?_getD, hi] at h1
 exact h1
theorem int_wf {n : Int} (h : (Lit.int .i64 n).wf = true) : (-9223372036854775808 : Int) ≤ n ∧ n ≤ 9223372036854775807 := by
 simp only [Lit.wf, Bool.and_eq_true, decide_eq_true_eq] at h
 simp [IntKind.min, IntKind.max, IntKind.signed, IntKind.bits] at h
 omega
noncomputable def laidWorld (os : Os) : World :=
  { World.holding Tryz.prog os ⟨#[], #[], []⟩ with heap := (World.holding Tryz.prog os ⟨#[], #[], []⟩).heap.modify 0 fun
      | .cells _ t frozen => .cells (tab32.map (Value.int .u8)).toArray t frozen
      | o => o }
theorem post_of_below {H : Type} {enc : TypeId × Value → H} {P : Program} {f : Func} {s : ChangeSpec} {apart fresh handsOn again : Bool} {W W' : World} {args : Array Value} {v : Value} {ds gs : List (DataW H)} {before pa pv : List MemPlace}
  (hW : DataW.Whole enc P f.params.toList s.vars apart W args.toList ds gs before)
  (hres : ∀ (b : Nat) (sp : Nat → Bool) (hd : Bool), DataW.TrodAll enc P W' b sp hd f.resultTypes.toList (v.resultList f.resultTypes.size) (s.fn H (ds ++ gs)).results [])
  (hargs : ∀ sp : Nat → Bool, (∀ p ∈ before, sp p.block = true) → DataW.TrodAll enc P W' 0 sp true f.params.toList args.toList (s.fn H (ds ++ gs)).args pa)
  (hvars : ∀ sp : Nat → Bool, (∀ p ∈ before, sp p.block = true) → DataW.TrodVars enc P W' sp s.vars (s.fn H (ds ++ gs)).vars pv)
  (hps : before = pa ++ pv) (hb : Below W.heap.size W W')
  (hok : ∀ (j : Nat) (t : TypeId) (r : Value), f.resultTypes[j]? = some t → (v.resultList f.resultTypes.size)[j]? = some r → Value.okWide P W' .any 0 t r) : s.post enc P f apart fresh handsOn again W args v W' := by
 have lt := hW.lt
 have old : ∀ p ∈ before, (fun b => decide (b < W.heap.size)) p.block = true := fun p hp => decide_eq_true (lt p hp)
 subst hps
 refine ⟨ds, gs, pa ++ pv, [], pa, pv, hW, hres _ _ _, hargs _ old, hvars _ old, hb.frame _, fun _ => ?_⟩
 obtain ⟨_, _, _, _, _, hz, hn⟩ := hW
 have h1 := trodAll_append (hargs (fun _ => true) fun _ _ => rfl) (hres 0 (fun _ => true) true)
 refine ⟨hok, _, _, _, ⟨_, pv, h1, hvars _ fun _ _ => rfl, rfl, fun b off hp => ?_, fun ha => ?_⟩, fun p hp _ => ?_⟩
 ·have hp' : MemPlace.cell b off ∈ pa ++ pv := by simpa using hp
  rw [hb.frozen (lt _ hp')]
  exact hz b off hp'
 ·simpa using hn ha
 ·simpa using hp
end Go.Proofs.YtlaciaoiihannaaGreatDoor

namespace Go.Proofs.YtlaciaoiihannaaGreatDoor
open Go.ChangeShapes Go.WideShapes Go.ChangeAt Go.RowKit
set_option maxRecDepth 100000
variable {H : Type} {enc : TypeId × Value → H} {W : World} {sp : Nat → Bool} {held : Bool}
theorem laidOut : laidOutB Tryz.prog = true := by kernel_rfl
theorem cellsU32 : Tryz.prog.cellsOf 130 = 1 := by kernel_rfl
theorem cellsSl : Tryz.prog.cellsOf 22 = 1 := by kernel_rfl
theorem cellsBool : Tryz.prog.cellsOf 4 = 1 := by kernel_rfl
theorem cellsInt : Tryz.prog.cellsOf 3 = 1 := by kernel_rfl
theorem cellsZ : Tryz.prog.cellsOf 24 = 2 := by kernel_rfl
theorem cellsY : Tryz.prog.cellsOf 26 = 3 := by kernel_rfl
theorem cellsW : Tryz.prog.cellsOf 28 = 6 := by kernel_rfl
theorem rdl_U (S : Nat → Prop) : ∀ l : List Nat, RdL W S (l.map fun (d : Nat) => Value.int .u32 (d : Int)) (U l)
 | [] => .nil
 | _ :: l => .cons .int (rdl_U S l)
theorem wf_u32 {n : Int} (h : (Lit.int .u32 n).wf = true) : 0 ≤ n ∧ n < 4294967296 := by
 simp only [Lit.wf, Bool.and_eq_true, decide_eq_true_eq] at h
 simp [IntKind.min, IntKind.max, IntKind.signed, IntKind.bits] at h
 omega
theorem open_slice32 {n : Nat} {c : Value} {x : DataW H × List MemPlace} {b0 : Nat} (h : DataW.trod enc Tryz.prog W 0 sp held n 22 [c] = some x) (hok : Cell.okWide Tryz.prog W .any b0 22 c) :
  ∃ l : List Nat, Dig l ∧ l.length ≤ maxLen ∧ Rd W (fun _ => True) c (.sl 1 (U l)) := by
 rcases open_ints Tryz.underlying22 Tryz.underlying130 cellsU32 h with ⟨hc, _⟩ | ⟨a, len, cap, zs, hc, _, hl, hm, hz, _, hcell, hwf⟩
 ·obtain rfl : c = .slice none 0 0 := by simpa using hc
  exact ⟨[], (fun d hd => by cases hd), Nat.zero_le _, .nilsl⟩
 ·obtain rfl : c = .slice (some a) len cap := by simpa using hc
  have hlen : len ≤ zs.length := by rw [hz]; split <;> omega
  simp only [Cell.okWide, Cell.ok, Tryz.underlying22, World.has] at hok
  obtain ⟨_, _, _, hs, row, cells, hsh, _⟩ := hok
  obtain ⟨ab, ao, spot⟩ := a
  simp only at hs hsh
  subst hs
  have hb : ab < W.heap.size := by
   unfold World.shape? at hsh
   split at hsh
   ·rename_i q; exact (Array.getElem?_eq_some_iff.1 q).1
   ·cases hsh
  refine ⟨(zs.take len).map Int.toNat, ?_, ?_, ?_⟩
  ·intro d hd
   obtain ⟨z, hz', rfl⟩ := List.mem_map.1 hd
   have := wf_u32 (hwf z (List.mem_of_mem_take hz'))
   show z.toNat < 4294967296
   omega
  ·simp; omega
  ·refine .sl (vals := ((zs.take len).map Int.toNat).map fun (d : Nat) => Value.int .u32 (d : Int)) trivial hb hl (by simp [U]; omega) (rdl_U _ _) ?_
   intro i v hv
   simp only [List.getElem?_map, Option.map_eq_some_iff] at hv
   obtain ⟨d, ⟨z, hz', rfl⟩, rfl⟩ := hv
   have hi : i < len := by
    rcases Nat.lt_or_ge i len with q | q
    ·exact q
    ·rw [List.getElem?_eq_none (by simp; omega)] at hz'; cases hz'
   rw [List.getElem?_take, if_pos hi] at hz'
   have h1 := hcell i (by omega)
   rw [List.getD_eq_getElem?_getD, hz'] at h1
   have h2 := wf_u32 (hwf z (List.mem_of_getElem? hz'))
   have h3 : ((z.toNat : Nat) : Int) = z := Int.toNat_of_nonneg h2.1
   simp only [Option.getD_some] at h1
   rw [h3]
   have h4 : (Addr.mk ab ao none).add i = ⟨ab, ao + i, none⟩ := by
    unfold Addr.add; split
    ·rename_i q; subst q; rfl
    ·rfl
   rw [h4] at h1
   exact h1
theorem open_Z {n : Nat} {c0 c1 : Value} {x : DataW H × List MemPlace} {b0 : Nat} (h : DataW.trod enc Tryz.prog W 0 sp held n 24 [c0, c1] = some x) (hok : Cell.okWide Tryz.prog W .any b0 22 c1) :
  ∃ (b : Bool) (l : List Nat), Dig l ∧ l.length ≤ maxLen ∧ RdL W (fun _ => True) [c0, c1] [.bool b, .sl 1 (U l)] := by
 obtain ⟨y0, y1, m, _, _, h0, h1⟩ := trod_struct2 Tryz.underlying24 h
 have k0 : DataW.trod enc Tryz.prog W 0 sp held m 4 [c0] = some y0 := by simpa [cellsBool] using h0
 have k1 : DataW.trod enc Tryz.prog W 0 sp held m 22 [c1] = some y1 := by simpa [cellsSl] using h1
 obtain ⟨b, hb, _⟩ := DataW.trod_bool Tryz.underlying4 k0
 obtain rfl : c0 = .bool b := by simpa using hb
 obtain ⟨l, d, e, r⟩ := open_slice32 k1 hok
 exact ⟨b, l, d, e, .cons .bool (.cons r .nil)⟩
theorem open_Y {n : Nat} {c0 c1 c2 : Value} {x : DataW H × List MemPlace} {b0 : Nat} (h : DataW.trod enc Tryz.prog W 0 sp held n 26 [c0, c1, c2] = some x) (hok : Cell.okWide Tryz.prog W .any b0 22 c1) :
  ∃ (b : Bool) (l : List Nat) (e : Int), Dig l ∧ l.length ≤ maxLen ∧ ((-9223372036854775808 : Int) ≤ e ∧ e ≤ 9223372036854775807) ∧ RdL W (fun _ => True) [c0, c1, c2] [.bool b, .sl 1 (U l), .int .i64 e] := by
 obtain ⟨y0, y1, m, _, _, h0, h1⟩ := trod_struct2 Tryz.underlying26 h
 have k0 : DataW.trod enc Tryz.prog W 0 sp held m 24 [c0, c1] = some y0 := by simpa [cellsZ] using h0
 have k1 : DataW.trod enc Tryz.prog W 0 sp held m 3 [c2] = some y1 := by simpa [cellsInt] using h1
 obtain ⟨b, l, d, e, r⟩ := open_Z k0 hok
 obtain ⟨z, hz, _, hw⟩ := DataW.trod_int Tryz.underlying3 k1
 obtain rfl : c2 = .int .i64 z := by simpa using hz
 cases r with | cons r0 r => cases r with | cons r1 r => cases r with | nil =>
  exact ⟨b, l, z, d, e, int_wf hw, .cons r0 (.cons r1 (.cons .int .nil))⟩
theorem array6 {α : Type} {cs : Array α} (h : cs.size = 6) : ∃ c0 c1 c2 c3 c4 c5, cs = #[c0, c1, c2, c3, c4, c5] := by
 obtain ⟨l⟩ := cs
 match l, h with
 | [c0, c1, c2, c3, c4, c5], _ => exact ⟨c0, c1, c2, c3, c4, c5, rfl⟩
theorem open_W {v : Value} {d : DataW H} {p : List MemPlace} {b0 : Nat} (hv : Value.okWide Tryz.prog W .any b0 28 v) (h : DataW.Trod enc Tryz.prog W 0 sp held 28 v d p) :
  ∃ (b : Bool) (l : List Nat) (e : Int) (c : Bool) (r : List Nat) (f : Int), (Dig l ∧ l.length ≤ maxLen ∧ ((-9223372036854775808 : Int) ≤ e ∧ e ≤ 9223372036854775807)) ∧ (Dig r ∧ r.length ≤ maxLen ∧ ((-9223372036854775808 : Int) ≤ f ∧ f ≤ 9223372036854775807)) ∧
   Rd W (fun _ => True) v (.agg [.bool b, .sl 1 (U l), .int .i64 e, .bool c, .sl 1 (U r), .int .i64 f]) := by
 simp only [Value.okWide, Tryz.underlying28] at hv
 obtain ⟨cs, rfl, hsz, ts, hts, _, hrow⟩ := hv
 have e0 : Tryz.prog.cellTypes Tryz.prog.depth 28 = some [4, 22, 3, 4, 22, 3] := by kernel_rfl
 rw [e0] at hts
 obtain rfl := Option.some.inj hts
 obtain ⟨c0, c1, c2, c3, c4, c5, rfl⟩ := array6 (hsz.trans cellsW)
 obtain ⟨u1, q1, ok1⟩ := hrow 1 c1 rfl
 obtain rfl : 22 = u1 := by simpa using q1
 obtain ⟨u4, q4, ok4⟩ := hrow 4 c4 rfl
 obtain rfl : 22 = u4 := by simpa using q4
 obtain ⟨n, hn⟩ := h
 obtain ⟨y0, y1, m, _, _, h0, h1⟩ := trod_struct2 Tryz.underlying28 hn
 have k0 : DataW.trod enc Tryz.prog W 0 sp held m 26 [c0, c1, c2] = some y0 := by simpa [cellsY, Value.cells] using h0
 have k1 : DataW.trod enc Tryz.prog W 0 sp held m 26 [c3, c4, c5] = some y1 := by simpa [cellsY, Value.cells] using h1
 obtain ⟨b, l, e, d1, d2, d3, r1⟩ := open_Y k0 ok1
 obtain ⟨c, r, f, f1, f2, f3, r2⟩ := open_Y k1 ok4
 refine ⟨b, l, e, c, r, f, ⟨d1, d2, d3⟩, ⟨f1, f2, f3⟩, ?_⟩
 cases r1 with | cons a0 r1 => cases r1 with | cons a1 r1 => cases r1 with | cons a2 r1 => cases r1 with | nil =>
 cases r2 with | cons b0 r2 => cases r2 with | cons b1 r2 => cases r2 with | cons b2 r2 => cases r2 with | nil =>
  exact .agg (.cons a0 (.cons a1 (.cons a2 (.cons b0 (.cons b1 (.cons b2 .nil))))))
end Go.Proofs.YtlaciaoiihannaaGreatDoor

namespace Go.Proofs.YtlaciaoiihannaaGreatDoor.exponentialClose
open Go.ChangeShapes Go.WideShapes Go.ChangeAt Go.RowKit
set_option maxRecDepth 100000 in
theorem contract (H : Type) (enc : TypeId × Value → H) (W : World) (base : Nat) (args : Array Value) (ds gs : List (DataW H)) (before : List MemPlace)
  (hval : ∀ (j : Nat) t v, Tryz.f3.params[j]? = some t → args[j]? = some v → Value.okWide Tryz.prog W .any base t v)
  (hW : DataW.Whole enc Tryz.prog Tryz.f3.params.toList Rows.exponentialCloseSpec.vars false W args.toList ds gs before) (hL : laidMetH Tryz.prog Rows.exponentialCloseRow.laid W) :
  Calls Tryz.prog 3 args W fun e W' => ∃ v, e = .returned v ∧ Rows.exponentialCloseSpec.post enc Tryz.prog Tryz.f3 false true false false W args v W' := by
 have hW' := hW
 obtain ⟨p, q, hA0, hV, rfl, hfz, hnd⟩ := hW
 have hA : DataW.TrodAll enc Tryz.prog W 0 (fun _ => true) true Tryz.f3.params.toList args.toList ds p := hA0
 rw [Tryz.params3] at hA hval
 obtain ⟨v0, vs0, d0, ds0, p0, q0, hargs0, rfl, rfl, h0, r0⟩ := trodAll_cons hA
 obtain ⟨v1, vs1, d1, ds1, p1, q1, hargs1, rfl, rfl, h1, r1⟩ := trodAll_cons r0
 obtain ⟨v2, vs2, d2, ds2, p2, q2, hargs2, rfl, rfl, h2, r2⟩ := trodAll_cons r1
 obtain ⟨rfl, rfl, rfl⟩ := trodAll_nil r2
 obtain rfl : args = #[v0, v1, v2] := by cases args; simp_all
 obtain ⟨rfl, rfl⟩ := trodVars_none hV
 obtain ⟨b0, l0, e0, c0, s0, f0, ⟨a0, a0', a0''⟩, ⟨z0, z0', z0''⟩, t0⟩ := open_W (hval 0 28 v0 rfl rfl) h0
 have m0 : l0.length ≤ 9223372036854775807 := a0'
 have n0 : s0.length ≤ 9223372036854775807 := z0'
 have k1 := h1
 obtain ⟨x1, rfl, rfl, rfl, w1⟩ := open_int Tryz.underlying3 (hval 1 3 v1 rfl rfl) h1
 have b1 := int_wf w1
 have k2 := h2
 obtain ⟨x2, rfl, rfl, rfl⟩ := open_bool Tryz.underlying4 (hval 2 4 v2 rfl rfl) h2
 clear hA0
 have hlt := hW'.lt
 have hI := l14_ExponentialClose b0 l0 e0 c0 s0 f0 x1 x2 a0 m0 a0'' z0 n0 z0'' b1
 have hC := hI.2 W (fun _ => True) [v0, .int .i64 x1, .bool x2] (amb_of hL) (fun _ _ => trivial) (.cons t0 (.cons .int (.cons .bool (.nil))))
 refine hC.mono fun e W' hh => ?_
 obtain ⟨v, rfl, hv, hb⟩ := hh
 have hv := hv.bool_inv
 subst hv
 exact ⟨_, rfl, post_of_below (pa := (p0 ++ ([] ++ ([] ++ [])))) (pv := []) hW' (fun _ _ _ => trodAll_cons_mk (shut_bool Tryz.underlying4 _) trodAll_mk0) (fun sp hsp => (trodAll_cons_mk (WideElems.Trod_stays laidOut (by kernel_rfl) (of_decide_eq_true (by kernel_rfl)) h0 (fun x hx => hb.same (hlt x (by simp [hx]))) (fun x hx => hsp x (by simp [hx]))) (trodAll_cons_mk (shut_int Tryz.underlying3 w1) (trodAll_cons_mk (shut_bool Tryz.underlying4 x2) trodAll_mk0)))) (fun _ _ => rfl) rfl
  hb (ok_one (by kernel_rfl) rfl (okWide_bool_mk Tryz.underlying4 _))⟩
theorem laid_met (os : Os) : laidMet Tryz.prog Rows.exponentialCloseRow.laid ((laidWorld os).forCall (fun _ _ => 0) ⟨#[], #[.agg #[.bool false, .slice none 0 0, .int .i64 0, .bool false, .slice none 0 0, .int .i64 0], .int .i64 0, .bool false], []⟩).memory :=
 laidMet_of_run' 64 (by kernel_rfl) (by kernel_rfl)
theorem reads (os : Os) {H : Type} (enc : TypeId × Value → H) : ∃ places, DataW.whole enc Tryz.prog ((laidWorld os).forCall (fun _ _ => 0) ⟨#[], #[.agg #[.bool false, .slice none 0 0, .int .i64 0, .bool false, .slice none 0 0, .int .i64 0], .int .i64 0, .bool false], []⟩).memory Tryz.f3.params.toList Rows.exponentialCloseSpec.vars false #[Value.agg #[.bool false, .slice none 0 0, .int .i64 0, .bool false, .slice none 0 0, .int .i64 0], Value.int .i64 0, Value.bool false].toList 64 = some ([.agg [.agg [.agg [.lit (.bool false), .nil], .lit (.int .i64 0)], .agg [.agg [.lit (.bool false), .nil], .lit (.int .i64 0)]], .lit (.int .i64 0), .lit (.bool false)], [], places) :=
 ⟨[], by kernel_rfl⟩
set_option maxRecDepth 100000 in
theorem lifted (os : Os) (started : os.Started) (H : Type) (enc : TypeId × Value → H) (F : Stop.Interp) :
  ReturnsInHanded {} Tryz.checked os 3 .any ((OpenSpec.ofChange Rows.exponentialCloseSpec).preRow enc Tryz.prog Tryz.f3 Rows.exponentialCloseRow.domain false Rows.exponentialCloseRow.laid) (((OpenSpec.ofChange Rows.exponentialCloseSpec).at F).post enc Tryz.prog Tryz.f3 false true false false) := by
 obtain ⟨places, hx⟩ := reads os enc
 refine returnsInHanded_of_row (C := Tryz.checked) (s := OpenSpec.ofChange Rows.exponentialCloseSpec) ownNone started (by kernel_rfl) Tryz.func3
  (witness_row_at (enc := enc) (C := Tryz.checked) false (laidWorld os) #[.agg #[.bool false, .slice none 0 0, .int .i64 0, .bool false, .slice none 0 0, .int .i64 0], .int .i64 0, .bool false] rfl (by kernel_rfl) (by kernel_rfl) (by kernel_rfl)
   (OpenSpec.preRow_of_cond 64 hx (by kernel_rfl) (fun k hk => by cases hk) (by kernel_rfl) (laid_met os))) ?_
 intro W base args ds gs before hval hW _ _ _ hL _ _
 exact contract H enc W base args ds gs before hval hW hL
end Go.Proofs.YtlaciaoiihannaaGreatDoor.exponentialClose
