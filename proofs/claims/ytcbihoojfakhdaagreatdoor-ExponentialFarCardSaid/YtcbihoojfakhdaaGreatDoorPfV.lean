/-
  Lower layers: what functions of the program compute, and zxa facts. Conditions: as the theorems say.
-/
import Derived.Test.YtcbihoojfakhdaaGreatDoorChecked
import Derived.Test.YtcbihoojfakhdaaGreatDoorRows
import Derived.WalkKit
import Derived.ProofKit
import Derived.OpenShut
import Derived.Deep.DeepHandedRow
import Derived.Lib.LaidTab
import Derived.Lib.SmallJoins
import Derived.ChangeSlices
import Derived.Carry
import Derived.Test.YtcbihoojfakhdaaGreatDoorCards
import Derived.Test.YtcbihoojfakhdaaGreatDoorTie
import Derived.Test.YtcbihoojfakhdaaGreatDoorPfU
set_option linter.unusedVariables false
set_option linter.unusedSimpArgs false
namespace Go.Proofs.YtcbihoojfakhdaaGreatDoor
open Go.RowKit
set_option maxRecDepth 100000
set_option maxHeartbeats 2000000
def l14_FarT_0_J (_ : Bool) (_ : List Nat) (_ _ _ _ _ _ _ _ _ _ _ _ _ _ _ _ _ _ _ _ _ _ _ _ _ _ _ _ _ _ _ _ _ _ _ _ _ _ _ _ _ _ : Int) (y : Int) : Prop := y = y
abbrev l14_FarT_0_N (b1 : Bool) (l1 : List Nat) (e1 kk w m ee tx z0a z0b q0a q0b y0a y0b y0c y0d l0a l0b l0c l0d z1a z1b q1a q1b y1a y1b y1c y1d l1a l1b l1c l1d z2a z2b q2a q2b y2a y2b y2c y2d l2a l2b l2c l2d : Int) := NX (l14_FarT_0_mk b1 l1 e1 kk w m ee tx z0a z0b q0a q0b y0a y0b y0c y0d l0a l0b l0c l0d z1a z1b q1a q1b y1a y1b y1c y1d l1a l1b l1c l1d z2a z2b q2a q2b y2a y2b y2c y2d l2a l2b l2c l2d) (l14_FarT_0_I b1 l1 e1 kk w m ee tx z0a z0b q0a q0b y0a y0b y0c y0d l0a l0b l0c l0d z1a z1b q1a q1b y1a y1b y1c y1d l1a l1b l1c l1d z2a z2b q2a q2b y2a y2b y2c y2d l2a l2b l2c l2d) (l14_FarT_0_mu b1 l1 e1 kk w m ee tx z0a z0b q0a q0b y0a y0b y0c y0d l0a l0b l0c l0d z1a z1b q1a q1b y1a y1b y1c y1d l1a l1b l1c l1d z2a z2b q2a q2b y2a y2b y2c y2d l2a l2b l2c l2d) (l14_FarT_0_ex b1 l1 e1 kk w m ee tx z0a z0b q0a q0b y0a y0b y0c y0d l0a l0b l0c l0d z1a z1b q1a q1b y1a y1b y1c y1d l1a l1b l1c l1d z2a z2b q2a q2b y2a y2b y2c y2d l2a l2b l2c l2d) (l14_FarT_0_J b1 l1 e1 kk w m ee tx z0a z0b q0a q0b y0a y0b y0c y0d l0a l0b l0c l0d z1a z1b q1a q1b y1a y1b y1c y1d l1a l1b l1c l1d z2a z2b q2a q2b y2a y2b y2c y2d l2a l2b l2c l2d)
theorem zwa (b1 : Bool) (l1 : List Nat) (e1 kk w m ee tx z0a z0b q0a q0b y0a y0b y0c y0d l0a l0b l0c l0d z1a z1b q1a q1b y1a y1b y1c y1d l1a l1b l1c l1d z2a z2b q2a q2b y2a y2b y2c y2d l2a l2b l2c l2d : Int) (c0 : (-9223372036854775808 : Int) ≤ w ∧ w ≤ 9223372036854775807)(c1 : (-9223372036854775808 : Int) ≤ kk ∧ kk ≤ 9223372036854775807)(c2 : Impl Tryz.prog Amb 15 [(.agg [(.bool b1), (.sl 1 (U l1)), (.int .i64 e1)]), (.int .i64 1), (.int .i64 20)] (.tup [(yV m ee), (.bool true)]))(c3 : Impl Tryz.prog Amb 18 [(yV m ee)] (.int .i64 tx))(c4 : Impl Tryz.prog Amb 17 [(.int .i64 (kk % 200))] (yV z0a z0b))(c5 : Impl Tryz.prog Amb 20 [(wV z0a z0b z0a z0b), (.int .i64 (w % 40))] (.tup [(wV y0a y0b y0c y0d), (.int .i64 0)]))(c6 : Impl Tryz.prog Amb 21 [(yV z0a z0b), (.int .i64 (w % 40))] (wV l0a l0b l0c l0d))(c7 : Impl Tryz.prog Amb 22 [(wV y0a y0b y0c y0d), (wV l0a l0b l0c l0d), (wV l0a l0b l0c l0d), (.int .i64 (w % 40))] (.bool true))(c8 : Impl Tryz.prog Amb 17 [(.int .i64 ((0 : Int) - (kk % 1500)))] (yV z1a z1b))(c9 : Impl Tryz.prog Amb 20 [(wV z1a z1b z1a z1b), (.int .i64 (w % 40))] (.tup [(wV y1a y1b y1c y1d), (.int .i64 0)]))(c10 : Impl Tryz.prog Amb 21 [(yV z1a z1b), (.int .i64 (w % 40))] (wV l1a l1b l1c l1d))(c11 : Impl Tryz.prog Amb 22 [(wV y1a y1b y1c y1d), (wV l1a l1b l1c l1d), (wV l1a l1b l1c l1d), (.int .i64 (w % 40))] (.bool true))(c12 : Impl Tryz.prog Amb 17 [(.int .i64 ((-5000) - (kk % 5000)))] (yV z2a z2b))(c13 : Impl Tryz.prog Amb 20 [(wV z2a z2b z2a z2b), (.int .i64 (w % 40))] (.tup [(wV y2a y2b y2c y2d), (.int .i64 0)]))(c14 : Impl Tryz.prog Amb 21 [(yV z2a z2b), (.int .i64 (w % 40))] (wV l2a l2b l2c l2d))(c15 : Impl Tryz.prog Amb 22 [(wV y2a y2b y2c y2d), (wV l2a l2b l2c l2d), (wV l2a l2b l2c l2d), (.int .i64 (w % 40))] (.bool true))(c16 : 0 ≤ y0a ∧ 0 ≤ y1a ∧ 0 ≤ y2a)(c17 : 0 < tx) (x0 : (Int) ⊕ ((Int) ⊕ ((Int) ⊕ (Int)))) (hI : l14_FarT_0_I b1 l1 e1 kk w m ee tx z0a z0b q0a q0b y0a y0b y0c y0d l0a l0b l0c l0d z1a z1b q1a q1b y1a y1b y1c y1d l1a l1b l1c l1d z2a z2b q2a q2b y2a y2b y2c y2d l2a l2b l2c l2d x0) : LoopOk Tryz.prog Amb (loopN Tryz.f3 0) (l14_FarT_0_mk b1 l1 e1 kk w m ee tx z0a z0b q0a q0b y0a y0b y0c y0d l0a l0b l0c l0d z1a z1b q1a q1b y1a y1b y1c y1d l1a l1b l1c l1d z2a z2b q2a q2b y2a y2b y2c y2d l2a l2b l2c l2d x0) (fun e st_ => ∃ y, l14_FarT_0_J b1 l1 e1 kk w m ee tx z0a z0b q0a q0b y0a y0b y0c y0d l0a l0b l0c l0d z1a z1b q1a q1b y1a y1b y1c y1d l1a l1b l1c l1d z2a z2b q2a q2b y2a y2b y2c y2d l2a l2b l2c l2d y ∧ l14_FarT_0_ex b1 l1 e1 kk w m ee tx z0a z0b q0a q0b y0a y0b y0c y0d l0a l0b l0c l0d z1a z1b q1a q1b y1a y1b y1c y1d l1a l1b l1c l1d z2a z2b q2a q2b y2a y2b y2c y2d l2a l2b l2c l2d y = (e, st_)) :=
 z72 hP hAmb ⟨[1, 7, 34, 35, 36], 3, []⟩ (l14_FarT_0_mk b1 l1 e1 kk w m ee tx z0a z0b q0a q0b y0a y0b y0c y0d l0a l0b l0c l0d z1a z1b q1a q1b y1a y1b y1c y1d l1a l1b l1c l1d z2a z2b q2a q2b y2a y2b y2c y2d l2a l2b l2c l2d) (l14_FarT_0_I b1 l1 e1 kk w m ee tx z0a z0b q0a q0b y0a y0b y0c y0d l0a l0b l0c l0d z1a z1b q1a q1b y1a y1b y1c y1d l1a l1b l1c l1d z2a z2b q2a q2b y2a y2b y2c y2d l2a l2b l2c l2d) (l14_FarT_0_mu b1 l1 e1 kk w m ee tx z0a z0b q0a q0b y0a y0b y0c y0d l0a l0b l0c l0d z1a z1b q1a q1b y1a y1b y1c y1d l1a l1b l1c l1d z2a z2b q2a q2b y2a y2b y2c y2d l2a l2b l2c l2d) (l14_FarT_0_ex b1 l1 e1 kk w m ee tx z0a z0b q0a q0b y0a y0b y0c y0d l0a l0b l0c l0d z1a z1b q1a q1b y1a y1b y1c y1d l1a l1b l1c l1d z2a z2b q2a q2b y2a y2b y2c y2d l2a l2b l2c l2d) (l14_FarT_0_J b1 l1 e1 kk w m ee tx z0a z0b q0a q0b y0a y0b y0c y0d l0a l0b l0c l0d z1a z1b q1a q1b y1a y1b y1c y1d l1a l1b l1c l1d z2a z2b q2a q2b y2a y2b y2c y2d l2a l2b l2c l2d) x0 hI (Sum.elim (fun u => .lits 5 <| .call (yV z0a z0b) <| .lits 3 <| .call (.int .i64 tx) <| .lit <| .no <| .lits 9 <| .call (.tup [(wV y0a y0b y0c y0d), (.int .i64 0)]) <| .lits 3 <| .call (wV l0a l0b l0c l0d) <| .lits 8 <| .no <| .lits 8 <| .call (.bool true) <| .lits 5 <| .yes <| .fin3 ⟨[1, 7, 34, 35, 36], [0, 1, 2]⟩) (Sum.elim (fun u => .lits 5 <| .call (yV z1a z1b) <| .lits 3 <| .call (.int .i64 tx) <| .lit <| .no <| .lits 9 <| .call (.tup [(wV y1a y1b y1c y1d), (.int .i64 0)]) <| .lits 3 <| .call (wV l1a l1b l1c l1d) <| .lits 8 <| .no <| .lits 8 <| .call (.bool true) <| .lits 5 <| .yes <| .fin3 ⟨[1, 7, 34, 35, 36], [0, 1, 2]⟩) (Sum.elim (fun u => .lits 5 <| .call (yV z2a z2b) <| .lits 3 <| .call (.int .i64 tx) <| .lit <| .no <| .lits 9 <| .call (.tup [(wV y2a y2b y2c y2d), (.int .i64 0)]) <| .lits 3 <| .call (wV l2a l2b l2c l2d) <| .lits 8 <| .no <| .lits 8 <| .call (.bool true) <| .lits 5 <| .yes <| .fin3 ⟨[1, 7, 34, 35, 36], [0, 1, 2]⟩) (fun u => .lits 2 <| .fin3 ⟨[], [0, 1]⟩)))) (by
  rintro (u | u | u | u) hI
  ·skip
   have hI : u = u := hI
   have h1 := hI
   exact z6t (aI True.intro (aI (c4 ) (aI (c3 ) (aI (z82 oS : (iLe tx 0) = false) (aI (c5 ) (aI (c6 ) (aI (decide_eq_false oO : (decide (y0a < 0)) = false) (aI (c7 ) (aI tT (aI tT ((z6z (Sum.inr (Sum.inl u)) (show u = u from rfl) (show 9 - 1 < 9 - 0 by omega) : l14_FarT_0_N b1 l1 e1 kk w m ee tx z0a z0b q0a q0b y0a y0b y0c y0d l0a l0b l0c l0d z1a z1b q1a q1b y1a y1b y1c y1d l1a l1b l1c l1d z2a z2b q2a q2b y2a y2b y2c y2d l2a l2b l2c l2d (Sum.inl u) .normal (l14_FarT_0_mk b1 l1 e1 kk w m ee tx z0a z0b q0a q0b y0a y0b y0c y0d l0a l0b l0c l0d z1a z1b q1a q1b y1a y1b y1c y1d l1a l1b l1c l1d z2a z2b q2a q2b y2a y2b y2c y2d l2a l2b l2c l2d (Sum.inr (Sum.inl u))))))))))))))) (by kernel_rfl)
  ·skip
   have hI : u = u := hI
   have h1 := hI
   exact z6t (aI True.intro (aI (c8 ) (aI (c3 ) (aI (z82 oS : (iLe tx 0) = false) (aI (c9 ) (aI (c10 ) (aI (decide_eq_false oO : (decide (y1a < 0)) = false) (aI (c11 ) (aI tT (aI tT ((z6z (Sum.inr (Sum.inr (Sum.inl u))) (show u = u from rfl) (show 9 - 2 < 9 - 1 by omega) : l14_FarT_0_N b1 l1 e1 kk w m ee tx z0a z0b q0a q0b y0a y0b y0c y0d l0a l0b l0c l0d z1a z1b q1a q1b y1a y1b y1c y1d l1a l1b l1c l1d z2a z2b q2a q2b y2a y2b y2c y2d l2a l2b l2c l2d (Sum.inr (Sum.inl u)) .normal (l14_FarT_0_mk b1 l1 e1 kk w m ee tx z0a z0b q0a q0b y0a y0b y0c y0d l0a l0b l0c l0d z1a z1b q1a q1b y1a y1b y1c y1d l1a l1b l1c l1d z2a z2b q2a q2b y2a y2b y2c y2d l2a l2b l2c l2d (Sum.inr (Sum.inr (Sum.inl u)))))))))))))))) (by kernel_rfl)
  ·skip
   have hI : u = u := hI
   have h1 := hI
   exact z6t (aI True.intro (aI (c12 ) (aI (c3 ) (aI (z82 oS : (iLe tx 0) = false) (aI (c13 ) (aI (c14 ) (aI (decide_eq_false oO : (decide (y2a < 0)) = false) (aI (c15 ) (aI tT (aI tT ((z6z (Sum.inr (Sum.inr (Sum.inr u))) (show u = u from rfl) (show 9 - 3 < 9 - 2 by omega) : l14_FarT_0_N b1 l1 e1 kk w m ee tx z0a z0b q0a q0b y0a y0b y0c y0d l0a l0b l0c l0d z1a z1b q1a q1b y1a y1b y1c y1d l1a l1b l1c l1d z2a z2b q2a q2b y2a y2b y2c y2d l2a l2b l2c l2d (Sum.inr (Sum.inr (Sum.inl u))) .normal (l14_FarT_0_mk b1 l1 e1 kk w m ee tx z0a z0b q0a q0b y0a y0b y0c y0d l0a l0b l0c l0d z1a z1b q1a q1b y1a y1b y1c y1d l1a l1b l1c l1d z2a z2b q2a q2b y2a y2b y2c y2d l2a l2b l2c l2d (Sum.inr (Sum.inr (Sum.inr u)))))))))))))))) (by kernel_rfl)
  ·skip
   have hI : u = u := hI
   have h1 := hI
   exact z6t (aI True.intro (aI tT ((z70 0 ((l14_FarT_0_ex b1 l1 e1 kk w m ee tx z0a z0b q0a q0b y0a y0b y0c y0d l0a l0b l0c l0d z1a z1b q1a q1b y1a y1b y1c y1d l1a l1b l1c l1d z2a z2b q2a q2b y2a y2b y2c y2d l2a l2b l2c l2d u).2) u (show u = u from rfl) rfl : l14_FarT_0_N b1 l1 e1 kk w m ee tx z0a z0b q0a q0b y0a y0b y0c y0d l0a l0b l0c l0d z1a z1b q1a q1b y1a y1b y1c y1d l1a l1b l1c l1d z2a z2b q2a q2b y2a y2b y2c y2d l2a l2b l2c l2d (Sum.inr (Sum.inr (Sum.inr u))) (.exit 0) ((l14_FarT_0_ex b1 l1 e1 kk w m ee tx z0a z0b q0a q0b y0a y0b y0c y0d l0a l0b l0c l0d z1a z1b q1a q1b y1a y1b y1c y1d l1a l1b l1c l1d z2a z2b q2a q2b y2a y2b y2c y2d l2a l2b l2c l2d u).2))))) (by kernel_rfl))
theorem zwb (b1 : Bool) (l1 : List Nat) (e1 : Int) (kk : Int) (w : Int) (m : Int) (ee : Int) (tx : Int) (z0a : Int) (z0b : Int) (q0a : Int) (q0b : Int) (y0a : Int) (y0b : Int) (y0c : Int) (y0d : Int) (l0a : Int) (l0b : Int) (l0c : Int) (l0d : Int) (z1a : Int) (z1b : Int) (q1a : Int) (q1b : Int) (y1a : Int) (y1b : Int) (y1c : Int) (y1d : Int) (l1a : Int) (l1b : Int) (l1c : Int) (l1d : Int) (z2a : Int) (z2b : Int) (q2a : Int) (q2b : Int) (y2a : Int) (y2b : Int) (y2c : Int) (y2d : Int) (l2a : Int) (l2b : Int) (l2c : Int) (l2d : Int) (c0 : (-9223372036854775808 : Int) ≤ w ∧ w ≤ 9223372036854775807) (c1 : (-9223372036854775808 : Int) ≤ kk ∧ kk ≤ 9223372036854775807) (c2 : Impl Tryz.prog Amb 15 [(.agg [(.bool b1), (.sl 1 (U l1)), (.int .i64 e1)]), (.int .i64 1), (.int .i64 20)] (.tup [(yV m ee), (.bool true)])) (c3 : Impl Tryz.prog Amb 18 [(yV m ee)] (.int .i64 tx)) (c4 : Impl Tryz.prog Amb 17 [(.int .i64 (kk % 200))] (yV z0a z0b)) (c5 : Impl Tryz.prog Amb 20 [(wV z0a z0b z0a z0b), (.int .i64 (w % 40))] (.tup [(wV y0a y0b y0c y0d), (.int .i64 0)])) (c6 : Impl Tryz.prog Amb 21 [(yV z0a z0b), (.int .i64 (w % 40))] (wV l0a l0b l0c l0d)) (c7 : Impl Tryz.prog Amb 22 [(wV y0a y0b y0c y0d), (wV l0a l0b l0c l0d), (wV l0a l0b l0c l0d), (.int .i64 (w % 40))] (.bool true)) (c8 : Impl Tryz.prog Amb 17 [(.int .i64 ((0 : Int) - (kk % 1500)))] (yV z1a z1b)) (c9 : Impl Tryz.prog Amb 20 [(wV z1a z1b z1a z1b), (.int .i64 (w % 40))] (.tup [(wV y1a y1b y1c y1d), (.int .i64 0)])) (c10 : Impl Tryz.prog Amb 21 [(yV z1a z1b), (.int .i64 (w % 40))] (wV l1a l1b l1c l1d)) (c11 : Impl Tryz.prog Amb 22 [(wV y1a y1b y1c y1d), (wV l1a l1b l1c l1d), (wV l1a l1b l1c l1d), (.int .i64 (w % 40))] (.bool true)) (c12 : Impl Tryz.prog Amb 17 [(.int .i64 ((-5000) - (kk % 5000)))] (yV z2a z2b)) (c13 : Impl Tryz.prog Amb 20 [(wV z2a z2b z2a z2b), (.int .i64 (w % 40))] (.tup [(wV y2a y2b y2c y2d), (.int .i64 0)])) (c14 : Impl Tryz.prog Amb 21 [(yV z2a z2b), (.int .i64 (w % 40))] (wV l2a l2b l2c l2d)) (c15 : Impl Tryz.prog Amb 22 [(wV y2a y2b y2c y2d), (wV l2a l2b l2c l2d), (wV l2a l2b l2c l2d), (.int .i64 (w % 40))] (.bool true)) (c16 : 0 ≤ y0a ∧ 0 ≤ y1a ∧ 0 ≤ y2a) (c17 : 0 < tx) : Impl Tryz.prog Amb 3 [(.int .i64 kk), (.int .i64 w), (.agg [(.bool b1), (.sl 1 (U l1)), (.int .i64 e1)])] (.bool true) := by
 exact z6u hP hAmb Tryz.func3 (by kernel_rfl) (.lit <| .call (.bool true) <| .lits 4 <| .call (.tup [(yV m ee), (.bool true)]) <| .lits 4 <| .call (.int .i64 (w % 40)) <| .lit <| .call (.int .i64 (kk % 200)) <| .lit <| .call (.int .i64 (kk % 1500)) <| .lit <| .yes <| .lit <| .call (.int .i64 (kk % 5000)) <| .lit <| .yes <| .loop ⟨[1, 7, 34, 35, 36], 3, []⟩ ((l14_FarT_0_mk b1 l1 e1 kk w m ee tx z0a z0b q0a q0b y0a y0b y0c y0d l0a l0b l0c l0d z1a z1b q1a q1b y1a y1b y1c y1d l1a l1b l1c l1d z2a z2b q2a q2b y2a y2b y2c y2d l2a l2b l2c l2d (Sum.inl (0 : Int)))) (Int) (l14_FarT_0_ex b1 l1 e1 kk w m ee tx z0a z0b q0a q0b y0a y0b y0c y0d l0a l0b l0c l0d z1a z1b q1a q1b y1a y1b y1c y1d l1a l1b l1c l1d z2a z2b q2a q2b y2a y2b y2c y2d l2a l2b l2c l2d) (l14_FarT_0_J b1 l1 e1 kk w m ee tx z0a z0b q0a q0b y0a y0b y0c y0d l0a l0b l0c l0d z1a z1b q1a q1b y1a y1b y1c y1d l1a l1b l1c l1d z2a z2b q2a q2b y2a y2b y2c y2d l2a l2b l2c l2d) (fun y => .lit <| .ret))
  (z6t (aI True.intro (aI (zt5 ) (aI (c2 ) (aI (zpf w 40 oS oS) (have f8 := Int.emod_lt_of_pos w (show (0 : Int) < 40 by first | omega | assumption); have f7 := Int.emod_nonneg w (show (40 : Int) ≠ 0 by first | omega | assumption); aI (zpf kk 200 oS oS) (have f6 := Int.emod_lt_of_pos kk (show (0 : Int) < 200 by first | omega | assumption); have f5 := Int.emod_nonneg kk (show (200 : Int) ≠ 0 by first | omega | assumption); aI (zpf kk 1500 oS oS) (have f4 := Int.emod_lt_of_pos kk (show (0 : Int) < 1500 by first | omega | assumption); have f3 := Int.emod_nonneg kk (show (1500 : Int) ≠ 0 by first | omega | assumption); aI (z89 oS : (fits .i64 ((0 : Int) - (kk % 1500))) = true) (aI (zpf kk 5000 oS oS) (have f2 := Int.emod_lt_of_pos kk (show (0 : Int) < 5000 by first | omega | assumption); have f1 := Int.emod_nonneg kk (show (5000 : Int) ≠ 0 by first | omega | assumption); aI (z89 oS : (fits .i64 ((-5000) - (kk % 5000))) = true) (aI tT (aI (rfl : (l14_FarT_0_mk b1 l1 e1 kk w m ee tx z0a z0b q0a q0b y0a y0b y0c y0d l0a l0b l0c l0d z1a z1b q1a q1b y1a y1b y1c y1d l1a l1b l1c l1d z2a z2b q2a q2b y2a y2b y2c y2d l2a l2b l2c l2d (Sum.inl (0 : Int))) = (l14_FarT_0_mk b1 l1 e1 kk w m ee tx z0a z0b q0a q0b y0a y0b y0c y0d l0a l0b l0c l0d z1a z1b q1a q1b y1a y1b y1c y1d l1a l1b l1c l1d z2a z2b q2a q2b y2a y2b y2c y2d l2a l2b l2c l2d (Sum.inl (0 : Int)))) (aI (zwa b1 l1 e1 kk w m ee tx z0a z0b q0a q0b y0a y0b y0c y0d l0a l0b l0c l0d z1a z1b q1a q1b y1a y1b y1c y1d l1a l1b l1c l1d z2a z2b q2a q2b y2a y2b y2c y2d l2a l2b l2c l2d c0 c1 c2 c3 c4 c5 c6 c7 c8 c9 c10 c11 c12 c13 c14 c15 c16 c17 (Sum.inl (0 : Int)) (show (0 : Int) = (0 : Int) from rfl)) (fun y (hJ : l14_FarT_0_J b1 l1 e1 kk w m ee tx z0a z0b q0a q0b y0a y0b y0c y0d l0a l0b l0c l0d z1a z1b q1a q1b y1a y1b y1c y1d l1a l1b l1c l1d z2a z2b q2a q2b y2a y2b y2c y2d l2a l2b l2c l2d y) => have hJ : y = y := hJ; (z6b (.bool true))))))))))))))) (by kernel_rfl))
theorem zwc (p : Int) : flr (dv 0 0) p = 0 := by
 have a := znh 0 0 p
 rw [a]; split
 ·rw [Int.zero_mul]
 ·rw [Int.zero_ediv]
theorem zwd {r : Rat} {p : Int} (h0 : 0 < r) (h1 : r ≤ dv 1 (-p)) : cei r p = 1 := by
 have a := znn.2 h1
 have b := znm r p
 have c : 0 < cei r p := (znc (m := cei r p) (e := -p)).1 (by generalize dv (cei r p) (-p) = z at *; grind)
 omega
theorem zwe (m e w : Int) (hv : vdb m e = true) (hL : L (m).natAbs ≤ 20) (he : -1000 ≤ e ∧ e ≤ 200) (hw : 0 ≤ w ∧ w ≤ 200) (hc : ((-4000 ≤ dv m e ∧ (topD m e ≤ 8 ∨ (m < 0 ∧ topD m e ≤ 11))) ∨ dv m e < -4000)) :
  ∃ ra rb : Int, Impl Tryz.prog Amb 21 [(yV m e), (.int .i64 w)] (wV (mkM ra (-(w + 16))) (mkX ra (-(w + 16))) (mkM rb (-(w + 16))) (mkX rb (-(w + 16)))) ∧ (L ra.natAbs ≤ 300 ∧ L rb.natAbs ≤ 300) ∧ ∀ g : Rat, 0 < g → EnE (EP (dv m e)) (w.toNat + 16) ra rb g := by
 rcases hc with hc | hc
 ·exact zvk m e w hL he hw hc.1 hc.2
 ·have hOf := zjq (-4000) oO
  have of := zpk (n := -4000) oO
  have hCmp := zjl m e (mkM (-4000) 0) (mkX (-4000) 0) oO oO oO oO
  have hk : cmpD m e (mkM (-4000) 0) (mkX (-4000) 0) < 0 := by
   refine zpc.2 ?_
   rw [of.2.2.2.2.2]
   exact hc
  have hO1 := zjq 1 oO
  have one : mkM 1 0 = 1 := by kernel_rfl
  have l1 := zk6 1 (by decide)
  have l1' : L (1 : Int).natAbs ≤ 1 := l1
  have hM := zjg 1 (-4096) (by show L 1 ≤ 32768; omega) oO
  have mf := zpj (m := 1) (e := -4096) (by show L 1 ≤ 900; omega) oO
  have i1 := zia (-4096) 0
  have i2 : iMax (-4096) 0 ≤ 0 := by unfold iMax; split <;> omega
  have ll : L (mkM 1 (-4096)).natAbs ≤ 1 := by have : L (1 : Int).natAbs = L 1 := rfl; omega
  have hF := zw1 0 0 (w + 16) (by show L 0 ≤ 8000; rw [z8z]; omega) oO (by decide) oO
  have hF : Impl Tryz.prog Amb 135 [(.agg [(.bool false), .nil, (.int .i64 0)]), (.int .i64 (w + 16))] (.tup [(yV (mkM (flr (dv 0 0) (w + 16)) (-(w + 16))) (mkX (flr (dv 0 0) (w + 16)) (-(w + 16)))), (.int .i64 (mkE (flr (dv 0 0) (w + 16)) (-(w + 16))))]) := zo5 (fun w S l h => by
   cases h with | cons h1 h => cases h with | cons h2 h => cases h with | nil => exact .cons (zt6 h1) (.cons h2 .nil)) hF
  have hC := zw2 (mkM 1 (-4096)) (mkX 1 (-4096)) (w + 16) oO oO mf.2.2.2.2.1 oO
  have cv : cei (dv (mkM 1 (-4096)) (mkX 1 (-4096))) (w + 16) = 1 := by
   rw [mf.2.2.2.2.2]
   exact zwd (znc.2 (by decide)) (zqy oO)
  rw [cv, zoc (m := 1) (e := -(w + 16)) (by show L 1 ≤ 900; omega) oO] at hC
  rw [zwc, zoc (m := 0) (e := -(w + 16)) (by show L 0 ≤ 900; rw [z8z]; omega) oO] at hF
  have hOut := zw3 _ _ _ _ _ _ _ hF hC
  rw [one] at hO1
  refine ⟨0, 1, zw4 m e w _ _ _ 1 _ _ _ _ _ _ _ _ _ oO hk hOf hCmp hO1 hM hOut, ⟨by show L 0 ≤ 300; rw [z8z]; omega, by show L 1 ≤ 300; omega⟩, fun g hg => ?_⟩
  have wr : (((w.toNat + 16 : Nat) : Nat) : Rat) ≤ 4000 := Rat.natCast_le_natCast.2 (show w.toNat + 16 ≤ 4000 by omega)
  obtain ⟨N1, s1⟩ := zvp (d := dv m e) (n := w.toNat + 16) (by grind) g hg
  obtain ⟨p, p0, N2, s2⟩ := zuc (dv m e)
  refine ⟨N1 + N2, fun K hK => ?_⟩
  have s1 : EP (dv m e) K * (2 : Rat) ^ (w.toNat + 16) ≤ 1 + g := s1 K oO
  have s2 := s2 K oO
  have P : (0 : Rat) < ((2 ^ (w.toNat + 16) : Int) : Rat) := Rat.intCast_pos.2 (zip _)
  have m1 := Rat.mul_nonneg (show 0 ≤ EP (dv m e) K by grind) (Rat.le_of_lt P)
  rw [zvq] at s1
  refine ⟨?_, s1⟩
  show (0 : Rat) ≤ _
  grind
theorem zwf {m e t : Int} (t0 : 0 ≤ t) (h1 : -(dv 1 t) < dv m e) (h2 : dv m e < dv 1 t) : topD m e ≤ t := by
 refine Decidable.byContradiction fun hn => ?_
 have hx : m ≠ 0 := fun q => by unfold topD at hn; rw [if_pos q] at hn; omega
 have a := (zqx (e := e) hx).2
 have u := zqy (a := t) (b := topD m e - 1) oO
 rcases (show (m.natAbs : Int) = m ∨ (m.natAbs : Int) = -m by omega) with q | q
 ·rw [q] at a
  grind
 ·rw [q, zn8] at a
  grind
theorem zwg (a b k : Int) (hv : vdb a b = true) (hL : L a.natAbs ≤ 20) (he : -440 ≤ b ∧ b ≤ 130) (h9 : dv a b ≤ 199) (hc : ((-4000 ≤ dv a b ∧ (topD a b ≤ 8 ∨ (a < 0 ∧ topD a b ≤ 11))) ∨ dv a b < -4000)) (hk : 0 ≤ k ∧ k < 40) : ∃ ya yb yc yd la lb lc ld : Int, Impl Tryz.prog Amb 20 [(wV a b a b), (.int .i64 k)] (.tup [(wV ya yb yc yd), (.int .i64 0)]) ∧ Impl Tryz.prog Amb 21 [(yV a b), (.int .i64 k)] (wV la lb lc ld) ∧ Impl Tryz.prog Amb 22 [(wV ya yb yc yd), (wV la lb lc ld), (wV la lb lc ld), (.int .i64 k)] (.bool true) ∧ 0 ≤ ya := by
 have c289 : ((289 : Int) : Rat) = 289 := rfl
 obtain ⟨l1, h1', l2, h2', hA, ⟨e1, w1, p1, z1⟩, ⟨e2, w2, p2, z2⟩, z3⟩ := zvx a b a b k 289 oO hL he (by grind) (by rw [c289]; grind) hL he (by grind) (by rw [c289]; grind) oO oO
 obtain ⟨a1, b1, hB, ⟨z4, z5⟩, e3⟩ := zwe a b k hv hL oO oO hc
 obtain ⟨n1, n2, n3, n4, n5⟩ := zvy (Lq.refl _) w1 w2 e1 e2 (e3 gE gE_b.1) (e3 gE gE_b.1)
 exact ⟨_, _, _, _, _, _, _, _, hA, hB, zqv l1 h2' a1 b1 a1 b1 k oO oO oO oO oO oO oO n1 n2 n3 n4 n5, zw0 p1 oO oO⟩
theorem zwh {a b v : Int} {x : Rat} (hv : vdb a b = true) (v1 : -20000 ≤ v) (v2 : v ≤ 20000) (x0 : 0 ≤ x) (x1 : x ≤ 1) (hd : dv a b = (v : Rat) + -x) : b ≤ 130 := by
 have c1 : ((-20000 : Int) : Rat) ≤ (v : Rat) := Rat.intCast_le_intCast.2 v1
 have c2 : (v : Rat) ≤ ((20000 : Int) : Rat) := Rat.intCast_le_intCast.2 v2
 rw [show ((-20000 : Int) : Rat) = -20000 from rfl] at c1
 rw [show ((20000 : Int) : Rat) = 20000 from rfl] at c2
 have d15 : dv 1 15 = 32768 := of_decide_eq_true (by kernel_rfl)
 have t := zwf (m := a) (e := b) (t := 15) oO (by rw [d15]; grind) (by rw [d15]; grind)
 rcases zir a b with q | q
 ·rcases zi9.1 hv with r | r
  ·omega
  ·exact absurd q.1 r.1
 ·omega
theorem zwi {a b v lo hi : Int} (hd : dv a b ≤ (hi : Rat)) (hd2 : (lo : Rat) - 1 ≤ dv a b) (h : (0 ≤ lo ∧ hi ≤ 199) ∨ (-1500 ≤ lo ∧ hi ≤ 0) ∨ hi ≤ -5000) : dv a b ≤ 199 ∧ ((-4000 ≤ dv a b ∧ (topD a b ≤ 8 ∨ (a < 0 ∧ topD a b ≤ 11))) ∨ dv a b < -4000) := by
 have d8 : dv 1 8 = 256 := of_decide_eq_true (by kernel_rfl)
 have d11 : dv 1 11 = 2048 := of_decide_eq_true (by kernel_rfl)
 rcases h with h | h | h
 ·have c1 : ((0 : Int) : Rat) ≤ (lo : Rat) := Rat.intCast_le_intCast.2 h.1
  have c2 : (hi : Rat) ≤ ((199 : Int) : Rat) := Rat.intCast_le_intCast.2 h.2
  rw [show ((0 : Int) : Rat) = 0 from rfl] at c1
  rw [show ((199 : Int) : Rat) = 199 from rfl] at c2
  exact ⟨by grind, .inl ⟨by grind, .inl (zwf oO (by rw [d8]; grind) (by rw [d8]; grind))⟩⟩
 ·have c1 : ((-1500 : Int) : Rat) ≤ (lo : Rat) := Rat.intCast_le_intCast.2 h.1
  have c2 : (hi : Rat) ≤ ((0 : Int) : Rat) := Rat.intCast_le_intCast.2 h.2
  rw [show ((0 : Int) : Rat) = 0 from rfl] at c2
  rw [show ((-1500 : Int) : Rat) = -1500 from rfl] at c1
  refine ⟨by grind, .inl ⟨by grind, ?_⟩⟩
  have t := zwf (m := a) (e := b) (t := 11) oO (by rw [d11]; grind) (by rw [d11]; grind)
  have s : a ≤ 0 := (zn5 (c := b)).1 (by rw [zn6]; grind)
  by_cases z : a = 0
  ·left; unfold topD; rw [if_pos z]; omega
  ·right; exact ⟨by omega, t⟩
 ·have c2 : (hi : Rat) ≤ ((-5000 : Int) : Rat) := Rat.intCast_le_intCast.2 h
  rw [show ((-5000 : Int) : Rat) = -5000 from rfl] at c2
  exact ⟨by grind, .inr (by grind)⟩
theorem zwj (kk w : Int) (b1 : Bool) (l1 : List Nat) (e1 : Int) (c3 : (-9223372036854775808 : Int) ≤ kk ∧ kk ≤ 9223372036854775807) (c4 : (-9223372036854775808 : Int) ≤ w ∧ w ≤ 9223372036854775807) (c0 : Dig l1) (c1 : l1.length ≤ 9223372036854775807) (c2 : (-9223372036854775808 : Int) ≤ e1 ∧ e1 ≤ 9223372036854775807) : Impl Tryz.prog Amb 3 [.int .i64 kk, .int .i64 w, (.agg [(.bool b1), (.sl 1 (U l1)), (.int .i64 e1)])] (.bool true) := by
 have w1 := Int.emod_nonneg w (show (40 : Int) ≠ 0 by omega)
 have w2 := Int.emod_lt_of_pos w (show (0 : Int) < 40 by omega)
 have k1 := Int.emod_nonneg kk (show (200 : Int) ≠ 0 by omega)
 have k2 := Int.emod_lt_of_pos kk (show (0 : Int) < 200 by omega)
 have k3 := Int.emod_nonneg kk (show (1500 : Int) ≠ 0 by omega)
 have k4 := Int.emod_lt_of_pos kk (show (0 : Int) < 1500 by omega)
 have k5 := Int.emod_nonneg kk (show (5000 : Int) ≠ 0 by omega)
 have k6 := Int.emod_lt_of_pos kk (show (0 : Int) < 5000 by omega)
 have hD := zph b1 l1 e1 1 20 c0 c1 c2 oO oO
 have hr := zof (b := b1) (n := 1) c0 oO
 have ej := Int.emod_nonneg e1 (show (2 * 20 + 1 : Int) ≠ 0 by omega)
 have ek := Int.emod_lt_of_pos e1 (show (0 : Int) < 2 * 20 + 1 by omega)
 have mf := zpj (m := (rawI b1 l1 1)) (e := (e1 % (2 * 20 + 1) - 20)) oO oO
 have i1 := zia (e1 % (2 * 20 + 1) - 20) 0
 have i2 : iMax (e1 % (2 * 20 + 1) - 20) 0 ≤ 20 := by unfold iMax; split <;> omega
 have hs : L (mkM (rawI b1 l1 1) (e1 % (2 * 20 + 1) - 20)).natAbs ≤ 1 ∧ -20 ≤ (mkX (rawI b1 l1 1) (e1 % (2 * 20 + 1) - 20)) ∧ (mkX (rawI b1 l1 1) (e1 % (2 * 20 + 1) - 20)) ≤ 60 := by omega
 have hv := mf.2.2.2.2.1
 generalize (mkM (rawI b1 l1 1) (e1 % (2 * 20 + 1) - 20)) = m at hD hs hv
 generalize (mkX (rawI b1 l1 1) (e1 % (2 * 20 + 1) - 20)) = ee at hD hs hv
 clear mf hr ej ek i1 i2
 by_cases hl : (l1.length : Int) ≤ 1
 ·rw [decide_eq_true hl] at hD
  have hT := zji m ee oO oO
  have key : ∀ v : Int, -20000 ≤ v → v ≤ 20000 → (0 ≤ v ∧ v ≤ 199 ∨ -1500 ≤ v ∧ v ≤ 0 ∨ v ≤ -5000) → ∃ za zb ya yb yc yd la lb lc ld : Int, Impl Tryz.prog Amb 17 [(.int .i64 v)] (yV za zb) ∧ Impl Tryz.prog Amb 20 [(wV za zb za zb), (.int .i64 (w % 40))] (.tup [(wV ya yb yc yd), (.int .i64 0)]) ∧ Impl Tryz.prog Amb 21 [(yV za zb), (.int .i64 (w % 40))] (wV la lb lc ld) ∧ Impl Tryz.prog Amb 22 [(wV ya yb yc yd), (wV la lb lc ld), (wV la lb lc ld), (.int .i64 (w % 40))] (.bool true) ∧ 0 ≤ ya := by
   intro v v1 v2 v3
   have hO := zjq v oO
   have of := zpk (n := v) oO
   have fa := zwi (a := mkM v 0) (b := mkX v 0) (v := v) (lo := v) (hi := v) (by rw [of.2.2.2.2.2]; exact Rat.le_refl) (by rw [of.2.2.2.2.2]; grind) v3
   obtain ⟨_, _, _, _, _, _, _, _, x1, x2, x3, x4⟩ := zwg (mkM v 0) (mkX v 0) (w % 40) of.2.2.2.2.1 oO oO fa.1 fa.2 oO
   exact ⟨_, _, _, _, _, _, _, _, _, _, hO, x1, x2, x3, x4⟩
  by_cases ht : topD m ee ≤ 0
  ·by_cases hm : 0 ≤ m
   ·have x0 : 0 ≤ dv m ee := zqw.2 hm
    have x1 : dv m ee ≤ 1 := by
     have a := (zvz ht).2
     have b : dv 1 0 = 1 := of_decide_eq_true (by kernel_rfl)
     rw [b] at a; exact a
    have sub : ∀ v : Int, -20000 ≤ v → v ≤ 20000 → (0 ≤ v ∧ v ≤ 199 ∨ -1500 ≤ v ∧ v ≤ 0 ∨ v ≤ -5000) → ∃ za zb qa qb ya yb yc yd la lb lc ld : Int, Impl Tryz.prog Amb 17 [(.int .i64 v)] (yV za zb) ∧ Impl Tryz.prog Amb 19 [(yV za zb), (yV m ee)] (.tup [(yV qa qb), (.int .i64 0)]) ∧ Impl Tryz.prog Amb 20 [(wV qa qb qa qb), (.int .i64 (w % 40))] (.tup [(wV ya yb yc yd), (.int .i64 0)]) ∧ Impl Tryz.prog Amb 21 [(yV qa qb), (.int .i64 (w % 40))] (wV la lb lc ld) ∧ Impl Tryz.prog Amb 22 [(wV ya yb yc yd), (wV la lb lc ld), (wV la lb lc ld), (.int .i64 (w % 40))] (.bool true) ∧ 0 ≤ ya := by
     intro v v1 v2 v3
     have hO := zjq v oO
     have of := zpk (n := v) oO
     have hS := zjn (mkM v 0) (mkX v 0) m ee oO oO oO oO
     have ln := zdh m
     have aL := zpn (m := mkM v 0) (e := mkX v 0) (n := -m) (f := ee) (a := 2) (c := 4) oO oO oO oO
     have im := zia (mkX v 0) ee
     have sf := zpj (m := adS (mkM v 0) (mkX v 0) (-m) ee) (e := iMin (mkX v 0) ee) oO oO
     have j1 := zia (iMin (mkX v 0) ee) 0
     have j2 : iMax (iMin (mkX v 0) ee) 0 ≤ 130 := by unfold iMax; split <;> omega
     rw [sf.1] at hS
     have hd := sf.2.2.2.2.2
     rw [zna, of.2.2.2.2.2, zn8] at hd
     have fa := zwi (a := mkM (adS (mkM v 0) (mkX v 0) (-m) ee) (iMin (mkX v 0) ee)) (b := mkX (adS (mkM v 0) (mkX v 0) (-m) ee) (iMin (mkX v 0) ee)) (v := v) (lo := v) (hi := v) (by rw [hd]; grind) (by rw [hd]; grind) v3
     have bx : mkX (adS (mkM v 0) (mkX v 0) (-m) ee) (iMin (mkX v 0) ee) ≤ 130 := zwh sf.2.2.2.2.1 v1 v2 x0 x1 hd
     obtain ⟨_, _, _, _, _, _, _, _, x1, x2, x3, x4⟩ := zwg (mkM (adS (mkM v 0) (mkX v 0) (-m) ee) (iMin (mkX v 0) ee)) (mkX (adS (mkM v 0) (mkX v 0) (-m) ee) (iMin (mkX v 0) ee)) (w % 40) sf.2.2.2.2.1 oO oO fa.1 fa.2 oO
     exact ⟨_, _, _, _, _, _, _, _, _, _, _, _, hO, hS, x1, x2, x3, x4⟩
    obtain ⟨_, _, _, _, _, _, _, _, _, _, _, _, a1, a2, a3, a4, a5, a6⟩ := sub (kk % 200) oO oO oO
    obtain ⟨_, _, _, _, _, _, _, _, _, _, _, _, b1, b2, b3, b4, b5, b6⟩ := sub ((0 : Int) - (kk % 1500)) oO oO oO
    obtain ⟨_, _, _, _, _, _, _, _, _, _, _, _, d1, d2, d3, d4, d5, d6⟩ := sub ((-5000) - (kk % 5000)) oO oO oO
    exact zw7 _ l1 e1 kk w m ee (topD m ee) _ _ _ _ _ _ _ _ _ _ _ _ _ _ _ _ _ _ _ _ _ _ _ _ _ _ _ _ _ _ _ _ _ _ _ _ c4 c3 hD hT a1 a2 a3 a4 a5 b1 b2 b3 b4 b5 d1 d2 d3 d4 d5 ⟨a6, b6, d6⟩ ⟨ht, hm⟩
   ·obtain ⟨_, _, _, _, _, _, _, _, _, _, a1, a3, a4, a5, a6⟩ := key (kk % 200) oO oO oO
    obtain ⟨_, _, _, _, _, _, _, _, _, _, b1, b3, b4, b5, b6⟩ := key ((0 : Int) - (kk % 1500)) oO oO oO
    obtain ⟨_, _, _, _, _, _, _, _, _, _, d1, d3, d4, d5, d6⟩ := key ((-5000) - (kk % 5000)) oO oO oO
    exact zw9 _ l1 e1 kk w m ee (topD m ee) _ _ 0 0 _ _ _ _ _ _ _ _ _ _ 0 0 _ _ _ _ _ _ _ _ _ _ 0 0 _ _ _ _ _ _ _ _ c4 c3 hD hT a1 a3 a4 a5 b1 b3 b4 b5 d1 d3 d4 d5 ⟨a6, b6, d6⟩ ⟨ht, by omega⟩
  ·obtain ⟨_, _, _, _, _, _, _, _, _, _, a1, a3, a4, a5, a6⟩ := key (kk % 200) oO oO oO
   obtain ⟨_, _, _, _, _, _, _, _, _, _, b1, b3, b4, b5, b6⟩ := key ((0 : Int) - (kk % 1500)) oO oO oO
   obtain ⟨_, _, _, _, _, _, _, _, _, _, d1, d3, d4, d5, d6⟩ := key ((-5000) - (kk % 5000)) oO oO oO
   exact zwb _ l1 e1 kk w m ee (topD m ee) _ _ 0 0 _ _ _ _ _ _ _ _ _ _ 0 0 _ _ _ _ _ _ _ _ _ _ 0 0 _ _ _ _ _ _ _ _ c4 c3 hD hT a1 a3 a4 a5 b1 b3 b4 b5 d1 d3 d4 d5 ⟨a6, b6, d6⟩ oO
 ·rw [decide_eq_false hl] at hD
  exact zw5 b1 l1 e1 kk w m ee 0 c4 c3 hD

end Go.Proofs.YtcbihoojfakhdaaGreatDoor

namespace Go.Proofs.YtcbihoojfakhdaaGreatDoor
open Go.ChangeShapes Go.WideShapes Go.ChangeAt Go.RowKit
theorem zwk : ownKnob Tryz.prog.godebug = none := by kernel_rfl
theorem gTab : Tryz.prog.globalNamed "math/bits.deBruijn32tab" = some 0 := by kernel_rfl
theorem zwl : (Tryz.prog.globals[0]?).map (·.type) = some 184 := by kernel_rfl
theorem zwm : Tryz.prog.cellsOf 184 = 32 := by kernel_rfl
theorem zwn : Tryz.prog.cellsOf 5 = 1 := by kernel_rfl
theorem zwo {W : World} (h : laidMetH Tryz.prog [("math/bits.deBruijn32tab", Rows.laid_math_bits_deBruijn32tab)] W) : Amb W := by
 have t : Lib.TabIs Tryz.prog W "math/bits.deBruijn32tab" .u8 tab32 := Lib.tabIs_of_head (rest := []) gTab zwl Tryz.underlying184 Tryz.underlying5 zwn zwm h
 intro i v hi
 have hlt : i < tab32.length := by
  rcases Nat.lt_or_ge i tab32.length with q | q
  ·exact q
  ·rw [List.getElem?_eq_none q] at hi; cases hi
 have h1 := t.cell gTab i hlt
 rw [List.getD_eq_getElem?_getD, hi] at h1
 exact h1
theorem zwp {n : Int} (h : (Lit.int .i64 n).wf = true) : (-9223372036854775808 : Int) ≤ n ∧ n ≤ 9223372036854775807 := by
 simp only [Lit.wf, Bool.and_eq_true, decide_eq_true_eq] at h
 simp [IntKind.min, IntKind.max, IntKind.signed, IntKind.bits] at h
 omega
noncomputable def laidWorld (os : Os) : World :=
  { World.holding Tryz.prog os ⟨#[], #[], []⟩ with heap := (World.holding Tryz.prog os ⟨#[], #[], []⟩).heap.modify 0 fun
      | .cells _ t frozen => .cells (tab32.map (Value.int .u8)).toArray t frozen
      | o => o }
theorem zwq {H : Type} {enc : TypeId × Value → H} {P : Program} {f : Func} {s : ChangeSpec} {apart fresh handsOn again : Bool} {W W' : World} {args : Array Value} {v : Value} {ds gs : List (DataW H)} {before pa pv : List MemPlace}
  (hW : DataW.Whole enc P f.params.toList s.vars apart W args.toList ds gs before)
  (hres : ∀ (b : Nat) (sp : Nat → Bool) (hd : Bool), DataW.TrodAll enc P W' b sp hd f.resultTypes.toList (v.resultList f.resultTypes.size) (s.fn H (ds ++ gs)).results [])
  (hargs : ∀ sp : Nat → Bool, (∀ p ∈ before, sp p.block = true) → DataW.TrodAll enc P W' 0 sp true f.params.toList args.toList (s.fn H (ds ++ gs)).args pa)
  (hvars : ∀ sp : Nat → Bool, (∀ p ∈ before, sp p.block = true) → DataW.TrodVars enc P W' sp s.vars (s.fn H (ds ++ gs)).vars pv)
  (hps : before = pa ++ pv) (hb : Below W.heap.size W W')
  (hok : ∀ (j : Nat) (t : TypeId) (r : Value), f.resultTypes[j]? = some t → (v.resultList f.resultTypes.size)[j]? = some r → Value.okWide P W' .any 0 t r) : s.post enc P f apart fresh handsOn again W args v W' := by
 have lt := hW.lt
 have old : ∀ p ∈ before, (fun b => decide (b < W.heap.size)) p.block = true := fun p hp => decide_eq_true (lt p hp)
 subst hps
 refine ⟨ds, gs, pa ++ pv, [], pa, pv, hW, hres _ _ _, hargs _ old, hvars _ old, hb.frame _, fun _ => ?_⟩
 obtain ⟨_, _, _, _, _, hz, hn⟩ := hW
 have h1 := trodAll_append (hargs (fun _ => true) fun _ _ => rfl) (hres 0 (fun _ => true) true)
 refine ⟨hok, _, _, _, ⟨_, pv, h1, hvars _ fun _ _ => rfl, rfl, fun b off hp => ?_, fun ha => ?_⟩, fun p hp _ => ?_⟩
 ·have hp' : MemPlace.cell b off ∈ pa ++ pv := by simpa using hp
  rw [hb.frozen (lt _ hp')]
  exact hz b off hp'
 ·simpa using hn ha
 ·simpa using hp
end Go.Proofs.YtcbihoojfakhdaaGreatDoor

namespace Go.Proofs.YtcbihoojfakhdaaGreatDoor
open Go.ChangeShapes Go.WideShapes Go.ChangeAt Go.RowKit
set_option maxRecDepth 100000
variable {H : Type} {enc : TypeId × Value → H} {W : World} {sp : Nat → Bool} {held : Bool}
theorem zwr : laidOutB Tryz.prog = true := by kernel_rfl
theorem zws : Tryz.prog.cellsOf 141 = 1 := by kernel_rfl
theorem zwt : Tryz.prog.cellsOf 22 = 1 := by kernel_rfl
theorem zwu : Tryz.prog.cellsOf 4 = 1 := by kernel_rfl
theorem zwv : Tryz.prog.cellsOf 3 = 1 := by kernel_rfl
theorem zww : Tryz.prog.cellsOf 24 = 2 := by kernel_rfl
theorem zwx : Tryz.prog.cellsOf 26 = 3 := by kernel_rfl
theorem zwy (S : Nat → Prop) : ∀ l : List Nat, RdL W S (l.map fun (d : Nat) => Value.int .u32 (d : Int)) (U l)
 | [] => .nil
 | _ :: l => .cons .int (zwy S l)
theorem zwz {n : Int} (h : (Lit.int .u32 n).wf = true) : 0 ≤ n ∧ n < 4294967296 := by
 simp only [Lit.wf, Bool.and_eq_true, decide_eq_true_eq] at h
 simp [IntKind.min, IntKind.max, IntKind.signed, IntKind.bits] at h
 omega
theorem zx0 {n : Nat} {c : Value} {x : DataW H × List MemPlace} {b0 : Nat} (h : DataW.trod enc Tryz.prog W 0 sp held n 22 [c] = some x) (hok : Cell.okWide Tryz.prog W .any b0 22 c) :
  ∃ l : List Nat, Dig l ∧ l.length ≤ maxLen ∧ Rd W (fun _ => True) c (.sl 1 (U l)) := by
 rcases open_ints Tryz.underlying22 Tryz.underlying141 zws h with ⟨hc, _⟩ | ⟨a, len, cap, zs, hc, _, hl, hm, hz, _, hcell, hwf⟩
 ·obtain rfl : c = .slice none 0 0 := by simpa using hc
  exact ⟨[], (fun d hd => by cases hd), Nat.zero_le _, .nilsl⟩
 ·obtain rfl : c = .slice (some a) len cap := by simpa using hc
  have hlen : len ≤ zs.length := by rw [hz]; split <;> omega
  simp only [Cell.okWide, Cell.ok, Tryz.underlying22, World.has] at hok
  obtain ⟨_, _, _, hs, row, cells, hsh, _⟩ := hok
  obtain ⟨ab, ao, spot⟩ := a
  simp only at hs hsh
  subst hs
  have hb : ab < W.heap.size := by
   unfold World.shape? at hsh
   split at hsh
   ·rename_i q; exact (Array.getElem?_eq_some_iff.1 q).1
   ·cases hsh
  refine ⟨(zs.take len).map Int.toNat, ?_, ?_, ?_⟩
  ·intro d hd
   obtain ⟨z, hz', rfl⟩ := List.mem_map.1 hd
   have := zwz (hwf z (List.mem_of_mem_take hz'))
   show z.toNat < 4294967296
   omega
  ·simp; omega
  ·refine .sl (vals := ((zs.take len).map Int.toNat).map fun (d : Nat) => Value.int .u32 (d : Int)) trivial hb hl (by simp [U]; omega) (zwy _ _) ?_
   intro i v hv
   simp only [List.getElem?_map, Option.map_eq_some_iff] at hv
   obtain ⟨d, ⟨z, hz', rfl⟩, rfl⟩ := hv
   have hi : i < len := by
    rcases Nat.lt_or_ge i len with q | q
    ·exact q
    ·rw [List.getElem?_eq_none (by simp; omega)] at hz'; cases hz'
   rw [List.getElem?_take, if_pos hi] at hz'
   have h1 := hcell i (by omega)
   rw [List.getD_eq_getElem?_getD, hz'] at h1
   have h2 := zwz (hwf z (List.mem_of_getElem? hz'))
   have h3 : ((z.toNat : Nat) : Int) = z := Int.toNat_of_nonneg h2.1
   simp only [Option.getD_some] at h1
   rw [h3]
   have h4 : (Addr.mk ab ao none).add i = ⟨ab, ao + i, none⟩ := by
    unfold Addr.add; split
    ·rename_i q; subst q; rfl
    ·rfl
   rw [h4] at h1
   exact h1
theorem zx1 {n : Nat} {c0 c1 : Value} {x : DataW H × List MemPlace} {b0 : Nat} (h : DataW.trod enc Tryz.prog W 0 sp held n 24 [c0, c1] = some x) (hok : Cell.okWide Tryz.prog W .any b0 22 c1) :
  ∃ (b : Bool) (l : List Nat), Dig l ∧ l.length ≤ maxLen ∧ RdL W (fun _ => True) [c0, c1] [.bool b, .sl 1 (U l)] := by
 obtain ⟨y0, y1, m, _, _, h0, h1⟩ := trod_struct2 Tryz.underlying24 h
 have k0 : DataW.trod enc Tryz.prog W 0 sp held m 4 [c0] = some y0 := by simpa [zwu] using h0
 have k1 : DataW.trod enc Tryz.prog W 0 sp held m 22 [c1] = some y1 := by simpa [zwt] using h1
 obtain ⟨b, hb, _⟩ := DataW.trod_bool Tryz.underlying4 k0
 obtain rfl : c0 = .bool b := by simpa using hb
 obtain ⟨l, d, e, r⟩ := zx0 k1 hok
 exact ⟨b, l, d, e, .cons .bool (.cons r .nil)⟩
theorem zx2 {n : Nat} {c0 c1 c2 : Value} {x : DataW H × List MemPlace} {b0 : Nat} (h : DataW.trod enc Tryz.prog W 0 sp held n 26 [c0, c1, c2] = some x) (hok : Cell.okWide Tryz.prog W .any b0 22 c1) :
  ∃ (b : Bool) (l : List Nat) (e : Int), Dig l ∧ l.length ≤ maxLen ∧ ((-9223372036854775808 : Int) ≤ e ∧ e ≤ 9223372036854775807) ∧ RdL W (fun _ => True) [c0, c1, c2] [.bool b, .sl 1 (U l), .int .i64 e] := by
 obtain ⟨y0, y1, m, _, _, h0, h1⟩ := trod_struct2 Tryz.underlying26 h
 have k0 : DataW.trod enc Tryz.prog W 0 sp held m 24 [c0, c1] = some y0 := by simpa [zww] using h0
 have k1 : DataW.trod enc Tryz.prog W 0 sp held m 3 [c2] = some y1 := by simpa [zwv] using h1
 obtain ⟨b, l, d, e, r⟩ := zx1 k0 hok
 obtain ⟨z, hz, _, hw⟩ := DataW.trod_int Tryz.underlying3 k1
 obtain rfl : c2 = .int .i64 z := by simpa using hz
 cases r with | cons r0 r => cases r with | cons r1 r => cases r with | nil =>
  exact ⟨b, l, z, d, e, zwp hw, .cons r0 (.cons r1 (.cons .int .nil))⟩
end Go.Proofs.YtcbihoojfakhdaaGreatDoor

namespace Go.Proofs.YtcbihoojfakhdaaGreatDoor
open Go.ChangeShapes Go.WideShapes Go.ChangeAt Go.RowKit
set_option maxRecDepth 100000
variable {H : Type} {enc : TypeId × Value → H} {W : World} {sp : Nat → Bool} {held : Bool}
theorem zx3 {α : Type} {cs : Array α} (h : cs.size = 3) : ∃ c0 c1 c2, cs = #[c0, c1, c2] := by
 obtain ⟨l⟩ := cs
 match l, h with
 | [c0, c1, c2], _ => exact ⟨c0, c1, c2, rfl⟩
end Go.Proofs.YtcbihoojfakhdaaGreatDoor

namespace Go.Proofs.YtcbihoojfakhdaaGreatDoor
open Go.ChangeShapes Go.WideShapes Go.ChangeAt Go.RowKit
set_option maxRecDepth 100000
variable {H : Type} {enc : TypeId × Value → H} {W : World} {sp : Nat → Bool} {held : Bool}
theorem zx4 {v : Value} {d : DataW H} {p : List MemPlace} {b0 : Nat} (hv : Value.okWide Tryz.prog W .any b0 26 v) (h : DataW.Trod enc Tryz.prog W 0 sp held 26 v d p) :
  ∃ (b : Bool) (l : List Nat) (e : Int), (Dig l ∧ l.length ≤ maxLen ∧ ((-9223372036854775808 : Int) ≤ e ∧ e ≤ 9223372036854775807)) ∧ Rd W (fun _ => True) v (.agg [.bool b, .sl 1 (U l), .int .i64 e]) := by
 simp only [Value.okWide, Tryz.underlying26] at hv
 obtain ⟨cs, rfl, hsz, ts, hts, _, hrow⟩ := hv
 have e0 : Tryz.prog.cellTypes Tryz.prog.depth 26 = some [4, 22, 3] := by kernel_rfl
 rw [e0] at hts
 obtain rfl := Option.some.inj hts
 obtain ⟨c0, c1, c2, rfl⟩ := zx3 (hsz.trans zwx)
 obtain ⟨u1, q1, ok1⟩ := hrow 1 c1 rfl
 obtain rfl : 22 = u1 := by simpa using q1
 obtain ⟨n, hn⟩ := h
 have k : DataW.trod enc Tryz.prog W 0 sp held n 26 [c0, c1, c2] = some (d, p) := by simpa [Value.cells] using hn
 obtain ⟨b, l, e, d1, d2, d3, r1⟩ := zx2 k ok1
 exact ⟨b, l, e, ⟨d1, d2, d3⟩, .agg r1⟩
end Go.Proofs.YtcbihoojfakhdaaGreatDoor

namespace Go.Proofs.YtcbihoojfakhdaaGreatDoor.exponentialFar
open Go.ChangeShapes Go.WideShapes Go.ChangeAt Go.RowKit
set_option maxRecDepth 100000 in
theorem zx5 (H : Type) (enc : TypeId × Value → H) (W : World) (base : Nat) (args : Array Value) (ds gs : List (DataW H)) (before : List MemPlace)
  (hval : ∀ (j : Nat) t v, Tryz.f3.params[j]? = some t → args[j]? = some v → Value.okWide Tryz.prog W .any base t v)
  (hW : DataW.Whole enc Tryz.prog Tryz.f3.params.toList Rows.exponentialFarSpec.vars false W args.toList ds gs before) (hL : laidMetH Tryz.prog Rows.exponentialFarRow.laid W) :
  Calls Tryz.prog 3 args W fun e W' => ∃ v, e = .returned v ∧ Rows.exponentialFarSpec.post enc Tryz.prog Tryz.f3 false true false false W args v W' := by
 have hW' := hW
 obtain ⟨p, q, hA0, hV, rfl, hfz, hnd⟩ := hW
 have hA : DataW.TrodAll enc Tryz.prog W 0 (fun _ => true) true Tryz.f3.params.toList args.toList ds p := hA0
 rw [Tryz.params3] at hA hval
 obtain ⟨v0, vs0, d0, ds0, p0, q0, hargs0, rfl, rfl, h0, r0⟩ := trodAll_cons hA
 obtain ⟨v1, vs1, d1, ds1, p1, q1, hargs1, rfl, rfl, h1, r1⟩ := trodAll_cons r0
 obtain ⟨v2, vs2, d2, ds2, p2, q2, hargs2, rfl, rfl, h2, r2⟩ := trodAll_cons r1
 obtain ⟨rfl, rfl, rfl⟩ := trodAll_nil r2
 obtain rfl : args = #[v0, v1, v2] := by cases args; simp_all
 obtain ⟨rfl, rfl⟩ := trodVars_none hV
 have k0 := h0
 obtain ⟨x0, rfl, rfl, rfl, w0⟩ := open_int Tryz.underlying3 (hval 0 3 v0 rfl rfl) h0
 have b0 := zwp w0
 have k1 := h1
 obtain ⟨x1, rfl, rfl, rfl, w1⟩ := open_int Tryz.underlying3 (hval 1 3 v1 rfl rfl) h1
 have b1 := zwp w1
 obtain ⟨b2, l2, e2, ⟨a2, a2', a2''⟩, t2⟩ := zx4 (hval 2 26 v2 rfl rfl) h2
 have m2 : l2.length ≤ 9223372036854775807 := a2'
 clear hA0
 have hlt := hW'.lt
 have hI := zwj x0 x1 b2 l2 e2 b0 b1 a2 m2 a2''
 have hC := hI.2 W (fun _ => True) [.int .i64 x0, .int .i64 x1, v2] (zwo hL) (fun _ _ => trivial) (.cons .int (.cons .int (.cons t2 (.nil))))
 refine hC.mono fun e W' hh => ?_
 obtain ⟨v, rfl, hv, hb⟩ := hh
 have hv := hv.bool_inv
 subst hv
 exact ⟨_, rfl, zwq (pa := ([] ++ ([] ++ (p2 ++ [])))) (pv := []) hW' (fun _ _ _ => trodAll_cons_mk (shut_bool Tryz.underlying4 _) trodAll_mk0) (fun sp hsp => (trodAll_cons_mk (shut_int Tryz.underlying3 w0) (trodAll_cons_mk (shut_int Tryz.underlying3 w1) (trodAll_cons_mk (WideElems.Trod_stays zwr (by kernel_rfl) (of_decide_eq_true (by kernel_rfl)) h2 (fun x hx => hb.same (hlt x (by simp [hx]))) (fun x hx => hsp x (by simp [hx]))) trodAll_mk0)))) (fun _ _ => rfl) rfl
  hb (ok_one (by kernel_rfl) rfl (okWide_bool_mk Tryz.underlying4 _))⟩
theorem zx6 (os : Os) : laidMet Tryz.prog Rows.exponentialFarRow.laid ((laidWorld os).forCall (fun _ _ => 0) ⟨#[], #[.int .i64 0, .int .i64 0, .agg #[.bool false, .slice none 0 0, .int .i64 0]], []⟩).memory :=
 laidMet_of_run' 64 (by kernel_rfl) (by kernel_rfl)
theorem zx7 (os : Os) {H : Type} (enc : TypeId × Value → H) : ∃ places, DataW.whole enc Tryz.prog ((laidWorld os).forCall (fun _ _ => 0) ⟨#[], #[.int .i64 0, .int .i64 0, .agg #[.bool false, .slice none 0 0, .int .i64 0]], []⟩).memory Tryz.f3.params.toList Rows.exponentialFarSpec.vars false #[Value.int .i64 0, Value.int .i64 0, Value.agg #[.bool false, .slice none 0 0, .int .i64 0]].toList 64 = some ([.lit (.int .i64 0), .lit (.int .i64 0), .agg [.agg [.lit (.bool false), .nil], .lit (.int .i64 0)]], [], places) :=
 ⟨[], by kernel_rfl⟩
set_option maxRecDepth 100000 in
theorem zx8 (os : Os) (started : os.Started) (H : Type) (enc : TypeId × Value → H) (F : Stop.Interp) :
  ReturnsInHanded {} Tryz.checked os 3 .any ((OpenSpec.ofChange Rows.exponentialFarSpec).preRow enc Tryz.prog Tryz.f3 Rows.exponentialFarRow.domain false Rows.exponentialFarRow.laid) (((OpenSpec.ofChange Rows.exponentialFarSpec).at F).post enc Tryz.prog Tryz.f3 false true false false) := by
 obtain ⟨places, hx⟩ := zx7 os enc
 refine returnsInHanded_of_row (C := Tryz.checked) (s := OpenSpec.ofChange Rows.exponentialFarSpec) zwk started (by kernel_rfl) Tryz.func3
  (witness_row_at (enc := enc) (C := Tryz.checked) false (laidWorld os) #[.int .i64 0, .int .i64 0, .agg #[.bool false, .slice none 0 0, .int .i64 0]] rfl (by kernel_rfl) (by kernel_rfl) (by kernel_rfl)
   (OpenSpec.preRow_of_cond 64 hx (by kernel_rfl) (fun k hk => by cases hk) (by kernel_rfl) (zx6 os))) ?_
 intro W base args ds gs before hval hW _ _ _ hL _ _
 exact zx5 H enc W base args ds gs before hval hW hL
end Go.Proofs.YtcbihoojfakhdaaGreatDoor.exponentialFar
