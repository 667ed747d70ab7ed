/-
  Lower layers: what functions of the program compute, and plain facts. Conditions: as the theorems say.
-/
import Derived.Test.YtekcladflnieeaaGreatDoorChecked
import Derived.Test.YtekcladflnieeaaGreatDoorRows
import Derived.WalkKit
import Derived.ProofKit
import Derived.OpenShut
import Derived.Deep.DeepHandedRow
import Derived.Lib.LaidTab
import Derived.Lib.SmallJoins
import Derived.ChangeSlices
import Derived.Carry
import Derived.Test.YtekcladflnieeaaGreatDoorCards
import Derived.Test.YtekcladflnieeaaGreatDoorTie
import Derived.Test.YtekcladflnieeaaGreatDoorPdP
set_option linter.unusedVariables false
set_option linter.unusedSimpArgs false
namespace Go.Proofs.YtekcladflnieeaaGreatDoor
open Go.RowKit
set_option maxRecDepth 100000
set_option maxHeartbeats 2000000
theorem l15_EndsF (b1 : Bool) (l1 : List Nat) (e1 : Int) (b2 : Bool) (l2 : List Nat) (e2 : Int) (w : Int) (m : Int) (ee : Int) (n : Int) (f : Int) (c0 : (-9223372036854775808 : Int) ≤ w ∧ w ≤ 9223372036854775807) (c1 : Impl Tryz.prog Amb 23 [(.agg [(.bool b1), (.sl 1 (U l1)), (.int .i64 e1), (.bool b2), (.sl 1 (U l2)), (.int .i64 e2)]), (.int .i64 2), (.int .i64 60)] (.tup [(wV m ee n f), (.bool false)])) (c2 : L (m).natAbs ≤ 1000 ∧ L (n).natAbs ≤ 1000) : Impl Tryz.prog Amb 5 [(.agg [(.bool b1), (.sl 1 (U l1)), (.int .i64 e1), (.bool b2), (.sl 1 (U l2)), (.int .i64 e2)]), (.int .i64 w)] (.bool true) := by
  exact impl_ob hP hAmb Tryz.func5 (by kernel_rfl) (.lit <| .call (.bool true) <| .lits 4 <| .call (.tup [(wV m ee n f), (.bool false)]) <| .lits 4 <| .ret)
    (cast_ob (aI True.intro (aI (l15_awake ) (aI (c1 ) ((vsub_refl (.bool true)))))) (by kernel_rfl))
def l15_EndsT_0_mk (b1 : Bool) (l1 : List Nat) (e1 : Int) (b2 : Bool) (l2 : List Nat) (e2 : Int) (w m ee n f _ _ _ _ _ _ _ _ _ _ : Int) (x : (Int) ⊕ ((Int) ⊕ (Int))) : St := Sum.elim (fun (x : Int) => ⟨mkS 65 [(5, (.own 1 0)), (24, (.osl 2 0 2 1)), (25, (.val (.int .i64 2))), (26, (.val (.int .i64 0)))], [⟨true, false, [(V.bool b1), (V.sl 1 (U l1)), (V.int .i64 e1), (V.bool b2), (V.sl 1 (U l2)), (V.int .i64 e2)]⟩, ⟨true, false, [(V.bool (decide (m < 0))), (N m.natAbs), (V.int .i64 ee), (V.bool (decide (n < 0))), (N n.natAbs), (V.int .i64 f)]⟩, ⟨true, false, [(V.int .i64 w), (V.int .i64 (w % 60))]⟩]⟩) (fun (x : (Int) ⊕ (Int)) => Sum.elim (fun (x : Int) => ⟨mkS 65 [(5, (.own 1 0)), (24, (.osl 2 0 2 1)), (25, (.val (.int .i64 2))), (26, (.val (.int .i64 1)))], [⟨true, false, [(V.bool b1), (V.sl 1 (U l1)), (V.int .i64 e1), (V.bool b2), (V.sl 1 (U l2)), (V.int .i64 e2)]⟩, ⟨true, false, [(V.bool (decide (m < 0))), (N m.natAbs), (V.int .i64 ee), (V.bool (decide (n < 0))), (N n.natAbs), (V.int .i64 f)]⟩, ⟨true, false, [(V.int .i64 w), (V.int .i64 (w % 60))]⟩]⟩) (fun (x : Int) => ⟨mkS 65 [(5, (.own 1 0)), (24, (.osl 2 0 2 1)), (25, (.val (.int .i64 2))), (26, (.val (.int .i64 2)))], [⟨true, false, [(V.bool b1), (V.sl 1 (U l1)), (V.int .i64 e1), (V.bool b2), (V.sl 1 (U l2)), (V.int .i64 e2)]⟩, ⟨true, false, [(V.bool (decide (m < 0))), (N m.natAbs), (V.int .i64 ee), (V.bool (decide (n < 0))), (N n.natAbs), (V.int .i64 f)]⟩, ⟨true, false, [(V.int .i64 w), (V.int .i64 (w % 60))]⟩]⟩) x) x
def l15_EndsT_0_I (_ : Bool) (_ : List Nat) (_ : Int) (_ : Bool) (_ : List Nat) (_ : Int) (_ _ _ _ _ _ _ _ _ _ _ _ _ _ _ : Int) (x : (Int) ⊕ ((Int) ⊕ (Int))) : Prop := Sum.elim (fun (x : Int) => x = x) (fun (x : (Int) ⊕ (Int)) => Sum.elim (fun (x : Int) => x = x) (fun (x : Int) => x = x) x) x
def l15_EndsT_0_mu (_ : Bool) (_ : List Nat) (_ : Int) (_ : Bool) (_ : List Nat) (_ : Int) (_ _ _ _ _ _ _ _ _ _ _ _ _ _ _ : Int) (x : (Int) ⊕ ((Int) ⊕ (Int))) : Nat := Sum.elim (fun (x : Int) => 9 - 0) (fun (x : (Int) ⊕ (Int)) => Sum.elim (fun (x : Int) => 9 - 1) (fun (x : Int) => 9 - 2) x) x
def l15_EndsT_0_ex (b1 : Bool) (l1 : List Nat) (e1 : Int) (b2 : Bool) (l2 : List Nat) (e2 : Int) (_ m ee n f _ _ _ _ _ _ _ _ _ _ : Int) (y : (Int) ⊕ (Int)) : Ex × St := Sum.elim (fun (y : Int) => (.exit 0, ⟨mkS 65 [], [⟨true, false, [(V.bool b1), (V.sl 1 (U l1)), (V.int .i64 e1), (V.bool b2), (V.sl 1 (U l2)), (V.int .i64 e2)]⟩, ⟨true, false, [(V.bool (decide (m < 0))), (N m.natAbs), (V.int .i64 ee), (V.bool (decide (n < 0))), (N n.natAbs), (V.int .i64 f)]⟩]⟩)) (fun (y : Int) => (.ret, ⟨mkS 65 [(4, (.val (.bool false)))], [⟨true, false, [(V.bool b1), (V.sl 1 (U l1)), (V.int .i64 e1), (V.bool b2), (V.sl 1 (U l2)), (V.int .i64 e2)]⟩, ⟨true, false, [(V.bool (decide (m < 0))), (N m.natAbs), (V.int .i64 ee), (V.bool (decide (n < 0))), (N n.natAbs), (V.int .i64 f)]⟩]⟩)) y
def l15_EndsT_0_J (_ : Bool) (_ : List Nat) (_ : Int) (_ : Bool) (_ : List Nat) (_ : Int) (_ _ _ _ _ _ _ _ _ _ _ _ _ _ _ : Int) (y : (Int) ⊕ (Int)) : Prop := Sum.elim (fun (y : Int) => y = y) (fun (y : Int) => False) y
abbrev l15_EndsT_0_N (b1 : Bool) (l1 : List Nat) (e1 : Int) (b2 : Bool) (l2 : List Nat) (e2 : Int) (w m ee n f y0a y0b y0c y0d r0 y1a y1b y1c y1d r1 : Int) := NX (l15_EndsT_0_mk b1 l1 e1 b2 l2 e2 w m ee n f y0a y0b y0c y0d r0 y1a y1b y1c y1d r1) (l15_EndsT_0_I b1 l1 e1 b2 l2 e2 w m ee n f y0a y0b y0c y0d r0 y1a y1b y1c y1d r1) (l15_EndsT_0_mu b1 l1 e1 b2 l2 e2 w m ee n f y0a y0b y0c y0d r0 y1a y1b y1c y1d r1) (l15_EndsT_0_ex b1 l1 e1 b2 l2 e2 w m ee n f y0a y0b y0c y0d r0 y1a y1b y1c y1d r1) (l15_EndsT_0_J b1 l1 e1 b2 l2 e2 w m ee n f y0a y0b y0c y0d r0 y1a y1b y1c y1d r1)
theorem l15_EndsT_0 (b1 : Bool) (l1 : List Nat) (e1 : Int) (b2 : Bool) (l2 : List Nat) (e2 : Int) (w m ee n f y0a y0b y0c y0d r0 y1a y1b y1c y1d r1 : Int) (c0 : (-9223372036854775808 : Int) ≤ w ∧ w ≤ 9223372036854775807)(c1 : Impl Tryz.prog Amb 23 [(.agg [(.bool b1), (.sl 1 (U l1)), (.int .i64 e1), (.bool b2), (.sl 1 (U l2)), (.int .i64 e2)]), (.int .i64 2), (.int .i64 60)] (.tup [(wV m ee n f), (.bool true)]))(c2 : L (m).natAbs ≤ 1000 ∧ L (n).natAbs ≤ 1000)(c3 : Impl Tryz.prog Amb 19 [(wV m ee n f), (.int .i64 w)] (.tup [(wV y0a y0b y0c y0d), (.int .i64 r0)]))(c4 : Impl Tryz.prog Amb 19 [(wV m ee n f), (.int .i64 (w % 60))] (.tup [(wV y1a y1b y1c y1d), (.int .i64 r1)]))(c5 : ((w < 0 ∨ 4096 < w) → r0 = 1) ∧ (¬ (w < 0 ∨ 4096 < w) → n ≤ 0 → r0 = 4) ∧ (¬ (w < 0 ∨ 4096 < w) → 0 < n → m ≤ 0 → r0 = 5) ∧ (¬ (w < 0 ∨ 4096 < w) → 0 < n → 0 < m → w ≤ 200 → r0 = 0))(c6 : (((w % 60) < 0 ∨ 4096 < (w % 60)) → r1 = 1) ∧ (¬ ((w % 60) < 0 ∨ 4096 < (w % 60)) → n ≤ 0 → r1 = 4) ∧ (¬ ((w % 60) < 0 ∨ 4096 < (w % 60)) → 0 < n → m ≤ 0 → r1 = 5) ∧ (¬ ((w % 60) < 0 ∨ 4096 < (w % 60)) → 0 < n → 0 < m → (w % 60) ≤ 200 → r1 = 0)) (x0 : (Int) ⊕ ((Int) ⊕ (Int))) (hI : l15_EndsT_0_I b1 l1 e1 b2 l2 e2 w m ee n f y0a y0b y0c y0d r0 y1a y1b y1c y1d r1 x0) : LoopOk Tryz.prog Amb (loopN Tryz.f5 0) (l15_EndsT_0_mk b1 l1 e1 b2 l2 e2 w m ee n f y0a y0b y0c y0d r0 y1a y1b y1c y1d r1 x0) (fun e st_ => ∃ y, l15_EndsT_0_J b1 l1 e1 b2 l2 e2 w m ee n f y0a y0b y0c y0d r0 y1a y1b y1c y1d r1 y ∧ l15_EndsT_0_ex b1 l1 e1 b2 l2 e2 w m ee n f y0a y0b y0c y0d r0 y1a y1b y1c y1d r1 y = (e, st_)) :=
  loop_ob hP hAmb ⟨[5, 24, 25, 26], 3, []⟩ (l15_EndsT_0_mk b1 l1 e1 b2 l2 e2 w m ee n f y0a y0b y0c y0d r0 y1a y1b y1c y1d r1) (l15_EndsT_0_I b1 l1 e1 b2 l2 e2 w m ee n f y0a y0b y0c y0d r0 y1a y1b y1c y1d r1) (l15_EndsT_0_mu b1 l1 e1 b2 l2 e2 w m ee n f y0a y0b y0c y0d r0 y1a y1b y1c y1d r1) (l15_EndsT_0_ex b1 l1 e1 b2 l2 e2 w m ee n f y0a y0b y0c y0d r0 y1a y1b y1c y1d r1) (l15_EndsT_0_J b1 l1 e1 b2 l2 e2 w m ee n f y0a y0b y0c y0d r0 y1a y1b y1c y1d r1) x0 hI (Sum.elim (fun u => .lits 6 <| .call (.tup [(wV y0a y0b y0c y0d), (.int .i64 r0)]) <| .lits 2 <| .both (.lits 4 <| .both (.lits 9 <| .fin3 ⟨[4], [0, 1]⟩) (.lits 6 <| .yes <| .fin3 ⟨[5, 24, 25, 26], [0, 1, 2]⟩)) (.lits 3 <| .both (.lit <| .both (.lits 9 <| .fin3 ⟨[4], [0, 1]⟩) (.lits 6 <| .yes <| .fin3 ⟨[5, 24, 25, 26], [0, 1, 2]⟩)) (.lits 2 <| .call (.int .i64 ((n).sign)) <| .lit <| .both (.lit <| .both (.lits 9 <| .fin3 ⟨[4], [0, 1]⟩) (.lits 6 <| .yes <| .fin3 ⟨[5, 24, 25, 26], [0, 1, 2]⟩)) (.lits 2 <| .call (.int .i64 ((m).sign)) <| .lit <| .both (.lit <| .both (.lits 9 <| .fin3 ⟨[4], [0, 1]⟩) (.lits 6 <| .yes <| .fin3 ⟨[5, 24, 25, 26], [0, 1, 2]⟩)) (.lit <| .both (.lits 9 <| .both (.fin3 ⟨[4], [0, 1]⟩) (.lit <| .yes <| .fin3 ⟨[5, 24, 25, 26], [0, 1, 2]⟩)) (.lits 6 <| .yes <| .fin3 ⟨[5, 24, 25, 26], [0, 1, 2]⟩)))))) (Sum.elim (fun u => .lits 6 <| .call (.tup [(wV y1a y1b y1c y1d), (.int .i64 r1)]) <| .lits 2 <| .both (.lits 4 <| .both (.lits 9 <| .fin3 ⟨[4], [0, 1]⟩) (.lits 6 <| .yes <| .fin3 ⟨[5, 24, 25, 26], [0, 1, 2]⟩)) (.lits 3 <| .both (.lit <| .both (.lits 9 <| .fin3 ⟨[4], [0, 1]⟩) (.lits 6 <| .yes <| .fin3 ⟨[5, 24, 25, 26], [0, 1, 2]⟩)) (.lits 2 <| .call (.int .i64 ((n).sign)) <| .lit <| .both (.lit <| .both (.lits 9 <| .fin3 ⟨[4], [0, 1]⟩) (.lits 6 <| .yes <| .fin3 ⟨[5, 24, 25, 26], [0, 1, 2]⟩)) (.lits 2 <| .call (.int .i64 ((m).sign)) <| .lit <| .both (.lit <| .both (.lits 9 <| .fin3 ⟨[4], [0, 1]⟩) (.lits 6 <| .yes <| .fin3 ⟨[5, 24, 25, 26], [0, 1, 2]⟩)) (.lit <| .both (.lits 9 <| .both (.fin3 ⟨[4], [0, 1]⟩) (.lit <| .yes <| .fin3 ⟨[5, 24, 25, 26], [0, 1, 2]⟩)) (.lits 6 <| .yes <| .fin3 ⟨[5, 24, 25, 26], [0, 1, 2]⟩)))))) (fun u => .lits 2 <| .fin3 ⟨[], [0, 1]⟩))) (by
    rintro (u | u | u) hI
    · skip
      have hI : u = u := hI
      have h1 := hI
      have sm := sign_range m
      have sn := sign_range n
      exact cast_ob (aI True.intro (aI (c3 ) (aI (fun (h101 : (iLt w 0) = true) => have _gh101 := iLt_t h101; aI (fun (h102 : (iNe r0 1) = true) => have _gh102 := iNe_t h102; aI tT ((nx_ret ((l15_EndsT_0_ex b1 l1 e1 b2 l2 e2 w m ee n f y0a y0b y0c y0d r0 y1a y1b y1c y1d r1 (Sum.inr u)).2) (Sum.inr u) (show False from (by omega : False)) rfl : l15_EndsT_0_N b1 l1 e1 b2 l2 e2 w m ee n f y0a y0b y0c y0d r0 y1a y1b y1c y1d r1 (Sum.inl u) .ret ((l15_EndsT_0_ex b1 l1 e1 b2 l2 e2 w m ee n f y0a y0b y0c y0d r0 y1a y1b y1c y1d r1 (Sum.inr u)).2)))) (fun (h103 : (iNe r0 1) = false) => have _gh103 := iNe_f h103; aI tT (aI tT ((nx_next (Sum.inr (Sum.inl u)) (show u = u from rfl) (show 9 - 1 < 9 - 0 by omega) : l15_EndsT_0_N b1 l1 e1 b2 l2 e2 w m ee n f y0a y0b y0c y0d r0 y1a y1b y1c y1d r1 (Sum.inl u) .normal (l15_EndsT_0_mk b1 l1 e1 b2 l2 e2 w m ee n f y0a y0b y0c y0d r0 y1a y1b y1c y1d r1 (Sum.inr (Sum.inl u)))))))) (fun (h104 : (iLt w 0) = false) => have _gh104 := iLt_f h104; aI (fun (h105 : (iGt w 4096) = true) => have _gh105 := iGt_t h105; aI (fun (h106 : (iNe r0 1) = true) => have _gh106 := iNe_t h106; aI tT ((nx_ret ((l15_EndsT_0_ex b1 l1 e1 b2 l2 e2 w m ee n f y0a y0b y0c y0d r0 y1a y1b y1c y1d r1 (Sum.inr u)).2) (Sum.inr u) (show False from (by omega : False)) rfl : l15_EndsT_0_N b1 l1 e1 b2 l2 e2 w m ee n f y0a y0b y0c y0d r0 y1a y1b y1c y1d r1 (Sum.inl u) .ret ((l15_EndsT_0_ex b1 l1 e1 b2 l2 e2 w m ee n f y0a y0b y0c y0d r0 y1a y1b y1c y1d r1 (Sum.inr u)).2)))) (fun (h107 : (iNe r0 1) = false) => have _gh107 := iNe_f h107; aI tT (aI tT ((nx_next (Sum.inr (Sum.inl u)) (show u = u from rfl) (show 9 - 1 < 9 - 0 by omega) : l15_EndsT_0_N b1 l1 e1 b2 l2 e2 w m ee n f y0a y0b y0c y0d r0 y1a y1b y1c y1d r1 (Sum.inl u) .normal (l15_EndsT_0_mk b1 l1 e1 b2 l2 e2 w m ee n f y0a y0b y0c y0d r0 y1a y1b y1c y1d r1 (Sum.inr (Sum.inl u)))))))) (fun (h108 : (iGt w 4096) = false) => have _gh108 := iGt_f h108; aI (r08_Sign n f oS) (have f122 := sign_range n; aI (fun (h109 : (iLe ((n).sign) 0) = true) => have _gh109 := iLe_t h109; aI (fun (h110 : (iNe r0 4) = true) => have _gh110 := iNe_t h110; aI tT ((nx_ret ((l15_EndsT_0_ex b1 l1 e1 b2 l2 e2 w m ee n f y0a y0b y0c y0d r0 y1a y1b y1c y1d r1 (Sum.inr u)).2) (Sum.inr u) (show False from (by omega : False)) rfl : l15_EndsT_0_N b1 l1 e1 b2 l2 e2 w m ee n f y0a y0b y0c y0d r0 y1a y1b y1c y1d r1 (Sum.inl u) .ret ((l15_EndsT_0_ex b1 l1 e1 b2 l2 e2 w m ee n f y0a y0b y0c y0d r0 y1a y1b y1c y1d r1 (Sum.inr u)).2)))) (fun (h111 : (iNe r0 4) = false) => have _gh111 := iNe_f h111; aI tT (aI tT ((nx_next (Sum.inr (Sum.inl u)) (show u = u from rfl) (show 9 - 1 < 9 - 0 by omega) : l15_EndsT_0_N b1 l1 e1 b2 l2 e2 w m ee n f y0a y0b y0c y0d r0 y1a y1b y1c y1d r1 (Sum.inl u) .normal (l15_EndsT_0_mk b1 l1 e1 b2 l2 e2 w m ee n f y0a y0b y0c y0d r0 y1a y1b y1c y1d r1 (Sum.inr (Sum.inl u)))))))) (fun (h112 : (iLe ((n).sign) 0) = false) => have _gh112 := iLe_f h112; aI (r08_Sign m ee oS) (have f121 := sign_range m; aI (fun (h113 : (iLe ((m).sign) 0) = true) => have _gh113 := iLe_t h113; aI (fun (h114 : (iNe r0 5) = true) => have _gh114 := iNe_t h114; aI tT ((nx_ret ((l15_EndsT_0_ex b1 l1 e1 b2 l2 e2 w m ee n f y0a y0b y0c y0d r0 y1a y1b y1c y1d r1 (Sum.inr u)).2) (Sum.inr u) (show False from (by omega : False)) rfl : l15_EndsT_0_N b1 l1 e1 b2 l2 e2 w m ee n f y0a y0b y0c y0d r0 y1a y1b y1c y1d r1 (Sum.inl u) .ret ((l15_EndsT_0_ex b1 l1 e1 b2 l2 e2 w m ee n f y0a y0b y0c y0d r0 y1a y1b y1c y1d r1 (Sum.inr u)).2)))) (fun (h115 : (iNe r0 5) = false) => have _gh115 := iNe_f h115; aI tT (aI tT ((nx_next (Sum.inr (Sum.inl u)) (show u = u from rfl) (show 9 - 1 < 9 - 0 by omega) : l15_EndsT_0_N b1 l1 e1 b2 l2 e2 w m ee n f y0a y0b y0c y0d r0 y1a y1b y1c y1d r1 (Sum.inl u) .normal (l15_EndsT_0_mk b1 l1 e1 b2 l2 e2 w m ee n f y0a y0b y0c y0d r0 y1a y1b y1c y1d r1 (Sum.inr (Sum.inl u)))))))) (fun (h116 : (iLe ((m).sign) 0) = false) => have _gh116 := iLe_f h116; aI (fun (h117 : (iNe r0 0) = true) => have _gh117 := iNe_t h117; aI (fun (h118 : (iLe w 200) = true) => have _gh118 := iLe_t h118; aI tT ((nx_ret ((l15_EndsT_0_ex b1 l1 e1 b2 l2 e2 w m ee n f y0a y0b y0c y0d r0 y1a y1b y1c y1d r1 (Sum.inr u)).2) (Sum.inr u) (show False from (by omega : False)) rfl : l15_EndsT_0_N b1 l1 e1 b2 l2 e2 w m ee n f y0a y0b y0c y0d r0 y1a y1b y1c y1d r1 (Sum.inl u) .ret ((l15_EndsT_0_ex b1 l1 e1 b2 l2 e2 w m ee n f y0a y0b y0c y0d r0 y1a y1b y1c y1d r1 (Sum.inr u)).2)))) (fun (h119 : (iLe w 200) = false) => have _gh119 := iLe_f h119; aI tT (aI tT ((nx_next (Sum.inr (Sum.inl u)) (show u = u from rfl) (show 9 - 1 < 9 - 0 by omega) : l15_EndsT_0_N b1 l1 e1 b2 l2 e2 w m ee n f y0a y0b y0c y0d r0 y1a y1b y1c y1d r1 (Sum.inl u) .normal (l15_EndsT_0_mk b1 l1 e1 b2 l2 e2 w m ee n f y0a y0b y0c y0d r0 y1a y1b y1c y1d r1 (Sum.inr (Sum.inl u)))))))) (fun (h120 : (iNe r0 0) = false) => have _gh120 := iNe_f h120; aI tT (aI tT ((nx_next (Sum.inr (Sum.inl u)) (show u = u from rfl) (show 9 - 1 < 9 - 0 by omega) : l15_EndsT_0_N b1 l1 e1 b2 l2 e2 w m ee n f y0a y0b y0c y0d r0 y1a y1b y1c y1d r1 (Sum.inl u) .normal (l15_EndsT_0_mk b1 l1 e1 b2 l2 e2 w m ee n f y0a y0b y0c y0d r0 y1a y1b y1c y1d r1 (Sum.inr (Sum.inl u)))))))))))))))) (by kernel_rfl)
    · skip
      have hI : u = u := hI
      have h1 := hI
      have sm := sign_range m
      have sn := sign_range n
      exact cast_ob (aI True.intro (aI (c4 ) (aI (fun (h101 : (iLt (w % 60) 0) = true) => have _gh101 := iLt_t h101; aI (fun (h102 : (iNe r1 1) = true) => have _gh102 := iNe_t h102; aI tT ((nx_ret ((l15_EndsT_0_ex b1 l1 e1 b2 l2 e2 w m ee n f y0a y0b y0c y0d r0 y1a y1b y1c y1d r1 (Sum.inr u)).2) (Sum.inr u) (show False from (by omega : False)) rfl : l15_EndsT_0_N b1 l1 e1 b2 l2 e2 w m ee n f y0a y0b y0c y0d r0 y1a y1b y1c y1d r1 (Sum.inr (Sum.inl u)) .ret ((l15_EndsT_0_ex b1 l1 e1 b2 l2 e2 w m ee n f y0a y0b y0c y0d r0 y1a y1b y1c y1d r1 (Sum.inr u)).2)))) (fun (h103 : (iNe r1 1) = false) => have _gh103 := iNe_f h103; aI tT (aI tT ((nx_next (Sum.inr (Sum.inr u)) (show u = u from rfl) (show 9 - 2 < 9 - 1 by omega) : l15_EndsT_0_N b1 l1 e1 b2 l2 e2 w m ee n f y0a y0b y0c y0d r0 y1a y1b y1c y1d r1 (Sum.inr (Sum.inl u)) .normal (l15_EndsT_0_mk b1 l1 e1 b2 l2 e2 w m ee n f y0a y0b y0c y0d r0 y1a y1b y1c y1d r1 (Sum.inr (Sum.inr u)))))))) (fun (h104 : (iLt (w % 60) 0) = false) => have _gh104 := iLt_f h104; aI (fun (h105 : (iGt (w % 60) 4096) = true) => have _gh105 := iGt_t h105; aI (fun (h106 : (iNe r1 1) = true) => have _gh106 := iNe_t h106; aI tT ((nx_ret ((l15_EndsT_0_ex b1 l1 e1 b2 l2 e2 w m ee n f y0a y0b y0c y0d r0 y1a y1b y1c y1d r1 (Sum.inr u)).2) (Sum.inr u) (show False from (by omega : False)) rfl : l15_EndsT_0_N b1 l1 e1 b2 l2 e2 w m ee n f y0a y0b y0c y0d r0 y1a y1b y1c y1d r1 (Sum.inr (Sum.inl u)) .ret ((l15_EndsT_0_ex b1 l1 e1 b2 l2 e2 w m ee n f y0a y0b y0c y0d r0 y1a y1b y1c y1d r1 (Sum.inr u)).2)))) (fun (h107 : (iNe r1 1) = false) => have _gh107 := iNe_f h107; aI tT (aI tT ((nx_next (Sum.inr (Sum.inr u)) (show u = u from rfl) (show 9 - 2 < 9 - 1 by omega) : l15_EndsT_0_N b1 l1 e1 b2 l2 e2 w m ee n f y0a y0b y0c y0d r0 y1a y1b y1c y1d r1 (Sum.inr (Sum.inl u)) .normal (l15_EndsT_0_mk b1 l1 e1 b2 l2 e2 w m ee n f y0a y0b y0c y0d r0 y1a y1b y1c y1d r1 (Sum.inr (Sum.inr u)))))))) (fun (h108 : (iGt (w % 60) 4096) = false) => have _gh108 := iGt_f h108; aI (r08_Sign n f oS) (have f122 := sign_range n; aI (fun (h109 : (iLe ((n).sign) 0) = true) => have _gh109 := iLe_t h109; aI (fun (h110 : (iNe r1 4) = true) => have _gh110 := iNe_t h110; aI tT ((nx_ret ((l15_EndsT_0_ex b1 l1 e1 b2 l2 e2 w m ee n f y0a y0b y0c y0d r0 y1a y1b y1c y1d r1 (Sum.inr u)).2) (Sum.inr u) (show False from (by omega : False)) rfl : l15_EndsT_0_N b1 l1 e1 b2 l2 e2 w m ee n f y0a y0b y0c y0d r0 y1a y1b y1c y1d r1 (Sum.inr (Sum.inl u)) .ret ((l15_EndsT_0_ex b1 l1 e1 b2 l2 e2 w m ee n f y0a y0b y0c y0d r0 y1a y1b y1c y1d r1 (Sum.inr u)).2)))) (fun (h111 : (iNe r1 4) = false) => have _gh111 := iNe_f h111; aI tT (aI tT ((nx_next (Sum.inr (Sum.inr u)) (show u = u from rfl) (show 9 - 2 < 9 - 1 by omega) : l15_EndsT_0_N b1 l1 e1 b2 l2 e2 w m ee n f y0a y0b y0c y0d r0 y1a y1b y1c y1d r1 (Sum.inr (Sum.inl u)) .normal (l15_EndsT_0_mk b1 l1 e1 b2 l2 e2 w m ee n f y0a y0b y0c y0d r0 y1a y1b y1c y1d r1 (Sum.inr (Sum.inr u)))))))) (fun (h112 : (iLe ((n).sign) 0) = false) => have _gh112 := iLe_f h112; aI (r08_Sign m ee oS) (have f121 := sign_range m; aI (fun (h113 : (iLe ((m).sign) 0) = true) => have _gh113 := iLe_t h113; aI (fun (h114 : (iNe r1 5) = true) => have _gh114 := iNe_t h114; aI tT ((nx_ret ((l15_EndsT_0_ex b1 l1 e1 b2 l2 e2 w m ee n f y0a y0b y0c y0d r0 y1a y1b y1c y1d r1 (Sum.inr u)).2) (Sum.inr u) (show False from (by omega : False)) rfl : l15_EndsT_0_N b1 l1 e1 b2 l2 e2 w m ee n f y0a y0b y0c y0d r0 y1a y1b y1c y1d r1 (Sum.inr (Sum.inl u)) .ret ((l15_EndsT_0_ex b1 l1 e1 b2 l2 e2 w m ee n f y0a y0b y0c y0d r0 y1a y1b y1c y1d r1 (Sum.inr u)).2)))) (fun (h115 : (iNe r1 5) = false) => have _gh115 := iNe_f h115; aI tT (aI tT ((nx_next (Sum.inr (Sum.inr u)) (show u = u from rfl) (show 9 - 2 < 9 - 1 by omega) : l15_EndsT_0_N b1 l1 e1 b2 l2 e2 w m ee n f y0a y0b y0c y0d r0 y1a y1b y1c y1d r1 (Sum.inr (Sum.inl u)) .normal (l15_EndsT_0_mk b1 l1 e1 b2 l2 e2 w m ee n f y0a y0b y0c y0d r0 y1a y1b y1c y1d r1 (Sum.inr (Sum.inr u)))))))) (fun (h116 : (iLe ((m).sign) 0) = false) => have _gh116 := iLe_f h116; aI (fun (h117 : (iNe r1 0) = true) => have _gh117 := iNe_t h117; aI (fun (h118 : (iLe (w % 60) 200) = true) => have _gh118 := iLe_t h118; aI tT ((nx_ret ((l15_EndsT_0_ex b1 l1 e1 b2 l2 e2 w m ee n f y0a y0b y0c y0d r0 y1a y1b y1c y1d r1 (Sum.inr u)).2) (Sum.inr u) (show False from (by omega : False)) rfl : l15_EndsT_0_N b1 l1 e1 b2 l2 e2 w m ee n f y0a y0b y0c y0d r0 y1a y1b y1c y1d r1 (Sum.inr (Sum.inl u)) .ret ((l15_EndsT_0_ex b1 l1 e1 b2 l2 e2 w m ee n f y0a y0b y0c y0d r0 y1a y1b y1c y1d r1 (Sum.inr u)).2)))) (fun (h119 : (iLe (w % 60) 200) = false) => have _gh119 := iLe_f h119; aI tT (aI tT ((nx_next (Sum.inr (Sum.inr u)) (show u = u from rfl) (show 9 - 2 < 9 - 1 by omega) : l15_EndsT_0_N b1 l1 e1 b2 l2 e2 w m ee n f y0a y0b y0c y0d r0 y1a y1b y1c y1d r1 (Sum.inr (Sum.inl u)) .normal (l15_EndsT_0_mk b1 l1 e1 b2 l2 e2 w m ee n f y0a y0b y0c y0d r0 y1a y1b y1c y1d r1 (Sum.inr (Sum.inr u)))))))) (fun (h120 : (iNe r1 0) = false) => have _gh120 := iNe_f h120; aI tT (aI tT ((nx_next (Sum.inr (Sum.inr u)) (show u = u from rfl) (show 9 - 2 < 9 - 1 by omega) : l15_EndsT_0_N b1 l1 e1 b2 l2 e2 w m ee n f y0a y0b y0c y0d r0 y1a y1b y1c y1d r1 (Sum.inr (Sum.inl u)) .normal (l15_EndsT_0_mk b1 l1 e1 b2 l2 e2 w m ee n f y0a y0b y0c y0d r0 y1a y1b y1c y1d r1 (Sum.inr (Sum.inr u)))))))))))))))) (by kernel_rfl)
    · skip
      have hI : u = u := hI
      have h1 := hI
      have sm := sign_range m
      have sn := sign_range n
      exact cast_ob (aI True.intro (aI tT ((nx_exit 0 ((l15_EndsT_0_ex b1 l1 e1 b2 l2 e2 w m ee n f y0a y0b y0c y0d r0 y1a y1b y1c y1d r1 (Sum.inl u)).2) (Sum.inl u) (show u = u from rfl) rfl : l15_EndsT_0_N b1 l1 e1 b2 l2 e2 w m ee n f y0a y0b y0c y0d r0 y1a y1b y1c y1d r1 (Sum.inr (Sum.inr u)) (.exit 0) ((l15_EndsT_0_ex b1 l1 e1 b2 l2 e2 w m ee n f y0a y0b y0c y0d r0 y1a y1b y1c y1d r1 (Sum.inl u)).2))))) (by kernel_rfl))
theorem l15_EndsT (b1 : Bool) (l1 : List Nat) (e1 : Int) (b2 : Bool) (l2 : List Nat) (e2 : Int) (w : Int) (m : Int) (ee : Int) (n : Int) (f : Int) (y0a : Int) (y0b : Int) (y0c : Int) (y0d : Int) (r0 : Int) (y1a : Int) (y1b : Int) (y1c : Int) (y1d : Int) (r1 : Int) (c0 : (-9223372036854775808 : Int) ≤ w ∧ w ≤ 9223372036854775807) (c1 : Impl Tryz.prog Amb 23 [(.agg [(.bool b1), (.sl 1 (U l1)), (.int .i64 e1), (.bool b2), (.sl 1 (U l2)), (.int .i64 e2)]), (.int .i64 2), (.int .i64 60)] (.tup [(wV m ee n f), (.bool true)])) (c2 : L (m).natAbs ≤ 1000 ∧ L (n).natAbs ≤ 1000) (c3 : Impl Tryz.prog Amb 19 [(wV m ee n f), (.int .i64 w)] (.tup [(wV y0a y0b y0c y0d), (.int .i64 r0)])) (c4 : Impl Tryz.prog Amb 19 [(wV m ee n f), (.int .i64 (w % 60))] (.tup [(wV y1a y1b y1c y1d), (.int .i64 r1)])) (c5 : ((w < 0 ∨ 4096 < w) → r0 = 1) ∧ (¬ (w < 0 ∨ 4096 < w) → n ≤ 0 → r0 = 4) ∧ (¬ (w < 0 ∨ 4096 < w) → 0 < n → m ≤ 0 → r0 = 5) ∧ (¬ (w < 0 ∨ 4096 < w) → 0 < n → 0 < m → w ≤ 200 → r0 = 0)) (c6 : (((w % 60) < 0 ∨ 4096 < (w % 60)) → r1 = 1) ∧ (¬ ((w % 60) < 0 ∨ 4096 < (w % 60)) → n ≤ 0 → r1 = 4) ∧ (¬ ((w % 60) < 0 ∨ 4096 < (w % 60)) → 0 < n → m ≤ 0 → r1 = 5) ∧ (¬ ((w % 60) < 0 ∨ 4096 < (w % 60)) → 0 < n → 0 < m → (w % 60) ≤ 200 → r1 = 0)) : Impl Tryz.prog Amb 5 [(.agg [(.bool b1), (.sl 1 (U l1)), (.int .i64 e1), (.bool b2), (.sl 1 (U l2)), (.int .i64 e2)]), (.int .i64 w)] (.bool true) := by
  exact impl_ob hP hAmb Tryz.func5 (by kernel_rfl) (.lit <| .call (.bool true) <| .lits 4 <| .call (.tup [(wV m ee n f), (.bool true)]) <| .lits 4 <| .call (.int .i64 (w % 60)) <| .loop2 ⟨[5, 24, 25, 26], 3, []⟩ ((l15_EndsT_0_mk b1 l1 e1 b2 l2 e2 w m ee n f y0a y0b y0c y0d r0 y1a y1b y1c y1d r1 (Sum.inl (0 : Int)))) (Int) (Int) (l15_EndsT_0_ex b1 l1 e1 b2 l2 e2 w m ee n f y0a y0b y0c y0d r0 y1a y1b y1c y1d r1) (l15_EndsT_0_J b1 l1 e1 b2 l2 e2 w m ee n f y0a y0b y0c y0d r0 y1a y1b y1c y1d r1) (fun y => .lit <| .ret) (fun y => .lit <| .ret))
    (cast_ob (aI True.intro (aI (l15_awake ) (aI (c1 ) (aI (mill_Mod w 60 oS oS) (have f2 := Int.emod_lt_of_pos w (show (0 : Int) < 60 by first | omega | assumption); have f1 := Int.emod_nonneg w (show (60 : Int) ≠ 0 by first | omega | assumption); aI tT (aI (rfl : (l15_EndsT_0_mk b1 l1 e1 b2 l2 e2 w m ee n f y0a y0b y0c y0d r0 y1a y1b y1c y1d r1 (Sum.inl (0 : Int))) = (l15_EndsT_0_mk b1 l1 e1 b2 l2 e2 w m ee n f y0a y0b y0c y0d r0 y1a y1b y1c y1d r1 (Sum.inl (0 : Int)))) (aI (l15_EndsT_0 b1 l1 e1 b2 l2 e2 w m ee n f y0a y0b y0c y0d r0 y1a y1b y1c y1d r1 c0 c1 c2 c3 c4 c5 c6 (Sum.inl (0 : Int)) (show (0 : Int) = (0 : Int) from rfl)) (aI (fun (y : Int) (hJ : l15_EndsT_0_J b1 l1 e1 b2 l2 e2 w m ee n f y0a y0b y0c y0d r0 y1a y1b y1c y1d r1 (.inl y)) => have hJ : y = y := hJ; (vsub_refl (.bool true))) (fun (y : Int) (hJ : l15_EndsT_0_J b1 l1 e1 b2 l2 e2 w m ee n f y0a y0b y0c y0d r0 y1a y1b y1c y1d r1 (.inr y)) => have hJ : False := hJ; (False.elim hJ : vsub (.bool false) (.bool true))))))))))) (by kernel_rfl))
end Go.Proofs.YtekcladflnieeaaGreatDoor

namespace Go.Proofs.YtekcladflnieeaaGreatDoor
open Go.RowKit
set_option maxRecDepth 100000
set_option maxHeartbeats 2000000
theorem hln_of {m e : Int} {c : Nat} (hc : c ≤ 20) (hm : 0 < m) (hL : L m.natAbs ≤ c) (he : -3000 ≤ e ∧ e ≤ 3000) (hv : vdb m e = true) : (0 < m) ∧ L m.natAbs ≤ 300 ∧ (-5000 ≤ e ∧ e ≤ 5000) ∧ vdb m e = true ∧ -4096 ≤ spl m e ∧ spl m e ≤ 4096 := by
  have f := sp_facts (e := e) hm
  exact ⟨hm, by omega, by omega, hv, by omega, by omega⟩
theorem l15_eround (m ee n f k : Int) (hm : L m.natAbs ≤ 2 ∧ (-60 ≤ ee ∧ ee ≤ 130) ∧ vdb m ee = true) (hn : L n.natAbs ≤ 2 ∧ (-60 ≤ f ∧ f ≤ 130) ∧ vdb n f = true) (hk : (-9223372036854775808 : Int) ≤ k ∧ k ≤ 9223372036854775807) : ∃ ya yb yc yd er : Int, Impl Tryz.prog Amb 19 [(wV m ee n f), (.int .i64 k)] (.tup [(wV ya yb yc yd), (.int .i64 er)]) ∧ (((k < 0 ∨ 4096 < k) → er = 1) ∧ (¬ (k < 0 ∨ 4096 < k) → n ≤ 0 → er = 4) ∧ (¬ (k < 0 ∨ 4096 < k) → 0 < n → m ≤ 0 → er = 5) ∧ (¬ (k < 0 ∨ 4096 < k) → 0 < n → 0 < m → k ≤ 200 → er = 0)) := by
  by_cases h1 : k < 0 ∨ 4096 < k
  · exact ⟨0, 0, 0, 0, 1, implw (vsub_w0 1) (lg_LnA m ee n f k oO oO hk h1), by omega⟩
  · by_cases h2 : n ≤ 0
    · exact ⟨0, 0, 0, 0, 4, implw (vsub_w0 4) (lg_LnD m ee n f k oO oO hk oO h2), by omega⟩
    · by_cases h3 : m ≤ 0
      · exact ⟨0, 0, 0, 0, 5, implw (vsub_w0 5) (lg_LnU m ee n f k oO oO hk oO oO h3), by omega⟩
      · obtain ⟨a, b, c, d, er, hA, hz⟩ := lg_LnT m ee n f k (hln_of (c := 2) oO oO hm.1 oO hm.2.2) (hln_of (c := 2) oO oO hn.1 oO hn.2.2) oO
        exact ⟨a, b, c, d, er, hA, by omega⟩
theorem l15_LogarithmEnds (b1 : Bool) (l1 : List Nat) (e1 : Int) (b2 : Bool) (l2 : List Nat) (e2 : Int) (w : Int) (c0 : Dig l1) (c1 : l1.length ≤ 9223372036854775807) (c2 : (-9223372036854775808 : Int) ≤ e1 ∧ e1 ≤ 9223372036854775807) (c3 : Dig l2) (c4 : l2.length ≤ 9223372036854775807) (c5 : (-9223372036854775808 : Int) ≤ e2 ∧ e2 ≤ 9223372036854775807) (c6 : (-9223372036854775808 : Int) ≤ w ∧ w ≤ 9223372036854775807) : Impl Tryz.prog Amb 5 [(.agg [(.bool b1), (.sl 1 (U l1)), (.int .i64 e1), (.bool b2), (.sl 1 (U l2)), (.int .i64 e2)]), .int .i64 w] (.bool true) := by
  have fa := iv_fit (b := b1) (e := e1) (c := b2) (f := e2) (n := 2) (k := 60) c0 c3 oO oO
  have hi := mill_Iv b1 l1 e1 b2 l2 e2 2 60 c0 c1 c3 c4 c2 c5 oO oO
  generalize hm' : (ivM b1 l1 e1 b2 l2 e2 2 60) = m at fa hi
  generalize he' : (ivX b1 l1 e1 b2 l2 e2 2 60) = ee at fa hi
  generalize hn' : (ivN b1 l1 e1 b2 l2 e2 2 60) = n at fa hi
  generalize hf' : (ivF b1 l1 e1 b2 l2 e2 2 60) = f at fa hi
  clear hm' he' hn' hf'
  have w160 := Int.emod_nonneg w (show (60 : Int) ≠ 0 by omega)
  have w260 := Int.emod_lt_of_pos w (show (0 : Int) < 60 by omega)
  by_cases hok : ((l1.length : Int) ≤ 2 ∧ (l2.length : Int) ≤ 2)
  · rw [decide_eq_true hok] at hi
    obtain ⟨ya, yb, yc, yd, r0, a1, a2⟩ := l15_eround m ee n f w ⟨by omega, by omega, fa.2.1⟩ ⟨by omega, by omega, fa.2.2.1⟩ c6
    obtain ⟨za, zb, zc, zd, r1, b1', b2'⟩ := l15_eround m ee n f (w % 60) ⟨by omega, by omega, fa.2.1⟩ ⟨by omega, by omega, fa.2.2.1⟩ oO
    exact l15_EndsT b1 l1 e1 b2 l2 e2 w m ee n f _ _ _ _ r0 _ _ _ _ r1 c6 hi oO a1 b1' a2 b2'
  · rw [decide_eq_false hok] at hi
    exact l15_EndsF b1 l1 e1 b2 l2 e2 w m ee n f c6 hi oO
end Go.Proofs.YtekcladflnieeaaGreatDoor

namespace Go.Proofs.YtekcladflnieeaaGreatDoor
open Go.ChangeShapes Go.WideShapes Go.ChangeAt Go.RowKit
theorem ownNone : ownKnob Tryz.prog.godebug = none := by kernel_rfl
theorem gTab : Tryz.prog.globalNamed "math/bits.deBruijn32tab" = some 0 := by kernel_rfl
theorem gTabType : (Tryz.prog.globals[0]?).map (·.type) = some 173 := by kernel_rfl
theorem cellsTab : Tryz.prog.cellsOf 173 = 32 := by kernel_rfl
theorem cellsU8 : Tryz.prog.cellsOf 5 = 1 := by kernel_rfl
theorem amb_of {W : World} (h : laidMetH Tryz.prog [("math/bits.deBruijn32tab", Rows.laid_math_bits_deBruijn32tab)] W) : Amb W := by
  have t : Lib.TabIs Tryz.prog W "math/bits.deBruijn32tab" .u8 tab32 := Lib.tabIs_of_head (rest := []) gTab gTabType Tryz.underlying173 Tryz.underlying5 cellsU8 cellsTab h
  intro i v hi
  have hlt : i < tab32.length := by
    rcases Nat.lt_or_ge i tab32.length with q | q
    · exact q
    · rw [List.getElem?_eq_none q] at hi; cases hi
  have h1 := t.cell gTab i hlt
  rw [List.getD_eq_getElem?_getD, hi] at h1
  exact h1
theorem int_wf {n : Int} (h : (Lit.int .i64 n).wf = true) : (-9223372036854775808 : Int) ≤ n ∧ n ≤ 9223372036854775807 := by
  simp only [Lit.wf, Bool.and_eq_true, decide_eq_true_eq] at h
  simp [IntKind.min, IntKind.max, IntKind.signed, IntKind.bits] at h
  omega
noncomputable def laidWorld (os : Os) : World :=
  { World.holding Tryz.prog os ⟨#[], #[], []⟩ with heap := (World.holding Tryz.prog os ⟨#[], #[], []⟩).heap.modify 0 fun
      | .cells _ t frozen => .cells (tab32.map (Value.int .u8)).toArray t frozen
      | o => o }
theorem post_of_below {H : Type} {enc : TypeId × Value → H} {P : Program} {f : Func} {s : ChangeSpec} {apart fresh handsOn again : Bool} {W W' : World} {args : Array Value} {v : Value} {ds gs : List (DataW H)} {before pa pv : List MemPlace}
    (hW : DataW.Whole enc P f.params.toList s.vars apart W args.toList ds gs before)
    (hres : ∀ (b : Nat) (sp : Nat → Bool) (hd : Bool), DataW.TrodAll enc P W' b sp hd f.resultTypes.toList (v.resultList f.resultTypes.size) (s.fn H (ds ++ gs)).results [])
    (hargs : ∀ sp : Nat → Bool, (∀ p ∈ before, sp p.block = true) → DataW.TrodAll enc P W' 0 sp true f.params.toList args.toList (s.fn H (ds ++ gs)).args pa)
    (hvars : ∀ sp : Nat → Bool, (∀ p ∈ before, sp p.block = true) → DataW.TrodVars enc P W' sp s.vars (s.fn H (ds ++ gs)).vars pv)
    (hps : before = pa ++ pv) (hb : Below W.heap.size W W')
    (hok : ∀ (j : Nat) (t : TypeId) (r : Value), f.resultTypes[j]? = some t → (v.resultList f.resultTypes.size)[j]? = some r → Value.okWide P W' .any 0 t r) : s.post enc P f apart fresh handsOn again W args v W' := by
  have lt := hW.lt
  have old : ∀ p ∈ before, (fun b => decide (b < W.heap.size)) p.block = true := fun p hp => decide_eq_true (lt p hp)
  subst hps
  refine ⟨ds, gs, pa ++ pv, [], pa, pv, hW, hres _ _ _, hargs _ old, hvars _ old, hb.frame _, fun _ => ?_⟩
  obtain ⟨_, _, _, _, _, hz, hn⟩ := hW
  have h1 := trodAll_append (hargs (fun _ => true) fun _ _ => rfl) (hres 0 (fun _ => true) true)
  refine ⟨hok, _, _, _, ⟨_, pv, h1, hvars _ fun _ _ => rfl, rfl, fun b off hp => ?_, fun ha => ?_⟩, fun p hp _ => ?_⟩
  · have hp' : MemPlace.cell b off ∈ pa ++ pv := by simpa using hp
    rw [hb.frozen (lt _ hp')]
    exact hz b off hp'
  · simpa using hn ha
  · simpa using hp
end Go.Proofs.YtekcladflnieeaaGreatDoor

namespace Go.Proofs.YtekcladflnieeaaGreatDoor
open Go.ChangeShapes Go.WideShapes Go.ChangeAt Go.RowKit
set_option maxRecDepth 100000
variable {H : Type} {enc : TypeId × Value → H} {W : World} {sp : Nat → Bool} {held : Bool}
theorem laidOut : laidOutB Tryz.prog = true := by kernel_rfl
theorem cellsU32 : Tryz.prog.cellsOf 124 = 1 := by kernel_rfl
theorem cellsSl : Tryz.prog.cellsOf 22 = 1 := by kernel_rfl
theorem cellsBool : Tryz.prog.cellsOf 4 = 1 := by kernel_rfl
theorem cellsInt : Tryz.prog.cellsOf 3 = 1 := by kernel_rfl
theorem cellsZ : Tryz.prog.cellsOf 24 = 2 := by kernel_rfl
theorem cellsY : Tryz.prog.cellsOf 26 = 3 := by kernel_rfl
theorem cellsW : Tryz.prog.cellsOf 28 = 6 := by kernel_rfl
theorem rdl_U (S : Nat → Prop) : ∀ l : List Nat, RdL W S (l.map fun (d : Nat) => Value.int .u32 (d : Int)) (U l)
  | [] => .nil
  | _ :: l => .cons .int (rdl_U S l)
theorem wf_u32 {n : Int} (h : (Lit.int .u32 n).wf = true) : 0 ≤ n ∧ n < 4294967296 := by
  simp only [Lit.wf, Bool.and_eq_true, decide_eq_true_eq] at h
  simp [IntKind.min, IntKind.max, IntKind.signed, IntKind.bits] at h
  omega
theorem open_slice32 {n : Nat} {c : Value} {x : DataW H × List MemPlace} {b0 : Nat} (h : DataW.trod enc Tryz.prog W 0 sp held n 22 [c] = some x) (hok : Cell.okWide Tryz.prog W .any b0 22 c) :
    ∃ l : List Nat, Dig l ∧ l.length ≤ maxLen ∧ Rd W (fun _ => True) c (.sl 1 (U l)) := by
  rcases open_ints Tryz.underlying22 Tryz.underlying124 cellsU32 h with ⟨hc, _⟩ | ⟨a, len, cap, zs, hc, _, hl, hm, hz, _, hcell, hwf⟩
  · obtain rfl : c = .slice none 0 0 := by simpa using hc
    exact ⟨[], (fun d hd => by cases hd), Nat.zero_le _, .nilsl⟩
  · obtain rfl : c = .slice (some a) len cap := by simpa using hc
    have hlen : len ≤ zs.length := by rw [hz]; split <;> omega
    simp only [Cell.okWide, Cell.ok, Tryz.underlying22, World.has] at hok
    obtain ⟨_, _, _, hs, row, cells, hsh, _⟩ := hok
    obtain ⟨ab, ao, spot⟩ := a
    simp only at hs hsh
    subst hs
    have hb : ab < W.heap.size := by
      unfold World.shape? at hsh
      split at hsh
      · rename_i q; exact (Array.getElem?_eq_some_iff.1 q).1
      · cases hsh
    refine ⟨(zs.take len).map Int.toNat, ?_, ?_, ?_⟩
    · intro d hd
      obtain ⟨z, hz', rfl⟩ := List.mem_map.1 hd
      have := wf_u32 (hwf z (List.mem_of_mem_take hz'))
      show z.toNat < 4294967296
      omega
    · simp; omega
    · refine .sl (vals := ((zs.take len).map Int.toNat).map fun (d : Nat) => Value.int .u32 (d : Int)) trivial hb hl (by simp [U]; omega) (rdl_U _ _) ?_
      intro i v hv
      simp only [List.getElem?_map, Option.map_eq_some_iff] at hv
      obtain ⟨d, ⟨z, hz', rfl⟩, rfl⟩ := hv
      have hi : i < len := by
        rcases Nat.lt_or_ge i len with q | q
        · exact q
        · rw [List.getElem?_eq_none (by simp; omega)] at hz'; cases hz'
      rw [List.getElem?_take, if_pos hi] at hz'
      have h1 := hcell i (by omega)
      rw [List.getD_eq_getElem?_getD, hz'] at h1
      have h2 := wf_u32 (hwf z (List.mem_of_getElem? hz'))
      have h3 : ((z.toNat : Nat) : Int) = z := Int.toNat_of_nonneg h2.1
      simp only [Option.getD_some] at h1
      rw [h3]
      have h4 : (Addr.mk ab ao none).add i = ⟨ab, ao + i, none⟩ := by
        unfold Addr.add; split
        · rename_i q; subst q; rfl
        · rfl
      rw [h4] at h1
      exact h1
theorem open_Z {n : Nat} {c0 c1 : Value} {x : DataW H × List MemPlace} {b0 : Nat} (h : DataW.trod enc Tryz.prog W 0 sp held n 24 [c0, c1] = some x) (hok : Cell.okWide Tryz.prog W .any b0 22 c1) :
    ∃ (b : Bool) (l : List Nat), Dig l ∧ l.length ≤ maxLen ∧ RdL W (fun _ => True) [c0, c1] [.bool b, .sl 1 (U l)] := by
  obtain ⟨y0, y1, m, _, _, h0, h1⟩ := trod_struct2 Tryz.underlying24 h
  have k0 : DataW.trod enc Tryz.prog W 0 sp held m 4 [c0] = some y0 := by simpa [cellsBool] using h0
  have k1 : DataW.trod enc Tryz.prog W 0 sp held m 22 [c1] = some y1 := by simpa [cellsSl] using h1
  obtain ⟨b, hb, _⟩ := DataW.trod_bool Tryz.underlying4 k0
  obtain rfl : c0 = .bool b := by simpa using hb
  obtain ⟨l, d, e, r⟩ := open_slice32 k1 hok
  exact ⟨b, l, d, e, .cons .bool (.cons r .nil)⟩
theorem open_Y {n : Nat} {c0 c1 c2 : Value} {x : DataW H × List MemPlace} {b0 : Nat} (h : DataW.trod enc Tryz.prog W 0 sp held n 26 [c0, c1, c2] = some x) (hok : Cell.okWide Tryz.prog W .any b0 22 c1) :
    ∃ (b : Bool) (l : List Nat) (e : Int), Dig l ∧ l.length ≤ maxLen ∧ ((-9223372036854775808 : Int) ≤ e ∧ e ≤ 9223372036854775807) ∧ RdL W (fun _ => True) [c0, c1, c2] [.bool b, .sl 1 (U l), .int .i64 e] := by
  obtain ⟨y0, y1, m, _, _, h0, h1⟩ := trod_struct2 Tryz.underlying26 h
  have k0 : DataW.trod enc Tryz.prog W 0 sp held m 24 [c0, c1] = some y0 := by simpa [cellsZ] using h0
  have k1 : DataW.trod enc Tryz.prog W 0 sp held m 3 [c2] = some y1 := by simpa [cellsInt] using h1
  obtain ⟨b, l, d, e, r⟩ := open_Z k0 hok
  obtain ⟨z, hz, _, hw⟩ := DataW.trod_int Tryz.underlying3 k1
  obtain rfl : c2 = .int .i64 z := by simpa using hz
  cases r with | cons r0 r => cases r with | cons r1 r => cases r with | nil =>
    exact ⟨b, l, z, d, e, int_wf hw, .cons r0 (.cons r1 (.cons .int .nil))⟩
theorem array6 {α : Type} {cs : Array α} (h : cs.size = 6) : ∃ c0 c1 c2 c3 c4 c5, cs = #[c0, c1, c2, c3, c4, c5] := by
  obtain ⟨l⟩ := cs
  match l, h with
  | [c0, c1, c2, c3, c4, c5], _ => exact ⟨c0, c1, c2, c3, c4, c5, rfl⟩
theorem open_W {v : Value} {d : DataW H} {p : List MemPlace} {b0 : Nat} (hv : Value.okWide Tryz.prog W .any b0 28 v) (h : DataW.Trod enc Tryz.prog W 0 sp held 28 v d p) :
    ∃ (b : Bool) (l : List Nat) (e : Int) (c : Bool) (r : List Nat) (f : Int), (Dig l ∧ l.length ≤ maxLen ∧ ((-9223372036854775808 : Int) ≤ e ∧ e ≤ 9223372036854775807)) ∧ (Dig r ∧ r.length ≤ maxLen ∧ ((-9223372036854775808 : Int) ≤ f ∧ f ≤ 9223372036854775807)) ∧
      Rd W (fun _ => True) v (.agg [.bool b, .sl 1 (U l), .int .i64 e, .bool c, .sl 1 (U r), .int .i64 f]) := by
  simp only [Value.okWide, Tryz.underlying28] at hv
  obtain ⟨cs, rfl, hsz, ts, hts, _, hrow⟩ := hv
  have e0 : Tryz.prog.cellTypes Tryz.prog.depth 28 = some [4, 22, 3, 4, 22, 3] := by kernel_rfl
  rw [e0] at hts
  obtain rfl := Option.some.inj hts
  obtain ⟨c0, c1, c2, c3, c4, c5, rfl⟩ := array6 (hsz.trans cellsW)
  obtain ⟨u1, q1, ok1⟩ := hrow 1 c1 rfl
  obtain rfl : 22 = u1 := by simpa using q1
  obtain ⟨u4, q4, ok4⟩ := hrow 4 c4 rfl
  obtain rfl : 22 = u4 := by simpa using q4
  obtain ⟨n, hn⟩ := h
  obtain ⟨y0, y1, m, _, _, h0, h1⟩ := trod_struct2 Tryz.underlying28 hn
  have k0 : DataW.trod enc Tryz.prog W 0 sp held m 26 [c0, c1, c2] = some y0 := by simpa [cellsY, Value.cells] using h0
  have k1 : DataW.trod enc Tryz.prog W 0 sp held m 26 [c3, c4, c5] = some y1 := by simpa [cellsY, Value.cells] using h1
  obtain ⟨b, l, e, d1, d2, d3, r1⟩ := open_Y k0 ok1
  obtain ⟨c, r, f, f1, f2, f3, r2⟩ := open_Y k1 ok4
  refine ⟨b, l, e, c, r, f, ⟨d1, d2, d3⟩, ⟨f1, f2, f3⟩, ?_⟩
  cases r1 with | cons a0 r1 => cases r1 with | cons a1 r1 => cases r1 with | cons a2 r1 => cases r1 with | nil =>
  cases r2 with | cons b0 r2 => cases r2 with | cons b1 r2 => cases r2 with | cons b2 r2 => cases r2 with | nil =>
    exact .agg (.cons a0 (.cons a1 (.cons a2 (.cons b0 (.cons b1 (.cons b2 .nil))))))
end Go.Proofs.YtekcladflnieeaaGreatDoor

namespace Go.Proofs.YtekcladflnieeaaGreatDoor.logarithmEnds
open Go.ChangeShapes Go.WideShapes Go.ChangeAt Go.RowKit
set_option maxRecDepth 100000 in
theorem contract (H : Type) (enc : TypeId × Value → H) (W : World) (base : Nat) (args : Array Value) (ds gs : List (DataW H)) (before : List MemPlace)
    (hval : ∀ (j : Nat) t v, Tryz.f5.params[j]? = some t → args[j]? = some v → Value.okWide Tryz.prog W .any base t v)
    (hW : DataW.Whole enc Tryz.prog Tryz.f5.params.toList Rows.logarithmEndsSpec.vars false W args.toList ds gs before) (hL : laidMetH Tryz.prog Rows.logarithmEndsRow.laid W) :
    Calls Tryz.prog 5 args W fun e W' => ∃ v, e = .returned v ∧ Rows.logarithmEndsSpec.post enc Tryz.prog Tryz.f5 false true false false W args v W' := by
  have hW' := hW
  obtain ⟨p, q, hA0, hV, rfl, hfz, hnd⟩ := hW
  have hA : DataW.TrodAll enc Tryz.prog W 0 (fun _ => true) true Tryz.f5.params.toList args.toList ds p := hA0
  rw [Tryz.params5] at hA hval
  obtain ⟨v0, vs0, d0, ds0, p0, q0, hargs0, rfl, rfl, h0, r0⟩ := trodAll_cons hA
  obtain ⟨v1, vs1, d1, ds1, p1, q1, hargs1, rfl, rfl, h1, r1⟩ := trodAll_cons r0
  obtain ⟨rfl, rfl, rfl⟩ := trodAll_nil r1
  obtain rfl : args = #[v0, v1] := by cases args; simp_all
  obtain ⟨rfl, rfl⟩ := trodVars_none hV
  obtain ⟨b0, l0, e0, c0, s0, f0, ⟨a0, a0', a0''⟩, ⟨z0, z0', z0''⟩, t0⟩ := open_W (hval 0 28 v0 rfl rfl) h0
  have m0 : l0.length ≤ 9223372036854775807 := a0'
  have n0 : s0.length ≤ 9223372036854775807 := z0'
  have k1 := h1
  obtain ⟨x1, rfl, rfl, rfl, w1⟩ := open_int Tryz.underlying3 (hval 1 3 v1 rfl rfl) h1
  have b1 := int_wf w1
  clear hA0
  have hlt := hW'.lt
  have hI := l15_LogarithmEnds b0 l0 e0 c0 s0 f0 x1 a0 m0 a0'' z0 n0 z0'' b1
  have hC := hI.2 W (fun _ => True) [v0, .int .i64 x1] (amb_of hL) (fun _ _ => trivial) (.cons t0 (.cons .int (.nil)))
  refine hC.mono fun e W' hh => ?_
  obtain ⟨v, rfl, hv, hb⟩ := hh
  have hv := hv.bool_inv
  subst hv
  exact ⟨_, rfl, post_of_below (pa := (p0 ++ ([] ++ []))) (pv := []) hW' (fun _ _ _ => trodAll_cons_mk (shut_bool Tryz.underlying4 _) trodAll_mk0) (fun sp hsp => (trodAll_cons_mk (WideElems.Trod_stays laidOut (by kernel_rfl) (of_decide_eq_true (by kernel_rfl)) h0 (fun x hx => hb.same (hlt x (by simp [hx]))) (fun x hx => hsp x (by simp [hx]))) (trodAll_cons_mk (shut_int Tryz.underlying3 w1) trodAll_mk0))) (fun _ _ => rfl) rfl
    hb (ok_one (by kernel_rfl) rfl (okWide_bool_mk Tryz.underlying4 _))⟩
theorem laid_met (os : Os) : laidMet Tryz.prog Rows.logarithmEndsRow.laid ((laidWorld os).forCall (fun _ _ => 0) ⟨#[], #[.agg #[.bool false, .slice none 0 0, .int .i64 0, .bool false, .slice none 0 0, .int .i64 0], .int .i64 0], []⟩).memory :=
  laidMet_of_run' 64 (by kernel_rfl) (by kernel_rfl)
theorem reads (os : Os) {H : Type} (enc : TypeId × Value → H) : ∃ places, DataW.whole enc Tryz.prog ((laidWorld os).forCall (fun _ _ => 0) ⟨#[], #[.agg #[.bool false, .slice none 0 0, .int .i64 0, .bool false, .slice none 0 0, .int .i64 0], .int .i64 0], []⟩).memory Tryz.f5.params.toList Rows.logarithmEndsSpec.vars false #[Value.agg #[.bool false, .slice none 0 0, .int .i64 0, .bool false, .slice none 0 0, .int .i64 0], Value.int .i64 0].toList 64 = some ([.agg [.agg [.agg [.lit (.bool false), .nil], .lit (.int .i64 0)], .agg [.agg [.lit (.bool false), .nil], .lit (.int .i64 0)]], .lit (.int .i64 0)], [], places) :=
  ⟨[], by kernel_rfl⟩
set_option maxRecDepth 100000 in
theorem lifted (os : Os) (started : os.Started) (H : Type) (enc : TypeId × Value → H) (F : Stop.Interp) :
    ReturnsInHanded {} Tryz.checked os 5 .any ((OpenSpec.ofChange Rows.logarithmEndsSpec).preRow enc Tryz.prog Tryz.f5 Rows.logarithmEndsRow.domain false Rows.logarithmEndsRow.laid) (((OpenSpec.ofChange Rows.logarithmEndsSpec).at F).post enc Tryz.prog Tryz.f5 false true false false) := by
  obtain ⟨places, hx⟩ := reads os enc
  refine returnsInHanded_of_row (C := Tryz.checked) (s := OpenSpec.ofChange Rows.logarithmEndsSpec) ownNone started (by kernel_rfl) Tryz.func5
    (witness_row_at (enc := enc) (C := Tryz.checked) false (laidWorld os) #[.agg #[.bool false, .slice none 0 0, .int .i64 0, .bool false, .slice none 0 0, .int .i64 0], .int .i64 0] rfl (by kernel_rfl) (by kernel_rfl) (by kernel_rfl)
      (OpenSpec.preRow_of_cond 64 hx (by kernel_rfl) (fun k hk => by cases hk) (by kernel_rfl) (laid_met os))) ?_
  intro W base args ds gs before hval hW _ _ _ hL _ _
  exact contract H enc W base args ds gs before hval hW hL
end Go.Proofs.YtekcladflnieeaaGreatDoor.logarithmEnds
