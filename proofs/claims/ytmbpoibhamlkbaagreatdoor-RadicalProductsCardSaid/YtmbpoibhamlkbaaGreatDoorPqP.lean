/-
  Lower layers: what functions of the program compute, and plain facts. Conditions: as the theorems say.
-/
import Derived.Test.YtmbpoibhamlkbaaGreatDoorPqO
set_option linter.unusedVariables false
set_option linter.unusedSimpArgs false
namespace Go.Proofs.YtmbpoibhamlkbaaGreatDoor
open Go.RowKit
set_option maxRecDepth 100000
def ar_mul_mk (m ee n f p g q h : Int) (x : (Int × Int × Int × Int × Int) ⊕ ((Int × Int × Int × Int × Int) ⊕ ((Int × Int × Int × Int × Int) ⊕ (Int × Int × Int × Int × Int)))) : St := Sum.elim (fun (x : Int × Int × Int × Int × Int) => ⟨mkS 69 [(2, (.own 0 0)), (3, (.own 1 0)), (5, (.own 2 0)), (6, (.val (.int .i64 x.2.2.2.2))), (7, (.own 3 0)), (36, (.val (.agg [(.bool (decide (m < 0))), (N m.natAbs), (.int .i64 ee), (.bool (decide (q < 0))), (N q.natAbs), (.int .i64 h), (.bool (decide (n < 0))), (N n.natAbs), (.int .i64 f), (.bool (decide (p < 0))), (N p.natAbs), (.int .i64 g), (.bool (decide (n < 0))), (N n.natAbs), (.int .i64 f), (.bool (decide (q < 0))), (N q.natAbs), (.int .i64 h)]))), (37, (.val (.int .i64 0)))], [⟨true, false, [(V.bool false), V.nil, (V.int .i64 0)]⟩, ⟨true, false, [(V.bool false), V.nil, (V.int .i64 0)]⟩, ⟨true, false, [(V.bool (decide (x.1 < 0))), (N x.1.natAbs), (V.int .i64 x.2.1)]⟩, ⟨true, false, [(V.bool (decide (x.2.2.1 < 0))), (N x.2.2.1.natAbs), (V.int .i64 x.2.2.2.1)]⟩]⟩) (fun (x : (Int × Int × Int × Int × Int) ⊕ ((Int × Int × Int × Int × Int) ⊕ (Int × Int × Int × Int × Int))) => Sum.elim (fun (x : Int × Int × Int × Int × Int) => ⟨mkS 69 [(2, (.own 0 0)), (3, (.own 1 0)), (5, (.own 2 0)), (6, (.val (.int .i64 x.2.2.2.2))), (7, (.own 3 0)), (36, (.val (.agg [(.bool (decide (m < 0))), (N m.natAbs), (.int .i64 ee), (.bool (decide (q < 0))), (N q.natAbs), (.int .i64 h), (.bool (decide (n < 0))), (N n.natAbs), (.int .i64 f), (.bool (decide (p < 0))), (N p.natAbs), (.int .i64 g), (.bool (decide (n < 0))), (N n.natAbs), (.int .i64 f), (.bool (decide (q < 0))), (N q.natAbs), (.int .i64 h)]))), (37, (.val (.int .i64 1)))], [⟨true, false, [(V.bool false), V.nil, (V.int .i64 0)]⟩, ⟨true, false, [(V.bool false), V.nil, (V.int .i64 0)]⟩, ⟨true, false, [(V.bool (decide (x.1 < 0))), (N x.1.natAbs), (V.int .i64 x.2.1)]⟩, ⟨true, false, [(V.bool (decide (x.2.2.1 < 0))), (N x.2.2.1.natAbs), (V.int .i64 x.2.2.2.1)]⟩]⟩) (fun (x : (Int × Int × Int × Int × Int) ⊕ (Int × Int × Int × Int × Int)) => Sum.elim (fun (x : Int × Int × Int × Int × Int) => ⟨mkS 69 [(2, (.own 0 0)), (3, (.own 1 0)), (5, (.own 2 0)), (6, (.val (.int .i64 x.2.2.2.2))), (7, (.own 3 0)), (36, (.val (.agg [(.bool (decide (m < 0))), (N m.natAbs), (.int .i64 ee), (.bool (decide (q < 0))), (N q.natAbs), (.int .i64 h), (.bool (decide (n < 0))), (N n.natAbs), (.int .i64 f), (.bool (decide (p < 0))), (N p.natAbs), (.int .i64 g), (.bool (decide (n < 0))), (N n.natAbs), (.int .i64 f), (.bool (decide (q < 0))), (N q.natAbs), (.int .i64 h)]))), (37, (.val (.int .i64 2)))], [⟨true, false, [(V.bool false), V.nil, (V.int .i64 0)]⟩, ⟨true, false, [(V.bool false), V.nil, (V.int .i64 0)]⟩, ⟨true, false, [(V.bool (decide (x.1 < 0))), (N x.1.natAbs), (V.int .i64 x.2.1)]⟩, ⟨true, false, [(V.bool (decide (x.2.2.1 < 0))), (N x.2.2.1.natAbs), (V.int .i64 x.2.2.2.1)]⟩]⟩) (fun (x : Int × Int × Int × Int × Int) => ⟨mkS 69 [(2, (.own 0 0)), (3, (.own 1 0)), (5, (.own 2 0)), (6, (.val (.int .i64 x.2.2.2.2))), (7, (.own 3 0)), (36, (.val (.agg [(.bool (decide (m < 0))), (N m.natAbs), (.int .i64 ee), (.bool (decide (q < 0))), (N q.natAbs), (.int .i64 h), (.bool (decide (n < 0))), (N n.natAbs), (.int .i64 f), (.bool (decide (p < 0))), (N p.natAbs), (.int .i64 g), (.bool (decide (n < 0))), (N n.natAbs), (.int .i64 f), (.bool (decide (q < 0))), (N q.natAbs), (.int .i64 h)]))), (37, (.val (.int .i64 3)))], [⟨true, false, [(V.bool false), V.nil, (V.int .i64 0)]⟩, ⟨true, false, [(V.bool false), V.nil, (V.int .i64 0)]⟩, ⟨true, false, [(V.bool (decide (x.1 < 0))), (N x.1.natAbs), (V.int .i64 x.2.1)]⟩, ⟨true, false, [(V.bool (decide (x.2.2.1 < 0))), (N x.2.2.1.natAbs), (V.int .i64 x.2.2.2.1)]⟩]⟩) x) x) x
def ar_mul_I (m ee n f p g q h : Int) (x : (Int × Int × Int × Int × Int) ⊕ ((Int × Int × Int × Int × Int) ⊕ ((Int × Int × Int × Int × Int) ⊕ (Int × Int × Int × Int × Int)))) : Prop := Sum.elim (fun (x : Int × Int × Int × Int × Int) => (x.1 = (pdt m ee p g).1 ∧ x.2.1 = (pdt m ee p g).2) ∧ (x.2.2.1 = (pdt m ee p g).1 ∧ x.2.2.2.1 = (pdt m ee p g).2) ∧ x.2.2.2.2 = 0 ∧ SzP 1200 (x.1, x.2.1) ∧ SzP 1200 (x.2.2.1, x.2.2.2.1)) (fun (x : (Int × Int × Int × Int × Int) ⊕ ((Int × Int × Int × Int × Int) ⊕ (Int × Int × Int × Int × Int))) => Sum.elim (fun (x : Int × Int × Int × Int × Int) => (x.1 = (pmn (pdt m ee p g) (pdt m ee q h)).1 ∧ x.2.1 = (pmn (pdt m ee p g) (pdt m ee q h)).2) ∧ (x.2.2.1 = (pmx (pdt m ee p g) (pdt m ee q h)).1 ∧ x.2.2.2.1 = (pmx (pdt m ee p g) (pdt m ee q h)).2) ∧ x.2.2.2.2 = 0 ∧ SzP 1200 (x.1, x.2.1) ∧ SzP 1200 (x.2.2.1, x.2.2.2.1)) (fun (x : (Int × Int × Int × Int × Int) ⊕ (Int × Int × Int × Int × Int)) => Sum.elim (fun (x : Int × Int × Int × Int × Int) => (x.1 = (pmn (pmn (pdt m ee p g) (pdt m ee q h)) (pdt n f p g)).1 ∧ x.2.1 = (pmn (pmn (pdt m ee p g) (pdt m ee q h)) (pdt n f p g)).2) ∧ (x.2.2.1 = (pmx (pmx (pdt m ee p g) (pdt m ee q h)) (pdt n f p g)).1 ∧ x.2.2.2.1 = (pmx (pmx (pdt m ee p g) (pdt m ee q h)) (pdt n f p g)).2) ∧ x.2.2.2.2 = 0 ∧ SzP 1200 (x.1, x.2.1) ∧ SzP 1200 (x.2.2.1, x.2.2.2.1)) (fun (x : Int × Int × Int × Int × Int) => (x.1 = (pmn (pmn (pmn (pdt m ee p g) (pdt m ee q h)) (pdt n f p g)) (pdt n f q h)).1 ∧ x.2.1 = (pmn (pmn (pmn (pdt m ee p g) (pdt m ee q h)) (pdt n f p g)) (pdt n f q h)).2) ∧ (x.2.2.1 = (pmx (pmx (pmx (pdt m ee p g) (pdt m ee q h)) (pdt n f p g)) (pdt n f q h)).1 ∧ x.2.2.2.1 = (pmx (pmx (pmx (pdt m ee p g) (pdt m ee q h)) (pdt n f p g)) (pdt n f q h)).2) ∧ x.2.2.2.2 = 0 ∧ SzP 1200 (x.1, x.2.1) ∧ SzP 1200 (x.2.2.1, x.2.2.2.1)) x) x) x
def ar_mul_mu (_ _ _ _ _ _ _ _ : Int) (x : (Int × Int × Int × Int × Int) ⊕ ((Int × Int × Int × Int × Int) ⊕ ((Int × Int × Int × Int × Int) ⊕ (Int × Int × Int × Int × Int)))) : Nat := Sum.elim (fun (x : Int × Int × Int × Int × Int) => 9 - 0) (fun (x : (Int × Int × Int × Int × Int) ⊕ ((Int × Int × Int × Int × Int) ⊕ (Int × Int × Int × Int × Int))) => Sum.elim (fun (x : Int × Int × Int × Int × Int) => 9 - 1) (fun (x : (Int × Int × Int × Int × Int) ⊕ (Int × Int × Int × Int × Int)) => Sum.elim (fun (x : Int × Int × Int × Int × Int) => 9 - 2) (fun (x : Int × Int × Int × Int × Int) => 9 - 3) x) x) x
def ar_mul_ex (_ _ _ _ _ _ _ _ : Int) (y : Int × Int × Int × Int × Int) : Ex × St := (.exit 0, ⟨mkS 69 [(2, (.own 0 0)), (3, (.own 1 0)), (5, (.own 2 0)), (6, (.val (.int .i64 y.2.2.2.2))), (7, (.own 3 0))], [⟨true, false, [(V.bool false), V.nil, (V.int .i64 0)]⟩, ⟨true, false, [(V.bool false), V.nil, (V.int .i64 0)]⟩, ⟨true, false, [(V.bool (decide (y.1 < 0))), (N y.1.natAbs), (V.int .i64 y.2.1)]⟩, ⟨true, false, [(V.bool (decide (y.2.2.1 < 0))), (N y.2.2.1.natAbs), (V.int .i64 y.2.2.2.1)]⟩]⟩)
def ar_mul_J (m ee n f p g q h : Int) (y : Int × Int × Int × Int × Int) : Prop := (y.1 = (pmn (pmn (pmn (pdt m ee p g) (pdt m ee q h)) (pdt n f p g)) (pdt n f q h)).1 ∧ y.2.1 = (pmn (pmn (pmn (pdt m ee p g) (pdt m ee q h)) (pdt n f p g)) (pdt n f q h)).2) ∧ (y.2.2.1 = (pmx (pmx (pmx (pdt m ee p g) (pdt m ee q h)) (pdt n f p g)) (pdt n f q h)).1 ∧ y.2.2.2.1 = (pmx (pmx (pmx (pdt m ee p g) (pdt m ee q h)) (pdt n f p g)) (pdt n f q h)).2) ∧ y.2.2.2.2 = 0 ∧ SzP 1200 (y.1, y.2.1) ∧ SzP 1200 (y.2.2.1, y.2.2.2.1)
abbrev ar_mul_N (m ee n f p g q h : Int) := NX (ar_mul_mk m ee n f p g q h) (ar_mul_I m ee n f p g q h) (ar_mul_mu m ee n f p g q h) (ar_mul_ex m ee n f p g q h) (ar_mul_J m ee n f p g q h)
theorem ar_mul (m ee n f p g q h : Int) (c0 : L (m).natAbs ≤ 600)(c1 : (-20000 : Int) ≤ ee ∧ ee ≤ 20000)(c2 : L (n).natAbs ≤ 600)(c3 : (-20000 : Int) ≤ f ∧ f ≤ 20000)(c4 : L (p).natAbs ≤ 600)(c5 : (-20000 : Int) ≤ g ∧ g ≤ 20000)(c6 : L (q).natAbs ≤ 600)(c7 : (-20000 : Int) ≤ h ∧ h ≤ 20000)(c8 : mkE (m * p) (ee + g) = 0)(c9 : mkE (m * q) (ee + h) = 0)(c10 : mkE (n * p) (f + g) = 0)(c11 : mkE (n * q) (f + h) = 0) (x0 : (Int × Int × Int × Int × Int) ⊕ ((Int × Int × Int × Int × Int) ⊕ ((Int × Int × Int × Int × Int) ⊕ (Int × Int × Int × Int × Int)))) (hI : ar_mul_I m ee n f p g q h x0) : LoopOk Tryz.prog Amb (loopN Tryz.f116 0) (ar_mul_mk m ee n f p g q h x0) (fun e st_ => ∃ y, ar_mul_J m ee n f p g q h y ∧ ar_mul_ex m ee n f p g q h y = (e, st_)) :=
  loop_ob hP hAmb ⟨[2, 3, 5, 6, 7, 36, 37], 4, []⟩ (ar_mul_mk m ee n f p g q h) (ar_mul_I m ee n f p g q h) (ar_mul_mu m ee n f p g q h) (ar_mul_ex m ee n f p g q h) (ar_mul_J m ee n f p g q h) x0 hI (Sum.elim (fun (M, X, N_, F, er) => .lits 9 <| .call (exT (m * q) (ee + h)) <| .lits 5 <| .call (.int .i64 (cmpD (mkM (m * q) (ee + h)) (mkX (m * q) (ee + h)) M X)) <| .lit <| .both (.lits 5 <| .call (.int .i64 (cmpD (mkM (m * q) (ee + h)) (mkX (m * q) (ee + h)) N_ F)) <| .lit <| .both (.lits 3 <| .yes <| .fin3 ⟨[2, 3, 5, 6, 7, 36, 37], [0, 1, 2, 3]⟩) (.lit <| .yes <| .fin3 ⟨[2, 3, 5, 6, 7, 36, 37], [0, 1, 2, 3]⟩)) (.lits 3 <| .call (.int .i64 (cmpD (mkM (m * q) (ee + h)) (mkX (m * q) (ee + h)) N_ F)) <| .lit <| .both (.lits 3 <| .yes <| .fin3 ⟨[2, 3, 5, 6, 7, 36, 37], [0, 1, 2, 3]⟩) (.lit <| .yes <| .fin3 ⟨[2, 3, 5, 6, 7, 36, 37], [0, 1, 2, 3]⟩))) (Sum.elim (fun (M, X, N_, F, er) => .lits 9 <| .call (exT (n * p) (f + g)) <| .lits 5 <| .call (.int .i64 (cmpD (mkM (n * p) (f + g)) (mkX (n * p) (f + g)) M X)) <| .lit <| .both (.lits 5 <| .call (.int .i64 (cmpD (mkM (n * p) (f + g)) (mkX (n * p) (f + g)) N_ F)) <| .lit <| .both (.lits 3 <| .yes <| .fin3 ⟨[2, 3, 5, 6, 7, 36, 37], [0, 1, 2, 3]⟩) (.lit <| .yes <| .fin3 ⟨[2, 3, 5, 6, 7, 36, 37], [0, 1, 2, 3]⟩)) (.lits 3 <| .call (.int .i64 (cmpD (mkM (n * p) (f + g)) (mkX (n * p) (f + g)) N_ F)) <| .lit <| .both (.lits 3 <| .yes <| .fin3 ⟨[2, 3, 5, 6, 7, 36, 37], [0, 1, 2, 3]⟩) (.lit <| .yes <| .fin3 ⟨[2, 3, 5, 6, 7, 36, 37], [0, 1, 2, 3]⟩))) (Sum.elim (fun (M, X, N_, F, er) => .lits 9 <| .call (exT (n * q) (f + h)) <| .lits 5 <| .call (.int .i64 (cmpD (mkM (n * q) (f + h)) (mkX (n * q) (f + h)) M X)) <| .lit <| .both (.lits 5 <| .call (.int .i64 (cmpD (mkM (n * q) (f + h)) (mkX (n * q) (f + h)) N_ F)) <| .lit <| .both (.lits 3 <| .yes <| .fin3 ⟨[2, 3, 5, 6, 7, 36, 37], [0, 1, 2, 3]⟩) (.lit <| .yes <| .fin3 ⟨[2, 3, 5, 6, 7, 36, 37], [0, 1, 2, 3]⟩)) (.lits 3 <| .call (.int .i64 (cmpD (mkM (n * q) (f + h)) (mkX (n * q) (f + h)) N_ F)) <| .lit <| .both (.lits 3 <| .yes <| .fin3 ⟨[2, 3, 5, 6, 7, 36, 37], [0, 1, 2, 3]⟩) (.lit <| .yes <| .fin3 ⟨[2, 3, 5, 6, 7, 36, 37], [0, 1, 2, 3]⟩))) (fun (M, X, N_, F, er) => .lits 2 <| .fin2 ⟨[2, 3, 5, 6, 7], 4, []⟩)))) (by
    rintro (⟨M, X, N_, F, er⟩ | ⟨M, X, N_, F, er⟩ | ⟨M, X, N_, F, er⟩ | ⟨M, X, N_, F, er⟩) hI
    · skip
      have hI : (M = (pdt m ee p g).1 ∧ X = (pdt m ee p g).2) ∧ (N_ = (pdt m ee p g).1 ∧ F = (pdt m ee p g).2) ∧ er = 0 ∧ SzP 1200 (M, X) ∧ SzP 1200 (N_, F) := hI
      obtain ⟨⟨hM, hX⟩, ⟨hN, hF⟩, h0, s1, s2⟩ := hI
      have ⟨s3, s4, s5⟩ := s1
      have ⟨s6, s7, s8⟩ := s2
      have s9 := SzP_mk s1
      simp only at s3 s4 s5 s6 s7 s8
      exact cast_ob (aI True.intro (aI (dy_Mul m ee q h oO oO oO oO) (have f112 := ex_range (m * q) (ee + h); have f111 := mk_facts (m * q) (ee + h); have f110 := L_abs_mul m q; aI (dy_Cmp (mkM (m * q) (ee + h)) (mkX (m * q) (ee + h)) M X oO oO oO oO) (have f109 := cmpD_range (mkM (m * q) (ee + h)) (mkX (m * q) (ee + h)) M X; aI (fun (h101 : (iLt (cmpD (mkM (m * q) (ee + h)) (mkX (m * q) (ee + h)) M X) 0) = true) => have _gh101 := iLt_t h101; aI (dy_Cmp (mkM (m * q) (ee + h)) (mkX (m * q) (ee + h)) N_ F oO oO oO oO) (have f104 := cmpD_range (mkM (m * q) (ee + h)) (mkX (m * q) (ee + h)) N_ F; aI (fun (h102 : (iGt (cmpD (mkM (m * q) (ee + h)) (mkX (m * q) (ee + h)) N_ F) 0) = true) => have _gh102 := iGt_t h102; aI tT (aI tT ((nx_next (Sum.inr (Sum.inl ((mkM (m * q) (ee + h)), (mkX (m * q) (ee + h)), (mkM (m * q) (ee + h)), (mkX (m * q) (ee + h)), (iMax er (exE (m * q) (ee + h)))))) (show ((mkM (m * q) (ee + h)) = (pmn (pdt m ee p g) (pdt m ee q h)).1 ∧ (mkX (m * q) (ee + h)) = (pmn (pdt m ee p g) (pdt m ee q h)).2) ∧ ((mkM (m * q) (ee + h)) = (pmx (pdt m ee p g) (pdt m ee q h)).1 ∧ (mkX (m * q) (ee + h)) = (pmx (pdt m ee p g) (pdt m ee q h)).2) ∧ (iMax er (exE (m * q) (ee + h))) = 0 ∧ SzP 1200 ((mkM (m * q) (ee + h)), (mkX (m * q) (ee + h))) ∧ SzP 1200 ((mkM (m * q) (ee + h)), (mkX (m * q) (ee + h))) from ⟨mn_yes hM hX (b := (pdt m ee q h)) (show cmpD (mkM (m * q) (ee + h)) (mkX (m * q) (ee + h)) M X < 0 by omega), mx_yes hN hF (b := (pdt m ee q h)) (show 0 < cmpD (mkM (m * q) (ee + h)) (mkX (m * q) (ee + h)) N_ F by omega), by unfold iMax; split <;> omega, (pdt_sz (m := m) (e := ee) (n := q) (f := h) (k := 1200) oO), (pdt_sz (m := m) (e := ee) (n := q) (f := h) (k := 1200) oO)⟩) (show 9 - 1 < 9 - 0 by omega) : ar_mul_N m ee n f p g q h (Sum.inl (M, X, N_, F, er)) .normal (ar_mul_mk m ee n f p g q h (Sum.inr (Sum.inl ((mkM (m * q) (ee + h)), (mkX (m * q) (ee + h)), (mkM (m * q) (ee + h)), (mkX (m * q) (ee + h)), (iMax er (exE (m * q) (ee + h))))))))))) (fun (h103 : (iGt (cmpD (mkM (m * q) (ee + h)) (mkX (m * q) (ee + h)) N_ F) 0) = false) => have _gh103 := iGt_f h103; aI tT (aI tT ((nx_next (Sum.inr (Sum.inl ((mkM (m * q) (ee + h)), (mkX (m * q) (ee + h)), N_, F, (iMax er (exE (m * q) (ee + h)))))) (show ((mkM (m * q) (ee + h)) = (pmn (pdt m ee p g) (pdt m ee q h)).1 ∧ (mkX (m * q) (ee + h)) = (pmn (pdt m ee p g) (pdt m ee q h)).2) ∧ (N_ = (pmx (pdt m ee p g) (pdt m ee q h)).1 ∧ F = (pmx (pdt m ee p g) (pdt m ee q h)).2) ∧ (iMax er (exE (m * q) (ee + h))) = 0 ∧ SzP 1200 ((mkM (m * q) (ee + h)), (mkX (m * q) (ee + h))) ∧ SzP 1200 (N_, F) from ⟨mn_yes hM hX (b := (pdt m ee q h)) (show cmpD (mkM (m * q) (ee + h)) (mkX (m * q) (ee + h)) M X < 0 by omega), mx_no hN hF (b := (pdt m ee q h)) (show cmpD (mkM (m * q) (ee + h)) (mkX (m * q) (ee + h)) N_ F ≤ 0 by omega), by unfold iMax; split <;> omega, (pdt_sz (m := m) (e := ee) (n := q) (f := h) (k := 1200) oO), s2⟩) (show 9 - 1 < 9 - 0 by omega) : ar_mul_N m ee n f p g q h (Sum.inl (M, X, N_, F, er)) .normal (ar_mul_mk m ee n f p g q h (Sum.inr (Sum.inl ((mkM (m * q) (ee + h)), (mkX (m * q) (ee + h)), N_, F, (iMax er (exE (m * q) (ee + h))))))))))))) (fun (h105 : (iLt (cmpD (mkM (m * q) (ee + h)) (mkX (m * q) (ee + h)) M X) 0) = false) => have _gh105 := iLt_f h105; aI (dy_Cmp (mkM (m * q) (ee + h)) (mkX (m * q) (ee + h)) N_ F oO oO oO oO) (have f108 := cmpD_range (mkM (m * q) (ee + h)) (mkX (m * q) (ee + h)) N_ F; aI (fun (h106 : (iGt (cmpD (mkM (m * q) (ee + h)) (mkX (m * q) (ee + h)) N_ F) 0) = true) => have _gh106 := iGt_t h106; aI tT (aI tT ((nx_next (Sum.inr (Sum.inl (M, X, (mkM (m * q) (ee + h)), (mkX (m * q) (ee + h)), (iMax er (exE (m * q) (ee + h)))))) (show (M = (pmn (pdt m ee p g) (pdt m ee q h)).1 ∧ X = (pmn (pdt m ee p g) (pdt m ee q h)).2) ∧ ((mkM (m * q) (ee + h)) = (pmx (pdt m ee p g) (pdt m ee q h)).1 ∧ (mkX (m * q) (ee + h)) = (pmx (pdt m ee p g) (pdt m ee q h)).2) ∧ (iMax er (exE (m * q) (ee + h))) = 0 ∧ SzP 1200 (M, X) ∧ SzP 1200 ((mkM (m * q) (ee + h)), (mkX (m * q) (ee + h))) from ⟨mn_no hM hX (b := (pdt m ee q h)) (show 0 ≤ cmpD (mkM (m * q) (ee + h)) (mkX (m * q) (ee + h)) M X by omega), mx_yes hN hF (b := (pdt m ee q h)) (show 0 < cmpD (mkM (m * q) (ee + h)) (mkX (m * q) (ee + h)) N_ F by omega), by unfold iMax; split <;> omega, s1, (pdt_sz (m := m) (e := ee) (n := q) (f := h) (k := 1200) oO)⟩) (show 9 - 1 < 9 - 0 by omega) : ar_mul_N m ee n f p g q h (Sum.inl (M, X, N_, F, er)) .normal (ar_mul_mk m ee n f p g q h (Sum.inr (Sum.inl (M, X, (mkM (m * q) (ee + h)), (mkX (m * q) (ee + h)), (iMax er (exE (m * q) (ee + h))))))))))) (fun (h107 : (iGt (cmpD (mkM (m * q) (ee + h)) (mkX (m * q) (ee + h)) N_ F) 0) = false) => have _gh107 := iGt_f h107; aI tT (aI tT ((nx_next (Sum.inr (Sum.inl (M, X, N_, F, (iMax er (exE (m * q) (ee + h)))))) (show (M = (pmn (pdt m ee p g) (pdt m ee q h)).1 ∧ X = (pmn (pdt m ee p g) (pdt m ee q h)).2) ∧ (N_ = (pmx (pdt m ee p g) (pdt m ee q h)).1 ∧ F = (pmx (pdt m ee p g) (pdt m ee q h)).2) ∧ (iMax er (exE (m * q) (ee + h))) = 0 ∧ SzP 1200 (M, X) ∧ SzP 1200 (N_, F) from ⟨mn_no hM hX (b := (pdt m ee q h)) (show 0 ≤ cmpD (mkM (m * q) (ee + h)) (mkX (m * q) (ee + h)) M X by omega), mx_no hN hF (b := (pdt m ee q h)) (show cmpD (mkM (m * q) (ee + h)) (mkX (m * q) (ee + h)) N_ F ≤ 0 by omega), by unfold iMax; split <;> omega, s1, s2⟩) (show 9 - 1 < 9 - 0 by omega) : ar_mul_N m ee n f p g q h (Sum.inl (M, X, N_, F, er)) .normal (ar_mul_mk m ee n f p g q h (Sum.inr (Sum.inl (M, X, N_, F, (iMax er (exE (m * q) (ee + h))))))))))))))))) (by kernel_rfl)
    · skip
      have hI : (M = (pmn (pdt m ee p g) (pdt m ee q h)).1 ∧ X = (pmn (pdt m ee p g) (pdt m ee q h)).2) ∧ (N_ = (pmx (pdt m ee p g) (pdt m ee q h)).1 ∧ F = (pmx (pdt m ee p g) (pdt m ee q h)).2) ∧ er = 0 ∧ SzP 1200 (M, X) ∧ SzP 1200 (N_, F) := hI
      obtain ⟨⟨hM, hX⟩, ⟨hN, hF⟩, h0, s1, s2⟩ := hI
      have ⟨s3, s4, s5⟩ := s1
      have ⟨s6, s7, s8⟩ := s2
      have s9 := SzP_mk s1
      simp only at s3 s4 s5 s6 s7 s8
      exact cast_ob (aI True.intro (aI (dy_Mul n f p g oO oO oO oO) (have f112 := ex_range (n * p) (f + g); have f111 := mk_facts (n * p) (f + g); have f110 := L_abs_mul n p; aI (dy_Cmp (mkM (n * p) (f + g)) (mkX (n * p) (f + g)) M X oO oO oO oO) (have f109 := cmpD_range (mkM (n * p) (f + g)) (mkX (n * p) (f + g)) M X; aI (fun (h101 : (iLt (cmpD (mkM (n * p) (f + g)) (mkX (n * p) (f + g)) M X) 0) = true) => have _gh101 := iLt_t h101; aI (dy_Cmp (mkM (n * p) (f + g)) (mkX (n * p) (f + g)) N_ F oO oO oO oO) (have f104 := cmpD_range (mkM (n * p) (f + g)) (mkX (n * p) (f + g)) N_ F; aI (fun (h102 : (iGt (cmpD (mkM (n * p) (f + g)) (mkX (n * p) (f + g)) N_ F) 0) = true) => have _gh102 := iGt_t h102; aI tT (aI tT ((nx_next (Sum.inr (Sum.inr (Sum.inl ((mkM (n * p) (f + g)), (mkX (n * p) (f + g)), (mkM (n * p) (f + g)), (mkX (n * p) (f + g)), (iMax er (exE (n * p) (f + g))))))) (show ((mkM (n * p) (f + g)) = (pmn (pmn (pdt m ee p g) (pdt m ee q h)) (pdt n f p g)).1 ∧ (mkX (n * p) (f + g)) = (pmn (pmn (pdt m ee p g) (pdt m ee q h)) (pdt n f p g)).2) ∧ ((mkM (n * p) (f + g)) = (pmx (pmx (pdt m ee p g) (pdt m ee q h)) (pdt n f p g)).1 ∧ (mkX (n * p) (f + g)) = (pmx (pmx (pdt m ee p g) (pdt m ee q h)) (pdt n f p g)).2) ∧ (iMax er (exE (n * p) (f + g))) = 0 ∧ SzP 1200 ((mkM (n * p) (f + g)), (mkX (n * p) (f + g))) ∧ SzP 1200 ((mkM (n * p) (f + g)), (mkX (n * p) (f + g))) from ⟨mn_yes hM hX (b := (pdt n f p g)) (show cmpD (mkM (n * p) (f + g)) (mkX (n * p) (f + g)) M X < 0 by omega), mx_yes hN hF (b := (pdt n f p g)) (show 0 < cmpD (mkM (n * p) (f + g)) (mkX (n * p) (f + g)) N_ F by omega), by unfold iMax; split <;> omega, (pdt_sz (m := n) (e := f) (n := p) (f := g) (k := 1200) oO), (pdt_sz (m := n) (e := f) (n := p) (f := g) (k := 1200) oO)⟩) (show 9 - 2 < 9 - 1 by omega) : ar_mul_N m ee n f p g q h (Sum.inr (Sum.inl (M, X, N_, F, er))) .normal (ar_mul_mk m ee n f p g q h (Sum.inr (Sum.inr (Sum.inl ((mkM (n * p) (f + g)), (mkX (n * p) (f + g)), (mkM (n * p) (f + g)), (mkX (n * p) (f + g)), (iMax er (exE (n * p) (f + g)))))))))))) (fun (h103 : (iGt (cmpD (mkM (n * p) (f + g)) (mkX (n * p) (f + g)) N_ F) 0) = false) => have _gh103 := iGt_f h103; aI tT (aI tT ((nx_next (Sum.inr (Sum.inr (Sum.inl ((mkM (n * p) (f + g)), (mkX (n * p) (f + g)), N_, F, (iMax er (exE (n * p) (f + g))))))) (show ((mkM (n * p) (f + g)) = (pmn (pmn (pdt m ee p g) (pdt m ee q h)) (pdt n f p g)).1 ∧ (mkX (n * p) (f + g)) = (pmn (pmn (pdt m ee p g) (pdt m ee q h)) (pdt n f p g)).2) ∧ (N_ = (pmx (pmx (pdt m ee p g) (pdt m ee q h)) (pdt n f p g)).1 ∧ F = (pmx (pmx (pdt m ee p g) (pdt m ee q h)) (pdt n f p g)).2) ∧ (iMax er (exE (n * p) (f + g))) = 0 ∧ SzP 1200 ((mkM (n * p) (f + g)), (mkX (n * p) (f + g))) ∧ SzP 1200 (N_, F) from ⟨mn_yes hM hX (b := (pdt n f p g)) (show cmpD (mkM (n * p) (f + g)) (mkX (n * p) (f + g)) M X < 0 by omega), mx_no hN hF (b := (pdt n f p g)) (show cmpD (mkM (n * p) (f + g)) (mkX (n * p) (f + g)) N_ F ≤ 0 by omega), by unfold iMax; split <;> omega, (pdt_sz (m := n) (e := f) (n := p) (f := g) (k := 1200) oO), s2⟩) (show 9 - 2 < 9 - 1 by omega) : ar_mul_N m ee n f p g q h (Sum.inr (Sum.inl (M, X, N_, F, er))) .normal (ar_mul_mk m ee n f p g q h (Sum.inr (Sum.inr (Sum.inl ((mkM (n * p) (f + g)), (mkX (n * p) (f + g)), N_, F, (iMax er (exE (n * p) (f + g)))))))))))))) (fun (h105 : (iLt (cmpD (mkM (n * p) (f + g)) (mkX (n * p) (f + g)) M X) 0) = false) => have _gh105 := iLt_f h105; aI (dy_Cmp (mkM (n * p) (f + g)) (mkX (n * p) (f + g)) N_ F oO oO oO oO) (have f108 := cmpD_range (mkM (n * p) (f + g)) (mkX (n * p) (f + g)) N_ F; aI (fun (h106 : (iGt (cmpD (mkM (n * p) (f + g)) (mkX (n * p) (f + g)) N_ F) 0) = true) => have _gh106 := iGt_t h106; aI tT (aI tT ((nx_next (Sum.inr (Sum.inr (Sum.inl (M, X, (mkM (n * p) (f + g)), (mkX (n * p) (f + g)), (iMax er (exE (n * p) (f + g))))))) (show (M = (pmn (pmn (pdt m ee p g) (pdt m ee q h)) (pdt n f p g)).1 ∧ X = (pmn (pmn (pdt m ee p g) (pdt m ee q h)) (pdt n f p g)).2) ∧ ((mkM (n * p) (f + g)) = (pmx (pmx (pdt m ee p g) (pdt m ee q h)) (pdt n f p g)).1 ∧ (mkX (n * p) (f + g)) = (pmx (pmx (pdt m ee p g) (pdt m ee q h)) (pdt n f p g)).2) ∧ (iMax er (exE (n * p) (f + g))) = 0 ∧ SzP 1200 (M, X) ∧ SzP 1200 ((mkM (n * p) (f + g)), (mkX (n * p) (f + g))) from ⟨mn_no hM hX (b := (pdt n f p g)) (show 0 ≤ cmpD (mkM (n * p) (f + g)) (mkX (n * p) (f + g)) M X by omega), mx_yes hN hF (b := (pdt n f p g)) (show 0 < cmpD (mkM (n * p) (f + g)) (mkX (n * p) (f + g)) N_ F by omega), by unfold iMax; split <;> omega, s1, (pdt_sz (m := n) (e := f) (n := p) (f := g) (k := 1200) oO)⟩) (show 9 - 2 < 9 - 1 by omega) : ar_mul_N m ee n f p g q h (Sum.inr (Sum.inl (M, X, N_, F, er))) .normal (ar_mul_mk m ee n f p g q h (Sum.inr (Sum.inr (Sum.inl (M, X, (mkM (n * p) (f + g)), (mkX (n * p) (f + g)), (iMax er (exE (n * p) (f + g)))))))))))) (fun (h107 : (iGt (cmpD (mkM (n * p) (f + g)) (mkX (n * p) (f + g)) N_ F) 0) = false) => have _gh107 := iGt_f h107; aI tT (aI tT ((nx_next (Sum.inr (Sum.inr (Sum.inl (M, X, N_, F, (iMax er (exE (n * p) (f + g))))))) (show (M = (pmn (pmn (pdt m ee p g) (pdt m ee q h)) (pdt n f p g)).1 ∧ X = (pmn (pmn (pdt m ee p g) (pdt m ee q h)) (pdt n f p g)).2) ∧ (N_ = (pmx (pmx (pdt m ee p g) (pdt m ee q h)) (pdt n f p g)).1 ∧ F = (pmx (pmx (pdt m ee p g) (pdt m ee q h)) (pdt n f p g)).2) ∧ (iMax er (exE (n * p) (f + g))) = 0 ∧ SzP 1200 (M, X) ∧ SzP 1200 (N_, F) from ⟨mn_no hM hX (b := (pdt n f p g)) (show 0 ≤ cmpD (mkM (n * p) (f + g)) (mkX (n * p) (f + g)) M X by omega), mx_no hN hF (b := (pdt n f p g)) (show cmpD (mkM (n * p) (f + g)) (mkX (n * p) (f + g)) N_ F ≤ 0 by omega), by unfold iMax; split <;> omega, s1, s2⟩) (show 9 - 2 < 9 - 1 by omega) : ar_mul_N m ee n f p g q h (Sum.inr (Sum.inl (M, X, N_, F, er))) .normal (ar_mul_mk m ee n f p g q h (Sum.inr (Sum.inr (Sum.inl (M, X, N_, F, (iMax er (exE (n * p) (f + g)))))))))))))))))) (by kernel_rfl)
    · skip
      have hI : (M = (pmn (pmn (pdt m ee p g) (pdt m ee q h)) (pdt n f p g)).1 ∧ X = (pmn (pmn (pdt m ee p g) (pdt m ee q h)) (pdt n f p g)).2) ∧ (N_ = (pmx (pmx (pdt m ee p g) (pdt m ee q h)) (pdt n f p g)).1 ∧ F = (pmx (pmx (pdt m ee p g) (pdt m ee q h)) (pdt n f p g)).2) ∧ er = 0 ∧ SzP 1200 (M, X) ∧ SzP 1200 (N_, F) := hI
      obtain ⟨⟨hM, hX⟩, ⟨hN, hF⟩, h0, s1, s2⟩ := hI
      have ⟨s3, s4, s5⟩ := s1
      have ⟨s6, s7, s8⟩ := s2
      have s9 := SzP_mk s1
      simp only at s3 s4 s5 s6 s7 s8
      exact cast_ob (aI True.intro (aI (dy_Mul n f q h oO oO oO oO) (have f112 := ex_range (n * q) (f + h); have f111 := mk_facts (n * q) (f + h); have f110 := L_abs_mul n q; aI (dy_Cmp (mkM (n * q) (f + h)) (mkX (n * q) (f + h)) M X oO oO oO oO) (have f109 := cmpD_range (mkM (n * q) (f + h)) (mkX (n * q) (f + h)) M X; aI (fun (h101 : (iLt (cmpD (mkM (n * q) (f + h)) (mkX (n * q) (f + h)) M X) 0) = true) => have _gh101 := iLt_t h101; aI (dy_Cmp (mkM (n * q) (f + h)) (mkX (n * q) (f + h)) N_ F oO oO oO oO) (have f104 := cmpD_range (mkM (n * q) (f + h)) (mkX (n * q) (f + h)) N_ F; aI (fun (h102 : (iGt (cmpD (mkM (n * q) (f + h)) (mkX (n * q) (f + h)) N_ F) 0) = true) => have _gh102 := iGt_t h102; aI tT (aI tT ((nx_next (Sum.inr (Sum.inr (Sum.inr ((mkM (n * q) (f + h)), (mkX (n * q) (f + h)), (mkM (n * q) (f + h)), (mkX (n * q) (f + h)), (iMax er (exE (n * q) (f + h))))))) (show ((mkM (n * q) (f + h)) = (pmn (pmn (pmn (pdt m ee p g) (pdt m ee q h)) (pdt n f p g)) (pdt n f q h)).1 ∧ (mkX (n * q) (f + h)) = (pmn (pmn (pmn (pdt m ee p g) (pdt m ee q h)) (pdt n f p g)) (pdt n f q h)).2) ∧ ((mkM (n * q) (f + h)) = (pmx (pmx (pmx (pdt m ee p g) (pdt m ee q h)) (pdt n f p g)) (pdt n f q h)).1 ∧ (mkX (n * q) (f + h)) = (pmx (pmx (pmx (pdt m ee p g) (pdt m ee q h)) (pdt n f p g)) (pdt n f q h)).2) ∧ (iMax er (exE (n * q) (f + h))) = 0 ∧ SzP 1200 ((mkM (n * q) (f + h)), (mkX (n * q) (f + h))) ∧ SzP 1200 ((mkM (n * q) (f + h)), (mkX (n * q) (f + h))) from ⟨mn_yes hM hX (b := (pdt n f q h)) (show cmpD (mkM (n * q) (f + h)) (mkX (n * q) (f + h)) M X < 0 by omega), mx_yes hN hF (b := (pdt n f q h)) (show 0 < cmpD (mkM (n * q) (f + h)) (mkX (n * q) (f + h)) N_ F by omega), by unfold iMax; split <;> omega, (pdt_sz (m := n) (e := f) (n := q) (f := h) (k := 1200) oO), (pdt_sz (m := n) (e := f) (n := q) (f := h) (k := 1200) oO)⟩) (show 9 - 3 < 9 - 2 by omega) : ar_mul_N m ee n f p g q h (Sum.inr (Sum.inr (Sum.inl (M, X, N_, F, er)))) .normal (ar_mul_mk m ee n f p g q h (Sum.inr (Sum.inr (Sum.inr ((mkM (n * q) (f + h)), (mkX (n * q) (f + h)), (mkM (n * q) (f + h)), (mkX (n * q) (f + h)), (iMax er (exE (n * q) (f + h)))))))))))) (fun (h103 : (iGt (cmpD (mkM (n * q) (f + h)) (mkX (n * q) (f + h)) N_ F) 0) = false) => have _gh103 := iGt_f h103; aI tT (aI tT ((nx_next (Sum.inr (Sum.inr (Sum.inr ((mkM (n * q) (f + h)), (mkX (n * q) (f + h)), N_, F, (iMax er (exE (n * q) (f + h))))))) (show ((mkM (n * q) (f + h)) = (pmn (pmn (pmn (pdt m ee p g) (pdt m ee q h)) (pdt n f p g)) (pdt n f q h)).1 ∧ (mkX (n * q) (f + h)) = (pmn (pmn (pmn (pdt m ee p g) (pdt m ee q h)) (pdt n f p g)) (pdt n f q h)).2) ∧ (N_ = (pmx (pmx (pmx (pdt m ee p g) (pdt m ee q h)) (pdt n f p g)) (pdt n f q h)).1 ∧ F = (pmx (pmx (pmx (pdt m ee p g) (pdt m ee q h)) (pdt n f p g)) (pdt n f q h)).2) ∧ (iMax er (exE (n * q) (f + h))) = 0 ∧ SzP 1200 ((mkM (n * q) (f + h)), (mkX (n * q) (f + h))) ∧ SzP 1200 (N_, F) from ⟨mn_yes hM hX (b := (pdt n f q h)) (show cmpD (mkM (n * q) (f + h)) (mkX (n * q) (f + h)) M X < 0 by omega), mx_no hN hF (b := (pdt n f q h)) (show cmpD (mkM (n * q) (f + h)) (mkX (n * q) (f + h)) N_ F ≤ 0 by omega), by unfold iMax; split <;> omega, (pdt_sz (m := n) (e := f) (n := q) (f := h) (k := 1200) oO), s2⟩) (show 9 - 3 < 9 - 2 by omega) : ar_mul_N m ee n f p g q h (Sum.inr (Sum.inr (Sum.inl (M, X, N_, F, er)))) .normal (ar_mul_mk m ee n f p g q h (Sum.inr (Sum.inr (Sum.inr ((mkM (n * q) (f + h)), (mkX (n * q) (f + h)), N_, F, (iMax er (exE (n * q) (f + h)))))))))))))) (fun (h105 : (iLt (cmpD (mkM (n * q) (f + h)) (mkX (n * q) (f + h)) M X) 0) = false) => have _gh105 := iLt_f h105; aI (dy_Cmp (mkM (n * q) (f + h)) (mkX (n * q) (f + h)) N_ F oO oO oO oO) (have f108 := cmpD_range (mkM (n * q) (f + h)) (mkX (n * q) (f + h)) N_ F; aI (fun (h106 : (iGt (cmpD (mkM (n * q) (f + h)) (mkX (n * q) (f + h)) N_ F) 0) = true) => have _gh106 := iGt_t h106; aI tT (aI tT ((nx_next (Sum.inr (Sum.inr (Sum.inr (M, X, (mkM (n * q) (f + h)), (mkX (n * q) (f + h)), (iMax er (exE (n * q) (f + h))))))) (show (M = (pmn (pmn (pmn (pdt m ee p g) (pdt m ee q h)) (pdt n f p g)) (pdt n f q h)).1 ∧ X = (pmn (pmn (pmn (pdt m ee p g) (pdt m ee q h)) (pdt n f p g)) (pdt n f q h)).2) ∧ ((mkM (n * q) (f + h)) = (pmx (pmx (pmx (pdt m ee p g) (pdt m ee q h)) (pdt n f p g)) (pdt n f q h)).1 ∧ (mkX (n * q) (f + h)) = (pmx (pmx (pmx (pdt m ee p g) (pdt m ee q h)) (pdt n f p g)) (pdt n f q h)).2) ∧ (iMax er (exE (n * q) (f + h))) = 0 ∧ SzP 1200 (M, X) ∧ SzP 1200 ((mkM (n * q) (f + h)), (mkX (n * q) (f + h))) from ⟨mn_no hM hX (b := (pdt n f q h)) (show 0 ≤ cmpD (mkM (n * q) (f + h)) (mkX (n * q) (f + h)) M X by omega), mx_yes hN hF (b := (pdt n f q h)) (show 0 < cmpD (mkM (n * q) (f + h)) (mkX (n * q) (f + h)) N_ F by omega), by unfold iMax; split <;> omega, s1, (pdt_sz (m := n) (e := f) (n := q) (f := h) (k := 1200) oO)⟩) (show 9 - 3 < 9 - 2 by omega) : ar_mul_N m ee n f p g q h (Sum.inr (Sum.inr (Sum.inl (M, X, N_, F, er)))) .normal (ar_mul_mk m ee n f p g q h (Sum.inr (Sum.inr (Sum.inr (M, X, (mkM (n * q) (f + h)), (mkX (n * q) (f + h)), (iMax er (exE (n * q) (f + h)))))))))))) (fun (h107 : (iGt (cmpD (mkM (n * q) (f + h)) (mkX (n * q) (f + h)) N_ F) 0) = false) => have _gh107 := iGt_f h107; aI tT (aI tT ((nx_next (Sum.inr (Sum.inr (Sum.inr (M, X, N_, F, (iMax er (exE (n * q) (f + h))))))) (show (M = (pmn (pmn (pmn (pdt m ee p g) (pdt m ee q h)) (pdt n f p g)) (pdt n f q h)).1 ∧ X = (pmn (pmn (pmn (pdt m ee p g) (pdt m ee q h)) (pdt n f p g)) (pdt n f q h)).2) ∧ (N_ = (pmx (pmx (pmx (pdt m ee p g) (pdt m ee q h)) (pdt n f p g)) (pdt n f q h)).1 ∧ F = (pmx (pmx (pmx (pdt m ee p g) (pdt m ee q h)) (pdt n f p g)) (pdt n f q h)).2) ∧ (iMax er (exE (n * q) (f + h))) = 0 ∧ SzP 1200 (M, X) ∧ SzP 1200 (N_, F) from ⟨mn_no hM hX (b := (pdt n f q h)) (show 0 ≤ cmpD (mkM (n * q) (f + h)) (mkX (n * q) (f + h)) M X by omega), mx_no hN hF (b := (pdt n f q h)) (show cmpD (mkM (n * q) (f + h)) (mkX (n * q) (f + h)) N_ F ≤ 0 by omega), by unfold iMax; split <;> omega, s1, s2⟩) (show 9 - 3 < 9 - 2 by omega) : ar_mul_N m ee n f p g q h (Sum.inr (Sum.inr (Sum.inl (M, X, N_, F, er)))) .normal (ar_mul_mk m ee n f p g q h (Sum.inr (Sum.inr (Sum.inr (M, X, N_, F, (iMax er (exE (n * q) (f + h)))))))))))))))))) (by kernel_rfl)
    · skip
      have hI : (M = (pmn (pmn (pmn (pdt m ee p g) (pdt m ee q h)) (pdt n f p g)) (pdt n f q h)).1 ∧ X = (pmn (pmn (pmn (pdt m ee p g) (pdt m ee q h)) (pdt n f p g)) (pdt n f q h)).2) ∧ (N_ = (pmx (pmx (pmx (pdt m ee p g) (pdt m ee q h)) (pdt n f p g)) (pdt n f q h)).1 ∧ F = (pmx (pmx (pmx (pdt m ee p g) (pdt m ee q h)) (pdt n f p g)) (pdt n f q h)).2) ∧ er = 0 ∧ SzP 1200 (M, X) ∧ SzP 1200 (N_, F) := hI
      obtain ⟨⟨hM, hX⟩, ⟨hN, hF⟩, h0, s1, s2⟩ := hI
      have ⟨s3, s4, s5⟩ := s1
      have ⟨s6, s7, s8⟩ := s2
      have s9 := SzP_mk s1
      simp only at s3 s4 s5 s6 s7 s8
      exact cast_ob (aI True.intro (aI tT ((nx_exit 0 ((ar_mul_ex m ee n f p g q h (M, X, N_, F, er)).2) (M, X, N_, F, er) (show (M = (pmn (pmn (pmn (pdt m ee p g) (pdt m ee q h)) (pdt n f p g)) (pdt n f q h)).1 ∧ X = (pmn (pmn (pmn (pdt m ee p g) (pdt m ee q h)) (pdt n f p g)) (pdt n f q h)).2) ∧ (N_ = (pmx (pmx (pmx (pdt m ee p g) (pdt m ee q h)) (pdt n f p g)) (pdt n f q h)).1 ∧ F = (pmx (pmx (pmx (pdt m ee p g) (pdt m ee q h)) (pdt n f p g)) (pdt n f q h)).2) ∧ er = 0 ∧ SzP 1200 (M, X) ∧ SzP 1200 (N_, F) from ⟨⟨hM, hX⟩, ⟨hN, hF⟩, h0, s1, s2⟩) rfl : ar_mul_N m ee n f p g q h (Sum.inr (Sum.inr (Sum.inr (M, X, N_, F, er)))) (.exit 0) ((ar_mul_ex m ee n f p g q h (M, X, N_, F, er)).2))))) (by kernel_rfl))
theorem ar_Mul_1 (m : Int) (ee : Int) (n : Int) (f : Int) (p : Int) (g : Int) (q : Int) (h : Int) (c0 : L (m).natAbs ≤ 600) (c1 : (-20000 : Int) ≤ ee ∧ ee ≤ 20000) (c2 : L (n).natAbs ≤ 600) (c3 : (-20000 : Int) ≤ f ∧ f ≤ 20000) (c4 : L (p).natAbs ≤ 600) (c5 : (-20000 : Int) ≤ g ∧ g ≤ 20000) (c6 : L (q).natAbs ≤ 600) (c7 : (-20000 : Int) ≤ h ∧ h ≤ 20000) (c8 : mkE (m * p) (ee + g) = 0) (c9 : mkE (m * q) (ee + h) = 0) (c10 : mkE (n * p) (f + g) = 0) (c11 : mkE (n * q) (f + h) = 0) : Impl Tryz.prog Amb 116 [(.pt [(V.bool (decide (m < 0))), (N m.natAbs), (V.int .i64 ee), (V.bool (decide (n < 0))), (N n.natAbs), (V.int .i64 f)] 0), (.pt [(V.bool (decide (p < 0))), (N p.natAbs), (V.int .i64 g), (V.bool (decide (q < 0))), (N q.natAbs), (V.int .i64 h)] 0)] (.tup [(.agg [(.bool (decide ((mlLoP m ee n f p g q h).1 < 0))), (N (((mlLoP m ee n f p g q h).1).natAbs)), (.int .i64 ((mlLoP m ee n f p g q h).2))]), (.agg [(.bool (decide ((mlHiP m ee n f p g q h).1 < 0))), (N (((mlHiP m ee n f p g q h).1).natAbs)), (.int .i64 ((mlHiP m ee n f p g q h).2))]), (.int .i64 0)]) := by
  exact impl_ob hP hAmb Tryz.func116 (by kernel_rfl) (.lits 3 <| .call (exT (m * p) (ee + g)) <| .lits 13 <| .loop ⟨[2, 3, 5, 6, 7, 36, 37], 4, []⟩ ((ar_mul_mk m ee n f p g q h (Sum.inl ((mkM (m * p) (ee + g)), (mkX (m * p) (ee + g)), (mkM (m * p) (ee + g)), (mkX (m * p) (ee + g)), (exE (m * p) (ee + g)))))) (Int × Int × Int × Int × Int) (ar_mul_ex m ee n f p g q h) (ar_mul_J m ee n f p g q h) (fun y => .lits 3 <| .call (.tup [(.agg [(.bool (decide (y.1 < 0))), (N y.1.natAbs), (.int .i64 y.2.1)]), (.agg [(.bool (decide (y.2.2.1 < 0))), (N y.2.2.1.natAbs), (.int .i64 y.2.2.2.1)]), (.int .i64 (iMax y.2.2.2.2 (0 : Int)))]) <| .lits 3 <| .ret))
    (cast_ob (aI True.intro (aI (dy_Mul m ee p g oA oA oA oA) (have f3 := ex_range (m * p) (ee + g); have f2 := mk_facts (m * p) (ee + g); have f1 := L_abs_mul m p; aI tT (aI (rfl : (ar_mul_mk m ee n f p g q h (Sum.inl ((mkM (m * p) (ee + g)), (mkX (m * p) (ee + g)), (mkM (m * p) (ee + g)), (mkX (m * p) (ee + g)), (exE (m * p) (ee + g))))) = (ar_mul_mk m ee n f p g q h (Sum.inl ((mkM (m * p) (ee + g)), (mkX (m * p) (ee + g)), (mkM (m * p) (ee + g)), (mkX (m * p) (ee + g)), (exE (m * p) (ee + g)))))) (aI (ar_mul m ee n f p g q h c0 c1 c2 c3 c4 c5 c6 c7 c8 c9 c10 c11 (Sum.inl ((mkM (m * p) (ee + g)), (mkX (m * p) (ee + g)), (mkM (m * p) (ee + g)), (mkX (m * p) (ee + g)), (exE (m * p) (ee + g)))) (show ((mkM (m * p) (ee + g)) = (pdt m ee p g).1 ∧ (mkX (m * p) (ee + g)) = (pdt m ee p g).2) ∧ ((mkM (m * p) (ee + g)) = (pdt m ee p g).1 ∧ (mkX (m * p) (ee + g)) = (pdt m ee p g).2) ∧ (exE (m * p) (ee + g)) = 0 ∧ SzP 1200 ((mkM (m * p) (ee + g)), (mkX (m * p) (ee + g))) ∧ SzP 1200 ((mkM (m * p) (ee + g)), (mkX (m * p) (ee + g))) from ⟨⟨rfl, rfl⟩, ⟨rfl, rfl⟩, by omega, pdt_sz (m := m) (n := p) oO, pdt_sz (m := m) (n := p) oO⟩)) (fun y (hJ : ar_mul_J m ee n f p g q h y) => have hJ : (y.1 = (pmn (pmn (pmn (pdt m ee p g) (pdt m ee q h)) (pdt n f p g)) (pdt n f q h)).1 ∧ y.2.1 = (pmn (pmn (pmn (pdt m ee p g) (pdt m ee q h)) (pdt n f p g)) (pdt n f q h)).2) ∧ (y.2.2.1 = (pmx (pmx (pmx (pdt m ee p g) (pdt m ee q h)) (pdt n f p g)) (pdt n f q h)).1 ∧ y.2.2.2.1 = (pmx (pmx (pmx (pdt m ee p g) (pdt m ee q h)) (pdt n f p g)) (pdt n f q h)).2) ∧ y.2.2.2.2 = 0 ∧ SzP 1200 (y.1, y.2.1) ∧ SzP 1200 (y.2.2.1, y.2.2.2.1) := hJ; aI (ar_pair y.1 y.2.1 y.2.2.1 y.2.2.2.1 y.2.2.2.2 0 ) ((by obtain ⟨⟨j1, j2⟩, ⟨j3, j4⟩, j5, _⟩ := hJ; rw [j1, j2, j3, j4, j5]; exact vsub_refl _ : vsub (.tup [(.agg [(.bool (decide (y.1 < 0))), (N y.1.natAbs), (.int .i64 y.2.1)]), (.agg [(.bool (decide (y.2.2.1 < 0))), (N y.2.2.1.natAbs), (.int .i64 y.2.2.2.1)]), (.int .i64 (iMax y.2.2.2.2 (0 : Int)))]) (.tup [(.agg [(.bool (decide ((mlLoP m ee n f p g q h).1 < 0))), (N (((mlLoP m ee n f p g q h).1).natAbs)), (.int .i64 ((mlLoP m ee n f p g q h).2))]), (.agg [(.bool (decide ((mlHiP m ee n f p g q h).1 < 0))), (N (((mlHiP m ee n f p g q h).1).natAbs)), (.int .i64 ((mlHiP m ee n f p g q h).2))]), (.int .i64 0)]))))))))) (by kernel_rfl))
theorem ar_out_M (m : Int) (e : Int) (n : Int) (f : Int) (p : Int) (g : Int) (q : Int) (h : Int) (w : Int) (c0 : L (m).natAbs ≤ 600) (c1 : (-20000 : Int) ≤ e ∧ e ≤ 20000) (c2 : L (n).natAbs ≤ 600) (c3 : (-20000 : Int) ≤ f ∧ f ≤ 20000) (c4 : L (p).natAbs ≤ 600) (c5 : (-20000 : Int) ≤ g ∧ g ≤ 20000) (c6 : L (q).natAbs ≤ 600) (c7 : (-20000 : Int) ≤ h ∧ h ≤ 20000) (c8 : mkE (m * p) (e + g) = 0) (c9 : mkE (m * q) (e + h) = 0) (c10 : mkE (n * p) (f + g) = 0) (c11 : mkE (n * q) (f + h) = 0) (c12 : (-9223372036854775808 : Int) ≤ w ∧ w ≤ 9223372036854775807) : Impl Tryz.prog Amb 112 [(.int .i64 w), (.clos 116 [(.pt [(V.bool (decide (m < 0))), (N m.natAbs), (V.int .i64 e), (V.bool (decide (n < 0))), (N n.natAbs), (V.int .i64 f)] 0), (.pt [(V.bool (decide (p < 0))), (N p.natAbs), (V.int .i64 g), (V.bool (decide (q < 0))), (N q.natAbs), (V.int .i64 h)] 0)])] (enV (mlLo m e n f p g q h) (mlHi m e n f p g q h) w) := by
  have ⟨⟨y1, y2, y3⟩, ⟨y4, y5, y6⟩⟩ := mlP_sz (m := m) (e := e) (n := n) (f := f) (p := p) (g := g) (q := q) (h := h) (k := 1200) oO
  exact impl_ob hP hAmb Tryz.func112 (by kernel_rfl) (.lit <| .call (.bool (decide (0 ≤ w ∧ w ≤ 4096))) <| .lit <| .both (.lits 3 <| .ret) (.lit <| .call (.tup [(.agg [(.bool (decide ((mlLoP m e n f p g q h).1 < 0))), (N (((mlLoP m e n f p g q h).1).natAbs)), (.int .i64 ((mlLoP m e n f p g q h).2))]), (.agg [(.bool (decide ((mlHiP m e n f p g q h).1 < 0))), (N (((mlHiP m e n f p g q h).1).natAbs)), (.int .i64 ((mlHiP m e n f p g q h).2))]), (.int .i64 0)]) <| .lits 6 <| .call (mkT (flr (dv ((mlLoP m e n f p g q h).1) ((mlLoP m e n f p g q h).2)) w) (-w)) <| .lits 3 <| .call (mkT (cei (dv ((mlHiP m e n f p g q h).1) ((mlHiP m e n f p g q h).2)) w) (-w)) <| .lits 4 <| .call (ecT (mkM (flr (dv ((mlLoP m e n f p g q h).1) ((mlLoP m e n f p g q h).2)) w) (-w)) (mkX (flr (dv ((mlLoP m e n f p g q h).1) ((mlLoP m e n f p g q h).2)) w) (-w)) (mkM (cei (dv ((mlHiP m e n f p g q h).1) ((mlHiP m e n f p g q h).2)) w) (-w)) (mkX (cei (dv ((mlHiP m e n f p g q h).1) ((mlHiP m e n f p g q h).2)) w) (-w)) (mkE (flr (dv ((mlLoP m e n f p g q h).1) ((mlLoP m e n f p g q h).2)) w) (-w)) (mkE (cei (dv ((mlHiP m e n f p g q h).1) ((mlHiP m e n f p g q h).2)) w) (-w))) <| .lits 2 <| .ret))
    (cast_ob (aI True.intro (aI (ar_works w oA) (aI (fun (h1 : (!(decide (0 ≤ w ∧ w ≤ 4096))) = true) => have _gh1 := of_decide_eq_false (notb_t h1); (en_vbad oO : vsub (e0T 1) (enV (mlLo m e n f p g q h) (mlHi m e n f p g q h) w))) (fun (h2 : (!(decide (0 ≤ w ∧ w ≤ 4096))) = false) => have _gh2 := of_decide_eq_true (notb_f h2); aI (ar_Mul_1 m e n f p g q h oA oA oA oA oA oA oA oA oA oA oA oA) (have f9 := mlP_sz (m := m) (e := e) (n := n) (f := f) (p := p) (g := g) (q := q) (h := h) (k := 1200) oA; aI (gr_Floor ((mlLoP m e n f p g q h).1) ((mlLoP m e n f p g q h).2) w oA oA oA) (have f8 := mk_facts (cei (dv ((mlLoP m e n f p g q h).1) ((mlLoP m e n f p g q h).2)) w) (-w); have f7 := mk_facts (flr (dv ((mlLoP m e n f p g q h).1) ((mlLoP m e n f p g q h).2)) w) (-w); have f6 := flr_LD ((mlLoP m e n f p g q h).1) ((mlLoP m e n f p g q h).2) w; aI (gr_Ceil ((mlHiP m e n f p g q h).1) ((mlHiP m e n f p g q h).2) w oA oA oA) (have f5 := mk_facts (cei (dv ((mlHiP m e n f p g q h).1) ((mlHiP m e n f p g q h).2)) w) (-w); have f4 := mk_facts (flr (dv ((mlHiP m e n f p g q h).1) ((mlHiP m e n f p g q h).2)) w) (-w); have f3 := flr_LD ((mlHiP m e n f p g q h).1) ((mlHiP m e n f p g q h).2) w; aI (ar_enclose (mkM (flr (dv ((mlLoP m e n f p g q h).1) ((mlLoP m e n f p g q h).2)) w) (-w)) (mkX (flr (dv ((mlLoP m e n f p g q h).1) ((mlLoP m e n f p g q h).2)) w) (-w)) (mkM (cei (dv ((mlHiP m e n f p g q h).1) ((mlHiP m e n f p g q h).2)) w) (-w)) (mkX (cei (dv ((mlHiP m e n f p g q h).1) ((mlHiP m e n f p g q h).2)) w) (-w)) (mkE (flr (dv ((mlLoP m e n f p g q h).1) ((mlLoP m e n f p g q h).2)) w) (-w)) (mkE (cei (dv ((mlHiP m e n f p g q h).1) ((mlHiP m e n f p g q h).2)) w) (-w)) oA oA oA oA) ((en_vec (mlLoP_dv c8 c9 c10 c11) (mlHiP_dv c8 c9 c10 c11) oO : vsub (ecT (mkM (flr (dv ((mlLoP m e n f p g q h).1) ((mlLoP m e n f p g q h).2)) w) (-w)) (mkX (flr (dv ((mlLoP m e n f p g q h).1) ((mlLoP m e n f p g q h).2)) w) (-w)) (mkM (cei (dv ((mlHiP m e n f p g q h).1) ((mlHiP m e n f p g q h).2)) w) (-w)) (mkX (cei (dv ((mlHiP m e n f p g q h).1) ((mlHiP m e n f p g q h).2)) w) (-w)) (mkE (flr (dv ((mlLoP m e n f p g q h).1) ((mlLoP m e n f p g q h).2)) w) (-w)) (mkE (cei (dv ((mlHiP m e n f p g q h).1) ((mlHiP m e n f p g q h).2)) w) (-w))) (enV (mlLo m e n f p g q h) (mlHi m e n f p g q h) w)))))))))) (by kernel_rfl))
theorem ar_Mul (m : Int) (e : Int) (n : Int) (f : Int) (p : Int) (g : Int) (q : Int) (h : Int) (w : Int) (c0 : L (m).natAbs ≤ 600) (c1 : (-20000 : Int) ≤ e ∧ e ≤ 20000) (c2 : L (n).natAbs ≤ 600) (c3 : (-20000 : Int) ≤ f ∧ f ≤ 20000) (c4 : L (p).natAbs ≤ 600) (c5 : (-20000 : Int) ≤ g ∧ g ≤ 20000) (c6 : L (q).natAbs ≤ 600) (c7 : (-20000 : Int) ≤ h ∧ h ≤ 20000) (c8 : mkE (m * p) (e + g) = 0) (c9 : mkE (m * q) (e + h) = 0) (c10 : mkE (n * p) (f + g) = 0) (c11 : mkE (n * q) (f + h) = 0) (c12 : (-9223372036854775808 : Int) ≤ w ∧ w ≤ 9223372036854775807) : Impl Tryz.prog Amb 51 [(wV m e n f), (wV p g q h), (.int .i64 w)] (enV (mlLo m e n f p g q h) (mlHi m e n f p g q h) w) := by
  exact impl_ob hP hAmb Tryz.func51 (by kernel_rfl) (.lit <| .call (enV (mlLo m e n f p g q h) (mlHi m e n f p g q h) w) <| .lits 2 <| .ret)
    (cast_ob (aI True.intro (aI (ar_out_M m e n f p g q h w oA oA oA oA oA oA oA oA oA oA oA oA oA) (have f1 := en_facts (mlLo m e n f p g q h) (mlHi m e n f p g q h) w; (vsub_refl (enV (mlLo m e n f p g q h) (mlHi m e n f p g q h) w))))) (by kernel_rfl))
end Go.Proofs.YtmbpoibhamlkbaaGreatDoor


namespace Go.Proofs.YtmbpoibhamlkbaaGreatDoor
open Go.RowKit
set_option maxRecDepth 100000
theorem mill_Mod (v : Int) (n : Int) (c0 : (0 : Int) < n ∧ n ≤ 1000000000) (c1 : (-9223372036854775808 : Int) ≤ v ∧ v ≤ 9223372036854775807) : Impl Tryz.prog Amb 31 [(.int .i64 v), (.int .i64 n)] (.int .i64 (v % n)) := by
  have r0 := wRem_abs (v := v) (n := n) oO
  exact impl_ob hP hAmb Tryz.func31 (by kernel_rfl) (.yes <| .lit <| .both (.lit <| .yes <| .lit <| .ret) (.lit <| .ret))
    (cast_ob (aI True.intro (aI (iNe_mk oA : (iNe n 0) = true) (aI (fun (h1 : (iLt (wRem v n) 0) = true) => have _gh1 := iLt_t h1; aI (fits_i64 oA : (fits .i64 ((wRem v n) + n)) = true) ((vsub_of (congrArg (V.int .i64) (mod_neg oO oO)) : vsub (.int .i64 ((wRem v n) + n)) (.int .i64 (v % n))))) (fun (h2 : (iLt (wRem v n) 0) = false) => have _gh2 := iLt_f h2; (vsub_of (congrArg (V.int .i64) (mod_pos oO oO)) : vsub (.int .i64 (wRem v n)) (.int .i64 (v % n))))))) (by kernel_rfl))
theorem mill_Int (b : Bool) (l : List Nat) (n : Int) (c0 : Dig l) (c1 : l.length ≤ 9223372036854775807) (c2 : (0 : Int) ≤ n ∧ n ≤ 1000) : Impl Tryz.prog Amb 86 [(.agg [(.bool b), (.sl 1 (U l))]), (.int .i64 n)] (.tup [(zV (rawI b l n)), (.bool (decide ((l.length : Int) ≤ n)))]) := by
  have e0 := U_len l
  exact impl_ob hP hAmb Tryz.func86 (by kernel_rfl) (.lits 2 <| .both (.lits 3 <| .ret) (.lits 3 <| .call (zV (sgn b (val l))) <| .lits 2 <| .ret))
    (cast_ob (aI True.intro (aI (fun (h1 : (iGt ((U l).length : Int) n) = true) => have _gh1 := iGt_t h1; (raw_ret1 oO : vsub (.tup [(.agg [(.bool false), .nil]), (.bool false)]) (.tup [(zV (rawI b l n)), (.bool (decide ((l.length : Int) ≤ n)))]))) (fun (h2 : (iGt ((U l).length : Int) n) = false) => have _gh2 := iGt_f h2; aI (r05_NatC b (U l) l rfl c0 oO) (have f4 := L_val ‹Dig l›; have f3 := L_sgn b (val l); (raw_ret2 oO : vsub (.tup [(zV (sgn b (val l))), (.bool true)]) (.tup [(zV (rawI b l n)), (.bool (decide ((l.length : Int) ≤ n)))])))))) (by kernel_rfl))
theorem mill_Dyadic (b : Bool) (l : List Nat) (e : Int) (n : Int) (k : Int) (c0 : Dig l) (c1 : l.length ≤ 9223372036854775807) (c2 : (-9223372036854775808 : Int) ≤ e ∧ e ≤ 9223372036854775807) (c3 : (0 : Int) ≤ n ∧ n ≤ 800) (c4 : (0 : Int) ≤ k ∧ k ≤ 20000) : Impl Tryz.prog Amb 39 [(.agg [(.bool b), (.sl 1 (U l)), (.int .i64 e)]), (.int .i64 n), (.int .i64 k)] (.tup [(yV (mkM (rawI b l n) (e % (2 * k + 1) - k)) (mkX (rawI b l n) (e % (2 * k + 1) - k))), (.bool (decide ((l.length : Int) ≤ n)))]) := by
  have ej := Int.emod_nonneg e (show (2 * k + 1 : Int) ≠ 0 by omega)
  have ek := Int.emod_lt_of_pos e (show (0 : Int) < 2 * k + 1 by omega)
  exact impl_ob hP hAmb Tryz.func39 (by kernel_rfl) (.lits 2 <| .call (.tup [(zV (rawI b l n)), (.bool (decide ((l.length : Int) ≤ n)))]) <| .lits 2 <| .both (.lits 3 <| .ret) (.lits 3 <| .yes <| .lit <| .yes <| .lit <| .call (.int .i64 (e % (((2 : Int) * k) + 1))) <| .lit <| .yes <| .lit <| .call (mkT (rawI b l n) ((e % (((2 : Int) * k) + 1)) - k)) <| .lits 4 <| .ret))
    (cast_ob (aI True.intro (aI (mill_Int b l n oA oA oA) (have f6 := (rawI_L (b := b) ‹Dig l› (show (0 : Int) ≤ n by first | omega | (simp <;> omega))); aI (fun (h1 : (!(decide ((l.length : Int) ≤ n))) = true) => have _gh1 := of_decide_eq_false (notb_t h1); (rawd_ret1 oO : vsub (.tup [(.agg [(.bool false), .nil, (.int .i64 0)]), (.bool false)]) (.tup [(yV (mkM (rawI b l n) (e % (2 * k + 1) - k)) (mkX (rawI b l n) (e % (2 * k + 1) - k))), (.bool (decide ((l.length : Int) ≤ n)))]))) (fun (h2 : (!(decide ((l.length : Int) ≤ n))) = false) => have _gh2 := of_decide_eq_true (notb_f h2); aI (fits_i64 oA : (fits .i64 ((2 : Int) * k)) = true) (aI (fits_i64 oA : (fits .i64 (((2 : Int) * k) + 1)) = true) (aI (mill_Mod e (((2 : Int) * k) + 1) oA oA) (have f5 := Int.emod_lt_of_pos e (show (0 : Int) < (((2 : Int) * k) + 1) by first | omega | (simp <;> omega)); have f4 := Int.emod_nonneg e (show ((((2 : Int) * k) + 1) : Int) ≠ 0 by first | omega | (simp <;> omega)); aI (fits_i64 oA : (fits .i64 ((e % (((2 : Int) * k) + 1)) - k)) = true) (aI (r08_Make (rawI b l n) ((e % (((2 : Int) * k) + 1)) - k) oA oA) (have f3 := mk_facts (rawI b l n) ((e % (((2 : Int) * k) + 1)) - k); (vsub_tup2 (vsub_refl _) (vsub_of (congrArg V.bool (rawd_ok (mk_fine2 oO oO) oO))) : vsub (.tup [(yV (mkM (rawI b l n) ((e % (((2 : Int) * k) + 1)) - k)) (mkX (rawI b l n) ((e % (((2 : Int) * k) + 1)) - k))), (.bool (iEq (mkE (rawI b l n) ((e % (((2 : Int) * k) + 1)) - k)) 0))]) (.tup [(yV (mkM (rawI b l n) (e % (2 * k + 1) - k)) (mkX (rawI b l n) (e % (2 * k + 1) - k))), (.bool (decide ((l.length : Int) ≤ n)))]))))))))))) (by kernel_rfl))
theorem mill_Interval (b : Bool) (l : List Nat) (e : Int) (c : Bool) (r : List Nat) (f : Int) (n : Int) (k : Int) (c0 : Dig l) (c1 : l.length ≤ 9223372036854775807) (c2 : Dig r) (c3 : r.length ≤ 9223372036854775807) (c4 : (-9223372036854775808 : Int) ≤ e ∧ e ≤ 9223372036854775807) (c5 : (-9223372036854775808 : Int) ≤ f ∧ f ≤ 9223372036854775807) (c6 : (0 : Int) ≤ n ∧ n ≤ 800) (c7 : (0 : Int) ≤ k ∧ k ≤ 20000) : Impl Tryz.prog Amb 28 [(.agg [(.bool b), (.sl 1 (U l)), (.int .i64 e), (.bool c), (.sl 1 (U r)), (.int .i64 f)]), (.int .i64 n), (.int .i64 k)] (.tup [(wV (swM (mkM (rawI b l n) (e % (2 * k + 1) - k)) (mkX (rawI b l n) (e % (2 * k + 1) - k)) (mkM (rawI c r n) (f % (2 * k + 1) - k)) (mkX (rawI c r n) (f % (2 * k + 1) - k))) (swX (mkM (rawI b l n) (e % (2 * k + 1) - k)) (mkX (rawI b l n) (e % (2 * k + 1) - k)) (mkM (rawI c r n) (f % (2 * k + 1) - k)) (mkX (rawI c r n) (f % (2 * k + 1) - k))) (swN (mkM (rawI b l n) (e % (2 * k + 1) - k)) (mkX (rawI b l n) (e % (2 * k + 1) - k)) (mkM (rawI c r n) (f % (2 * k + 1) - k)) (mkX (rawI c r n) (f % (2 * k + 1) - k))) (swF (mkM (rawI b l n) (e % (2 * k + 1) - k)) (mkX (rawI b l n) (e % (2 * k + 1) - k)) (mkM (rawI c r n) (f % (2 * k + 1) - k)) (mkX (rawI c r n) (f % (2 * k + 1) - k)))), (.bool (decide ((l.length : Int) ≤ n ∧ (r.length : Int) ≤ n)))]) := by
  exact impl_ob hP hAmb Tryz.func28 (by kernel_rfl) (.lits 2 <| .call (.tup [(yV (mkM (rawI b l n) (e % (2 * k + 1) - k)) (mkX (rawI b l n) (e % (2 * k + 1) - k))), (.bool (decide ((l.length : Int) ≤ n)))]) <| .lits 3 <| .call (.tup [(yV (mkM (rawI c r n) (f % (2 * k + 1) - k)) (mkX (rawI c r n) (f % (2 * k + 1) - k))), (.bool (decide ((r.length : Int) ≤ n)))]) <| .lits 4 <| .call (.int .i64 (cmpD (mkM (rawI b l n) (e % (2 * k + 1) - k)) (mkX (rawI b l n) (e % (2 * k + 1) - k)) (mkM (rawI c r n) (f % (2 * k + 1) - k)) (mkX (rawI c r n) (f % (2 * k + 1) - k)))) <| .lit <| .both (.lits 7 <| .both (.lits 3 <| .ret) (.lits 3 <| .ret)) (.lits 3 <| .both (.lits 3 <| .ret) (.lits 3 <| .ret)))
    (cast_ob (aI True.intro (aI (mill_Dyadic b l e n k oA oA oA oA oA) (have f11 := (rawI_L (b := b) ‹Dig l› (show (0 : Int) ≤ n by first | omega | (simp <;> omega))); have f10 := mk_facts (rawI b l n) (e % (2 * k + 1) - k); aI (mill_Dyadic c r f n k oA oA oA oA oA) (have f9 := (rawI_L (b := c) ‹Dig r› (show (0 : Int) ≤ n by first | omega | (simp <;> omega))); have f8 := mk_facts (rawI c r n) (f % (2 * k + 1) - k); aI (r08_Cmp (mkM (rawI b l n) (e % (2 * k + 1) - k)) (mkX (rawI b l n) (e % (2 * k + 1) - k)) (mkM (rawI c r n) (f % (2 * k + 1) - k)) (mkX (rawI c r n) (f % (2 * k + 1) - k)) oA oA oA oA) (have f7 := cmpD_range (mkM (rawI b l n) (e % (2 * k + 1) - k)) (mkX (rawI b l n) (e % (2 * k + 1) - k)) (mkM (rawI c r n) (f % (2 * k + 1) - k)) (mkX (rawI c r n) (f % (2 * k + 1) - k)); aI (fun (h1 : (iGt (cmpD (mkM (rawI b l n) (e % (2 * k + 1) - k)) (mkX (rawI b l n) (e % (2 * k + 1) - k)) (mkM (rawI c r n) (f % (2 * k + 1) - k)) (mkX (rawI c r n) (f % (2 * k + 1) - k))) 0) = true) => have _gh1 := iGt_t h1; aI (fun (h2 : (decide ((l.length : Int) ≤ n)) = true) => have _gh2 := of_decide_eq_true h2; (W_of (sw_yes oO) (decide_eq_decide.2 oO) : vsub (.tup [(wV (mkM (rawI c r n) (f % (2 * k + 1) - k)) (mkX (rawI c r n) (f % (2 * k + 1) - k)) (mkM (rawI b l n) (e % (2 * k + 1) - k)) (mkX (rawI b l n) (e % (2 * k + 1) - k))), (.bool (decide ((r.length : Int) ≤ n)))]) (.tup [(wV (swM (mkM (rawI b l n) (e % (2 * k + 1) - k)) (mkX (rawI b l n) (e % (2 * k + 1) - k)) (mkM (rawI c r n) (f % (2 * k + 1) - k)) (mkX (rawI c r n) (f % (2 * k + 1) - k))) (swX (mkM (rawI b l n) (e % (2 * k + 1) - k)) (mkX (rawI b l n) (e % (2 * k + 1) - k)) (mkM (rawI c r n) (f % (2 * k + 1) - k)) (mkX (rawI c r n) (f % (2 * k + 1) - k))) (swN (mkM (rawI b l n) (e % (2 * k + 1) - k)) (mkX (rawI b l n) (e % (2 * k + 1) - k)) (mkM (rawI c r n) (f % (2 * k + 1) - k)) (mkX (rawI c r n) (f % (2 * k + 1) - k))) (swF (mkM (rawI b l n) (e % (2 * k + 1) - k)) (mkX (rawI b l n) (e % (2 * k + 1) - k)) (mkM (rawI c r n) (f % (2 * k + 1) - k)) (mkX (rawI c r n) (f % (2 * k + 1) - k)))), (.bool (decide ((l.length : Int) ≤ n ∧ (r.length : Int) ≤ n)))]))) (fun (h3 : (decide ((l.length : Int) ≤ n)) = false) => have _gh3 := of_decide_eq_false h3; (W_of (sw_yes oO) (decide_eq_false oO).symm : vsub (.tup [(wV (mkM (rawI c r n) (f % (2 * k + 1) - k)) (mkX (rawI c r n) (f % (2 * k + 1) - k)) (mkM (rawI b l n) (e % (2 * k + 1) - k)) (mkX (rawI b l n) (e % (2 * k + 1) - k))), (.bool false)]) (.tup [(wV (swM (mkM (rawI b l n) (e % (2 * k + 1) - k)) (mkX (rawI b l n) (e % (2 * k + 1) - k)) (mkM (rawI c r n) (f % (2 * k + 1) - k)) (mkX (rawI c r n) (f % (2 * k + 1) - k))) (swX (mkM (rawI b l n) (e % (2 * k + 1) - k)) (mkX (rawI b l n) (e % (2 * k + 1) - k)) (mkM (rawI c r n) (f % (2 * k + 1) - k)) (mkX (rawI c r n) (f % (2 * k + 1) - k))) (swN (mkM (rawI b l n) (e % (2 * k + 1) - k)) (mkX (rawI b l n) (e % (2 * k + 1) - k)) (mkM (rawI c r n) (f % (2 * k + 1) - k)) (mkX (rawI c r n) (f % (2 * k + 1) - k))) (swF (mkM (rawI b l n) (e % (2 * k + 1) - k)) (mkX (rawI b l n) (e % (2 * k + 1) - k)) (mkM (rawI c r n) (f % (2 * k + 1) - k)) (mkX (rawI c r n) (f % (2 * k + 1) - k)))), (.bool (decide ((l.length : Int) ≤ n ∧ (r.length : Int) ≤ n)))])))) (fun (h4 : (iGt (cmpD (mkM (rawI b l n) (e % (2 * k + 1) - k)) (mkX (rawI b l n) (e % (2 * k + 1) - k)) (mkM (rawI c r n) (f % (2 * k + 1) - k)) (mkX (rawI c r n) (f % (2 * k + 1) - k))) 0) = false) => have _gh4 := iGt_f h4; aI (fun (h5 : (decide ((l.length : Int) ≤ n)) = true) => have _gh5 := of_decide_eq_true h5; (W_of (sw_no oO) (decide_eq_decide.2 oO) : vsub (.tup [(wV (mkM (rawI b l n) (e % (2 * k + 1) - k)) (mkX (rawI b l n) (e % (2 * k + 1) - k)) (mkM (rawI c r n) (f % (2 * k + 1) - k)) (mkX (rawI c r n) (f % (2 * k + 1) - k))), (.bool (decide ((r.length : Int) ≤ n)))]) (.tup [(wV (swM (mkM (rawI b l n) (e % (2 * k + 1) - k)) (mkX (rawI b l n) (e % (2 * k + 1) - k)) (mkM (rawI c r n) (f % (2 * k + 1) - k)) (mkX (rawI c r n) (f % (2 * k + 1) - k))) (swX (mkM (rawI b l n) (e % (2 * k + 1) - k)) (mkX (rawI b l n) (e % (2 * k + 1) - k)) (mkM (rawI c r n) (f % (2 * k + 1) - k)) (mkX (rawI c r n) (f % (2 * k + 1) - k))) (swN (mkM (rawI b l n) (e % (2 * k + 1) - k)) (mkX (rawI b l n) (e % (2 * k + 1) - k)) (mkM (rawI c r n) (f % (2 * k + 1) - k)) (mkX (rawI c r n) (f % (2 * k + 1) - k))) (swF (mkM (rawI b l n) (e % (2 * k + 1) - k)) (mkX (rawI b l n) (e % (2 * k + 1) - k)) (mkM (rawI c r n) (f % (2 * k + 1) - k)) (mkX (rawI c r n) (f % (2 * k + 1) - k)))), (.bool (decide ((l.length : Int) ≤ n ∧ (r.length : Int) ≤ n)))]))) (fun (h6 : (decide ((l.length : Int) ≤ n)) = false) => have _gh6 := of_decide_eq_false h6; (W_of (sw_no oO) (decide_eq_false oO).symm : vsub (.tup [(wV (mkM (rawI b l n) (e % (2 * k + 1) - k)) (mkX (rawI b l n) (e % (2 * k + 1) - k)) (mkM (rawI c r n) (f % (2 * k + 1) - k)) (mkX (rawI c r n) (f % (2 * k + 1) - k))), (.bool false)]) (.tup [(wV (swM (mkM (rawI b l n) (e % (2 * k + 1) - k)) (mkX (rawI b l n) (e % (2 * k + 1) - k)) (mkM (rawI c r n) (f % (2 * k + 1) - k)) (mkX (rawI c r n) (f % (2 * k + 1) - k))) (swX (mkM (rawI b l n) (e % (2 * k + 1) - k)) (mkX (rawI b l n) (e % (2 * k + 1) - k)) (mkM (rawI c r n) (f % (2 * k + 1) - k)) (mkX (rawI c r n) (f % (2 * k + 1) - k))) (swN (mkM (rawI b l n) (e % (2 * k + 1) - k)) (mkX (rawI b l n) (e % (2 * k + 1) - k)) (mkM (rawI c r n) (f % (2 * k + 1) - k)) (mkX (rawI c r n) (f % (2 * k + 1) - k))) (swF (mkM (rawI b l n) (e % (2 * k + 1) - k)) (mkX (rawI b l n) (e % (2 * k + 1) - k)) (mkM (rawI c r n) (f % (2 * k + 1) - k)) (mkX (rawI c r n) (f % (2 * k + 1) - k)))), (.bool (decide ((l.length : Int) ≤ n ∧ (r.length : Int) ≤ n)))]))))))))) (by kernel_rfl))
end Go.Proofs.YtmbpoibhamlkbaaGreatDoor

namespace Go.Proofs.YtmbpoibhamlkbaaGreatDoor
theorem mkX_b {m e : Int} (hE : mkE m e = 0) : (m = 0 ∧ mkX m e = 0) ∨ (m ≠ 0 ∧ e ≤ mkX m e ∧ mkX m e ≤ e + 32 * (L m.natAbs : Int)) := by
  rcases mk_cases hE with ⟨h, _, k⟩ | ⟨h, _, k, _⟩
  · exact .inl ⟨h, k⟩
  · have := tz_L m.natAbs
    refine .inr ⟨h, ?_, ?_⟩ <;> rw [k] <;> unfold de <;> omega
theorem mk_fit {m e : Int} (h : L m.natAbs ≤ 900) (he : -60000 ≤ e ∧ e ≤ 30000) : mkE m e = 0 ∧ L (mkM m e).natAbs ≤ L m.natAbs ∧ iMin e 0 ≤ mkX m e ∧ mkX m e ≤ iMax e 0 + 32 * (L m.natAbs : Int) ∧ vdb (mkM m e) (mkX m e) = true ∧ dv (mkM m e) (mkX m e) = dv m e := by
  have hE := mk_fine2 h he
  have h1 := mk_facts m e
  have h2 := iMin_range e 0
  have h3 : e ≤ iMax e 0 ∧ 0 ≤ iMax e 0 := by unfold iMax; split <;> omega
  refine ⟨hE, h1.1, ?_, ?_, vdb_mk, dv_mk hE⟩ <;> rcases mkX_b hE with ⟨_, k⟩ | ⟨_, k, l⟩ <;> omega
theorem of_fit {n : Int} (h : -9223372036854775808 ≤ n ∧ n ≤ 9223372036854775807) : mkE n 0 = 0 ∧ L (mkM n 0).natAbs ≤ 2 ∧ 0 ≤ mkX n 0 ∧ mkX n 0 ≤ 64 ∧ vdb (mkM n 0) (mkX n 0) = true ∧ dv (mkM n 0) (mkX n 0) = (n : Rat) := by
  have hl := L_i64 h
  have h1 := mk_fit (m := n) (e := 0) (by omega) (by omega)
  have h2 : iMin 0 0 = 0 := rfl
  have h3 : iMax 0 0 = 0 := rfl
  rw [h2, h3, dv_int] at h1
  exact ⟨h1.1, by omega, h1.2.2.1, by omega, h1.2.2.2.2.1, h1.2.2.2.2.2⟩
theorem rawD_fit {b : Bool} {l : List Nat} {n e k : Int} (hl : Dig l) (hn : 0 ≤ n ∧ n ≤ 800) (hk : 0 ≤ k ∧ k ≤ 20000) :
    L (mkM (rawI b l n) (e % (2 * k + 1) - k)).natAbs ≤ n ∧ -k ≤ mkX (rawI b l n) (e % (2 * k + 1) - k) ∧ mkX (rawI b l n) (e % (2 * k + 1) - k) ≤ k + 32 * n ∧
    vdb (mkM (rawI b l n) (e % (2 * k + 1) - k)) (mkX (rawI b l n) (e % (2 * k + 1) - k)) = true := by
  have h1 := rawI_L (b := b) hl hn.1
  have h2 := Int.emod_nonneg e (show (2 * k + 1 : Int) ≠ 0 by omega)
  have h3 := Int.emod_lt_of_pos e (show (0 : Int) < 2 * k + 1 by omega)
  generalize hd : e % (2 * k + 1) - k = d
  have h4 := mk_fit (m := rawI b l n) (e := d) (by omega) (by omega)
  have h5 := iMin_range d 0
  have h6 : iMax d 0 = d ∨ iMax d 0 = 0 := by unfold iMax; split <;> simp
  refine ⟨by omega, by omega, by omega, h4.2.2.2.2.1⟩
theorem sw_fit {m e n f : Int} (h1 : vdb m e = true) (h2 : vdb n f = true) : vdb (swM m e n f) (swX m e n f) = true ∧ vdb (swN m e n f) (swF m e n f) = true ∧ dv (swM m e n f) (swX m e n f) ≤ dv (swN m e n f) (swF m e n f) := by
  rcases sw_facts m e n f with ⟨h, a, b, c, d, _⟩ | ⟨h, a, b, c, d, _⟩
  · rw [a, b, c, d]
    exact ⟨h2, h1, Rat.le_of_lt (cmpD_pos.1 h)⟩
  · rw [a, b, c, d]
    refine ⟨h1, h2, Rat.not_lt.1 fun q => ?_⟩
    have := cmpD_pos.2 q
    omega
theorem rawI_fit {b c : Bool} {l r : List Nat} {n e f k : Int} (hl : Dig l) (hr : Dig r) (hn : 0 ≤ n ∧ n ≤ 800) (hk : 0 ≤ k ∧ k ≤ 20000) {m1 x1 m2 x2 : Int} (e1 : m1 = mkM (rawI b l n) (e % (2 * k + 1) - k)) (e2 : x1 = mkX (rawI b l n) (e % (2 * k + 1) - k))
    (e3 : m2 = mkM (rawI c r n) (f % (2 * k + 1) - k)) (e4 : x2 = mkX (rawI c r n) (f % (2 * k + 1) - k)) :
    (L (swM m1 x1 m2 x2).natAbs ≤ n ∧ -k ≤ swX m1 x1 m2 x2 ∧ swX m1 x1 m2 x2 ≤ k + 32 * n) ∧ (L (swN m1 x1 m2 x2).natAbs ≤ n ∧ -k ≤ swF m1 x1 m2 x2 ∧ swF m1 x1 m2 x2 ≤ k + 32 * n) ∧
    vdb (swM m1 x1 m2 x2) (swX m1 x1 m2 x2) = true ∧ vdb (swN m1 x1 m2 x2) (swF m1 x1 m2 x2) = true ∧ dv (swM m1 x1 m2 x2) (swX m1 x1 m2 x2) ≤ dv (swN m1 x1 m2 x2) (swF m1 x1 m2 x2) := by
  have h1 := rawD_fit (b := b) (e := e) hl hn hk
  have h2 := rawD_fit (b := c) (e := f) hr hn hk
  rw [← e1, ← e2] at h1
  rw [← e3, ← e4] at h2
  obtain ⟨a1, a2, a3, a4⟩ := h1
  obtain ⟨b1, b2, b3, b4⟩ := h2
  have h3 := sw_fit a4 b4
  rcases sw_facts m1 x1 m2 x2 with ⟨_, a, b, c, d, g, i⟩ | ⟨_, a, b, c, d, g, i⟩
  · exact ⟨⟨by omega, by omega, by omega⟩, ⟨by omega, by omega, by omega⟩, h3⟩
  · exact ⟨⟨by omega, by omega, by omega⟩, ⟨by omega, by omega, by omega⟩, h3⟩
theorem ml_fine {m e n f : Int} (hm : L m.natAbs ≤ 400) (hn : L n.natAbs ≤ 400) (he : -20000 ≤ e ∧ e ≤ 14000) (hf : -20000 ≤ f ∧ f ≤ 14000) : mkE (m * n) (e + f) = 0 := by
  have h1 := L_abs_mul m n
  exact mk_fine2 (by omega) (by omega)
theorem cmpQ_le {x y : Rat} : cmpQ x y ≤ 0 ↔ x ≤ y := by
  rcases cmpQ_range x y with ⟨q, k⟩ | ⟨q, k⟩ | ⟨q, k⟩
  · exact ⟨fun _ => Rat.le_of_lt k, fun _ => by omega⟩
  · exact ⟨fun h => by omega, fun h => absurd h (Rat.not_le.2 k)⟩
  · exact ⟨fun _ => by rw [k]; exact Rat.le_refl, fun _ => by omega⟩
theorem en_vdb (lo hi : Rat) (w : Int) : vdb (enM lo hi w) (enX lo hi w) = true ∧ vdb (enN lo hi w) (enF lo hi w) = true := by
  by_cases h : enE lo hi w = 0
  · obtain ⟨a, b, c, d⟩ := en_yes h
    rw [a, b, c, d]; exact ⟨vdb_mk, vdb_mk⟩
  · have e : enM lo hi w = 0 ∧ enX lo hi w = 0 ∧ enN lo hi w = 0 ∧ enF lo hi w = 0 := by
      refine ⟨?_, ?_, ?_, ?_⟩ <;> (first | unfold enM | unfold enX | unfold enN | unfold enF) <;> rw [if_neg h]
    rw [e.1, e.2.1, e.2.2.1, e.2.2.2]; exact ⟨rfl, rfl⟩
end Go.Proofs.YtmbpoibhamlkbaaGreatDoor

namespace Go.Proofs.YtmbpoibhamlkbaaGreatDoor
theorem nbits_ge (a : Nat) : 32 * L a ≤ nbits a + 32 := by
  have h : L a ≤ nbits a / 32 + 1 := L_le (by
    rw [B_pow]
    exact Nat.lt_of_lt_of_le (nbits_lt a) (Nat.pow_le_pow_right (by omega) (by omega)))
  omega
theorem endB_sz {m e : Int} (h : endB m e = true) : L m.natAbs ≤ 400 ∧ (m = 0 ∨ -8192 ≤ e ∧ e ≤ 2048) := by
  unfold endB onB topD at h
  simp only [Bool.and_eq_true, decide_eq_true_eq] at h
  obtain ⟨h1, _, h2⟩ := h
  have h3 := nbits_ge m.natAbs
  by_cases hm : m = 0
  · subst hm
    exact ⟨by have : L (0 : Int).natAbs = 0 := L_zero
              omega, .inl rfl⟩
  · rw [if_neg hm] at h1
    have := nbits_pos (show m.natAbs ≠ 0 by omega)
    exact ⟨by omega, .inr (by omega)⟩
theorem en_sz (lo hi : Rat) (w : Int) : L (enM lo hi w).natAbs ≤ 400 ∧ L (enN lo hi w).natAbs ≤ 400 ∧ (-8192 ≤ enX lo hi w ∧ enX lo hi w ≤ 2048) ∧ (-8192 ≤ enF lo hi w ∧ enF lo hi w ≤ 2048) := by
  by_cases h : enE lo hi w = 0
  · have hs : smB (enM lo hi w) (enX lo hi w) (enN lo hi w) (enF lo hi w) = true := by
      obtain ⟨a, b, c, d⟩ := en_yes h
      rw [a, b, c, d]
      unfold enE at h
      split at h
      · unfold ecE at h
        split at h
        · rename_i q; exact q.2.2
        · omega
      · omega
    have hv := en_vdb lo hi w
    unfold smB at hs
    simp only [Bool.and_eq_true] at hs
    have h1 := endB_sz hs.1.2
    have h2 := endB_sz hs.2
    refine ⟨h1.1, h2.1, ?_, ?_⟩
    · rcases h1.2 with k | k
      · have := hv.1; rw [k] at this; unfold vdb at this; rw [if_pos rfl] at this; have := of_decide_eq_true this; omega
      · exact k
    · rcases h2.2 with k | k
      · have := hv.2; rw [k] at this; unfold vdb at this; rw [if_pos rfl] at this; have := of_decide_eq_true this; omega
      · exact k
  · have e : enM lo hi w = 0 ∧ enX lo hi w = 0 ∧ enN lo hi w = 0 ∧ enF lo hi w = 0 := by
      refine ⟨?_, ?_, ?_, ?_⟩ <;> (first | unfold enM | unfold enX | unfold enN | unfold enF) <;> rw [if_neg h]
    rw [e.1, e.2.1, e.2.2.1, e.2.2.2]
    have : L (0 : Int).natAbs = 0 := L_zero
    omega
theorem not_of' {b : Bool} (h : b = true) : (!b) = false := by rw [h]; rfl
theorem en_mkE {lo hi : Rat} {w : Int} (h : enE lo hi w = 0) : mkE (flr lo w) (-w) = 0 ∧ mkE (cei hi w) (-w) = 0 := by
  unfold enE at h
  split at h
  · rcases ec_iff (mkM (flr lo w) (-w)) (mkX (flr lo w) (-w)) (mkM (cei hi w) (-w)) (mkX (cei hi w) (-w)) (mkE (flr lo w) (-w)) (mkE (cei hi w) (-w)) with ⟨_, a, b, _⟩ | ⟨k, _⟩
    · exact ⟨a, b⟩
    · omega
  · omega
end Go.Proofs.YtmbpoibhamlkbaaGreatDoor

namespace Go.Proofs.YtmbpoibhamlkbaaGreatDoor
theorem oM {p : Prop} (h : p := by first | omega | exact ml_fine (by omega) (by omega) (by omega) (by omega) | exact ad_fine (by omega) (by omega) (by omega) (by omega) | exact (en_vdb _ _ _).1 | exact (en_vdb _ _ _).2) : p := h
theorem oD {p : Prop} (h : p := by first | omega | exact ml_fine (by omega) (by omega) (by omega) (by omega) | exact ad_fine (by omega) (by omega) (by omega) (by omega) | exact (en_vdb _ _ _).1 | exact (en_vdb _ _ _).2 | decide) : p := h
theorem oN {p : Prop} (h : p := by first | omega | exact ml_fine (by omega) (by omega) (by omega) (by omega) | exact ad_fine (by omega) (by omega) (by omega) (by omega) | exact (en_vdb _ _ _).1 | exact (en_vdb _ _ _).2 | assumption) : p := h
theorem oN2 {p : Prop} (h : p := by first | omega | exact ml_fine (by omega) (by omega) (by omega) (by omega) | exact ad_fine (by omega) (by omega) (by omega) (by omega) | exact (en_vdb _ _ _).1 | exact (en_vdb _ _ _).2 | assumption | exact ad_fine (by omega) (by omega) (by omega) (by omega)) : p := h
theorem oP {p : Prop} (h : p := by first | assumption | omega | exact o1.2.2.2.2.1) : p := h
theorem oW {p : Prop} (h : p := by first | assumption | exact pw_or (by omega) | (simp; done) | omega) : p := h
theorem oS {p : Prop} (h : p := by first | omega | assumption) : p := h
theorem oR {p : Prop} (h : p := by first | omega | assumption | exact Rat.le_refl) : p := h
theorem oT {p : Prop} (h : p := by first | assumption | omega | exact Rat.le_refl | exact of0.2.2.2.2.1) : p := h
theorem oU {p : Prop} (h : p := by first | assumption | omega) : p := h
end Go.Proofs.YtmbpoibhamlkbaaGreatDoor

namespace Go.Proofs.YtmbpoibhamlkbaaGreatDoor
open Go.RowKit
set_option maxRecDepth 100000
def ivM (b : Bool) (l : List Nat) (e : Int) (c : Bool) (r : List Nat) (f n k : Int) : Int := (swM (mkM (rawI b l n) (e % (2 * k + 1) - k)) (mkX (rawI b l n) (e % (2 * k + 1) - k)) (mkM (rawI c r n) (f % (2 * k + 1) - k)) (mkX (rawI c r n) (f % (2 * k + 1) - k)))
def ivX (b : Bool) (l : List Nat) (e : Int) (c : Bool) (r : List Nat) (f n k : Int) : Int := (swX (mkM (rawI b l n) (e % (2 * k + 1) - k)) (mkX (rawI b l n) (e % (2 * k + 1) - k)) (mkM (rawI c r n) (f % (2 * k + 1) - k)) (mkX (rawI c r n) (f % (2 * k + 1) - k)))
def ivN (b : Bool) (l : List Nat) (e : Int) (c : Bool) (r : List Nat) (f n k : Int) : Int := (swN (mkM (rawI b l n) (e % (2 * k + 1) - k)) (mkX (rawI b l n) (e % (2 * k + 1) - k)) (mkM (rawI c r n) (f % (2 * k + 1) - k)) (mkX (rawI c r n) (f % (2 * k + 1) - k)))
def ivF (b : Bool) (l : List Nat) (e : Int) (c : Bool) (r : List Nat) (f n k : Int) : Int := (swF (mkM (rawI b l n) (e % (2 * k + 1) - k)) (mkX (rawI b l n) (e % (2 * k + 1) - k)) (mkM (rawI c r n) (f % (2 * k + 1) - k)) (mkX (rawI c r n) (f % (2 * k + 1) - k)))
theorem iv_fit {b : Bool} {l : List Nat} {e : Int} {c : Bool} {r : List Nat} {f n k : Int} (hl : Dig l) (hr : Dig r) (hn : 0 ≤ n ∧ n ≤ 800) (hk : 0 ≤ k ∧ k ≤ 20000) : ((L (ivM b l e c r f n k).natAbs ≤ n ∧ -k ≤ (ivX b l e c r f n k) ∧ (ivX b l e c r f n k) ≤ k + 32 * n) ∧ (L (ivN b l e c r f n k).natAbs ≤ n ∧ -k ≤ (ivF b l e c r f n k) ∧ (ivF b l e c r f n k) ≤ k + 32 * n)) ∧ vdb (ivM b l e c r f n k) (ivX b l e c r f n k) = true ∧ vdb (ivN b l e c r f n k) (ivF b l e c r f n k) = true ∧ dv (ivM b l e c r f n k) (ivX b l e c r f n k) ≤ dv (ivN b l e c r f n k) (ivF b l e c r f n k) := by
  have h := rawI_fit (b := b) (c := c) (e := e) (f := f) hl hr hn hk rfl rfl rfl rfl
  exact ⟨⟨h.1, h.2.1⟩, h.2.2⟩
theorem mill_Iv (b : Bool) (l : List Nat) (e : Int) (c : Bool) (r : List Nat) (f n k : Int) (c0 : Dig l) (c1 : l.length ≤ 9223372036854775807) (c2 : Dig r) (c3 : r.length ≤ 9223372036854775807) (c4 : (-9223372036854775808 : Int) ≤ e ∧ e ≤ 9223372036854775807) (c5 : (-9223372036854775808 : Int) ≤ f ∧ f ≤ 9223372036854775807) (c6 : (0 : Int) ≤ n ∧ n ≤ 800) (c7 : (0 : Int) ≤ k ∧ k ≤ 20000) : Impl Tryz.prog Amb 28 [(.agg [(.bool b), (.sl 1 (U l)), (.int .i64 e), (.bool c), (.sl 1 (U r)), (.int .i64 f)]), (.int .i64 n), (.int .i64 k)] (.tup [(wV (ivM b l e c r f n k) (ivX b l e c r f n k) (ivN b l e c r f n k) (ivF b l e c r f n k)), (.bool (decide ((l.length : Int) ≤ n ∧ (r.length : Int) ≤ n)))]) :=
  mill_Interval b l e c r f n k c0 c1 c2 c3 c4 c5 c6 c7
end Go.Proofs.YtmbpoibhamlkbaaGreatDoor

namespace Go.Proofs.YtmbpoibhamlkbaaGreatDoor
def rt : Nat → Nat
  | 0 => 0
  | n + 1 => if (rt n + 1) * (rt n + 1) ≤ n + 1 then rt n + 1 else rt n
theorem sq_succ (x : Nat) : (x + 1) * (x + 1) = x * x + 2 * x + 1 := by rw [Nat.mul_add, Nat.add_mul]; omega
theorem rt_spec : ∀ n, rt n * rt n ≤ n ∧ n < (rt n + 1) * (rt n + 1)
  | 0 => by simp [rt]
  | n + 1 => by
    have h := rt_spec n
    unfold rt
    have e := sq_succ (rt n + 1)
    split
    · exact ⟨by assumption, by omega⟩
    · exact ⟨by omega, by omega⟩
theorem sq_lt {r s : Nat} (h : r * r < s * s) : r < s := by
  refine Decidable.byContradiction fun q => ?_
  have := Nat.mul_le_mul (show s ≤ r by omega) (show s ≤ r by omega)
  omega
theorem rt_eq {r n : Nat} (h1 : r * r ≤ n) (h2 : n < (r + 1) * (r + 1)) : r = rt n := by
  have h := rt_spec n
  have a := sq_lt (Nat.lt_of_le_of_lt h1 h.2)
  have b := sq_lt (Nat.lt_of_le_of_lt h.1 h2)
  omega
theorem rt_zero : rt 0 = 0 := rfl
theorem rt_le (n : Nat) : rt n ≤ n := by
  have h := (rt_spec n).1
  rcases Nat.eq_zero_or_pos (rt n) with e | e
  · omega
  · have := Nat.mul_le_mul_right (rt n) e; omega
theorem rt_L (n : Nat) : L (rt n) ≤ L n := L_mono (rt_le n)
theorem four_mul_le (x z : Nat) : 4 * (x * z) ≤ (x + z) * (x + z) := by
  have e : (x + z) * (x + z) = x * x + 2 * (x * z) + z * z := by rw [Nat.mul_add, Nat.add_mul, Nat.add_mul, Nat.mul_comm z x]; omega
  have : 2 * (x * z) ≤ x * x + z * z := by
    rcases Nat.le_total x z with h | h
    · obtain ⟨d, rfl⟩ := Nat.le.dest h
      have e1 : (x + d) * (x + d) = x * x + 2 * (x * d) + d * d := by rw [Nat.mul_add, Nat.add_mul, Nat.add_mul, Nat.mul_comm d x]; omega
      have e2 : x * (x + d) = x * x + x * d := Nat.mul_add x x d
      omega
    · obtain ⟨d, rfl⟩ := Nat.le.dest h
      have e1 : (z + d) * (z + d) = z * z + 2 * (z * d) + d * d := by rw [Nat.mul_add, Nat.add_mul, Nat.add_mul, Nat.mul_comm d z]; omega
      have e2 : (z + d) * z = z * z + z * d := by rw [Nat.add_mul, Nat.mul_comm d z]
      omega
  omega
theorem nw_up {a x y : Nat} (hx : 0 < x) (hy : y = (x + a / x) / 2) : a < (y + 1) * (y + 1) := by
  have h1 : a < x * (a / x + 1) := by
    have := Nat.div_add_mod a x
    have := Nat.mod_lt a hx
    rw [Nat.mul_add]; omega
  have h2 := four_mul_le x (a / x + 1)
  have h3 : x + (a / x + 1) ≤ 2 * (y + 1) := by omega
  have h4 := Nat.mul_le_mul h3 h3
  have h5 : 2 * (y + 1) * (2 * (y + 1)) = 4 * ((y + 1) * (y + 1)) := by rw [Nat.mul_mul_mul_comm]
  omega
theorem nw_pos {a x y : Nat} (ha : 0 < a) (hx : 0 < x) (hy : y = (x + a / x) / 2) : 0 < y := by
  have := nw_up hx hy
  rcases Nat.eq_zero_or_pos y with e | e
  · subst e
    have : x = 1 ∨ 2 ≤ x := by omega
    rcases this with rfl | h
    · rw [Nat.div_one] at hy; omega
    · omega
  · exact e
theorem nw_end {a x y : Nat} (hx : 0 < x) (h : a < (x + 1) * (x + 1)) (hy : y = (x + a / x) / 2) (hle : x ≤ y) : x = rt a := by
  refine rt_eq ?_ h
  have h1 : x ≤ a / x := by omega
  exact Nat.le_trans (Nat.mul_le_mul_left x h1) (by have := Nat.div_mul_le_self a x; rw [Nat.mul_comm]; exact this)
theorem nw_init {a : Nat} {s : Nat} (hs : nbits a + 1 ≤ 2 * s + 1) : a < (1 * 2 ^ s + 1) * (1 * 2 ^ s + 1) := by
  have h1 := nbits_lt a
  have h2 : 2 ^ nbits a ≤ 2 ^ (s + s) := Nat.pow_le_pow_right (by omega) (by omega)
  rw [Nat.pow_add] at h2
  rw [Nat.one_mul, sq_succ]
  omega
theorem L_pow (a : Nat) : ∀ k, L (a ^ k) ≤ k * L a + 1
  | 0 => by rw [Nat.pow_zero]; have := L_le (n := 1) (k := 1) (by decide); omega
  | k + 1 => by
    have h := L_pow a k
    have h2 := L_mul (a ^ k) a
    rw [Nat.pow_succ, Nat.succ_mul]; omega
theorem L_pow64 {a : Nat} {k : Nat} (h : k ≤ 64) : L (a ^ k) ≤ 64 * L a + 1 := Nat.le_trans (L_pow a k) (by have := Nat.mul_le_mul_right (L a) h; omega)
theorem bit_64 : ∀ x : Fin 65, wAnd .i64 (x.val : Int) 1 = ((x.val % 2 : Nat) : Int) := by decide
theorem bit_n {n i : Int} (hn : 0 ≤ n ∧ n ≤ 64) (hi : 0 ≤ i ∧ i ≤ 6) : wAnd .i64 (Int.fdiv n (2 ^ (min i.toNat (IntKind.bits .i64)))) 1 = ((n.toNat / 2 ^ i.toNat % 2 : Nat) : Int) := by
  have e1 : min i.toNat (IntKind.bits .i64) = i.toNat := by
    rw [show IntKind.bits .i64 = 64 from rfl]; omega
  have hp : 0 < 2 ^ i.toNat := Nat.pow_pos (by omega)
  have e2 : Int.fdiv n (2 ^ i.toNat) = ((n.toNat / 2 ^ i.toNat : Nat) : Int) := by
    rw [Int.fdiv_eq_ediv_of_nonneg _ (by rw [pow_cast]; omega)]
    rw [Int.natCast_ediv, pow_cast, Int.toNat_of_nonneg hn.1]
  have h64 : n.toNat / 2 ^ i.toNat < 65 := Nat.lt_of_le_of_lt (Nat.div_le_self _ _) (by omega)
  rw [e1, e2]
  exact bit_64 ⟨_, h64⟩
theorem pw_step {a o : Nat} {n i : Int} (h : o = a ^ (n.toNat / 2 ^ (i + 1).toNat)) (hi : 0 ≤ i ∧ i ≤ 6) : a ^ (n.toNat / 2 ^ (i - 1 + 1).toNat) = o * o * a ^ (n.toNat / 2 ^ i.toNat % 2) := by
  rw [show (i - 1 + 1).toNat = i.toNat by omega, h, ← Nat.pow_add, ← Nat.pow_add, show (i + 1).toNat = i.toNat + 1 by omega, Nat.pow_succ, ← Nat.div_div_eq_div_mul]
  congr 1
  omega
theorem pw_y {a o : Nat} {n i : Int} (h : o = a ^ (n.toNat / 2 ^ (i + 1).toNat)) (hn : 0 ≤ n ∧ n ≤ 64) (hi : 0 ≤ i ∧ i ≤ 6) (hb : wAnd .i64 (Int.fdiv n (2 ^ (min i.toNat (IntKind.bits .i64)))) 1 = 1) :
    o * o * a = a ^ (n.toNat / 2 ^ (i - 1 + 1).toNat) := by
  rw [bit_n hn hi] at hb
  rw [pw_step h hi, show n.toNat / 2 ^ i.toNat % 2 = 1 by omega, Nat.pow_one]
theorem pw_n {a o : Nat} {n i : Int} (h : o = a ^ (n.toNat / 2 ^ (i + 1).toNat)) (hn : 0 ≤ n ∧ n ≤ 64) (hi : 0 ≤ i ∧ i ≤ 6) (hb : wAnd .i64 (Int.fdiv n (2 ^ (min i.toNat (IntKind.bits .i64)))) 1 ≠ 1) :
    o * o = a ^ (n.toNat / 2 ^ (i - 1 + 1).toNat) := by
  rw [bit_n hn hi] at hb
  rw [pw_step h hi, show n.toNat / 2 ^ i.toNat % 2 = 0 by omega, Nat.pow_zero, Nat.mul_one]
theorem sq_one {o : Nat} (h : L o = 1) (h1 : gi (limbs o) 0 = 1) : o = o * o := by
  have e : o = 1 := by have := gi_one h; omega
  rw [e]
theorem sq_one' {o a : Nat} (h : L o = 1) (h1 : gi (limbs o) 0 = 1) : o * a = o * o * a := by
  rw [← sq_one h h1]
def PsInv (a : Nat) (m : Int) (i c : Int) (l : List Nat) : Prop :=
  0 ≤ i ∧ i ≤ L a ∧ 0 ≤ c ∧ c < 4294967296 ∧ l.length = L a + 1 ∧ Dig l ∧ val (l.take i.toNat) + 4294967296 ^ i.toNat * c.toNat = val ((limbs a).take i.toNat) * m.toNat
theorem ps_init (a : Nat) (m : Int) : PsInv a m 0 0 (List.replicate (L a + 1) 0) := ⟨by omega, by omega, by omega, by omega, by simp, dig_rep _, by simp [val]⟩
theorem ps_bound {a : Nat} {m i c : Int} {l : List Nat} (h : PsInv a m i c l) (hm : 0 ≤ m ∧ m < 4294967296) : 0 ≤ gi (limbs a) i.toNat * m ∧ gi (limbs a) i.toNat * m ≤ 18446744065119617025 := by
  have hb := mul_bound ⟨gi_nonneg (limbs a) i.toNat, gi_lt (dig_limbs a) i.toNat⟩ hm (show (0 : Int) ≤ 0 ∧ (0 : Int) < 4294967296 by omega) (show (0 : Int) ≤ 0 ∧ (0 : Int) < 4294967296 by omega)
  exact ⟨hb.1, hb.2.1⟩
theorem ps_next {a : Nat} {m i c s : Int} {l : List Nat} (h : PsInv a m i c l) (hi : i < L a) (hm : 0 ≤ m ∧ m < 4294967296) (hs : s = c + gi (limbs a) i.toNat * m) :
    PsInv a m (i + 1) (Int.fdiv s (2 ^ 32)) (l.set i.toNat (IntKind.wrap .u32 s).toNat) := by
  have hb := ps_bound h hm
  obtain ⟨h0, h1, h2, h3, h4, h5, h6⟩ := h
  rw [fdiv_B, wrap_u32]
  refine ⟨by omega, by omega, by omega, by omega, by simpa using h4, dig_set h5 (by omega) _, ?_⟩
  rw [show (i + 1).toNat = i.toNat + 1 by omega, set_val _ _ (by omega), take_succ_val, Nat.pow_succ]
  rw [gi_eq] at hb hs
  generalize (limbs a).getD i.toNat 0 = x at *
  generalize 4294967296 ^ i.toNat = p at *
  obtain ⟨m, rfl⟩ := Int.eq_ofNat_of_zero_le hm.1
  obtain ⟨c, rfl⟩ := Int.eq_ofNat_of_zero_le h2
  have hsN : s = ((c + x * m : Nat) : Int) := by rw [hs]; simp
  subst hsN
  simp only [Int.toNat_natCast] at h6 ⊢
  generalize hS : c + x * m = S at *
  rw [show (((S : Nat) : Int) % 4294967296).toNat = S % 4294967296 by omega, show (((S : Nat) : Int) / 4294967296).toNat = S / 4294967296 by omega]
  rw [Nat.mul_assoc p, Nat.add_assoc, ← Nat.mul_add, Nat.mod_add_div, ← hS, Nat.mul_add, ← Nat.add_assoc, h6, Nat.add_mul, Nat.mul_assoc]
theorem ps_end {a : Nat} {m c : Int} {l : List Nat} (h : PsInv a m (L a : Int) c l) : Dig (l.set (L a) c.toNat) ∧ (l.set (L a) c.toNat).length = L a + 1 ∧ val (l.set (L a) c.toNat) = a * m.toNat := by
  obtain ⟨h0, h1, h2, h3, h4, h5, h6⟩ := h
  refine ⟨dig_set h5 (by omega) _, by simpa using h4, ?_⟩
  rw [Int.toNat_natCast, val_lim a (Nat.le_refl _)] at h6
  rw [← h6, ← val_all (l.set (L a) c.toNat) (n := L a + 1) (by simp; omega), set_val _ _ (by omega)]
end Go.Proofs.YtmbpoibhamlkbaaGreatDoor

namespace Go.Proofs.YtmbpoibhamlkbaaGreatDoor
theorem bil_ge1 {x1 x2 a c l : Rat} (h1 : x1 ≤ a) (h2 : a ≤ x2) (k1 : l ≤ x1 * c) (k2 : l ≤ x2 * c) : l ≤ a * c := by
  rcases (Rat.le_total : 0 ≤ c ∨ c ≤ 0) with h | h
  · exact Rat.le_trans k1 (Rat.mul_le_mul_of_nonneg_right h1 h)
  · have e : (-x2) * (-c) ≤ (-a) * (-c) := Rat.le_trans (Rat.le_refl) (by
      have hc : 0 ≤ -c := by grind
      have := Rat.mul_le_mul_of_nonneg_right h2 hc
      grind)
    have e' : x2 * c ≤ a * c := by grind
    exact Rat.le_trans k2 e'
theorem bil_ge {x1 x2 y1 y2 a b l : Rat} (h1 : x1 ≤ a) (h2 : a ≤ x2) (g1 : y1 ≤ b) (g2 : b ≤ y2) (k1 : l ≤ x1 * y1) (k2 : l ≤ x1 * y2) (k3 : l ≤ x2 * y1) (k4 : l ≤ x2 * y2) : l ≤ a * b := by
  refine bil_ge1 h1 h2 ?_ ?_
  · rw [Rat.mul_comm]; exact bil_ge1 g1 g2 (by rw [Rat.mul_comm]; exact k1) (by rw [Rat.mul_comm]; exact k2)
  · rw [Rat.mul_comm]; exact bil_ge1 g1 g2 (by rw [Rat.mul_comm]; exact k3) (by rw [Rat.mul_comm]; exact k4)
theorem bil_le {x1 x2 y1 y2 a b l : Rat} (h1 : x1 ≤ a) (h2 : a ≤ x2) (g1 : y1 ≤ b) (g2 : b ≤ y2) (k1 : x1 * y1 ≤ l) (k2 : x1 * y2 ≤ l) (k3 : x2 * y1 ≤ l) (k4 : x2 * y2 ≤ l) : a * b ≤ l := by
  have h := bil_ge (x1 := -x2) (x2 := -x1) (y1 := y1) (y2 := y2) (a := -a) (b := b) (l := -l) (by grind) (by grind) g1 g2 (by grind) (by grind) (by grind) (by grind)
  grind
theorem qmin_both (a b : Rat) : qmin a b ≤ a ∧ qmin a b ≤ b := by
  rcases qmin_or a b with ⟨h, k⟩ | ⟨h, k⟩ <;> rw [h]
  · exact ⟨Rat.le_of_lt k, Rat.le_refl⟩
  · exact ⟨Rat.le_refl, k⟩
theorem qmax_both (a b : Rat) : a ≤ qmax a b ∧ b ≤ qmax a b := by
  rcases qmax_or a b with ⟨h, k⟩ | ⟨h, k⟩ <;> rw [h]
  · exact ⟨Rat.le_of_lt k, Rat.le_refl⟩
  · exact ⟨Rat.le_refl, k⟩
theorem le_qmin {a b l : Rat} (h : l ≤ a) (k : l ≤ b) : l ≤ qmin a b := by rcases qmin_or a b with ⟨e, _⟩ | ⟨e, _⟩ <;> rw [e] <;> assumption
theorem qmax_le2 {a b l : Rat} (h : a ≤ l) (k : b ≤ l) : qmax a b ≤ l := by rcases qmax_or a b with ⟨e, _⟩ | ⟨e, _⟩ <;> rw [e] <;> assumption
theorem qmin4 (a b c d : Rat) : qmin (qmin (qmin a b) c) d ≤ a ∧ qmin (qmin (qmin a b) c) d ≤ b ∧ qmin (qmin (qmin a b) c) d ≤ c ∧ qmin (qmin (qmin a b) c) d ≤ d := by
  have h1 := qmin_both a b
  have h2 := qmin_both (qmin a b) c
  have h3 := qmin_both (qmin (qmin a b) c) d
  exact ⟨Rat.le_trans h3.1 (Rat.le_trans h2.1 h1.1), Rat.le_trans h3.1 (Rat.le_trans h2.1 h1.2), Rat.le_trans h3.1 h2.2, h3.2⟩
theorem qmax4 (a b c d : Rat) : a ≤ qmax (qmax (qmax a b) c) d ∧ b ≤ qmax (qmax (qmax a b) c) d ∧ c ≤ qmax (qmax (qmax a b) c) d ∧ d ≤ qmax (qmax (qmax a b) c) d := by
  have h1 := qmax_both a b
  have h2 := qmax_both (qmax a b) c
  have h3 := qmax_both (qmax (qmax a b) c) d
  exact ⟨Rat.le_trans h1.1 (Rat.le_trans h2.1 h3.1), Rat.le_trans h1.2 (Rat.le_trans h2.1 h3.1), Rat.le_trans h2.2 h3.1, h3.2⟩
theorem ml_in {m e n f p g q h : Int} {a b : Rat} (h1 : dv m e ≤ a) (h2 : a ≤ dv n f) (h3 : dv p g ≤ b) (h4 : b ≤ dv q h) : mlLo m e n f p g q h ≤ a * b ∧ a * b ≤ mlHi m e n f p g q h := by
  have l := qmin4 (dv m e * dv p g) (dv m e * dv q h) (dv n f * dv p g) (dv n f * dv q h)
  have r := qmax4 (dv m e * dv p g) (dv m e * dv q h) (dv n f * dv p g) (dv n f * dv q h)
  exact ⟨bil_ge h1 h2 h3 h4 l.1 l.2.1 l.2.2.1 l.2.2.2, bil_le h1 h2 h3 h4 r.1 r.2.1 r.2.2.1 r.2.2.2⟩
theorem inv_anti {a b : Rat} (h : 0 < a) (k : a ≤ b) : b⁻¹ ≤ a⁻¹ := by
  have hb : 0 < b := by grind
  have ha' := Rat.inv_pos.2 h
  have hb' := Rat.inv_pos.2 hb
  have e1 : a * a⁻¹ = 1 := Rat.mul_inv_cancel a (by grind)
  have e2 : b * b⁻¹ = 1 := Rat.mul_inv_cancel b (by grind)
  have h1 := Rat.mul_le_mul_of_nonneg_right k (Rat.le_of_lt (Rat.mul_pos ha' hb'))
  have e3 : a * (a⁻¹ * b⁻¹) = b⁻¹ := by rw [← Rat.mul_assoc, e1, Rat.one_mul]
  have e4 : b * (a⁻¹ * b⁻¹) = a⁻¹ := by rw [Rat.mul_comm a⁻¹, ← Rat.mul_assoc, e2, Rat.one_mul]
  rw [e3, e4] at h1; exact h1
theorem inv_anti2 {a b : Rat} (h : b < 0) (k : a ≤ b) : b⁻¹ ≤ a⁻¹ := by
  have := inv_anti (a := -b) (b := -a) (by grind) (by grind)
  have e1 : (-a)⁻¹ = -(a⁻¹) := by grind
  have e2 : (-b)⁻¹ = -(b⁻¹) := by grind
  rw [e1, e2] at this
  grind
theorem nbits_L2 (a : Nat) : nbits a ≤ 32 * L a := by
  have := nbits_L a; omega
theorem dm_nbits {m : Int} (h : m ≠ 0) : (nbits (dm m).natAbs : Int) + tz m.natAbs ≤ nbits m.natAbs := by
  have h1 := dm_mul m
  have h2 : m.natAbs = (dm m).natAbs * 2 ^ tz m.natAbs := by
    have := congrArg Int.natAbs h1
    rw [abs_shl] at this; exact this.symm
  have h3 := dm_ne h
  have h4 := nbits_le (show (dm m).natAbs ≠ 0 by omega)
  have h5 := nbits_pos (show (dm m).natAbs ≠ 0 by omega)
  have h6 := nbits_lt m.natAbs
  have h7 : 2 ^ (nbits (dm m).natAbs - 1 + tz m.natAbs) ≤ m.natAbs := by
    rw [Nat.pow_add]
    exact Nat.le_trans (Nat.mul_le_mul_right _ h4) (Nat.le_of_eq h2.symm)
  have h8 := (Nat.pow_lt_pow_iff_right (a := 2) (by omega)).1 (Nat.lt_of_le_of_lt h7 h6)
  omega
theorem end_ok {x w : Int} (h : L x.natAbs ≤ 60) (hw : 0 ≤ w ∧ w ≤ 300) : endB (mkM x (-w)) (mkX x (-w)) = true := by
  have hf := mk_fit (m := x) (e := -w) (by omega) (by omega)
  have hi := iMin_range (-w) 0
  unfold endB onB topD
  simp only [Bool.and_eq_true, decide_eq_true_eq]
  by_cases hx : x = 0
  · subst hx
    rw [(mk_zero _).1, if_pos rfl]
    exact ⟨by omega, by omega, .inl rfl⟩
  · have e1 : mkM x (-w) = dm x := by unfold mkM; rw [if_pos hf.1]
    have e2 : mkX x (-w) = -w + (tz x.natAbs : Int) := by unfold mkX; rw [if_pos ⟨hf.1, hx⟩]; rfl
    have h1 := dm_nbits hx
    have h2 := nbits_L2 x.natAbs
    rw [e1, if_neg (dm_ne hx), e2]
    exact ⟨by omega, by omega, .inr (by omega)⟩
theorem en_ok {lo hi : Rat} {w : Int} (hw : 0 ≤ w ∧ w ≤ 300) (h : lo ≤ hi) (h1 : L (flr lo w).natAbs ≤ 60) (h2 : L (cei hi w).natAbs ≤ 60) : enE lo hi w = 0 := by
  have a := mk_fit (m := flr lo w) (e := -w) (by omega) (by omega)
  have b := mk_fit (m := cei hi w) (e := -w) (by omega) (by omega)
  unfold enE
  rw [if_pos (by omega)]
  unfold ecE
  rw [if_pos]
  refine ⟨a.1, b.1, ?_⟩
  unfold smB ivB
  rw [end_ok h1 hw, end_ok h2 hw, a.2.2.2.2.1, b.2.2.2.2.1]
  simp only [Bool.and_true, Bool.true_and, decide_eq_true_eq]
  rw [cmpD_dv, a.2.2.2.2.2, b.2.2.2.2.2]
  exact cmpQ_le.2 (Rat.le_trans (flr_le lo w) (Rat.le_trans h (cei_ge hi w)))
theorem flr_cei {lo hi : Rat} (h : lo ≤ hi) (w : Int) : flr lo w ≤ cei hi w := (dv_le (c := -w)).1 (Rat.le_trans (flr_le lo w) (Rat.le_trans h (cei_ge hi w)))
theorem en_dv {lo hi : Rat} {w : Int} (h : enE lo hi w = 0) : dv (enM lo hi w) (enX lo hi w) = dv (flr lo w) (-w) ∧ dv (enN lo hi w) (enF lo hi w) = dv (cei hi w) (-w) := by
  obtain ⟨a, b, c, d⟩ := en_yes h
  obtain ⟨e1, e2⟩ := en_mkE h
  rw [a, b, c, d, dv_mk e1, dv_mk e2]
  exact ⟨rfl, rfl⟩
theorem en_within {lo hi lo' hi' : Rat} {w v : Int} (h : enE lo hi w = 0) (h' : enE lo' hi' v = 0) (hv : w ≤ v) (h1 : lo ≤ lo') (h2 : hi' ≤ hi) :
    decide (cmpD (enM lo hi w) (enX lo hi w) (enM lo' hi' v) (enX lo' hi' v) ≤ 0 ∧ cmpD (enN lo' hi' v) (enF lo' hi' v) (enN lo hi w) (enF lo hi w) ≤ 0) = true := by
  refine decide_eq_true ⟨?_, ?_⟩ <;> rw [cmpD_dv, cmpQ_le]
  · rw [(en_dv h).1, (en_dv h').1, dv_at (show -v ≤ -w by omega)]
    refine dv_le.2 (le_flr.2 ?_)
    rw [← dv_at (show -v ≤ -w by omega)]
    exact Rat.le_trans (flr_le lo w) h1
  · rw [(en_dv h).2, (en_dv h').2, dv_at (show -v ≤ -w by omega)]
    refine dv_le.2 (cei_le.2 ?_)
    rw [← dv_at (show -v ≤ -w by omega)]
    exact Rat.le_trans h2 (cei_ge hi w)
theorem mul_L {m e n f w : Int} (hm : L m.natAbs ≤ 8) (hn : L n.natAbs ≤ 8) (he : -300 ≤ e ∧ e ≤ 400) (hf : -300 ≤ f ∧ f ≤ 400) (hw : 0 ≤ w ∧ w ≤ 200) : L (flr (dv m e * dv n f) w).natAbs ≤ 60 ∧ L (cei (dv m e * dv n f) w).natAbs ≤ 60 := by
  have h1 := L_abs_mul m n
  have h2 := flr_LD (m * n) (e + f) w
  rw [dv_mul] at h2
  omega
theorem flr_qmin_L {a b : Rat} {w : Int} {k : Nat} (h : L (flr a w).natAbs ≤ k) (h' : L (flr b w).natAbs ≤ k) : L (flr (qmin a b) w).natAbs ≤ k := by
  rcases qmin_or a b with ⟨e, _⟩ | ⟨e, _⟩ <;> rw [e] <;> assumption
theorem cei_qmax_L {a b : Rat} {w : Int} {k : Nat} (h : L (cei a w).natAbs ≤ k) (h' : L (cei b w).natAbs ≤ k) : L (cei (qmax a b) w).natAbs ≤ k := by
  rcases qmax_or a b with ⟨e, _⟩ | ⟨e, _⟩ <;> rw [e] <;> assumption
def FitI (m e n f : Int) : Prop := (L m.natAbs ≤ 8 ∧ -300 ≤ e ∧ e ≤ 400) ∧ (L n.natAbs ≤ 8 ∧ -300 ≤ f ∧ f ≤ 400) ∧ dv m e ≤ dv n f
theorem ml_L {m e n f p g q h w : Int} (h1 : FitI m e n f) (h2 : FitI p g q h) (hw : 0 ≤ w ∧ w ≤ 200) : L (flr (mlLo m e n f p g q h) w).natAbs ≤ 60 ∧ L (cei (mlHi m e n f p g q h) w).natAbs ≤ 60 := by
  obtain ⟨a, b, _⟩ := h1
  obtain ⟨c, d, _⟩ := h2
  have k1 := mul_L a.1 c.1 a.2 c.2 hw
  have k2 := mul_L a.1 d.1 a.2 d.2 hw
  have k3 := mul_L b.1 c.1 b.2 c.2 hw
  have k4 := mul_L b.1 d.1 b.2 d.2 hw
  exact ⟨flr_qmin_L (flr_qmin_L (flr_qmin_L k1.1 k2.1) k3.1) k4.1, cei_qmax_L (cei_qmax_L (cei_qmax_L k1.2 k2.2) k3.2) k4.2⟩
theorem ml_le {m e n f p g q h : Int} (h1 : dv m e ≤ dv n f) (h2 : dv p g ≤ dv q h) : mlLo m e n f p g q h ≤ mlHi m e n f p g q h :=
  have k := ml_in (a := dv m e) (b := dv p g) Rat.le_refl h1 Rat.le_refl h2
  Rat.le_trans k.1 k.2
theorem ml_ok {m e n f p g q h w : Int} (h1 : FitI m e n f) (h2 : FitI p g q h) (hw : 0 ≤ w ∧ w ≤ 200) : enE (mlLo m e n f p g q h) (mlHi m e n f p g q h) w = 0 := by
  have k := ml_L h1 h2 hw
  exact en_ok (by omega) (ml_le h1.2.2 h2.2.2) k.1 k.2
end Go.Proofs.YtmbpoibhamlkbaaGreatDoor



namespace Go.Proofs.YtmbpoibhamlkbaaGreatDoor
open Go.RowKit
set_option maxRecDepth 100000
set_option maxHeartbeats 2000000
theorem N_zero : N 0 = .sl 1 [] := by simp [N, lim, limbs_zero, U]
theorem rt_nil {a : Nat} (h : a = 0) : vsub (.tup [.nil, .nil]) (.tup [N (rt a), N (a - rt a * rt a)]) := by
  subst h
  rw [rt_zero, N_zero]
  exact vsub_tup2 (vsub_nil 1) (vsub_nil 1)
theorem prod_Square (a : Nat) (c0 : L a ≤ 33554432) : Impl Tryz.prog Amb 220 [(N a)] (N (a * a)) := by
  exact impl_ob hP hAmb Tryz.func220 (by kernel_rfl) (.lit <| .call (N (a * a)) <| .lit <| .ret)
    (cast_ob (aI True.intro (aI (prod_Mul a a oA oA) (have f1 := L_mul a a; (vsub_refl (N (a * a)))))) (by kernel_rfl))
def prod_Small_0_mk (a : Nat) (m : Int) (x : Int × Int × List V × List Nat) : St := ⟨mkS 47 [(0, (.val (N a))), (1, (.val (.int .u32 m))), (7, (.osl 0 0 ((((lim a).length : Int) + 1).toNat) 1)), (8, (.val (.int .u64 x.2.1))), (17, (.val (N a))), (18, (.val (.int .i64 ((lim a).length : Int)))), (19, (.val (.int .i64 x.1)))], [⟨true, false, x.2.2.1⟩]⟩
def prod_Small_0_I (a : Nat) (m : Int) (x : Int × Int × List V × List Nat) : Prop := x.2.2.1 = U x.2.2.2 ∧ PsInv a m x.1 x.2.1 x.2.2.2
def prod_Small_0_mu (a : Nat) (_ : Int) (x : Int × Int × List V × List Nat) : Nat := ((L a : Int) - x.1).toNat
def prod_Small_0_ex (a : Nat) (_ : Int) (y : Int × List Nat) : Ex × St := (.exit 0, ⟨mkS 47 [(0, (.val (N a))), (7, (.osl 0 0 ((((lim a).length : Int) + 1).toNat) 1)), (8, (.val (.int .u64 y.1)))], [⟨true, false, (U y.2)⟩]⟩)
def prod_Small_0_J (a : Nat) (m : Int) (y : Int × List Nat) : Prop := PsInv a m (L a : Int) y.1 y.2
abbrev prod_Small_0_N (a : Nat) (m : Int) := NX (prod_Small_0_mk a m) (prod_Small_0_I a m) (prod_Small_0_mu a m) (prod_Small_0_ex a m) (prod_Small_0_J a m)
theorem prod_Small_0 (a : Nat) (m : Int) (c0 : L a ≤ 33554432)(c1 : (0 : Int) ≤ m ∧ m < 4294967296) (x0 : Int × Int × List V × List Nat) (hI : prod_Small_0_I a m x0) : LoopOk Tryz.prog Amb (loopN Tryz.f229 0) (prod_Small_0_mk a m x0) (fun e st_ => ∃ y, prod_Small_0_J a m y ∧ prod_Small_0_ex a m y = (e, st_)) :=
  loop_ob hP hAmb ⟨[0, 1, 7, 8, 17, 18, 19], 1, []⟩ (prod_Small_0_mk a m) (prod_Small_0_I a m) (prod_Small_0_mu a m) (prod_Small_0_ex a m) (prod_Small_0_J a m) x0 hI (fun (i, c, o, l) => .lit <| .both (.yes <| .yes <| .lit <| .yes <| .lit <| .yes <| .lit <| .yes <| .lit <| .yes <| .lit <| .no <| .yes <| .yes <| .lits 2 <| .yes <| .fin2 ⟨[0, 1, 7, 8, 17, 18, 19], 1, []⟩) (.fin2 ⟨[0, 7, 8], 1, []⟩)) (by
    rintro ⟨i, c, o, l⟩ hI
    have hI : o = U l ∧ PsInv a m i c l := hI
    obtain ⟨rfl, h1⟩ := hI
    have ⟨p0, p1, p2, p3, p4, p5, _⟩ := h1
    have e0 := L_len a
    have g4 := U_len l
    have hb := ps_bound h1 c1
    have g0 := gi_nonneg (limbs a) i.toNat
    have g1 := gi_lt (dig_limbs a) i.toNat
    exact cast_ob (aI True.intro (aI (fun (h101 : (iLt i ((lim a).length : Int)) = true) => have _gh101 := iLt_t h101; aI (inB_mk oA : (inB i ((lim a).length)) = true) (aI (ld_L oA : (Nat.blt i.toNat (lim a).length && isIntK .u32 (nth (lim a) i.toNat .unk)) = true) (aI (fits_u64 oA : (fits .u64 (gi (limbs a) i.toNat)) = true) (aI (fits_u64 oA : (fits .u64 m) = true) (aI (fits_u64 oA : (fits .u64 ((gi (limbs a) i.toNat) * m)) = true) (aI (fits_u64 oA : (fits .u64 (c + ((gi (limbs a) i.toNat) * m))) = true) (aI (inB_mk oA : (inB i ((((lim a).length : Int) + 1).toNat)) = true) (aI (st_ok oA : (Nat.ble ((0 + i.toNat) + 1) (U l).length) = true) (aI (fits_i64 oA : (fits .i64 (i + 1)) = true) (aI tT ((nx_next ((i + 1), (Int.fdiv (c + ((gi (limbs a) i.toNat) * m)) (2 ^ 32)), (List.set (U l) (0 + i.toNat) (.int .u32 (IntKind.wrap .u32 (c + ((gi (limbs a) i.toNat) * m))))), (l.set i.toNat (IntKind.wrap .u32 (c + ((gi (limbs a) i.toNat) * m))).toNat)) (show (List.set (U l) (0 + i.toNat) (.int .u32 (IntKind.wrap .u32 (c + ((gi (limbs a) i.toNat) * m))))) = U (l.set i.toNat (IntKind.wrap .u32 (c + ((gi (limbs a) i.toNat) * m))).toNat) ∧ PsInv a m (i + 1) (Int.fdiv (c + ((gi (limbs a) i.toNat) * m)) (2 ^ 32)) (l.set i.toNat (IntKind.wrap .u32 (c + ((gi (limbs a) i.toNat) * m))).toNat) from ⟨setU _ oO (wrap_pos _), ps_next h1 oO c1 rfl⟩) (show ((L a : Int) - (i + 1)).toNat < ((L a : Int) - i).toNat by omega) : prod_Small_0_N a m (i, c, (U l), l) .normal (prod_Small_0_mk a m ((i + 1), (Int.fdiv (c + ((gi (limbs a) i.toNat) * m)) (2 ^ 32)), (List.set (U l) (0 + i.toNat) (.int .u32 (IntKind.wrap .u32 (c + ((gi (limbs a) i.toNat) * m))))), (l.set i.toNat (IntKind.wrap .u32 (c + ((gi (limbs a) i.toNat) * m))).toNat))))))))))))))) (fun (h102 : (iLt i ((lim a).length : Int)) = false) => have _gh102 := iLt_f h102; aI tT ((nx_exit 0 ((prod_Small_0_ex a m (c, l)).2) (c, l) (show PsInv a m (L a : Int) c l from (show i = (L a : Int) by omega) ▸ h1) rfl : prod_Small_0_N a m (i, c, (U l), l) (.exit 0) ((prod_Small_0_ex a m (c, l)).2)))))) (by kernel_rfl))
theorem prod_Small (a : Nat) (m : Int) (c0 : L a ≤ 33554432) (c1 : (0 : Int) ≤ m ∧ m < 4294967296) : Impl Tryz.prog Amb 229 [(N a), (.int .u32 m), (.int .u32 0)] (N (a * (m).toNat)) := by
  have e0 := L_len a
  exact impl_ob hP hAmb Tryz.func229 (by kernel_rfl) (.lit <| .yes <| .yes <| .lit <| .yes <| .loop ⟨[0, 1, 7, 8, 17, 18, 19], 1, []⟩ ((prod_Small_0_mk a m (0, 0, (List.replicate ((((lim a).length : Int) + 1).toNat) (.int .u32 0)), (List.replicate (L a + 1) 0)))) (Int × List Nat) (prod_Small_0_ex a m) (prod_Small_0_J a m) (fun y => .lit <| .no <| .yes <| .yes <| .yes <| .call (N (val (y.2.set (L a) y.1.toNat))) <| .lit <| .ret))
    (cast_ob (aI True.intro (aI (fits_i64 oA : (fits .i64 (((lim a).length : Int) + 1)) = true) (aI (mk_ok oA : (((iEq (((lim a).length : Int) + 1) (((lim a).length : Int) + 1)) && (iLe 0 (((lim a).length : Int) + 1))) && (iLe (((lim a).length : Int) + 1) 1073741824)) = true) (aI tT (aI tT (aI (rfl : (prod_Small_0_mk a m (0, 0, (List.replicate ((((lim a).length : Int) + 1).toNat) (.int .u32 0)), (List.replicate (L a + 1) 0))) = (prod_Small_0_mk a m (0, 0, (List.replicate ((((lim a).length : Int) + 1).toNat) (.int .u32 0)), (List.replicate (L a + 1) 0)))) (aI (prod_Small_0 a m c0 c1 (0, 0, (List.replicate ((((lim a).length : Int) + 1).toNat) (.int .u32 0)), (List.replicate (L a + 1) 0)) (show (List.replicate ((((lim a).length : Int) + 1).toNat) (.int .u32 0)) = U (List.replicate (L a + 1) 0) ∧ PsInv a m 0 0 (List.replicate (L a + 1) 0) from ⟨by rw [L_len]; exact U_rep _, ps_init _ _⟩)) (fun y (hJ : prod_Small_0_J a m y) => have hJ : PsInv a m (L a : Int) y.1 y.2 := hJ; have ⟨_, _, q2, q3, q4, _⟩ := hJ; have q5 := U_len y.2; aI (inB_mk oA : (inB ((lim a).length : Int) ((((lim a).length : Int) + 1).toNat)) = true) (aI (st_ok oA : (Nat.ble ((0 + ((lim a).length : Int).toNat) + 1) (U y.2).length) = true) (aI (ok_arg oA : ((true && Nat.ble (0 + (((lim a).length : Int) + 1).toNat) (List.set (U y.2) (0 + ((lim a).length : Int).toNat) (.int .u32 (IntKind.wrap .u32 y.1))).length) && true) = true) (aI (nat_TrimC (List.take ((((lim a).length : Int) + 1).toNat) (List.drop 0 (List.set (U y.2) (0 + ((lim a).length : Int).toNat) (.int .u32 (IntKind.wrap .u32 y.1))))) (y.2.set (L a) y.1.toNat) (tkU (setU y.2 (show _ = L a by omega) (by rw [wrap_u32]; omega)) (by rw [(ps_end hJ).2.1]; omega)) (ps_end hJ).1 (by rw [(ps_end hJ).2.1]; omega)) ((vsub_of (congrArg N (ps_end hJ).2.2) : vsub (N (val (y.2.set (L a) y.1.toNat))) (N (a * (m).toNat))))))))))))))) (by kernel_rfl))
theorem prod_Small1 (a : Nat) (c0 : L a ≤ 33554432) : Impl Tryz.prog Amb 229 [(N a), (.int .u32 1), (.int .u32 0)] (N a) := by
  have h := prod_Small a 1 c0 oO
  rw [show (1 : Int).toNat = 1 from rfl, Nat.mul_one] at h
  exact h
def prod_Power_0_mk (a : Nat) (n : Int) (x : Int × Nat) : St := ⟨mkS 35 [(0, (.val (N a))), (1, (.val (.int .i64 n))), (5, (.val (N x.2))), (6, (.val (.int .i64 x.1)))], []⟩
def prod_Power_0_I (a : Nat) (n : Int) (x : Int × Nat) : Prop := -1 ≤ x.1 ∧ x.1 ≤ 6 ∧ x.2 = a ^ (n.toNat / 2 ^ (x.1 + 1).toNat)
def prod_Power_0_mu (_ : Nat) (_ : Int) (x : Int × Nat) : Nat := (x.1 + 1).toNat
def prod_Power_0_ex (_ : Nat) (_ : Int) (y : Nat) : Ex × St := (.exit 0, ⟨mkS 35 [(5, (.val (N y)))], []⟩)
def prod_Power_0_J (a : Nat) (n : Int) (y : Nat) : Prop := y = a ^ (n).toNat
abbrev prod_Power_0_N (a : Nat) (n : Int) := NX (prod_Power_0_mk a n) (prod_Power_0_I a n) (prod_Power_0_mu a n) (prod_Power_0_ex a n) (prod_Power_0_J a n)
theorem prod_Power_0 (a : Nat) (n : Int) (c0 : L a ≤ 4096)(c1 : (0 : Int) ≤ n ∧ n ≤ 64) (x0 : Int × Nat) (hI : prod_Power_0_I a n x0) : LoopOk Tryz.prog Amb (loopN Tryz.f198 0) (prod_Power_0_mk a n x0) (fun e st_ => ∃ y, prod_Power_0_J a n y ∧ prod_Power_0_ex a n y = (e, st_)) :=
  loop_ob hP hAmb ⟨[0, 1, 5, 6], 0, []⟩ (prod_Power_0_mk a n) (prod_Power_0_I a n) (prod_Power_0_mu a n) (prod_Power_0_ex a n) (prod_Power_0_J a n) x0 hI (fun (i, o) => .lit <| .both (.lit <| .both (.lits 6 <| .call (N (o * o)) <| .yes <| .lits 2 <| .both (.lit <| .call (N ((o * o) * a)) <| .lit <| .yes <| .fin2 ⟨[0, 1, 5, 6], 0, []⟩) (.lit <| .yes <| .fin2 ⟨[0, 1, 5, 6], 0, []⟩)) (.lit <| .yes <| .lit <| .yes <| .lits 3 <| .both (.lit <| .call (N (o * o)) <| .yes <| .lits 2 <| .both (.lit <| .call (N ((o * o) * a)) <| .lit <| .yes <| .fin2 ⟨[0, 1, 5, 6], 0, []⟩) (.lit <| .yes <| .fin2 ⟨[0, 1, 5, 6], 0, []⟩)) (.yes <| .lits 2 <| .both (.lit <| .call (N (o * a)) <| .lit <| .yes <| .fin2 ⟨[0, 1, 5, 6], 0, []⟩) (.lit <| .yes <| .fin2 ⟨[0, 1, 5, 6], 0, []⟩)))) (.fin2 ⟨[5], 0, []⟩)) (by
    rintro ⟨i, o⟩ hI
    have hI : -1 ≤ i ∧ i ≤ 6 ∧ o = a ^ (n.toNat / 2 ^ (i + 1).toNat) := hI
    obtain ⟨h1, h2, h3⟩ := hI
    have lo : L o ≤ 64 * L a + 1 := by rw [h3]; exact L_pow64 (Nat.le_trans (Nat.div_le_self _ _) oO)
    have e0 := L_len o
    exact cast_ob (aI True.intro (aI (fun (h101 : (iGe i 0) = true) => have _gh101 := iGe_t h101; aI (fun (h102 : (iNe ((lim o).length : Int) 1) = true) => have _gh102 := iNe_t h102; aI (prod_Square o oO) (have f106 := L_mul o o; aI (iLe_mk oO : (iLe 0 i) = true) (aI (fun (h103 : (iEq (wAnd .i64 (Int.fdiv n (2 ^ (min i.toNat (IntKind.bits .i64)))) (1 : Int)) 1) = true) => have _gh103 := iEq_t h103; aI (prod_Mul (o * o) a oO oO) (have f104 := L_mul (o * o) a; aI (fits_i64 oO : (fits .i64 (i - 1)) = true) (aI tT ((nx_next ((i - 1), ((o * o) * a)) (show -1 ≤ (i - 1) ∧ (i - 1) ≤ 6 ∧ ((o * o) * a) = a ^ (n.toNat / 2 ^ ((i - 1) + 1).toNat) from ⟨by omega, by omega, pw_y h3 c1 oO (by assumption)⟩) (show (i - 1 + 1).toNat < (i + 1).toNat by omega) : prod_Power_0_N a n (i, o) .normal (prod_Power_0_mk a n ((i - 1), ((o * o) * a)))))))) (fun (h105 : (iEq (wAnd .i64 (Int.fdiv n (2 ^ (min i.toNat (IntKind.bits .i64)))) (1 : Int)) 1) = false) => have _gh105 := iEq_f h105; aI (fits_i64 oO : (fits .i64 (i - 1)) = true) (aI tT ((nx_next ((i - 1), (o * o)) (show -1 ≤ (i - 1) ∧ (i - 1) ≤ 6 ∧ (o * o) = a ^ (n.toNat / 2 ^ ((i - 1) + 1).toNat) from ⟨by omega, by omega, pw_n h3 c1 oO (by assumption)⟩) (show (i - 1 + 1).toNat < (i + 1).toNat by omega) : prod_Power_0_N a n (i, o) .normal (prod_Power_0_mk a n ((i - 1), (o * o)))))))))) (fun (h107 : (iNe ((lim o).length : Int) 1) = false) => have _gh107 := iNe_f h107; aI (inB_mk oO : (inB (0 : Int) ((lim o).length)) = true) (aI (ld_L oO : (Nat.blt 0 (lim o).length && isIntK .u32 (nth (lim o) 0 .unk)) = true) (aI (fun (h108 : (iNe (gi (limbs o) 0) 1) = true) => have _gh108 := iNe_t h108; aI (prod_Square o oO) (have f112 := L_mul o o; aI (iLe_mk oO : (iLe 0 i) = true) (aI (fun (h109 : (iEq (wAnd .i64 (Int.fdiv n (2 ^ (min i.toNat (IntKind.bits .i64)))) (1 : Int)) 1) = true) => have _gh109 := iEq_t h109; aI (prod_Mul (o * o) a oO oO) (have f110 := L_mul (o * o) a; aI (fits_i64 oO : (fits .i64 (i - 1)) = true) (aI tT ((nx_next ((i - 1), ((o * o) * a)) (show -1 ≤ (i - 1) ∧ (i - 1) ≤ 6 ∧ ((o * o) * a) = a ^ (n.toNat / 2 ^ ((i - 1) + 1).toNat) from ⟨by omega, by omega, pw_y h3 c1 oO (by assumption)⟩) (show (i - 1 + 1).toNat < (i + 1).toNat by omega) : prod_Power_0_N a n (i, o) .normal (prod_Power_0_mk a n ((i - 1), ((o * o) * a)))))))) (fun (h111 : (iEq (wAnd .i64 (Int.fdiv n (2 ^ (min i.toNat (IntKind.bits .i64)))) (1 : Int)) 1) = false) => have _gh111 := iEq_f h111; aI (fits_i64 oO : (fits .i64 (i - 1)) = true) (aI tT ((nx_next ((i - 1), (o * o)) (show -1 ≤ (i - 1) ∧ (i - 1) ≤ 6 ∧ (o * o) = a ^ (n.toNat / 2 ^ ((i - 1) + 1).toNat) from ⟨by omega, by omega, pw_n h3 c1 oO (by assumption)⟩) (show (i - 1 + 1).toNat < (i + 1).toNat by omega) : prod_Power_0_N a n (i, o) .normal (prod_Power_0_mk a n ((i - 1), (o * o)))))))))) (fun (h113 : (iNe (gi (limbs o) 0) 1) = false) => have _gh113 := iNe_f h113; aI (iLe_mk oO : (iLe 0 i) = true) (aI (fun (h114 : (iEq (wAnd .i64 (Int.fdiv n (2 ^ (min i.toNat (IntKind.bits .i64)))) (1 : Int)) 1) = true) => have _gh114 := iEq_t h114; aI (prod_Mul o a oO oO) (have f115 := L_mul o a; aI (fits_i64 oO : (fits .i64 (i - 1)) = true) (aI tT ((nx_next ((i - 1), (o * a)) (show -1 ≤ (i - 1) ∧ (i - 1) ≤ 6 ∧ (o * a) = a ^ (n.toNat / 2 ^ ((i - 1) + 1).toNat) from ⟨by omega, by omega, (sq_one' oO (by assumption)).trans (pw_y h3 c1 oO (by assumption))⟩) (show (i - 1 + 1).toNat < (i + 1).toNat by omega) : prod_Power_0_N a n (i, o) .normal (prod_Power_0_mk a n ((i - 1), (o * a)))))))) (fun (h116 : (iEq (wAnd .i64 (Int.fdiv n (2 ^ (min i.toNat (IntKind.bits .i64)))) (1 : Int)) 1) = false) => have _gh116 := iEq_f h116; aI (fits_i64 oO : (fits .i64 (i - 1)) = true) (aI tT ((nx_next ((i - 1), o) (show -1 ≤ (i - 1) ∧ (i - 1) ≤ 6 ∧ o = a ^ (n.toNat / 2 ^ ((i - 1) + 1).toNat) from ⟨by omega, by omega, (sq_one oO (by assumption)).trans (pw_n h3 c1 oO (by assumption))⟩) (show (i - 1 + 1).toNat < (i + 1).toNat by omega) : prod_Power_0_N a n (i, o) .normal (prod_Power_0_mk a n ((i - 1), o)))))))))))) (fun (h117 : (iGe i 0) = false) => have _gh117 := iGe_f h117; aI tT ((nx_exit 0 ((prod_Power_0_ex a n o).2) o (show o = a ^ (n).toNat from (by rw [h3, show (i + 1).toNat = 0 by omega, Nat.pow_zero, Nat.div_one])) rfl : prod_Power_0_N a n (i, o) (.exit 0) ((prod_Power_0_ex a n o).2)))))) (by kernel_rfl))
theorem prod_Power (a : Nat) (n : Int) (c0 : L a ≤ 4096) (c1 : (0 : Int) ≤ n ∧ n ≤ 64) : Impl Tryz.prog Amb 198 [(N a), (.int .i64 n)] (N (a ^ (n).toNat)) := by
  have en : iMin (iMax n (0 : Int)) (64 : Int) = n := by unfold iMin iMax; split <;> split <;> omega
  exact impl_ob hP hAmb Tryz.func198 (by kernel_rfl) (.lits 3 <| .call (N 1) <| .loop ⟨[0, 1, 5, 6], 0, []⟩ ((prod_Power_0_mk a (iMin (iMax n (0 : Int)) (64 : Int)) ((6 : Int), 1))) (Nat) (prod_Power_0_ex a (iMin (iMax n (0 : Int)) (64 : Int))) (prod_Power_0_J a (iMin (iMax n (0 : Int)) (64 : Int))) (fun y => .lit <| .ret))
    (cast_ob (aI True.intro (aI (nat_Of 1 oA) (aI tT (aI (rfl : (prod_Power_0_mk a (iMin (iMax n (0 : Int)) (64 : Int)) ((6 : Int), 1)) = (prod_Power_0_mk a (iMin (iMax n (0 : Int)) (64 : Int)) ((6 : Int), 1))) (aI (prod_Power_0 a (iMin (iMax n (0 : Int)) (64 : Int)) c0 (by rw [en]; exact c1) ((6 : Int), 1) (show -1 ≤ (6 : Int) ∧ (6 : Int) ≤ 6 ∧ 1 = a ^ ((iMin (iMax n (0 : Int)) (64 : Int)).toNat / 2 ^ ((6 : Int) + 1).toNat) from ⟨by omega, by omega, (by rw [show ((6 : Int) + 1).toNat = 7 from rfl, Nat.div_eq_of_lt (show Int.toNat _ < 2 ^ 7 by omega)]; rfl)⟩)) (fun y (hJ : prod_Power_0_J a (iMin (iMax n (0 : Int)) (64 : Int)) y) => have hJ : y = a ^ ((iMin (iMax n (0 : Int)) (64 : Int))).toNat := hJ; (vsub_of (congrArg N (by rw [hJ, en])) : vsub (N y) (N (a ^ (n).toNat))))))))) (by kernel_rfl))
theorem prod_Power1 (a : Nat) (c0 : L a ≤ 4096) : Impl Tryz.prog Amb 198 [(N a), .int .i64 1] (N a) := by
  have h := prod_Power a 1 c0 oO
  rw [show (1 : Int).toNat = 1 from rfl, Nat.pow_one] at h
  exact h
def root_newton_0_mk (a : Nat) (x : Nat) : St := ⟨mkS 51 [(0, (.val (N a))), (1, (.val (.int .i64 2))), (5, (.val (N x)))], []⟩
def root_newton_0_I (a : Nat) (x : Nat) : Prop := 0 < x ∧ a < (x + 1) * (x + 1) ∧ L x ≤ 4096
def root_newton_0_mu (_ : Nat) (x : Nat) : Nat := x
def root_newton_0_ex (_ : Nat) (y : Nat) : Ex × St := (.ret, ⟨mkS 51 [(4, (.val (N y)))], []⟩)
def root_newton_0_J (a : Nat) (y : Nat) : Prop := y = rt a
abbrev root_newton_0_N (a : Nat) := NX (root_newton_0_mk a) (root_newton_0_I a) (root_newton_0_mu a) (root_newton_0_ex a) (root_newton_0_J a)
theorem root_newton_0 (a : Nat) (c0 : L a ≤ 4096)(c1 : 0 < a) (x0 : Nat) (hI : root_newton_0_I a x0) : LoopOk Tryz.prog Amb (loopN Tryz.f219 0) (root_newton_0_mk a x0) (fun e st_ => ∃ y, root_newton_0_J a y ∧ root_newton_0_ex a y = (e, st_)) :=
  loop_ob hP hAmb ⟨[0, 1, 5], 0, []⟩ (root_newton_0_mk a) (root_newton_0_I a) (root_newton_0_mu a) (root_newton_0_ex a) (root_newton_0_J a) x0 hI (fun z => .lit <| .yes <| .lit <| .call (N z) <| .lit <| .call (.tup [(N (a / z)), (N (a % z)), (.bool true)]) <| .lit <| .yes <| .lit <| .yes <| .lit <| .call (N z) <| .lit <| .call (N (z + (a / z))) <| .lit <| .yes <| .lit <| .call (.tup [(N ((z + (a / z)) / 2)), (.int .u32 (((z + (a / z)) % 2 : Nat) : Int)), (.bool true)]) <| .lit <| .call (.int .i64 (cmpN ((z + (a / z)) / 2) z)) <| .lit <| .both (.fin2 ⟨[4], 0, []⟩) (.fin2 ⟨[0, 1, 5], 0, []⟩)) (by
    rintro z hI
    have hI : 0 < z ∧ a < (z + 1) * (z + 1) ∧ L z ≤ 4096 := hI
    obtain ⟨h1, h2, h3⟩ := hI
    have l0 := L_div a z
    have l1 := L_add z (a / z)
    have l2 := L_div (z + a / z) 2
    have l3 := fun (q : (z + a / z) / 2 < z) => L_mono (Nat.le_of_lt q)
    have r0 := cmpN_range ((z + a / z) / 2) z
    exact cast_ob (aI True.intro (aI tT (aI (prod_Power1 z oO) (aI (quot_DivMod a z oO oO oO) (have f107 := L_mod a z; have f106 := L_div a z; aI tT (aI tT (aI (prod_Small1 z oO) (aI (nat_Add z (a / z) oO oO) (have f105 := L_add z (a / z); aI tT (aI (quot_SmallI (z + (a / z)) 2 oO oO) (have f104 := L_div (z + (a / z)) 2; aI (nat_Cmp ((z + (a / z)) / 2) z oO oO) (have f103 := cmpN_range ((z + (a / z)) / 2) z; aI (fun (h101 : (iGe (cmpN ((z + (a / z)) / 2) z) 0) = true) => have _gh101 := iGe_t h101; aI tT ((nx_ret ((root_newton_0_ex a z).2) z (show z = rt a from nw_end (y := (z + a / z) / 2) h1 h2 rfl oO) rfl : root_newton_0_N a z .ret ((root_newton_0_ex a z).2)))) (fun (h102 : (iGe (cmpN ((z + (a / z)) / 2) z) 0) = false) => have _gh102 := iGe_f h102; aI tT ((nx_next ((z + (a / z)) / 2) (show 0 < ((z + (a / z)) / 2) ∧ a < (((z + (a / z)) / 2) + 1) * (((z + (a / z)) / 2) + 1) ∧ L ((z + (a / z)) / 2) ≤ 4096 from ⟨nw_pos c1 h1 rfl, nw_up h1 rfl, by omega⟩) (show (z + a / z) / 2 < z by omega) : root_newton_0_N a z .normal (root_newton_0_mk a ((z + (a / z)) / 2))))))))))))))))) (by kernel_rfl))
theorem root_newton (a : Nat) (c0 : L a ≤ 4096) (c1 : 0 < a) : Impl Tryz.prog Amb 219 [(N a), (.int .i64 2)] (N (rt a)) := by
  have l0 := L_le (n := 1) (k := 1) (by decide)
  have b0 := nbits_L a
  have t0 : Int.tdiv (((nbits a : Int) + 2) - 1) (2 : Int) = ((nbits a : Int) + 2 - 1) / 2 := Int.tdiv_eq_ediv_of_nonneg oO
  have l1 := L_shl 1 (Int.tdiv (((nbits a : Int) + 2) - 1) (2 : Int)).toNat
  exact impl_ob hP hAmb Tryz.func219 (by kernel_rfl) (.lit <| .call (N 1) <| .lit <| .call (.int .i64 (nbits a : Int)) <| .lit <| .yes <| .lit <| .yes <| .lit <| .yes <| .lit <| .call (N (1 * 2 ^ ((Int.tdiv (((nbits a : Int) + 2) - 1) (2 : Int))).toNat)) <| .loop ⟨[0, 1, 5], 0, []⟩ ((root_newton_0_mk a (1 * 2 ^ ((Int.tdiv (((nbits a : Int) + 2) - 1) (2 : Int))).toNat))) (Nat) (root_newton_0_ex a) (root_newton_0_J a) (fun y => .lit <| .ret))
    (cast_ob (aI True.intro (aI (nat_Of 1 oA) (aI (nat_Bits a oA) (have f2 := nbits_L a; aI (fits_i64 oA : (fits .i64 ((nbits a : Int) + 2)) = true) (aI (fits_i64 oA : (fits .i64 (((nbits a : Int) + 2) - 1)) = true) (aI (fits_i64 oA : (fits .i64 (Int.tdiv (((nbits a : Int) + 2) - 1) (2 : Int))) = true) (aI (nat_Shl 1 (Int.tdiv (((nbits a : Int) + 2) - 1) (2 : Int)) oA oA) (have f1 := L_shl 1 ((Int.tdiv (((nbits a : Int) + 2) - 1) (2 : Int))).toNat; aI tT (aI (rfl : (root_newton_0_mk a (1 * 2 ^ ((Int.tdiv (((nbits a : Int) + 2) - 1) (2 : Int))).toNat)) = (root_newton_0_mk a (1 * 2 ^ ((Int.tdiv (((nbits a : Int) + 2) - 1) (2 : Int))).toNat))) (aI (root_newton_0 a c0 c1 (1 * 2 ^ ((Int.tdiv (((nbits a : Int) + 2) - 1) (2 : Int))).toNat) (show 0 < (1 * 2 ^ ((Int.tdiv (((nbits a : Int) + 2) - 1) (2 : Int))).toNat) ∧ a < ((1 * 2 ^ ((Int.tdiv (((nbits a : Int) + 2) - 1) (2 : Int))).toNat) + 1) * ((1 * 2 ^ ((Int.tdiv (((nbits a : Int) + 2) - 1) (2 : Int))).toNat) + 1) ∧ L ((1 * 2 ^ ((Int.tdiv (((nbits a : Int) + 2) - 1) (2 : Int))).toNat)) ≤ 4096 from ⟨by rw [Nat.one_mul]; exact Nat.pow_pos oO, nw_init oO, by omega⟩)) (fun y (hJ : root_newton_0_J a y) => have hJ : y = rt a := hJ; (vsub_of (congrArg N hJ) : vsub (N y) (N (rt a)))))))))))))) (by kernel_rfl))
theorem root_Sqrt (a : Nat) (c0 : L a ≤ 4096) : Impl Tryz.prog Amb 192 [(N a)] (.tup [(N (rt a)), (N (a - rt a * rt a))]) := by
  have e0 := L_len a
  have e1 := L_pos_iff a
  have s0 := (rt_spec a).1
  exact impl_ob hP hAmb Tryz.func192 (by kernel_rfl) (.lit <| .call (N a) <| .lit <| .both (.lit <| .ret) (.lit <| .call (N (rt a)) <| .lit <| .call (N ((rt a) * (rt a))) <| .lit <| .call (.tup [(N (a - ((rt a) * (rt a)))), (.bool (decide (((rt a) * (rt a)) ≤ a)))]) <| .lit <| .ret))
    (cast_ob (aI True.intro (aI (nat_TrimN a oA) (aI (fun (h1 : (iEq ((lim a).length : Int) 0) = true) => have _gh1 := iEq_t h1; (rt_nil oO : vsub (.tup [.nil, .nil]) (.tup [(N (rt a)), (N (a - rt a * rt a))]))) (fun (h2 : (iEq ((lim a).length : Int) 0) = false) => have _gh2 := iEq_f h2; aI (root_newton a oA oA) (have f5 := rt_L a; aI (prod_Square (rt a) oA) (have f4 := L_mul (rt a) (rt a); aI (nat_Sub2 a ((rt a) * (rt a)) oA oA) (have f3 := L_sub a ((rt a) * (rt a)); (vsub_of (by first | rfl | simp_all) : vsub (.tup [(N (rt a)), (N (a - ((rt a) * (rt a))))]) (.tup [(N (rt a)), (N (a - rt a * rt a))]))))))))) (by kernel_rfl))
end Go.Proofs.YtmbpoibhamlkbaaGreatDoor
