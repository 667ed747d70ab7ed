/-
  Lower layers: what functions of the program compute, and plain facts. Conditions: as the theorems say.
-/
import Derived.Test.YtmbpoibhamlkbaaGreatDoorPpP
set_option linter.unusedVariables false
set_option linter.unusedSimpArgs false
namespace Go.Proofs.YtmbpoibhamlkbaaGreatDoor
open Go.RowKit
set_option maxRecDepth 100000
theorem r11_Small (m : Int) (e : Int) (n : Int) (f : Int) (c0 : L (m).natAbs ≤ 8192) (c1 : (-65536 : Int) ≤ e ∧ e ≤ 65536) (c2 : L (n).natAbs ≤ 8192) (c3 : (-65536 : Int) ≤ f ∧ f ≤ 65536) : Impl Tryz.prog Amb 58 [(wV m e n f)] (.bool (smB m e n f)) := by
  exact impl_ob hP hAmb Tryz.func58 (by kernel_rfl) (.lits 2 <| .call (.bool (ivB m e n f)) <| .both (.lits 4 <| .call (.int .i64 (topD m e)) <| .lits 3 <| .both (.lits 4 <| .call (.int .i64 (topD n f)) <| .lits 3 <| .both (.lits 4 <| .call (.bool (decide (((-2048 : Int) ≤ (8192 : Int) ∧ (8192 : Int) ≤ 8192) ∧ (m = 0 ∨ -8192 ≤ e)))) <| .lit <| .both (.lits 4 <| .call (.bool (decide (((-2048 : Int) ≤ (8192 : Int) ∧ (8192 : Int) ≤ 8192) ∧ (n = 0 ∨ -8192 ≤ f)))) <| .lits 2 <| .ret) (.lits 4 <| .ret)) (.lits 8 <| .ret)) (.lits 13 <| .ret)) (.lits 18 <| .ret))
    (cast_ob (aI True.intro (aI (r10_Valid m e n f oA oA) (aI (fun (h1 : (ivB m e n f) = true) => aI (r08_Top m e oA oA) (have f9 := topD_range m e; aI (fun (h2 : (iLe (topD m e) 2048) = true) => have _gh2 := iLe_t h2; aI (r08_Top n f oA oA) (have f7 := topD_range n f; aI (fun (h3 : (iLe (topD n f) 2048) = true) => have _gh3 := iLe_t h3; aI (r09_On m e 8192 oA oA) (aI (fun (h4 : (decide (((-2048 : Int) ≤ (8192 : Int) ∧ (8192 : Int) ≤ 8192) ∧ (m = 0 ∨ -8192 ≤ e))) = true) => have _gh4 := of_decide_eq_true h4; aI (r09_On n f 8192 oA oA) ((vsub_of (congrArg V.bool (small_t (by assumption) oO oO oO)) : vsub (.bool (decide (((-2048 : Int) ≤ (8192 : Int) ∧ (8192 : Int) ≤ 8192) ∧ (n = 0 ∨ -8192 ≤ f)))) (.bool (smB m e n f))))) (fun (h5 : (decide (((-2048 : Int) ≤ (8192 : Int) ∧ (8192 : Int) ≤ 8192) ∧ (m = 0 ∨ -8192 ≤ e))) = false) => have _gh5 := of_decide_eq_false h5; (vsub_of (congrArg V.bool (small_f (by first | exact .inl (by assumption) | exact .inr oO))) : vsub (.bool false) (.bool (smB m e n f)))))) (fun (h6 : (iLe (topD n f) 2048) = false) => have _gh6 := iLe_f h6; (vsub_of (congrArg V.bool (small_f (by first | exact .inl (by assumption) | exact .inr oO))) : vsub (.bool false) (.bool (smB m e n f)))))) (fun (h8 : (iLe (topD m e) 2048) = false) => have _gh8 := iLe_f h8; (vsub_of (congrArg V.bool (small_f (by first | exact .inl (by assumption) | exact .inr oO))) : vsub (.bool false) (.bool (smB m e n f)))))) (fun (h10 : (ivB m e n f) = false) => (vsub_of (congrArg V.bool (small_f (by first | exact .inl (by assumption) | exact .inr oO))) : vsub (.bool false) (.bool (smB m e n f))))))) (by kernel_rfl))
theorem r11_Work (w : Int) (c0 : (-9223372036854775808 : Int) ≤ w ∧ w ≤ 9223372036854775807) : Impl Tryz.prog Amb 82 [(.int .i64 w)] (.bool (decide (0 ≤ w ∧ w ≤ 4096))) := by
  exact impl_ob hP hAmb Tryz.func82 (by kernel_rfl) (.lit <| .both (.lits 4 <| .ret) (.lits 3 <| .ret))
    (cast_ob (aI True.intro (aI (fun (h1 : (iGe w 0) = true) => have _gh1 := iGe_t h1; (vsub_of (congrArg V.bool (by first | exact work_1 oO | exact work_2 oO)) : vsub (.bool (iLe w 4096)) (.bool (decide (0 ≤ w ∧ w ≤ 4096))))) (fun (h2 : (iGe w 0) = false) => have _gh2 := iGe_f h2; (vsub_of (congrArg V.bool (by first | exact work_1 oO | exact work_2 oO)) : vsub (.bool false) (.bool (decide (0 ≤ w ∧ w ≤ 4096))))))) (by kernel_rfl))
def r11_enc2_mk (r0 r1 : Rat) (w : Int) (x : (Rat × Rat) ⊕ ((Rat × Rat) ⊕ (Rat × Rat))) : St := Sum.elim (fun (x : Rat × Rat) => ⟨mkS 70 [(1, (.val (.int .i64 w))), (4, (.own 0 0)), (6, (.own 1 0)), (7, (.own 2 0)), (25, (.val (.sl 3 [(V.bool (decide (r0.num < 0))), (N r0.num.natAbs), (N r0.den), (V.bool (decide (r1.num < 0))), (N r1.num.natAbs), (N r1.den)]))), (26, (.val (.int .i64 2))), (27, (.val (.int .i64 0)))], [⟨true, false, [(V.bool false), V.nil, (V.int .i64 0), (V.bool false), V.nil, (V.int .i64 0)]⟩, ⟨true, false, [(V.bool (decide (x.1.num < 0))), (N x.1.num.natAbs), (N x.1.den)]⟩, ⟨true, false, [(V.bool (decide (x.2.num < 0))), (N x.2.num.natAbs), (N x.2.den)]⟩]⟩) (fun (x : (Rat × Rat) ⊕ (Rat × Rat)) => Sum.elim (fun (x : Rat × Rat) => ⟨mkS 70 [(1, (.val (.int .i64 w))), (4, (.own 0 0)), (6, (.own 1 0)), (7, (.own 2 0)), (25, (.val (.sl 3 [(V.bool (decide (r0.num < 0))), (N r0.num.natAbs), (N r0.den), (V.bool (decide (r1.num < 0))), (N r1.num.natAbs), (N r1.den)]))), (26, (.val (.int .i64 2))), (27, (.val (.int .i64 1)))], [⟨true, false, [(V.bool false), V.nil, (V.int .i64 0), (V.bool false), V.nil, (V.int .i64 0)]⟩, ⟨true, false, [(V.bool (decide (x.1.num < 0))), (N x.1.num.natAbs), (N x.1.den)]⟩, ⟨true, false, [(V.bool (decide (x.2.num < 0))), (N x.2.num.natAbs), (N x.2.den)]⟩]⟩) (fun (x : Rat × Rat) => ⟨mkS 70 [(1, (.val (.int .i64 w))), (4, (.own 0 0)), (6, (.own 1 0)), (7, (.own 2 0)), (25, (.val (.sl 3 [(V.bool (decide (r0.num < 0))), (N r0.num.natAbs), (N r0.den), (V.bool (decide (r1.num < 0))), (N r1.num.natAbs), (N r1.den)]))), (26, (.val (.int .i64 2))), (27, (.val (.int .i64 2)))], [⟨true, false, [(V.bool false), V.nil, (V.int .i64 0), (V.bool false), V.nil, (V.int .i64 0)]⟩, ⟨true, false, [(V.bool (decide (x.1.num < 0))), (N x.1.num.natAbs), (N x.1.den)]⟩, ⟨true, false, [(V.bool (decide (x.2.num < 0))), (N x.2.num.natAbs), (N x.2.den)]⟩]⟩) x) x
def r11_enc2_I (r0 r1 : Rat) (_ : Int) (x : (Rat × Rat) ⊕ ((Rat × Rat) ⊕ (Rat × Rat))) : Prop := Sum.elim (fun (x : Rat × Rat) => x.1 = r0 ∧ x.2 = r0 ∧ L x.1.num.natAbs ≤ 6000 ∧ L x.1.den ≤ 6000 ∧ L x.2.num.natAbs ≤ 6000 ∧ L x.2.den ≤ 6000) (fun (x : (Rat × Rat) ⊕ (Rat × Rat)) => Sum.elim (fun (x : Rat × Rat) => x.1 = (qmin r0 r0) ∧ x.2 = (qmax r0 r0) ∧ L x.1.num.natAbs ≤ 6000 ∧ L x.1.den ≤ 6000 ∧ L x.2.num.natAbs ≤ 6000 ∧ L x.2.den ≤ 6000) (fun (x : Rat × Rat) => x.1 = (qmin (qmin r0 r0) r1) ∧ x.2 = (qmax (qmax r0 r0) r1) ∧ L x.1.num.natAbs ≤ 6000 ∧ L x.1.den ≤ 6000 ∧ L x.2.num.natAbs ≤ 6000 ∧ L x.2.den ≤ 6000) x) x
def r11_enc2_mu (_ _ : Rat) (_ : Int) (x : (Rat × Rat) ⊕ ((Rat × Rat) ⊕ (Rat × Rat))) : Nat := Sum.elim (fun (x : Rat × Rat) => 9 - 0) (fun (x : (Rat × Rat) ⊕ (Rat × Rat)) => Sum.elim (fun (x : Rat × Rat) => 9 - 1) (fun (x : Rat × Rat) => 9 - 2) x) x
def r11_enc2_ex (_ _ : Rat) (w : Int) (y : Rat × Rat) : Ex × St := (.exit 0, ⟨mkS 70 [(1, (.val (.int .i64 w))), (4, (.own 0 0)), (6, (.own 1 0)), (7, (.own 2 0))], [⟨true, false, [(V.bool false), V.nil, (V.int .i64 0), (V.bool false), V.nil, (V.int .i64 0)]⟩, ⟨true, false, [(V.bool (decide (y.1.num < 0))), (N y.1.num.natAbs), (N y.1.den)]⟩, ⟨true, false, [(V.bool (decide (y.2.num < 0))), (N y.2.num.natAbs), (N y.2.den)]⟩]⟩)
def r11_enc2_J (r0 r1 : Rat) (_ : Int) (y : Rat × Rat) : Prop := y.1 = (qmin (qmin r0 r0) r1) ∧ y.2 = (qmax (qmax r0 r0) r1) ∧ L y.1.num.natAbs ≤ 6000 ∧ L y.1.den ≤ 6000 ∧ L y.2.num.natAbs ≤ 6000 ∧ L y.2.den ≤ 6000
abbrev r11_enc2_N (r0 r1 : Rat) (w : Int) := NX (r11_enc2_mk r0 r1 w) (r11_enc2_I r0 r1 w) (r11_enc2_mu r0 r1 w) (r11_enc2_ex r0 r1 w) (r11_enc2_J r0 r1 w)
theorem r11_enc2 (r0 r1 : Rat) (w : Int) (c0 : L r0.num.natAbs ≤ 6000)(c1 : L r0.den ≤ 6000)(c2 : L r1.num.natAbs ≤ 6000)(c3 : L r1.den ≤ 6000)(c4 : (-9223372036854775808 : Int) ≤ w ∧ w ≤ 9223372036854775807) (x0 : (Rat × Rat) ⊕ ((Rat × Rat) ⊕ (Rat × Rat))) (hI : r11_enc2_I r0 r1 w x0) : LoopOk Tryz.prog Amb (loopN Tryz.f85 0) (r11_enc2_mk r0 r1 w x0) (fun e st_ => ∃ y, r11_enc2_J r0 r1 w y ∧ r11_enc2_ex r0 r1 w y = (e, st_)) :=
  loop_ob hP hAmb ⟨[1, 4, 6, 7, 25, 26, 27], 3, []⟩ (r11_enc2_mk r0 r1 w) (r11_enc2_I r0 r1 w) (r11_enc2_mu r0 r1 w) (r11_enc2_ex r0 r1 w) (r11_enc2_J r0 r1 w) x0 hI (Sum.elim (fun (a, b) => .lits 8 <| .call (.int .i64 (cmpQ r0 a)) <| .lit <| .both (.lits 5 <| .call (.int .i64 (cmpQ r0 b)) <| .lit <| .both (.lits 3 <| .yes <| .fin3 ⟨[1, 4, 6, 7, 25, 26, 27], [0, 1, 2]⟩) (.lit <| .yes <| .fin3 ⟨[1, 4, 6, 7, 25, 26, 27], [0, 1, 2]⟩)) (.lits 3 <| .call (.int .i64 (cmpQ r0 b)) <| .lit <| .both (.lits 3 <| .yes <| .fin3 ⟨[1, 4, 6, 7, 25, 26, 27], [0, 1, 2]⟩) (.lit <| .yes <| .fin3 ⟨[1, 4, 6, 7, 25, 26, 27], [0, 1, 2]⟩))) (Sum.elim (fun (a, b) => .lits 8 <| .call (.int .i64 (cmpQ r1 a)) <| .lit <| .both (.lits 5 <| .call (.int .i64 (cmpQ r1 b)) <| .lit <| .both (.lits 3 <| .yes <| .fin3 ⟨[1, 4, 6, 7, 25, 26, 27], [0, 1, 2]⟩) (.lit <| .yes <| .fin3 ⟨[1, 4, 6, 7, 25, 26, 27], [0, 1, 2]⟩)) (.lits 3 <| .call (.int .i64 (cmpQ r1 b)) <| .lit <| .both (.lits 3 <| .yes <| .fin3 ⟨[1, 4, 6, 7, 25, 26, 27], [0, 1, 2]⟩) (.lit <| .yes <| .fin3 ⟨[1, 4, 6, 7, 25, 26, 27], [0, 1, 2]⟩))) (fun (a, b) => .lits 2 <| .fin2 ⟨[1, 4, 6, 7], 3, []⟩))) (by
    rintro (⟨a, b⟩ | ⟨a, b⟩ | ⟨a, b⟩) hI
    · skip
      have hI : a = r0 ∧ b = r0 ∧ L a.num.natAbs ≤ 6000 ∧ L a.den ≤ 6000 ∧ L b.num.natAbs ≤ 6000 ∧ L b.den ≤ 6000 := hI
      obtain ⟨h1, h2, h3, h4, h5, h6⟩ := hI
      exact cast_ob (aI True.intro (aI (r07_Cmp r0 a oO oO oO oO) (have f109 := cmpQ_range r0 a; aI (fun (h101 : (iLt (cmpQ r0 a) 0) = true) => have _gh101 := iLt_t h101; aI (r07_Cmp r0 b oO oO oO oO) (have f104 := cmpQ_range r0 b; aI (fun (h102 : (iGt (cmpQ r0 b) 0) = true) => have _gh102 := iGt_t h102; aI tT (aI tT ((nx_next (Sum.inr (Sum.inl (r0, r0))) (show r0 = (qmin r0 r0) ∧ r0 = (qmax r0 r0) ∧ L r0.num.natAbs ≤ 6000 ∧ L r0.den ≤ 6000 ∧ L r0.num.natAbs ≤ 6000 ∧ L r0.den ≤ 6000 from ⟨qn_y h1 oO, qx_y h2 oO, by omega, by omega, by omega, by omega⟩) (show 9 - 1 < 9 - 0 by omega) : r11_enc2_N r0 r1 w (Sum.inl (a, b)) .normal (r11_enc2_mk r0 r1 w (Sum.inr (Sum.inl (r0, r0)))))))) (fun (h103 : (iGt (cmpQ r0 b) 0) = false) => have _gh103 := iGt_f h103; aI tT (aI tT ((nx_next (Sum.inr (Sum.inl (r0, b))) (show r0 = (qmin r0 r0) ∧ b = (qmax r0 r0) ∧ L r0.num.natAbs ≤ 6000 ∧ L r0.den ≤ 6000 ∧ L b.num.natAbs ≤ 6000 ∧ L b.den ≤ 6000 from ⟨qn_y h1 oO, qx_n h2 oO, by omega, by omega, by omega, by omega⟩) (show 9 - 1 < 9 - 0 by omega) : r11_enc2_N r0 r1 w (Sum.inl (a, b)) .normal (r11_enc2_mk r0 r1 w (Sum.inr (Sum.inl (r0, b)))))))))) (fun (h105 : (iLt (cmpQ r0 a) 0) = false) => have _gh105 := iLt_f h105; aI (r07_Cmp r0 b oO oO oO oO) (have f108 := cmpQ_range r0 b; aI (fun (h106 : (iGt (cmpQ r0 b) 0) = true) => have _gh106 := iGt_t h106; aI tT (aI tT ((nx_next (Sum.inr (Sum.inl (a, r0))) (show a = (qmin r0 r0) ∧ r0 = (qmax r0 r0) ∧ L a.num.natAbs ≤ 6000 ∧ L a.den ≤ 6000 ∧ L r0.num.natAbs ≤ 6000 ∧ L r0.den ≤ 6000 from ⟨qn_n h1 oO, qx_y h2 oO, by omega, by omega, by omega, by omega⟩) (show 9 - 1 < 9 - 0 by omega) : r11_enc2_N r0 r1 w (Sum.inl (a, b)) .normal (r11_enc2_mk r0 r1 w (Sum.inr (Sum.inl (a, r0)))))))) (fun (h107 : (iGt (cmpQ r0 b) 0) = false) => have _gh107 := iGt_f h107; aI tT (aI tT ((nx_next (Sum.inr (Sum.inl (a, b))) (show a = (qmin r0 r0) ∧ b = (qmax r0 r0) ∧ L a.num.natAbs ≤ 6000 ∧ L a.den ≤ 6000 ∧ L b.num.natAbs ≤ 6000 ∧ L b.den ≤ 6000 from ⟨qn_n h1 oO, qx_n h2 oO, by omega, by omega, by omega, by omega⟩) (show 9 - 1 < 9 - 0 by omega) : r11_enc2_N r0 r1 w (Sum.inl (a, b)) .normal (r11_enc2_mk r0 r1 w (Sum.inr (Sum.inl (a, b))))))))))))) (by kernel_rfl)
    · skip
      have hI : a = (qmin r0 r0) ∧ b = (qmax r0 r0) ∧ L a.num.natAbs ≤ 6000 ∧ L a.den ≤ 6000 ∧ L b.num.natAbs ≤ 6000 ∧ L b.den ≤ 6000 := hI
      obtain ⟨h1, h2, h3, h4, h5, h6⟩ := hI
      exact cast_ob (aI True.intro (aI (r07_Cmp r1 a oO oO oO oO) (have f109 := cmpQ_range r1 a; aI (fun (h101 : (iLt (cmpQ r1 a) 0) = true) => have _gh101 := iLt_t h101; aI (r07_Cmp r1 b oO oO oO oO) (have f104 := cmpQ_range r1 b; aI (fun (h102 : (iGt (cmpQ r1 b) 0) = true) => have _gh102 := iGt_t h102; aI tT (aI tT ((nx_next (Sum.inr (Sum.inr (r1, r1))) (show r1 = (qmin (qmin r0 r0) r1) ∧ r1 = (qmax (qmax r0 r0) r1) ∧ L r1.num.natAbs ≤ 6000 ∧ L r1.den ≤ 6000 ∧ L r1.num.natAbs ≤ 6000 ∧ L r1.den ≤ 6000 from ⟨qn_y h1 oO, qx_y h2 oO, by omega, by omega, by omega, by omega⟩) (show 9 - 2 < 9 - 1 by omega) : r11_enc2_N r0 r1 w (Sum.inr (Sum.inl (a, b))) .normal (r11_enc2_mk r0 r1 w (Sum.inr (Sum.inr (r1, r1)))))))) (fun (h103 : (iGt (cmpQ r1 b) 0) = false) => have _gh103 := iGt_f h103; aI tT (aI tT ((nx_next (Sum.inr (Sum.inr (r1, b))) (show r1 = (qmin (qmin r0 r0) r1) ∧ b = (qmax (qmax r0 r0) r1) ∧ L r1.num.natAbs ≤ 6000 ∧ L r1.den ≤ 6000 ∧ L b.num.natAbs ≤ 6000 ∧ L b.den ≤ 6000 from ⟨qn_y h1 oO, qx_n h2 oO, by omega, by omega, by omega, by omega⟩) (show 9 - 2 < 9 - 1 by omega) : r11_enc2_N r0 r1 w (Sum.inr (Sum.inl (a, b))) .normal (r11_enc2_mk r0 r1 w (Sum.inr (Sum.inr (r1, b)))))))))) (fun (h105 : (iLt (cmpQ r1 a) 0) = false) => have _gh105 := iLt_f h105; aI (r07_Cmp r1 b oO oO oO oO) (have f108 := cmpQ_range r1 b; aI (fun (h106 : (iGt (cmpQ r1 b) 0) = true) => have _gh106 := iGt_t h106; aI tT (aI tT ((nx_next (Sum.inr (Sum.inr (a, r1))) (show a = (qmin (qmin r0 r0) r1) ∧ r1 = (qmax (qmax r0 r0) r1) ∧ L a.num.natAbs ≤ 6000 ∧ L a.den ≤ 6000 ∧ L r1.num.natAbs ≤ 6000 ∧ L r1.den ≤ 6000 from ⟨qn_n h1 oO, qx_y h2 oO, by omega, by omega, by omega, by omega⟩) (show 9 - 2 < 9 - 1 by omega) : r11_enc2_N r0 r1 w (Sum.inr (Sum.inl (a, b))) .normal (r11_enc2_mk r0 r1 w (Sum.inr (Sum.inr (a, r1)))))))) (fun (h107 : (iGt (cmpQ r1 b) 0) = false) => have _gh107 := iGt_f h107; aI tT (aI tT ((nx_next (Sum.inr (Sum.inr (a, b))) (show a = (qmin (qmin r0 r0) r1) ∧ b = (qmax (qmax r0 r0) r1) ∧ L a.num.natAbs ≤ 6000 ∧ L a.den ≤ 6000 ∧ L b.num.natAbs ≤ 6000 ∧ L b.den ≤ 6000 from ⟨qn_n h1 oO, qx_n h2 oO, by omega, by omega, by omega, by omega⟩) (show 9 - 2 < 9 - 1 by omega) : r11_enc2_N r0 r1 w (Sum.inr (Sum.inl (a, b))) .normal (r11_enc2_mk r0 r1 w (Sum.inr (Sum.inr (a, b))))))))))))) (by kernel_rfl)
    · skip
      have hI : a = (qmin (qmin r0 r0) r1) ∧ b = (qmax (qmax r0 r0) r1) ∧ L a.num.natAbs ≤ 6000 ∧ L a.den ≤ 6000 ∧ L b.num.natAbs ≤ 6000 ∧ L b.den ≤ 6000 := hI
      obtain ⟨h1, h2, h3, h4, h5, h6⟩ := hI
      exact cast_ob (aI True.intro (aI tT ((nx_exit 0 ((r11_enc2_ex r0 r1 w (a, b)).2) (a, b) (show a = (qmin (qmin r0 r0) r1) ∧ b = (qmax (qmax r0 r0) r1) ∧ L a.num.natAbs ≤ 6000 ∧ L a.den ≤ 6000 ∧ L b.num.natAbs ≤ 6000 ∧ L b.den ≤ 6000 from ⟨h1, h2, h3, h4, h5, h6⟩) rfl : r11_enc2_N r0 r1 w (Sum.inr (Sum.inr (a, b))) (.exit 0) ((r11_enc2_ex r0 r1 w (a, b)).2))))) (by kernel_rfl))
theorem r11_Enclose2 (r0 : Rat) (r1 : Rat) (w : Int) (c0 : L r0.num.natAbs ≤ 6000) (c1 : L r0.den ≤ 6000) (c2 : L r1.num.natAbs ≤ 6000) (c3 : L r1.den ≤ 6000) (c4 : (-9223372036854775808 : Int) ≤ w ∧ w ≤ 9223372036854775807) : Impl Tryz.prog Amb 85 [(.sl 3 [(V.bool (decide (r0.num < 0))), (N r0.num.natAbs), (N r0.den), (V.bool (decide (r1.num < 0))), (N r1.num.natAbs), (N r1.den)]), (.int .i64 w)] (enV (qmin r0 r1) (qmax r0 r1) w) := by
  exact impl_ob hP hAmb Tryz.func85 (by kernel_rfl) (.lit <| .call (.bool (decide (0 ≤ w ∧ w ≤ 4096))) <| .lit <| .both (.lits 3 <| .ret) (.lits 4 <| .loop ⟨[1, 4, 6, 7, 25, 26, 27], 3, []⟩ ((r11_enc2_mk r0 r1 w (Sum.inl (r0, r0)))) (Rat × Rat) (r11_enc2_ex r0 r1 w) (r11_enc2_J r0 r1 w) (fun y => .lits 2 <| .call (mkT (flr y.1 w) (-w)) <| .lits 3 <| .call (mkT (cei y.2 w) (-w)) <| .lits 6 <| .both (.lits 10 <| .ret) (.lits 3 <| .both (.lits 7 <| .ret) (.lits 3 <| .call (.bool (smB (mkM (flr y.1 w) (-w)) (mkX (flr y.1 w) (-w)) (mkM (cei y.2 w) (-w)) (mkX (cei y.2 w) (-w)))) <| .lits 3 <| .both (.lits 3 <| .ret) (.lits 3 <| .ret))))))
    (cast_ob (aI True.intro (aI (r11_Work w oA) (aI (fun (h1 : (!(decide (0 ≤ w ∧ w ≤ 4096))) = true) => have _gh1 := of_decide_eq_false (notb_t h1); (en_vbad oO : vsub (e0T 1) (enV (qmin r0 r1) (qmax r0 r1) w))) (fun (h2 : (!(decide (0 ≤ w ∧ w ≤ 4096))) = false) => have _gh2 := of_decide_eq_true (notb_f h2); aI tT (aI (rfl : (r11_enc2_mk r0 r1 w (Sum.inl (r0, r0))) = (r11_enc2_mk r0 r1 w (Sum.inl (r0, r0)))) (aI (r11_enc2 r0 r1 w c0 c1 c2 c3 c4 (Sum.inl (r0, r0)) (show r0 = r0 ∧ r0 = r0 ∧ L (r0).num.natAbs ≤ 6000 ∧ L (r0).den ≤ 6000 ∧ L (r0).num.natAbs ≤ 6000 ∧ L (r0).den ≤ 6000 from ⟨rfl, rfl, by omega, by omega, by omega, by omega⟩)) (fun y (hJ : r11_enc2_J r0 r1 w y) => have hJ : y.1 = (qmin (qmin r0 r0) r1) ∧ y.2 = (qmax (qmax r0 r0) r1) ∧ L y.1.num.natAbs ≤ 6000 ∧ L y.1.den ≤ 6000 ∧ L y.2.num.natAbs ≤ 6000 ∧ L y.2.den ≤ 6000 := hJ; have ⟨j1, j2, j3, j4, j5, j6⟩ := hJ; aI (r09_FloorRat y.1 w oA oA oA) (have f14 := mk_facts (cei y.1 w) (-w); have f13 := mk_facts (flr y.1 w) (-w); have f12 := flr_L y.1 w; aI (r09_CeilRat y.2 w oA oA oA) (have f11 := mk_facts (cei y.2 w) (-w); have f10 := mk_facts (flr y.2 w) (-w); have f9 := flr_L y.2 w; aI (fun (h3 : (iNe (mkE (flr y.1 w) (-w)) 0) = true) => have _gh3 := iNe_t h3; (W_en0' (x := y.1) (y := y.2) (by rw [j1, qmin_self]) (by rw [j2, qmax_self]) oO (by first | exact not_smB (by assumption) | omega) : vsub (e0T 3) (enV (qmin r0 r1) (qmax r0 r1) w))) (fun (h4 : (iNe (mkE (flr y.1 w) (-w)) 0) = false) => have _gh4 := iNe_f h4; aI (fun (h5 : (iNe (mkE (cei y.2 w) (-w)) 0) = true) => have _gh5 := iNe_t h5; (W_en0' (x := y.1) (y := y.2) (by rw [j1, qmin_self]) (by rw [j2, qmax_self]) oO (by first | exact not_smB (by assumption) | omega) : vsub (e0T 3) (enV (qmin r0 r1) (qmax r0 r1) w))) (fun (h6 : (iNe (mkE (cei y.2 w) (-w)) 0) = false) => have _gh6 := iNe_f h6; aI (r11_Small (mkM (flr y.1 w) (-w)) (mkX (flr y.1 w) (-w)) (mkM (cei y.2 w) (-w)) (mkX (cei y.2 w) (-w)) oA oA oA oA) (aI (fun (h7 : (!(smB (mkM (flr y.1 w) (-w)) (mkX (flr y.1 w) (-w)) (mkM (cei y.2 w) (-w)) (mkX (cei y.2 w) (-w)))) = true) => (W_en0' (x := y.1) (y := y.2) (by rw [j1, qmin_self]) (by rw [j2, qmax_self]) oO (by first | exact not_smB (by assumption) | omega) : vsub (e0T 3) (enV (qmin r0 r1) (qmax r0 r1) w))) (fun (h8 : (!(smB (mkM (flr y.1 w) (-w)) (mkX (flr y.1 w) (-w)) (mkM (cei y.2 w) (-w)) (mkX (cei y.2 w) (-w)))) = false) => (W_en1' (x := y.1) (y := y.2) (by rw [j1, qmin_self]) (by rw [j2, qmax_self]) oO (is_smB oO oO (by assumption)) : vsub (.tup [(wV (mkM (flr y.1 w) (-w)) (mkX (flr y.1 w) (-w)) (mkM (cei y.2 w) (-w)) (mkX (cei y.2 w) (-w))), (.int .i64 0)]) (enV (qmin r0 r1) (qmax r0 r1) w))))))))))))))) (by kernel_rfl))
end Go.Proofs.YtmbpoibhamlkbaaGreatDoor

namespace Go.Proofs.YtmbpoibhamlkbaaGreatDoor
open Go.RowKit
set_option maxRecDepth 100000
theorem mill_Mod (v : Int) (n : Int) (c0 : (0 : Int) < n ∧ n ≤ 1000000000) (c1 : (-9223372036854775808 : Int) ≤ v ∧ v ≤ 9223372036854775807) : Impl Tryz.prog Amb 31 [(.int .i64 v), (.int .i64 n)] (.int .i64 (v % n)) := by
  have r0 := wRem_abs (v := v) (n := n) oO
  exact impl_ob hP hAmb Tryz.func31 (by kernel_rfl) (.yes <| .lit <| .both (.lit <| .yes <| .lit <| .ret) (.lit <| .ret))
    (cast_ob (aI True.intro (aI (iNe_mk oA : (iNe n 0) = true) (aI (fun (h1 : (iLt (wRem v n) 0) = true) => have _gh1 := iLt_t h1; aI (fits_i64 oA : (fits .i64 ((wRem v n) + n)) = true) ((vsub_of (congrArg (V.int .i64) (mod_neg oO oO)) : vsub (.int .i64 ((wRem v n) + n)) (.int .i64 (v % n))))) (fun (h2 : (iLt (wRem v n) 0) = false) => have _gh2 := iLt_f h2; (vsub_of (congrArg (V.int .i64) (mod_pos oO oO)) : vsub (.int .i64 (wRem v n)) (.int .i64 (v % n))))))) (by kernel_rfl))
theorem mill_Int (b : Bool) (l : List Nat) (n : Int) (c0 : Dig l) (c1 : l.length ≤ 9223372036854775807) (c2 : (0 : Int) ≤ n ∧ n ≤ 1000) : Impl Tryz.prog Amb 86 [(.agg [(.bool b), (.sl 1 (U l))]), (.int .i64 n)] (.tup [(zV (rawI b l n)), (.bool (decide ((l.length : Int) ≤ n)))]) := by
  have e0 := U_len l
  exact impl_ob hP hAmb Tryz.func86 (by kernel_rfl) (.lits 2 <| .both (.lits 3 <| .ret) (.lits 3 <| .call (zV (sgn b (val l))) <| .lits 2 <| .ret))
    (cast_ob (aI True.intro (aI (fun (h1 : (iGt ((U l).length : Int) n) = true) => have _gh1 := iGt_t h1; (raw_ret1 oO : vsub (.tup [(.agg [(.bool false), .nil]), (.bool false)]) (.tup [(zV (rawI b l n)), (.bool (decide ((l.length : Int) ≤ n)))]))) (fun (h2 : (iGt ((U l).length : Int) n) = false) => have _gh2 := iGt_f h2; aI (r05_NatC b (U l) l rfl c0 oO) (have f4 := L_val ‹Dig l›; have f3 := L_sgn b (val l); (raw_ret2 oO : vsub (.tup [(zV (sgn b (val l))), (.bool true)]) (.tup [(zV (rawI b l n)), (.bool (decide ((l.length : Int) ≤ n)))])))))) (by kernel_rfl))
theorem mill_Dyadic (b : Bool) (l : List Nat) (e : Int) (n : Int) (k : Int) (c0 : Dig l) (c1 : l.length ≤ 9223372036854775807) (c2 : (-9223372036854775808 : Int) ≤ e ∧ e ≤ 9223372036854775807) (c3 : (0 : Int) ≤ n ∧ n ≤ 800) (c4 : (0 : Int) ≤ k ∧ k ≤ 20000) : Impl Tryz.prog Amb 39 [(.agg [(.bool b), (.sl 1 (U l)), (.int .i64 e)]), (.int .i64 n), (.int .i64 k)] (.tup [(yV (mkM (rawI b l n) (e % (2 * k + 1) - k)) (mkX (rawI b l n) (e % (2 * k + 1) - k))), (.bool (decide ((l.length : Int) ≤ n)))]) := by
  have ej := Int.emod_nonneg e (show (2 * k + 1 : Int) ≠ 0 by omega)
  have ek := Int.emod_lt_of_pos e (show (0 : Int) < 2 * k + 1 by omega)
  exact impl_ob hP hAmb Tryz.func39 (by kernel_rfl) (.lits 2 <| .call (.tup [(zV (rawI b l n)), (.bool (decide ((l.length : Int) ≤ n)))]) <| .lits 2 <| .both (.lits 3 <| .ret) (.lits 3 <| .yes <| .lit <| .yes <| .lit <| .call (.int .i64 (e % (((2 : Int) * k) + 1))) <| .lit <| .yes <| .lit <| .call (mkT (rawI b l n) ((e % (((2 : Int) * k) + 1)) - k)) <| .lits 4 <| .ret))
    (cast_ob (aI True.intro (aI (mill_Int b l n oA oA oA) (have f6 := (rawI_L (b := b) ‹Dig l› (show (0 : Int) ≤ n by first | omega | (simp <;> omega))); aI (fun (h1 : (!(decide ((l.length : Int) ≤ n))) = true) => have _gh1 := of_decide_eq_false (notb_t h1); (rawd_ret1 oO : vsub (.tup [(.agg [(.bool false), .nil, (.int .i64 0)]), (.bool false)]) (.tup [(yV (mkM (rawI b l n) (e % (2 * k + 1) - k)) (mkX (rawI b l n) (e % (2 * k + 1) - k))), (.bool (decide ((l.length : Int) ≤ n)))]))) (fun (h2 : (!(decide ((l.length : Int) ≤ n))) = false) => have _gh2 := of_decide_eq_true (notb_f h2); aI (fits_i64 oA : (fits .i64 ((2 : Int) * k)) = true) (aI (fits_i64 oA : (fits .i64 (((2 : Int) * k) + 1)) = true) (aI (mill_Mod e (((2 : Int) * k) + 1) oA oA) (have f5 := Int.emod_lt_of_pos e (show (0 : Int) < (((2 : Int) * k) + 1) by first | omega | (simp <;> omega)); have f4 := Int.emod_nonneg e (show ((((2 : Int) * k) + 1) : Int) ≠ 0 by first | omega | (simp <;> omega)); aI (fits_i64 oA : (fits .i64 ((e % (((2 : Int) * k) + 1)) - k)) = true) (aI (r08_Make (rawI b l n) ((e % (((2 : Int) * k) + 1)) - k) oA oA) (have f3 := mk_facts (rawI b l n) ((e % (((2 : Int) * k) + 1)) - k); (vsub_tup2 (vsub_refl _) (vsub_of (congrArg V.bool (rawd_ok (mk_fine2 oO oO) oO))) : vsub (.tup [(yV (mkM (rawI b l n) ((e % (((2 : Int) * k) + 1)) - k)) (mkX (rawI b l n) ((e % (((2 : Int) * k) + 1)) - k))), (.bool (iEq (mkE (rawI b l n) ((e % (((2 : Int) * k) + 1)) - k)) 0))]) (.tup [(yV (mkM (rawI b l n) (e % (2 * k + 1) - k)) (mkX (rawI b l n) (e % (2 * k + 1) - k))), (.bool (decide ((l.length : Int) ≤ n)))]))))))))))) (by kernel_rfl))
theorem mill_Interval (b : Bool) (l : List Nat) (e : Int) (c : Bool) (r : List Nat) (f : Int) (n : Int) (k : Int) (c0 : Dig l) (c1 : l.length ≤ 9223372036854775807) (c2 : Dig r) (c3 : r.length ≤ 9223372036854775807) (c4 : (-9223372036854775808 : Int) ≤ e ∧ e ≤ 9223372036854775807) (c5 : (-9223372036854775808 : Int) ≤ f ∧ f ≤ 9223372036854775807) (c6 : (0 : Int) ≤ n ∧ n ≤ 800) (c7 : (0 : Int) ≤ k ∧ k ≤ 20000) : Impl Tryz.prog Amb 28 [(.agg [(.bool b), (.sl 1 (U l)), (.int .i64 e), (.bool c), (.sl 1 (U r)), (.int .i64 f)]), (.int .i64 n), (.int .i64 k)] (.tup [(wV (swM (mkM (rawI b l n) (e % (2 * k + 1) - k)) (mkX (rawI b l n) (e % (2 * k + 1) - k)) (mkM (rawI c r n) (f % (2 * k + 1) - k)) (mkX (rawI c r n) (f % (2 * k + 1) - k))) (swX (mkM (rawI b l n) (e % (2 * k + 1) - k)) (mkX (rawI b l n) (e % (2 * k + 1) - k)) (mkM (rawI c r n) (f % (2 * k + 1) - k)) (mkX (rawI c r n) (f % (2 * k + 1) - k))) (swN (mkM (rawI b l n) (e % (2 * k + 1) - k)) (mkX (rawI b l n) (e % (2 * k + 1) - k)) (mkM (rawI c r n) (f % (2 * k + 1) - k)) (mkX (rawI c r n) (f % (2 * k + 1) - k))) (swF (mkM (rawI b l n) (e % (2 * k + 1) - k)) (mkX (rawI b l n) (e % (2 * k + 1) - k)) (mkM (rawI c r n) (f % (2 * k + 1) - k)) (mkX (rawI c r n) (f % (2 * k + 1) - k)))), (.bool (decide ((l.length : Int) ≤ n ∧ (r.length : Int) ≤ n)))]) := by
  exact impl_ob hP hAmb Tryz.func28 (by kernel_rfl) (.lits 2 <| .call (.tup [(yV (mkM (rawI b l n) (e % (2 * k + 1) - k)) (mkX (rawI b l n) (e % (2 * k + 1) - k))), (.bool (decide ((l.length : Int) ≤ n)))]) <| .lits 3 <| .call (.tup [(yV (mkM (rawI c r n) (f % (2 * k + 1) - k)) (mkX (rawI c r n) (f % (2 * k + 1) - k))), (.bool (decide ((r.length : Int) ≤ n)))]) <| .lits 4 <| .call (.int .i64 (cmpD (mkM (rawI b l n) (e % (2 * k + 1) - k)) (mkX (rawI b l n) (e % (2 * k + 1) - k)) (mkM (rawI c r n) (f % (2 * k + 1) - k)) (mkX (rawI c r n) (f % (2 * k + 1) - k)))) <| .lit <| .both (.lits 7 <| .both (.lits 3 <| .ret) (.lits 3 <| .ret)) (.lits 3 <| .both (.lits 3 <| .ret) (.lits 3 <| .ret)))
    (cast_ob (aI True.intro (aI (mill_Dyadic b l e n k oA oA oA oA oA) (have f11 := (rawI_L (b := b) ‹Dig l› (show (0 : Int) ≤ n by first | omega | (simp <;> omega))); have f10 := mk_facts (rawI b l n) (e % (2 * k + 1) - k); aI (mill_Dyadic c r f n k oA oA oA oA oA) (have f9 := (rawI_L (b := c) ‹Dig r› (show (0 : Int) ≤ n by first | omega | (simp <;> omega))); have f8 := mk_facts (rawI c r n) (f % (2 * k + 1) - k); aI (r08_Cmp (mkM (rawI b l n) (e % (2 * k + 1) - k)) (mkX (rawI b l n) (e % (2 * k + 1) - k)) (mkM (rawI c r n) (f % (2 * k + 1) - k)) (mkX (rawI c r n) (f % (2 * k + 1) - k)) oA oA oA oA) (have f7 := cmpD_range (mkM (rawI b l n) (e % (2 * k + 1) - k)) (mkX (rawI b l n) (e % (2 * k + 1) - k)) (mkM (rawI c r n) (f % (2 * k + 1) - k)) (mkX (rawI c r n) (f % (2 * k + 1) - k)); aI (fun (h1 : (iGt (cmpD (mkM (rawI b l n) (e % (2 * k + 1) - k)) (mkX (rawI b l n) (e % (2 * k + 1) - k)) (mkM (rawI c r n) (f % (2 * k + 1) - k)) (mkX (rawI c r n) (f % (2 * k + 1) - k))) 0) = true) => have _gh1 := iGt_t h1; aI (fun (h2 : (decide ((l.length : Int) ≤ n)) = true) => have _gh2 := of_decide_eq_true h2; (W_of (sw_yes oO) (decide_eq_decide.2 oO) : vsub (.tup [(wV (mkM (rawI c r n) (f % (2 * k + 1) - k)) (mkX (rawI c r n) (f % (2 * k + 1) - k)) (mkM (rawI b l n) (e % (2 * k + 1) - k)) (mkX (rawI b l n) (e % (2 * k + 1) - k))), (.bool (decide ((r.length : Int) ≤ n)))]) (.tup [(wV (swM (mkM (rawI b l n) (e % (2 * k + 1) - k)) (mkX (rawI b l n) (e % (2 * k + 1) - k)) (mkM (rawI c r n) (f % (2 * k + 1) - k)) (mkX (rawI c r n) (f % (2 * k + 1) - k))) (swX (mkM (rawI b l n) (e % (2 * k + 1) - k)) (mkX (rawI b l n) (e % (2 * k + 1) - k)) (mkM (rawI c r n) (f % (2 * k + 1) - k)) (mkX (rawI c r n) (f % (2 * k + 1) - k))) (swN (mkM (rawI b l n) (e % (2 * k + 1) - k)) (mkX (rawI b l n) (e % (2 * k + 1) - k)) (mkM (rawI c r n) (f % (2 * k + 1) - k)) (mkX (rawI c r n) (f % (2 * k + 1) - k))) (swF (mkM (rawI b l n) (e % (2 * k + 1) - k)) (mkX (rawI b l n) (e % (2 * k + 1) - k)) (mkM (rawI c r n) (f % (2 * k + 1) - k)) (mkX (rawI c r n) (f % (2 * k + 1) - k)))), (.bool (decide ((l.length : Int) ≤ n ∧ (r.length : Int) ≤ n)))]))) (fun (h3 : (decide ((l.length : Int) ≤ n)) = false) => have _gh3 := of_decide_eq_false h3; (W_of (sw_yes oO) (decide_eq_false oO).symm : vsub (.tup [(wV (mkM (rawI c r n) (f % (2 * k + 1) - k)) (mkX (rawI c r n) (f % (2 * k + 1) - k)) (mkM (rawI b l n) (e % (2 * k + 1) - k)) (mkX (rawI b l n) (e % (2 * k + 1) - k))), (.bool false)]) (.tup [(wV (swM (mkM (rawI b l n) (e % (2 * k + 1) - k)) (mkX (rawI b l n) (e % (2 * k + 1) - k)) (mkM (rawI c r n) (f % (2 * k + 1) - k)) (mkX (rawI c r n) (f % (2 * k + 1) - k))) (swX (mkM (rawI b l n) (e % (2 * k + 1) - k)) (mkX (rawI b l n) (e % (2 * k + 1) - k)) (mkM (rawI c r n) (f % (2 * k + 1) - k)) (mkX (rawI c r n) (f % (2 * k + 1) - k))) (swN (mkM (rawI b l n) (e % (2 * k + 1) - k)) (mkX (rawI b l n) (e % (2 * k + 1) - k)) (mkM (rawI c r n) (f % (2 * k + 1) - k)) (mkX (rawI c r n) (f % (2 * k + 1) - k))) (swF (mkM (rawI b l n) (e % (2 * k + 1) - k)) (mkX (rawI b l n) (e % (2 * k + 1) - k)) (mkM (rawI c r n) (f % (2 * k + 1) - k)) (mkX (rawI c r n) (f % (2 * k + 1) - k)))), (.bool (decide ((l.length : Int) ≤ n ∧ (r.length : Int) ≤ n)))])))) (fun (h4 : (iGt (cmpD (mkM (rawI b l n) (e % (2 * k + 1) - k)) (mkX (rawI b l n) (e % (2 * k + 1) - k)) (mkM (rawI c r n) (f % (2 * k + 1) - k)) (mkX (rawI c r n) (f % (2 * k + 1) - k))) 0) = false) => have _gh4 := iGt_f h4; aI (fun (h5 : (decide ((l.length : Int) ≤ n)) = true) => have _gh5 := of_decide_eq_true h5; (W_of (sw_no oO) (decide_eq_decide.2 oO) : vsub (.tup [(wV (mkM (rawI b l n) (e % (2 * k + 1) - k)) (mkX (rawI b l n) (e % (2 * k + 1) - k)) (mkM (rawI c r n) (f % (2 * k + 1) - k)) (mkX (rawI c r n) (f % (2 * k + 1) - k))), (.bool (decide ((r.length : Int) ≤ n)))]) (.tup [(wV (swM (mkM (rawI b l n) (e % (2 * k + 1) - k)) (mkX (rawI b l n) (e % (2 * k + 1) - k)) (mkM (rawI c r n) (f % (2 * k + 1) - k)) (mkX (rawI c r n) (f % (2 * k + 1) - k))) (swX (mkM (rawI b l n) (e % (2 * k + 1) - k)) (mkX (rawI b l n) (e % (2 * k + 1) - k)) (mkM (rawI c r n) (f % (2 * k + 1) - k)) (mkX (rawI c r n) (f % (2 * k + 1) - k))) (swN (mkM (rawI b l n) (e % (2 * k + 1) - k)) (mkX (rawI b l n) (e % (2 * k + 1) - k)) (mkM (rawI c r n) (f % (2 * k + 1) - k)) (mkX (rawI c r n) (f % (2 * k + 1) - k))) (swF (mkM (rawI b l n) (e % (2 * k + 1) - k)) (mkX (rawI b l n) (e % (2 * k + 1) - k)) (mkM (rawI c r n) (f % (2 * k + 1) - k)) (mkX (rawI c r n) (f % (2 * k + 1) - k)))), (.bool (decide ((l.length : Int) ≤ n ∧ (r.length : Int) ≤ n)))]))) (fun (h6 : (decide ((l.length : Int) ≤ n)) = false) => have _gh6 := of_decide_eq_false h6; (W_of (sw_no oO) (decide_eq_false oO).symm : vsub (.tup [(wV (mkM (rawI b l n) (e % (2 * k + 1) - k)) (mkX (rawI b l n) (e % (2 * k + 1) - k)) (mkM (rawI c r n) (f % (2 * k + 1) - k)) (mkX (rawI c r n) (f % (2 * k + 1) - k))), (.bool false)]) (.tup [(wV (swM (mkM (rawI b l n) (e % (2 * k + 1) - k)) (mkX (rawI b l n) (e % (2 * k + 1) - k)) (mkM (rawI c r n) (f % (2 * k + 1) - k)) (mkX (rawI c r n) (f % (2 * k + 1) - k))) (swX (mkM (rawI b l n) (e % (2 * k + 1) - k)) (mkX (rawI b l n) (e % (2 * k + 1) - k)) (mkM (rawI c r n) (f % (2 * k + 1) - k)) (mkX (rawI c r n) (f % (2 * k + 1) - k))) (swN (mkM (rawI b l n) (e % (2 * k + 1) - k)) (mkX (rawI b l n) (e % (2 * k + 1) - k)) (mkM (rawI c r n) (f % (2 * k + 1) - k)) (mkX (rawI c r n) (f % (2 * k + 1) - k))) (swF (mkM (rawI b l n) (e % (2 * k + 1) - k)) (mkX (rawI b l n) (e % (2 * k + 1) - k)) (mkM (rawI c r n) (f % (2 * k + 1) - k)) (mkX (rawI c r n) (f % (2 * k + 1) - k)))), (.bool (decide ((l.length : Int) ≤ n ∧ (r.length : Int) ≤ n)))]))))))))) (by kernel_rfl))
theorem mill_Thin (m : Int) (e : Int) (n : Int) (f : Int) (k : Int) (c0 : L (m).natAbs ≤ 800) (c1 : L (n).natAbs ≤ 800) (c2 : -65536 ≤ e ∧ e ≤ 65536) (c3 : -65536 ≤ f ∧ f ≤ 65536) (c4 : (0 : Int) ≤ k ∧ k ≤ 800) : Impl Tryz.prog Amb 18 [(wV m e n f), (.int .i64 k)] (wV m e (thM (mkM (adS m e (mkM (1 : Int) ((0 : Int) - k)) (mkX (1 : Int) ((0 : Int) - k))) (iMin e (mkX (1 : Int) ((0 : Int) - k)))) (mkX (adS m e (mkM (1 : Int) ((0 : Int) - k)) (mkX (1 : Int) ((0 : Int) - k))) (iMin e (mkX (1 : Int) ((0 : Int) - k)))) n f) (thX (mkM (adS m e (mkM (1 : Int) ((0 : Int) - k)) (mkX (1 : Int) ((0 : Int) - k))) (iMin e (mkX (1 : Int) ((0 : Int) - k)))) (mkX (adS m e (mkM (1 : Int) ((0 : Int) - k)) (mkX (1 : Int) ((0 : Int) - k))) (iMin e (mkX (1 : Int) ((0 : Int) - k)))) n f)) := by
  exact impl_ob hP hAmb Tryz.func18 (by kernel_rfl) (.lit <| .call (zV (1 : Int)) <| .lit <| .yes <| .lit <| .call (mkT (1 : Int) ((0 : Int) - k)) <| .lits 4 <| .call (mkT (adS m e (mkM (1 : Int) ((0 : Int) - k)) (mkX (1 : Int) ((0 : Int) - k))) (iMin e (mkX (1 : Int) ((0 : Int) - k)))) <| .lits 4 <| .call (.int .i64 (cmpD (mkM (adS m e (mkM (1 : Int) ((0 : Int) - k)) (mkX (1 : Int) ((0 : Int) - k))) (iMin e (mkX (1 : Int) ((0 : Int) - k)))) (mkX (adS m e (mkM (1 : Int) ((0 : Int) - k)) (mkX (1 : Int) ((0 : Int) - k))) (iMin e (mkX (1 : Int) ((0 : Int) - k)))) n f)) <| .lit <| .both (.lits 5 <| .ret) (.lits 3 <| .ret))
    (cast_ob (aI True.intro (aI (r05_Of 1 oA) (have f7 := (L_i64 oA : L (1 : Int).natAbs ≤ 2); aI (fits_i64 oA : (fits .i64 ((0 : Int) - k)) = true) (aI (r08_Make (1 : Int) ((0 : Int) - k) oA oA) (have f6 := mk_facts (1 : Int) ((0 : Int) - k); aI (r08_Add m e (mkM (1 : Int) ((0 : Int) - k)) (mkX (1 : Int) ((0 : Int) - k)) oA oA oA oA) (have f5 := mk_facts (adS m e (mkM (1 : Int) ((0 : Int) - k)) (mkX (1 : Int) ((0 : Int) - k))) (iMin e (mkX (1 : Int) ((0 : Int) - k))); have f4 := ad_facts m e (mkM (1 : Int) ((0 : Int) - k)) (mkX (1 : Int) ((0 : Int) - k)) oA oA; aI (r08_Cmp (mkM (adS m e (mkM (1 : Int) ((0 : Int) - k)) (mkX (1 : Int) ((0 : Int) - k))) (iMin e (mkX (1 : Int) ((0 : Int) - k)))) (mkX (adS m e (mkM (1 : Int) ((0 : Int) - k)) (mkX (1 : Int) ((0 : Int) - k))) (iMin e (mkX (1 : Int) ((0 : Int) - k)))) n f oA oA oA oA) (have f3 := cmpD_range (mkM (adS m e (mkM (1 : Int) ((0 : Int) - k)) (mkX (1 : Int) ((0 : Int) - k))) (iMin e (mkX (1 : Int) ((0 : Int) - k)))) (mkX (adS m e (mkM (1 : Int) ((0 : Int) - k)) (mkX (1 : Int) ((0 : Int) - k))) (iMin e (mkX (1 : Int) ((0 : Int) - k)))) n f; aI (fun (h1 : (iLt (cmpD (mkM (adS m e (mkM (1 : Int) ((0 : Int) - k)) (mkX (1 : Int) ((0 : Int) - k))) (iMin e (mkX (1 : Int) ((0 : Int) - k)))) (mkX (adS m e (mkM (1 : Int) ((0 : Int) - k)) (mkX (1 : Int) ((0 : Int) - k))) (iMin e (mkX (1 : Int) ((0 : Int) - k)))) n f) 0) = true) => have _gh1 := iLt_t h1; (W1_of (th_yes oO) : vsub (wV m e (mkM (adS m e (mkM (1 : Int) ((0 : Int) - k)) (mkX (1 : Int) ((0 : Int) - k))) (iMin e (mkX (1 : Int) ((0 : Int) - k)))) (mkX (adS m e (mkM (1 : Int) ((0 : Int) - k)) (mkX (1 : Int) ((0 : Int) - k))) (iMin e (mkX (1 : Int) ((0 : Int) - k))))) (wV m e (thM (mkM (adS m e (mkM (1 : Int) ((0 : Int) - k)) (mkX (1 : Int) ((0 : Int) - k))) (iMin e (mkX (1 : Int) ((0 : Int) - k)))) (mkX (adS m e (mkM (1 : Int) ((0 : Int) - k)) (mkX (1 : Int) ((0 : Int) - k))) (iMin e (mkX (1 : Int) ((0 : Int) - k)))) n f) (thX (mkM (adS m e (mkM (1 : Int) ((0 : Int) - k)) (mkX (1 : Int) ((0 : Int) - k))) (iMin e (mkX (1 : Int) ((0 : Int) - k)))) (mkX (adS m e (mkM (1 : Int) ((0 : Int) - k)) (mkX (1 : Int) ((0 : Int) - k))) (iMin e (mkX (1 : Int) ((0 : Int) - k)))) n f)))) (fun (h2 : (iLt (cmpD (mkM (adS m e (mkM (1 : Int) ((0 : Int) - k)) (mkX (1 : Int) ((0 : Int) - k))) (iMin e (mkX (1 : Int) ((0 : Int) - k)))) (mkX (adS m e (mkM (1 : Int) ((0 : Int) - k)) (mkX (1 : Int) ((0 : Int) - k))) (iMin e (mkX (1 : Int) ((0 : Int) - k)))) n f) 0) = false) => have _gh2 := iLt_f h2; (W1_of (th_no oO) : vsub (wV m e n f) (wV m e (thM (mkM (adS m e (mkM (1 : Int) ((0 : Int) - k)) (mkX (1 : Int) ((0 : Int) - k))) (iMin e (mkX (1 : Int) ((0 : Int) - k)))) (mkX (adS m e (mkM (1 : Int) ((0 : Int) - k)) (mkX (1 : Int) ((0 : Int) - k))) (iMin e (mkX (1 : Int) ((0 : Int) - k)))) n f) (thX (mkM (adS m e (mkM (1 : Int) ((0 : Int) - k)) (mkX (1 : Int) ((0 : Int) - k))) (iMin e (mkX (1 : Int) ((0 : Int) - k)))) (mkX (adS m e (mkM (1 : Int) ((0 : Int) - k)) (mkX (1 : Int) ((0 : Int) - k))) (iMin e (mkX (1 : Int) ((0 : Int) - k)))) n f))))))))))) (by kernel_rfl))
end Go.Proofs.YtmbpoibhamlkbaaGreatDoor

namespace Go.Proofs.YtmbpoibhamlkbaaGreatDoor
theorem mkX_b {m e : Int} (hE : mkE m e = 0) : (m = 0 ∧ mkX m e = 0) ∨ (m ≠ 0 ∧ e ≤ mkX m e ∧ mkX m e ≤ e + 32 * (L m.natAbs : Int)) := by
  rcases mk_cases hE with ⟨h, _, k⟩ | ⟨h, _, k, _⟩
  · exact .inl ⟨h, k⟩
  · have := tz_L m.natAbs
    refine .inr ⟨h, ?_, ?_⟩ <;> rw [k] <;> unfold de <;> omega
theorem mk_fit {m e : Int} (h : L m.natAbs ≤ 900) (he : -60000 ≤ e ∧ e ≤ 30000) : mkE m e = 0 ∧ L (mkM m e).natAbs ≤ L m.natAbs ∧ iMin e 0 ≤ mkX m e ∧ mkX m e ≤ iMax e 0 + 32 * (L m.natAbs : Int) ∧ vdb (mkM m e) (mkX m e) = true ∧ dv (mkM m e) (mkX m e) = dv m e := by
  have hE := mk_fine2 h he
  have h1 := mk_facts m e
  have h2 := iMin_range e 0
  have h3 : e ≤ iMax e 0 ∧ 0 ≤ iMax e 0 := by unfold iMax; split <;> omega
  refine ⟨hE, h1.1, ?_, ?_, vdb_mk, dv_mk hE⟩ <;> rcases mkX_b hE with ⟨_, k⟩ | ⟨_, k, l⟩ <;> omega
theorem of_fit {n : Int} (h : -9223372036854775808 ≤ n ∧ n ≤ 9223372036854775807) : mkE n 0 = 0 ∧ L (mkM n 0).natAbs ≤ 2 ∧ 0 ≤ mkX n 0 ∧ mkX n 0 ≤ 64 ∧ vdb (mkM n 0) (mkX n 0) = true ∧ dv (mkM n 0) (mkX n 0) = (n : Rat) := by
  have hl := L_i64 h
  have h1 := mk_fit (m := n) (e := 0) (by omega) (by omega)
  have h2 : iMin 0 0 = 0 := rfl
  have h3 : iMax 0 0 = 0 := rfl
  rw [h2, h3, dv_int] at h1
  exact ⟨h1.1, by omega, h1.2.2.1, by omega, h1.2.2.2.2.1, h1.2.2.2.2.2⟩
theorem rawD_fit {b : Bool} {l : List Nat} {n e k : Int} (hl : Dig l) (hn : 0 ≤ n ∧ n ≤ 800) (hk : 0 ≤ k ∧ k ≤ 20000) :
    L (mkM (rawI b l n) (e % (2 * k + 1) - k)).natAbs ≤ n ∧ -k ≤ mkX (rawI b l n) (e % (2 * k + 1) - k) ∧ mkX (rawI b l n) (e % (2 * k + 1) - k) ≤ k + 32 * n ∧
    vdb (mkM (rawI b l n) (e % (2 * k + 1) - k)) (mkX (rawI b l n) (e % (2 * k + 1) - k)) = true := by
  have h1 := rawI_L (b := b) hl hn.1
  have h2 := Int.emod_nonneg e (show (2 * k + 1 : Int) ≠ 0 by omega)
  have h3 := Int.emod_lt_of_pos e (show (0 : Int) < 2 * k + 1 by omega)
  generalize hd : e % (2 * k + 1) - k = d
  have h4 := mk_fit (m := rawI b l n) (e := d) (by omega) (by omega)
  have h5 := iMin_range d 0
  have h6 : iMax d 0 = d ∨ iMax d 0 = 0 := by unfold iMax; split <;> simp
  refine ⟨by omega, by omega, by omega, h4.2.2.2.2.1⟩
theorem sw_fit {m e n f : Int} (h1 : vdb m e = true) (h2 : vdb n f = true) : vdb (swM m e n f) (swX m e n f) = true ∧ vdb (swN m e n f) (swF m e n f) = true ∧ dv (swM m e n f) (swX m e n f) ≤ dv (swN m e n f) (swF m e n f) := by
  rcases sw_facts m e n f with ⟨h, a, b, c, d, _⟩ | ⟨h, a, b, c, d, _⟩
  · rw [a, b, c, d]
    exact ⟨h2, h1, Rat.le_of_lt (cmpD_pos.1 h)⟩
  · rw [a, b, c, d]
    refine ⟨h1, h2, Rat.not_lt.1 fun q => ?_⟩
    have := cmpD_pos.2 q
    omega
theorem rawI_fit {b c : Bool} {l r : List Nat} {n e f k : Int} (hl : Dig l) (hr : Dig r) (hn : 0 ≤ n ∧ n ≤ 800) (hk : 0 ≤ k ∧ k ≤ 20000) {m1 x1 m2 x2 : Int} (e1 : m1 = mkM (rawI b l n) (e % (2 * k + 1) - k)) (e2 : x1 = mkX (rawI b l n) (e % (2 * k + 1) - k))
    (e3 : m2 = mkM (rawI c r n) (f % (2 * k + 1) - k)) (e4 : x2 = mkX (rawI c r n) (f % (2 * k + 1) - k)) :
    (L (swM m1 x1 m2 x2).natAbs ≤ n ∧ -k ≤ swX m1 x1 m2 x2 ∧ swX m1 x1 m2 x2 ≤ k + 32 * n) ∧ (L (swN m1 x1 m2 x2).natAbs ≤ n ∧ -k ≤ swF m1 x1 m2 x2 ∧ swF m1 x1 m2 x2 ≤ k + 32 * n) ∧
    vdb (swM m1 x1 m2 x2) (swX m1 x1 m2 x2) = true ∧ vdb (swN m1 x1 m2 x2) (swF m1 x1 m2 x2) = true ∧ dv (swM m1 x1 m2 x2) (swX m1 x1 m2 x2) ≤ dv (swN m1 x1 m2 x2) (swF m1 x1 m2 x2) := by
  have h1 := rawD_fit (b := b) (e := e) hl hn hk
  have h2 := rawD_fit (b := c) (e := f) hr hn hk
  rw [← e1, ← e2] at h1
  rw [← e3, ← e4] at h2
  obtain ⟨a1, a2, a3, a4⟩ := h1
  obtain ⟨b1, b2, b3, b4⟩ := h2
  have h3 := sw_fit a4 b4
  rcases sw_facts m1 x1 m2 x2 with ⟨_, a, b, c, d, g, i⟩ | ⟨_, a, b, c, d, g, i⟩
  · exact ⟨⟨by omega, by omega, by omega⟩, ⟨by omega, by omega, by omega⟩, h3⟩
  · exact ⟨⟨by omega, by omega, by omega⟩, ⟨by omega, by omega, by omega⟩, h3⟩
theorem cmpQ_le {x y : Rat} : cmpQ x y ≤ 0 ↔ x ≤ y := by
  rcases cmpQ_range x y with ⟨q, k⟩ | ⟨q, k⟩ | ⟨q, k⟩
  · exact ⟨fun _ => Rat.le_of_lt k, fun _ => by omega⟩
  · exact ⟨fun h => by omega, fun h => absurd h (Rat.not_le.2 k)⟩
  · exact ⟨fun _ => by rw [k]; exact Rat.le_refl, fun _ => by omega⟩
theorem en_vdb (lo hi : Rat) (w : Int) : vdb (enM lo hi w) (enX lo hi w) = true ∧ vdb (enN lo hi w) (enF lo hi w) = true := by
  by_cases h : enE lo hi w = 0
  · obtain ⟨a, b, c, d⟩ := en_yes h
    rw [a, b, c, d]; exact ⟨vdb_mk, vdb_mk⟩
  · have e : enM lo hi w = 0 ∧ enX lo hi w = 0 ∧ enN lo hi w = 0 ∧ enF lo hi w = 0 := by
      refine ⟨?_, ?_, ?_, ?_⟩ <;> (first | unfold enM | unfold enX | unfold enN | unfold enF) <;> rw [if_neg h]
    rw [e.1, e.2.1, e.2.2.1, e.2.2.2]; exact ⟨rfl, rfl⟩
end Go.Proofs.YtmbpoibhamlkbaaGreatDoor

namespace Go.Proofs.YtmbpoibhamlkbaaGreatDoor
theorem nbits_ge (a : Nat) : 32 * L a ≤ nbits a + 32 := by
  have h : L a ≤ nbits a / 32 + 1 := L_le (by
    rw [B_pow]
    exact Nat.lt_of_lt_of_le (nbits_lt a) (Nat.pow_le_pow_right (by omega) (by omega)))
  omega
theorem endB_sz {m e : Int} (h : endB m e = true) : L m.natAbs ≤ 400 ∧ (m = 0 ∨ -8192 ≤ e ∧ e ≤ 2048) := by
  unfold endB onB topD at h
  simp only [Bool.and_eq_true, decide_eq_true_eq] at h
  obtain ⟨h1, _, h2⟩ := h
  have h3 := nbits_ge m.natAbs
  by_cases hm : m = 0
  · subst hm
    exact ⟨by have : L (0 : Int).natAbs = 0 := L_zero
              omega, .inl rfl⟩
  · rw [if_neg hm] at h1
    have := nbits_pos (show m.natAbs ≠ 0 by omega)
    exact ⟨by omega, .inr (by omega)⟩
theorem en_sz (lo hi : Rat) (w : Int) : L (enM lo hi w).natAbs ≤ 400 ∧ L (enN lo hi w).natAbs ≤ 400 ∧ (-8192 ≤ enX lo hi w ∧ enX lo hi w ≤ 2048) ∧ (-8192 ≤ enF lo hi w ∧ enF lo hi w ≤ 2048) := by
  by_cases h : enE lo hi w = 0
  · have hs : smB (enM lo hi w) (enX lo hi w) (enN lo hi w) (enF lo hi w) = true := by
      obtain ⟨a, b, c, d⟩ := en_yes h
      rw [a, b, c, d]
      unfold enE at h
      split at h
      · unfold ecE at h
        split at h
        · rename_i q; exact q.2.2
        · omega
      · omega
    have hv := en_vdb lo hi w
    unfold smB at hs
    simp only [Bool.and_eq_true] at hs
    have h1 := endB_sz hs.1.2
    have h2 := endB_sz hs.2
    refine ⟨h1.1, h2.1, ?_, ?_⟩
    · rcases h1.2 with k | k
      · have := hv.1; rw [k] at this; unfold vdb at this; rw [if_pos rfl] at this; have := of_decide_eq_true this; omega
      · exact k
    · rcases h2.2 with k | k
      · have := hv.2; rw [k] at this; unfold vdb at this; rw [if_pos rfl] at this; have := of_decide_eq_true this; omega
      · exact k
  · have e : enM lo hi w = 0 ∧ enX lo hi w = 0 ∧ enN lo hi w = 0 ∧ enF lo hi w = 0 := by
      refine ⟨?_, ?_, ?_, ?_⟩ <;> (first | unfold enM | unfold enX | unfold enN | unfold enF) <;> rw [if_neg h]
    rw [e.1, e.2.1, e.2.2.1, e.2.2.2]
    have : L (0 : Int).natAbs = 0 := L_zero
    omega
theorem has_1 {a b : Int} (h : a ≤ 0) : iLe b 0 = decide (a ≤ 0 ∧ b ≤ 0) := by unfold iLe; by_cases q : b ≤ 0 <;> simp [q, h]
theorem not_of' {b : Bool} (h : b = true) : (!b) = false := by rw [h]; rfl
end Go.Proofs.YtmbpoibhamlkbaaGreatDoor

namespace Go.Proofs.YtmbpoibhamlkbaaGreatDoor
theorem oM {p : Prop} (h : p := by first | omega | exact ml_fine (by omega) (by omega) (by omega) (by omega) | exact ad_fine (by omega) (by omega) (by omega) (by omega) | exact (en_vdb _ _ _).1 | exact (en_vdb _ _ _).2) : p := h
theorem oD {p : Prop} (h : p := by first | omega | exact ml_fine (by omega) (by omega) (by omega) (by omega) | exact ad_fine (by omega) (by omega) (by omega) (by omega) | exact (en_vdb _ _ _).1 | exact (en_vdb _ _ _).2 | decide) : p := h
theorem oN {p : Prop} (h : p := by first | omega | exact ml_fine (by omega) (by omega) (by omega) (by omega) | exact ad_fine (by omega) (by omega) (by omega) (by omega) | exact (en_vdb _ _ _).1 | exact (en_vdb _ _ _).2 | assumption) : p := h
theorem oN2 {p : Prop} (h : p := by first | omega | exact ml_fine (by omega) (by omega) (by omega) (by omega) | exact ad_fine (by omega) (by omega) (by omega) (by omega) | exact (en_vdb _ _ _).1 | exact (en_vdb _ _ _).2 | assumption | exact ad_fine (by omega) (by omega) (by omega) (by omega)) : p := h
theorem oP {p : Prop} (h : p := by first | assumption | omega | exact o1.2.2.2.2.1) : p := h
theorem oW {p : Prop} (h : p := by first | assumption | exact pw_or (by omega) | (simp; done) | omega) : p := h
theorem oS {p : Prop} (h : p := by first | omega | assumption) : p := h
theorem oR {p : Prop} (h : p := by first | omega | assumption | exact Rat.le_refl) : p := h
theorem oT {p : Prop} (h : p := by first | assumption | omega | exact Rat.le_refl | exact of0.2.2.2.2.1) : p := h
theorem oU {p : Prop} (h : p := by first | assumption | omega) : p := h
end Go.Proofs.YtmbpoibhamlkbaaGreatDoor

namespace Go.Proofs.YtmbpoibhamlkbaaGreatDoor
open Go.RowKit
set_option maxRecDepth 100000
def ivM (b : Bool) (l : List Nat) (e : Int) (c : Bool) (r : List Nat) (f n k : Int) : Int := (swM (mkM (rawI b l n) (e % (2 * k + 1) - k)) (mkX (rawI b l n) (e % (2 * k + 1) - k)) (mkM (rawI c r n) (f % (2 * k + 1) - k)) (mkX (rawI c r n) (f % (2 * k + 1) - k)))
def ivX (b : Bool) (l : List Nat) (e : Int) (c : Bool) (r : List Nat) (f n k : Int) : Int := (swX (mkM (rawI b l n) (e % (2 * k + 1) - k)) (mkX (rawI b l n) (e % (2 * k + 1) - k)) (mkM (rawI c r n) (f % (2 * k + 1) - k)) (mkX (rawI c r n) (f % (2 * k + 1) - k)))
def ivN (b : Bool) (l : List Nat) (e : Int) (c : Bool) (r : List Nat) (f n k : Int) : Int := (swN (mkM (rawI b l n) (e % (2 * k + 1) - k)) (mkX (rawI b l n) (e % (2 * k + 1) - k)) (mkM (rawI c r n) (f % (2 * k + 1) - k)) (mkX (rawI c r n) (f % (2 * k + 1) - k)))
def ivF (b : Bool) (l : List Nat) (e : Int) (c : Bool) (r : List Nat) (f n k : Int) : Int := (swF (mkM (rawI b l n) (e % (2 * k + 1) - k)) (mkX (rawI b l n) (e % (2 * k + 1) - k)) (mkM (rawI c r n) (f % (2 * k + 1) - k)) (mkX (rawI c r n) (f % (2 * k + 1) - k)))
theorem iv_fit {b : Bool} {l : List Nat} {e : Int} {c : Bool} {r : List Nat} {f n k : Int} (hl : Dig l) (hr : Dig r) (hn : 0 ≤ n ∧ n ≤ 800) (hk : 0 ≤ k ∧ k ≤ 20000) : ((L (ivM b l e c r f n k).natAbs ≤ n ∧ -k ≤ (ivX b l e c r f n k) ∧ (ivX b l e c r f n k) ≤ k + 32 * n) ∧ (L (ivN b l e c r f n k).natAbs ≤ n ∧ -k ≤ (ivF b l e c r f n k) ∧ (ivF b l e c r f n k) ≤ k + 32 * n)) ∧ vdb (ivM b l e c r f n k) (ivX b l e c r f n k) = true ∧ vdb (ivN b l e c r f n k) (ivF b l e c r f n k) = true ∧ dv (ivM b l e c r f n k) (ivX b l e c r f n k) ≤ dv (ivN b l e c r f n k) (ivF b l e c r f n k) := by
  have h := rawI_fit (b := b) (c := c) (e := e) (f := f) hl hr hn hk rfl rfl rfl rfl
  exact ⟨⟨h.1, h.2.1⟩, h.2.2⟩
theorem mill_Iv (b : Bool) (l : List Nat) (e : Int) (c : Bool) (r : List Nat) (f n k : Int) (c0 : Dig l) (c1 : l.length ≤ 9223372036854775807) (c2 : Dig r) (c3 : r.length ≤ 9223372036854775807) (c4 : (-9223372036854775808 : Int) ≤ e ∧ e ≤ 9223372036854775807) (c5 : (-9223372036854775808 : Int) ≤ f ∧ f ≤ 9223372036854775807) (c6 : (0 : Int) ≤ n ∧ n ≤ 800) (c7 : (0 : Int) ≤ k ∧ k ≤ 20000) : Impl Tryz.prog Amb 28 [(.agg [(.bool b), (.sl 1 (U l)), (.int .i64 e), (.bool c), (.sl 1 (U r)), (.int .i64 f)]), (.int .i64 n), (.int .i64 k)] (.tup [(wV (ivM b l e c r f n k) (ivX b l e c r f n k) (ivN b l e c r f n k) (ivF b l e c r f n k)), (.bool (decide ((l.length : Int) ≤ n ∧ (r.length : Int) ≤ n)))]) :=
  mill_Interval b l e c r f n k c0 c1 c2 c3 c4 c5 c6 c7
theorem r10_Has (m : Int) (e : Int) (n : Int) (f : Int) (r : Rat) (c0 : L (m).natAbs ≤ 9000) (c1 : L (n).natAbs ≤ 9000) (c2 : (-65536 : Int) ≤ e ∧ e ≤ 65536) (c3 : (-65536 : Int) ≤ f ∧ f ≤ 65536) (c4 : vdb m e = true) (c5 : vdb n f = true) (c6 : L r.num.natAbs ≤ 6000) (c7 : L r.den ≤ 6000) : Impl Tryz.prog Amb 26 [(wV m e n f), (.agg [(.bool (decide (r.num < 0))), (N r.num.natAbs), (N r.den)])] (.bool (decide (cmpQ (dv m e) r ≤ 0 ∧ cmpQ r (dv n f) ≤ 0))) := by
  exact impl_ob hP hAmb Tryz.func26 (by kernel_rfl) (.lits 2 <| .call (.agg [(.bool (decide ((dv m e).num < 0))), (N (((dv m e).num).natAbs)), (N ((dv m e).den))]) <| .lits 2 <| .call (.int .i64 (cmpQ (dv m e) r)) <| .lit <| .both (.lits 6 <| .call (.agg [(.bool (decide ((dv n f).num < 0))), (N (((dv n f).num).natAbs)), (N ((dv n f).den))]) <| .lits 2 <| .call (.int .i64 (cmpQ r (dv n f))) <| .lits 4 <| .ret) (.lits 7 <| .ret))
    (cast_ob (aI True.intro (aI (r08_Rat m e oA oA oA) (have f6 := (dv_L ‹vdb m e = true› oA : L (dv m e).num.natAbs ≤ L (m).natAbs + 2050 ∧ L (dv m e).den ≤ 2050); aI (r07_Cmp (dv m e) r oA oA oA oA) (have f5 := cmpQ_range (dv m e) r; aI (fun (h1 : (iLe (cmpQ (dv m e) r) 0) = true) => have _gh1 := iLe_t h1; aI (r08_Rat n f oA oA oA) (have f3 := (dv_L ‹vdb n f = true› oA : L (dv n f).num.natAbs ≤ L (n).natAbs + 2050 ∧ L (dv n f).den ≤ 2050); aI (r07_Cmp r (dv n f) oA oA oA oA) (have f2 := cmpQ_range r (dv n f); (vsub_of (congrArg V.bool (has_1 oO)) : vsub (.bool (iLe (cmpQ r (dv n f)) 0)) (.bool (decide (cmpQ (dv m e) r ≤ 0 ∧ cmpQ r (dv n f) ≤ 0))))))) (fun (h4 : (iLe (cmpQ (dv m e) r) 0) = false) => have _gh4 := iLe_f h4; (vsub_of (congrArg V.bool ((decide_eq_false oO).symm)) : vsub (.bool false) (.bool (decide (cmpQ (dv m e) r ≤ 0 ∧ cmpQ r (dv n f) ≤ 0))))))))) (by kernel_rfl))
end Go.Proofs.YtmbpoibhamlkbaaGreatDoor

namespace Go.Proofs.YtmbpoibhamlkbaaGreatDoor
def rt : Nat → Nat
  | 0 => 0
  | n + 1 => if (rt n + 1) * (rt n + 1) ≤ n + 1 then rt n + 1 else rt n
theorem sq_succ (x : Nat) : (x + 1) * (x + 1) = x * x + 2 * x + 1 := by rw [Nat.mul_add, Nat.add_mul]; omega
theorem rt_spec : ∀ n, rt n * rt n ≤ n ∧ n < (rt n + 1) * (rt n + 1)
  | 0 => by simp [rt]
  | n + 1 => by
    have h := rt_spec n
    unfold rt
    have e := sq_succ (rt n + 1)
    split
    · exact ⟨by assumption, by omega⟩
    · exact ⟨by omega, by omega⟩
theorem sq_lt {r s : Nat} (h : r * r < s * s) : r < s := by
  refine Decidable.byContradiction fun q => ?_
  have := Nat.mul_le_mul (show s ≤ r by omega) (show s ≤ r by omega)
  omega
theorem rt_eq {r n : Nat} (h1 : r * r ≤ n) (h2 : n < (r + 1) * (r + 1)) : r = rt n := by
  have h := rt_spec n
  have a := sq_lt (Nat.lt_of_le_of_lt h1 h.2)
  have b := sq_lt (Nat.lt_of_le_of_lt h.1 h2)
  omega
theorem rt_zero : rt 0 = 0 := rfl
theorem rt_le (n : Nat) : rt n ≤ n := by
  have h := (rt_spec n).1
  rcases Nat.eq_zero_or_pos (rt n) with e | e
  · omega
  · have := Nat.mul_le_mul_right (rt n) e; omega
theorem rt_L (n : Nat) : L (rt n) ≤ L n := L_mono (rt_le n)
theorem four_mul_le (x z : Nat) : 4 * (x * z) ≤ (x + z) * (x + z) := by
  have e : (x + z) * (x + z) = x * x + 2 * (x * z) + z * z := by rw [Nat.mul_add, Nat.add_mul, Nat.add_mul, Nat.mul_comm z x]; omega
  have : 2 * (x * z) ≤ x * x + z * z := by
    rcases Nat.le_total x z with h | h
    · obtain ⟨d, rfl⟩ := Nat.le.dest h
      have e1 : (x + d) * (x + d) = x * x + 2 * (x * d) + d * d := by rw [Nat.mul_add, Nat.add_mul, Nat.add_mul, Nat.mul_comm d x]; omega
      have e2 : x * (x + d) = x * x + x * d := Nat.mul_add x x d
      omega
    · obtain ⟨d, rfl⟩ := Nat.le.dest h
      have e1 : (z + d) * (z + d) = z * z + 2 * (z * d) + d * d := by rw [Nat.mul_add, Nat.add_mul, Nat.add_mul, Nat.mul_comm d z]; omega
      have e2 : (z + d) * z = z * z + z * d := by rw [Nat.add_mul, Nat.mul_comm d z]
      omega
  omega
theorem nw_up {a x y : Nat} (hx : 0 < x) (hy : y = (x + a / x) / 2) : a < (y + 1) * (y + 1) := by
  have h1 : a < x * (a / x + 1) := by
    have := Nat.div_add_mod a x
    have := Nat.mod_lt a hx
    rw [Nat.mul_add]; omega
  have h2 := four_mul_le x (a / x + 1)
  have h3 : x + (a / x + 1) ≤ 2 * (y + 1) := by omega
  have h4 := Nat.mul_le_mul h3 h3
  have h5 : 2 * (y + 1) * (2 * (y + 1)) = 4 * ((y + 1) * (y + 1)) := by rw [Nat.mul_mul_mul_comm]
  omega
theorem nw_pos {a x y : Nat} (ha : 0 < a) (hx : 0 < x) (hy : y = (x + a / x) / 2) : 0 < y := by
  have := nw_up hx hy
  rcases Nat.eq_zero_or_pos y with e | e
  · subst e
    have : x = 1 ∨ 2 ≤ x := by omega
    rcases this with rfl | h
    · rw [Nat.div_one] at hy; omega
    · omega
  · exact e
theorem nw_end {a x y : Nat} (hx : 0 < x) (h : a < (x + 1) * (x + 1)) (hy : y = (x + a / x) / 2) (hle : x ≤ y) : x = rt a := by
  refine rt_eq ?_ h
  have h1 : x ≤ a / x := by omega
  exact Nat.le_trans (Nat.mul_le_mul_left x h1) (by have := Nat.div_mul_le_self a x; rw [Nat.mul_comm]; exact this)
theorem nw_init {a : Nat} {s : Nat} (hs : nbits a + 1 ≤ 2 * s + 1) : a < (1 * 2 ^ s + 1) * (1 * 2 ^ s + 1) := by
  have h1 := nbits_lt a
  have h2 : 2 ^ nbits a ≤ 2 ^ (s + s) := Nat.pow_le_pow_right (by omega) (by omega)
  rw [Nat.pow_add] at h2
  rw [Nat.one_mul, sq_succ]
  omega
theorem L_pow (a : Nat) : ∀ k, L (a ^ k) ≤ k * L a + 1
  | 0 => by rw [Nat.pow_zero]; have := L_le (n := 1) (k := 1) (by decide); omega
  | k + 1 => by
    have h := L_pow a k
    have h2 := L_mul (a ^ k) a
    rw [Nat.pow_succ, Nat.succ_mul]; omega
theorem L_pow64 {a : Nat} {k : Nat} (h : k ≤ 64) : L (a ^ k) ≤ 64 * L a + 1 := Nat.le_trans (L_pow a k) (by have := Nat.mul_le_mul_right (L a) h; omega)
theorem bit_64 : ∀ x : Fin 65, wAnd .i64 (x.val : Int) 1 = ((x.val % 2 : Nat) : Int) := by decide
theorem bit_n {n i : Int} (hn : 0 ≤ n ∧ n ≤ 64) (hi : 0 ≤ i ∧ i ≤ 6) : wAnd .i64 (Int.fdiv n (2 ^ (min i.toNat (IntKind.bits .i64)))) 1 = ((n.toNat / 2 ^ i.toNat % 2 : Nat) : Int) := by
  have e1 : min i.toNat (IntKind.bits .i64) = i.toNat := by
    rw [show IntKind.bits .i64 = 64 from rfl]; omega
  have hp : 0 < 2 ^ i.toNat := Nat.pow_pos (by omega)
  have e2 : Int.fdiv n (2 ^ i.toNat) = ((n.toNat / 2 ^ i.toNat : Nat) : Int) := by
    rw [Int.fdiv_eq_ediv_of_nonneg _ (by rw [pow_cast]; omega)]
    rw [Int.natCast_ediv, pow_cast, Int.toNat_of_nonneg hn.1]
  have h64 : n.toNat / 2 ^ i.toNat < 65 := Nat.lt_of_le_of_lt (Nat.div_le_self _ _) (by omega)
  rw [e1, e2]
  exact bit_64 ⟨_, h64⟩
theorem pw_step {a o : Nat} {n i : Int} (h : o = a ^ (n.toNat / 2 ^ (i + 1).toNat)) (hi : 0 ≤ i ∧ i ≤ 6) : a ^ (n.toNat / 2 ^ (i - 1 + 1).toNat) = o * o * a ^ (n.toNat / 2 ^ i.toNat % 2) := by
  rw [show (i - 1 + 1).toNat = i.toNat by omega, h, ← Nat.pow_add, ← Nat.pow_add, show (i + 1).toNat = i.toNat + 1 by omega, Nat.pow_succ, ← Nat.div_div_eq_div_mul]
  congr 1
  omega
theorem pw_y {a o : Nat} {n i : Int} (h : o = a ^ (n.toNat / 2 ^ (i + 1).toNat)) (hn : 0 ≤ n ∧ n ≤ 64) (hi : 0 ≤ i ∧ i ≤ 6) (hb : wAnd .i64 (Int.fdiv n (2 ^ (min i.toNat (IntKind.bits .i64)))) 1 = 1) :
    o * o * a = a ^ (n.toNat / 2 ^ (i - 1 + 1).toNat) := by
  rw [bit_n hn hi] at hb
  rw [pw_step h hi, show n.toNat / 2 ^ i.toNat % 2 = 1 by omega, Nat.pow_one]
theorem pw_n {a o : Nat} {n i : Int} (h : o = a ^ (n.toNat / 2 ^ (i + 1).toNat)) (hn : 0 ≤ n ∧ n ≤ 64) (hi : 0 ≤ i ∧ i ≤ 6) (hb : wAnd .i64 (Int.fdiv n (2 ^ (min i.toNat (IntKind.bits .i64)))) 1 ≠ 1) :
    o * o = a ^ (n.toNat / 2 ^ (i - 1 + 1).toNat) := by
  rw [bit_n hn hi] at hb
  rw [pw_step h hi, show n.toNat / 2 ^ i.toNat % 2 = 0 by omega, Nat.pow_zero, Nat.mul_one]
theorem sq_one {o : Nat} (h : L o = 1) (h1 : gi (limbs o) 0 = 1) : o = o * o := by
  have e : o = 1 := by have := gi_one h; omega
  rw [e]
theorem sq_one' {o a : Nat} (h : L o = 1) (h1 : gi (limbs o) 0 = 1) : o * a = o * o * a := by
  rw [← sq_one h h1]
def PsInv (a : Nat) (m : Int) (i c : Int) (l : List Nat) : Prop :=
  0 ≤ i ∧ i ≤ L a ∧ 0 ≤ c ∧ c < 4294967296 ∧ l.length = L a + 1 ∧ Dig l ∧ val (l.take i.toNat) + 4294967296 ^ i.toNat * c.toNat = val ((limbs a).take i.toNat) * m.toNat
theorem ps_init (a : Nat) (m : Int) : PsInv a m 0 0 (List.replicate (L a + 1) 0) := ⟨by omega, by omega, by omega, by omega, by simp, dig_rep _, by simp [val]⟩
theorem ps_bound {a : Nat} {m i c : Int} {l : List Nat} (h : PsInv a m i c l) (hm : 0 ≤ m ∧ m < 4294967296) : 0 ≤ gi (limbs a) i.toNat * m ∧ gi (limbs a) i.toNat * m ≤ 18446744065119617025 := by
  have hb := mul_bound ⟨gi_nonneg (limbs a) i.toNat, gi_lt (dig_limbs a) i.toNat⟩ hm (show (0 : Int) ≤ 0 ∧ (0 : Int) < 4294967296 by omega) (show (0 : Int) ≤ 0 ∧ (0 : Int) < 4294967296 by omega)
  exact ⟨hb.1, hb.2.1⟩
theorem ps_next {a : Nat} {m i c s : Int} {l : List Nat} (h : PsInv a m i c l) (hi : i < L a) (hm : 0 ≤ m ∧ m < 4294967296) (hs : s = c + gi (limbs a) i.toNat * m) :
    PsInv a m (i + 1) (Int.fdiv s (2 ^ 32)) (l.set i.toNat (IntKind.wrap .u32 s).toNat) := by
  have hb := ps_bound h hm
  obtain ⟨h0, h1, h2, h3, h4, h5, h6⟩ := h
  rw [fdiv_B, wrap_u32]
  refine ⟨by omega, by omega, by omega, by omega, by simpa using h4, dig_set h5 (by omega) _, ?_⟩
  rw [show (i + 1).toNat = i.toNat + 1 by omega, set_val _ _ (by omega), take_succ_val, Nat.pow_succ]
  rw [gi_eq] at hb hs
  generalize (limbs a).getD i.toNat 0 = x at *
  generalize 4294967296 ^ i.toNat = p at *
  obtain ⟨m, rfl⟩ := Int.eq_ofNat_of_zero_le hm.1
  obtain ⟨c, rfl⟩ := Int.eq_ofNat_of_zero_le h2
  have hsN : s = ((c + x * m : Nat) : Int) := by rw [hs]; simp
  subst hsN
  simp only [Int.toNat_natCast] at h6 ⊢
  generalize hS : c + x * m = S at *
  rw [show (((S : Nat) : Int) % 4294967296).toNat = S % 4294967296 by omega, show (((S : Nat) : Int) / 4294967296).toNat = S / 4294967296 by omega]
  rw [Nat.mul_assoc p, Nat.add_assoc, ← Nat.mul_add, Nat.mod_add_div, ← hS, Nat.mul_add, ← Nat.add_assoc, h6, Nat.add_mul, Nat.mul_assoc]
theorem ps_end {a : Nat} {m c : Int} {l : List Nat} (h : PsInv a m (L a : Int) c l) : Dig (l.set (L a) c.toNat) ∧ (l.set (L a) c.toNat).length = L a + 1 ∧ val (l.set (L a) c.toNat) = a * m.toNat := by
  obtain ⟨h0, h1, h2, h3, h4, h5, h6⟩ := h
  refine ⟨dig_set h5 (by omega) _, by simpa using h4, ?_⟩
  rw [Int.toNat_natCast, val_lim a (Nat.le_refl _)] at h6
  rw [← h6, ← val_all (l.set (L a) c.toNat) (n := L a + 1) (by simp; omega), set_val _ _ (by omega)]
end Go.Proofs.YtmbpoibhamlkbaaGreatDoor

namespace Go.Proofs.YtmbpoibhamlkbaaGreatDoor
theorem qmin_both (a b : Rat) : qmin a b ≤ a ∧ qmin a b ≤ b := by
  rcases qmin_or a b with ⟨h, k⟩ | ⟨h, k⟩ <;> rw [h]
  · exact ⟨Rat.le_of_lt k, Rat.le_refl⟩
  · exact ⟨Rat.le_refl, k⟩
theorem qmax_both (a b : Rat) : a ≤ qmax a b ∧ b ≤ qmax a b := by
  rcases qmax_or a b with ⟨h, k⟩ | ⟨h, k⟩ <;> rw [h]
  · exact ⟨Rat.le_of_lt k, Rat.le_refl⟩
  · exact ⟨Rat.le_refl, k⟩
theorem le_qmin {a b l : Rat} (h : l ≤ a) (k : l ≤ b) : l ≤ qmin a b := by rcases qmin_or a b with ⟨e, _⟩ | ⟨e, _⟩ <;> rw [e] <;> assumption
theorem inv_anti {a b : Rat} (h : 0 < a) (k : a ≤ b) : b⁻¹ ≤ a⁻¹ := by
  have hb : 0 < b := by grind
  have ha' := Rat.inv_pos.2 h
  have hb' := Rat.inv_pos.2 hb
  have e1 : a * a⁻¹ = 1 := Rat.mul_inv_cancel a (by grind)
  have e2 : b * b⁻¹ = 1 := Rat.mul_inv_cancel b (by grind)
  have h1 := Rat.mul_le_mul_of_nonneg_right k (Rat.le_of_lt (Rat.mul_pos ha' hb'))
  have e3 : a * (a⁻¹ * b⁻¹) = b⁻¹ := by rw [← Rat.mul_assoc, e1, Rat.one_mul]
  have e4 : b * (a⁻¹ * b⁻¹) = a⁻¹ := by rw [Rat.mul_comm a⁻¹, ← Rat.mul_assoc, e2, Rat.one_mul]
  rw [e3, e4] at h1; exact h1
theorem inv_anti2 {a b : Rat} (h : b < 0) (k : a ≤ b) : b⁻¹ ≤ a⁻¹ := by
  have := inv_anti (a := -b) (b := -a) (by grind) (by grind)
  have e1 : (-a)⁻¹ = -(a⁻¹) := by grind
  have e2 : (-b)⁻¹ = -(b⁻¹) := by grind
  rw [e1, e2] at this
  grind
theorem dm_nbits {m : Int} (h : m ≠ 0) : (nbits (dm m).natAbs : Int) + tz m.natAbs ≤ nbits m.natAbs := by
  have h1 := dm_mul m
  have h2 : m.natAbs = (dm m).natAbs * 2 ^ tz m.natAbs := by
    have := congrArg Int.natAbs h1
    rw [abs_shl] at this; exact this.symm
  have h3 := dm_ne h
  have h4 := nbits_le (show (dm m).natAbs ≠ 0 by omega)
  have h5 := nbits_pos (show (dm m).natAbs ≠ 0 by omega)
  have h6 := nbits_lt m.natAbs
  have h7 : 2 ^ (nbits (dm m).natAbs - 1 + tz m.natAbs) ≤ m.natAbs := by
    rw [Nat.pow_add]
    exact Nat.le_trans (Nat.mul_le_mul_right _ h4) (Nat.le_of_eq h2.symm)
  have h8 := (Nat.pow_lt_pow_iff_right (a := 2) (by omega)).1 (Nat.lt_of_le_of_lt h7 h6)
  omega
theorem flr_cei {lo hi : Rat} (h : lo ≤ hi) (w : Int) : flr lo w ≤ cei hi w := (dv_le (c := -w)).1 (Rat.le_trans (flr_le lo w) (Rat.le_trans h (cei_ge hi w)))
theorem adS_L {m e n f : Int} {a c : Nat} (hm : L m.natAbs ≤ a) (hn : L n.natAbs ≤ a) (h : e - f ≤ 32 * c) (k : f - e ≤ 32 * c) : L (adS m e n f).natAbs ≤ a + c + 2 := by
  have h0 := iMin_range e f
  have h1 := L_abs_shl m (e - iMin e f).toNat
  have h2 := L_abs_shl n (f - iMin e f).toNat
  have h3 := L_abs_add (m * 2 ^ (e - iMin e f).toNat) (n * 2 ^ (f - iMin e f).toNat)
  unfold adS
  omega
theorem th_fit {m e n f k : Int} (hm : L m.natAbs ≤ 4) (hn : L n.natAbs ≤ 4) (he : -50 ≤ e ∧ e ≤ 178) (hf : -50 ≤ f ∧ f ≤ 178) (hk : 0 ≤ k ∧ k ≤ 30) (hv : vdb n f = true) (ho : dv m e ≤ dv n f) {a b x y : Int}
    (ha : a = mkM (adS m e (mkM (1 : Int) ((0 : Int) - k)) (mkX (1 : Int) ((0 : Int) - k))) (iMin e (mkX (1 : Int) ((0 : Int) - k))))
    (hb : b = mkX (adS m e (mkM (1 : Int) ((0 : Int) - k)) (mkX (1 : Int) ((0 : Int) - k))) (iMin e (mkX (1 : Int) ((0 : Int) - k))))
    (hx : x = thM a b n f) (hy : y = thX a b n f) :
    (L x.natAbs ≤ 14 ∧ -50 ≤ y ∧ y ≤ 700) ∧ vdb x y = true ∧ dv m e ≤ dv x y ∧ dv x y ≤ dv n f := by
  have l1 := L_le (n := 1) (k := 1) (by decide)
  have c := mk_fit (m := (1 : Int)) (e := (0 : Int) - k) (by show L 1 ≤ 900; omega) (by omega)
  have c1 : L (1 : Int).natAbs ≤ 1 := l1
  have i0 := iMin_range ((0 : Int) - k) 0
  have i1 : iMax ((0 : Int) - k) 0 ≤ 0 := by unfold iMax; split <;> omega
  have i2 := iMin_range e (mkX (1 : Int) ((0 : Int) - k))
  have h1 := adS_L (a := 4) (c := 8) (e := e) (f := mkX (1 : Int) ((0 : Int) - k)) hm (show L (mkM (1 : Int) ((0 : Int) - k)).natAbs ≤ 4 by omega) (by omega) (by omega)
  have d := mk_fit (m := adS m e (mkM (1 : Int) ((0 : Int) - k)) (mkX (1 : Int) ((0 : Int) - k))) (e := iMin e (mkX (1 : Int) ((0 : Int) - k))) (by omega) (by omega)
  rw [← ha, ← hb] at d
  have i3 := iMin_range (iMin e (mkX (1 : Int) ((0 : Int) - k))) 0
  have i4 : iMax (iMin e (mkX (1 : Int) ((0 : Int) - k))) 0 ≤ 178 := by unfold iMax; split <;> omega
  have hd : dv m e ≤ dv a b := by
    rw [d.2.2.2.2.2, dv_ad, c.2.2.2.2.2]
    have : 0 < dv 1 ((0 : Int) - k) := dv_pos.2 (by decide)
    grind
  rcases th_facts a b n f with ⟨q1, q2, q3, q4⟩ | ⟨q1, q2, q3, q4⟩
  · rw [hx, hy, q2, q3]
    exact ⟨by omega, d.2.2.2.2.1, hd, Rat.le_of_lt (cmpD_neg.1 q1)⟩
  · rw [hx, hy, q2, q3]
    exact ⟨by omega, hv, ho, Rat.le_refl⟩
end Go.Proofs.YtmbpoibhamlkbaaGreatDoor

namespace Go.Proofs.YtmbpoibhamlkbaaGreatDoor
open Go.RowKit
set_option maxRecDepth 100000
def tnM (m e n f k : Int) : Int := (thM (mkM (adS m e (mkM (1 : Int) ((0 : Int) - k)) (mkX (1 : Int) ((0 : Int) - k))) (iMin e (mkX (1 : Int) ((0 : Int) - k)))) (mkX (adS m e (mkM (1 : Int) ((0 : Int) - k)) (mkX (1 : Int) ((0 : Int) - k))) (iMin e (mkX (1 : Int) ((0 : Int) - k)))) n f)
def tnX (m e n f k : Int) : Int := (thX (mkM (adS m e (mkM (1 : Int) ((0 : Int) - k)) (mkX (1 : Int) ((0 : Int) - k))) (iMin e (mkX (1 : Int) ((0 : Int) - k)))) (mkX (adS m e (mkM (1 : Int) ((0 : Int) - k)) (mkX (1 : Int) ((0 : Int) - k))) (iMin e (mkX (1 : Int) ((0 : Int) - k)))) n f)
theorem tn_fit {m e n f k : Int} (c0 : L (m).natAbs ≤ 4) (c1 : L (n).natAbs ≤ 4) (c2 : (-50 : Int) ≤ e ∧ e ≤ 178) (c3 : (-50 : Int) ≤ f ∧ f ≤ 178) (c4 : (0 : Int) ≤ k ∧ k ≤ 30) (c5 : vdb n f = true) (c6 : (dv m e) ≤ (dv n f)) : (L ((tnM m e n f k)).natAbs ≤ 14 ∧ (-50 : Int) ≤ (tnX m e n f k) ∧ (tnX m e n f k) ≤ 700) ∧ vdb (tnM m e n f k) (tnX m e n f k) = true ∧ (dv m e) ≤ (dv (tnM m e n f k) (tnX m e n f k)) ∧ (dv (tnM m e n f k) (tnX m e n f k)) ≤ (dv n f) :=
  th_fit c0 c1 c2 c3 c4 c5 c6 rfl rfl rfl rfl
theorem mill_Tn (m e n f k : Int) (c0 : L (m).natAbs ≤ 4) (c1 : L (n).natAbs ≤ 4) (c2 : (-50 : Int) ≤ e ∧ e ≤ 178) (c3 : (-50 : Int) ≤ f ∧ f ≤ 178) (c4 : (0 : Int) ≤ k ∧ k ≤ 30) (c5 : vdb n f = true) (c6 : (dv m e) ≤ (dv n f)) : Impl Tryz.prog Amb 18 [(wV m e n f), (.int .i64 k)] (wV m e (tnM m e n f k) (tnX m e n f k)) :=
  mill_Thin m e n f k oO oO oO oO oO
end Go.Proofs.YtmbpoibhamlkbaaGreatDoor


namespace Go.Proofs.YtmbpoibhamlkbaaGreatDoor
open Go.RowKit
set_option maxRecDepth 100000
set_option maxHeartbeats 2000000
theorem N_zero : N 0 = .sl 1 [] := by simp [N, lim, limbs_zero, U]
theorem rt_nil {a : Nat} (h : a = 0) : vsub (.tup [.nil, .nil]) (.tup [N (rt a), N (a - rt a * rt a)]) := by
  subst h
  rw [rt_zero, N_zero]
  exact vsub_tup2 (vsub_nil 1) (vsub_nil 1)
theorem prod_Square (a : Nat) (c0 : L a ≤ 33554432) : Impl Tryz.prog Amb 220 [(N a)] (N (a * a)) := by
  exact impl_ob hP hAmb Tryz.func220 (by kernel_rfl) (.lit <| .call (N (a * a)) <| .lit <| .ret)
    (cast_ob (aI True.intro (aI (prod_Mul a a oA oA) (have f1 := L_mul a a; (vsub_refl (N (a * a)))))) (by kernel_rfl))
def prod_Small_0_mk (a : Nat) (m : Int) (x : Int × Int × List V × List Nat) : St := ⟨mkS 47 [(0, (.val (N a))), (1, (.val (.int .u32 m))), (7, (.osl 0 0 ((((lim a).length : Int) + 1).toNat) 1)), (8, (.val (.int .u64 x.2.1))), (17, (.val (N a))), (18, (.val (.int .i64 ((lim a).length : Int)))), (19, (.val (.int .i64 x.1)))], [⟨true, false, x.2.2.1⟩]⟩
def prod_Small_0_I (a : Nat) (m : Int) (x : Int × Int × List V × List Nat) : Prop := x.2.2.1 = U x.2.2.2 ∧ PsInv a m x.1 x.2.1 x.2.2.2
def prod_Small_0_mu (a : Nat) (_ : Int) (x : Int × Int × List V × List Nat) : Nat := ((L a : Int) - x.1).toNat
def prod_Small_0_ex (a : Nat) (_ : Int) (y : Int × List Nat) : Ex × St := (.exit 0, ⟨mkS 47 [(0, (.val (N a))), (7, (.osl 0 0 ((((lim a).length : Int) + 1).toNat) 1)), (8, (.val (.int .u64 y.1)))], [⟨true, false, (U y.2)⟩]⟩)
def prod_Small_0_J (a : Nat) (m : Int) (y : Int × List Nat) : Prop := PsInv a m (L a : Int) y.1 y.2
abbrev prod_Small_0_N (a : Nat) (m : Int) := NX (prod_Small_0_mk a m) (prod_Small_0_I a m) (prod_Small_0_mu a m) (prod_Small_0_ex a m) (prod_Small_0_J a m)
theorem prod_Small_0 (a : Nat) (m : Int) (c0 : L a ≤ 33554432)(c1 : (0 : Int) ≤ m ∧ m < 4294967296) (x0 : Int × Int × List V × List Nat) (hI : prod_Small_0_I a m x0) : LoopOk Tryz.prog Amb (loopN Tryz.f229 0) (prod_Small_0_mk a m x0) (fun e st_ => ∃ y, prod_Small_0_J a m y ∧ prod_Small_0_ex a m y = (e, st_)) :=
  loop_ob hP hAmb ⟨[0, 1, 7, 8, 17, 18, 19], 1, []⟩ (prod_Small_0_mk a m) (prod_Small_0_I a m) (prod_Small_0_mu a m) (prod_Small_0_ex a m) (prod_Small_0_J a m) x0 hI (fun (i, c, o, l) => .lit <| .both (.yes <| .yes <| .lit <| .yes <| .lit <| .yes <| .lit <| .yes <| .lit <| .yes <| .lit <| .no <| .yes <| .yes <| .lits 2 <| .yes <| .fin2 ⟨[0, 1, 7, 8, 17, 18, 19], 1, []⟩) (.fin2 ⟨[0, 7, 8], 1, []⟩)) (by
    rintro ⟨i, c, o, l⟩ hI
    have hI : o = U l ∧ PsInv a m i c l := hI
    obtain ⟨rfl, h1⟩ := hI
    have ⟨p0, p1, p2, p3, p4, p5, _⟩ := h1
    have e0 := L_len a
    have g4 := U_len l
    have hb := ps_bound h1 c1
    have g0 := gi_nonneg (limbs a) i.toNat
    have g1 := gi_lt (dig_limbs a) i.toNat
    exact cast_ob (aI True.intro (aI (fun (h101 : (iLt i ((lim a).length : Int)) = true) => have _gh101 := iLt_t h101; aI (inB_mk oA : (inB i ((lim a).length)) = true) (aI (ld_L oA : (Nat.blt i.toNat (lim a).length && isIntK .u32 (nth (lim a) i.toNat .unk)) = true) (aI (fits_u64 oA : (fits .u64 (gi (limbs a) i.toNat)) = true) (aI (fits_u64 oA : (fits .u64 m) = true) (aI (fits_u64 oA : (fits .u64 ((gi (limbs a) i.toNat) * m)) = true) (aI (fits_u64 oA : (fits .u64 (c + ((gi (limbs a) i.toNat) * m))) = true) (aI (inB_mk oA : (inB i ((((lim a).length : Int) + 1).toNat)) = true) (aI (st_ok oA : (Nat.ble ((0 + i.toNat) + 1) (U l).length) = true) (aI (fits_i64 oA : (fits .i64 (i + 1)) = true) (aI tT ((nx_next ((i + 1), (Int.fdiv (c + ((gi (limbs a) i.toNat) * m)) (2 ^ 32)), (List.set (U l) (0 + i.toNat) (.int .u32 (IntKind.wrap .u32 (c + ((gi (limbs a) i.toNat) * m))))), (l.set i.toNat (IntKind.wrap .u32 (c + ((gi (limbs a) i.toNat) * m))).toNat)) (show (List.set (U l) (0 + i.toNat) (.int .u32 (IntKind.wrap .u32 (c + ((gi (limbs a) i.toNat) * m))))) = U (l.set i.toNat (IntKind.wrap .u32 (c + ((gi (limbs a) i.toNat) * m))).toNat) ∧ PsInv a m (i + 1) (Int.fdiv (c + ((gi (limbs a) i.toNat) * m)) (2 ^ 32)) (l.set i.toNat (IntKind.wrap .u32 (c + ((gi (limbs a) i.toNat) * m))).toNat) from ⟨setU _ oO (wrap_pos _), ps_next h1 oO c1 rfl⟩) (show ((L a : Int) - (i + 1)).toNat < ((L a : Int) - i).toNat by omega) : prod_Small_0_N a m (i, c, (U l), l) .normal (prod_Small_0_mk a m ((i + 1), (Int.fdiv (c + ((gi (limbs a) i.toNat) * m)) (2 ^ 32)), (List.set (U l) (0 + i.toNat) (.int .u32 (IntKind.wrap .u32 (c + ((gi (limbs a) i.toNat) * m))))), (l.set i.toNat (IntKind.wrap .u32 (c + ((gi (limbs a) i.toNat) * m))).toNat))))))))))))))) (fun (h102 : (iLt i ((lim a).length : Int)) = false) => have _gh102 := iLt_f h102; aI tT ((nx_exit 0 ((prod_Small_0_ex a m (c, l)).2) (c, l) (show PsInv a m (L a : Int) c l from (show i = (L a : Int) by omega) ▸ h1) rfl : prod_Small_0_N a m (i, c, (U l), l) (.exit 0) ((prod_Small_0_ex a m (c, l)).2)))))) (by kernel_rfl))
theorem prod_Small (a : Nat) (m : Int) (c0 : L a ≤ 33554432) (c1 : (0 : Int) ≤ m ∧ m < 4294967296) : Impl Tryz.prog Amb 229 [(N a), (.int .u32 m), (.int .u32 0)] (N (a * (m).toNat)) := by
  have e0 := L_len a
  exact impl_ob hP hAmb Tryz.func229 (by kernel_rfl) (.lit <| .yes <| .yes <| .lit <| .yes <| .loop ⟨[0, 1, 7, 8, 17, 18, 19], 1, []⟩ ((prod_Small_0_mk a m (0, 0, (List.replicate ((((lim a).length : Int) + 1).toNat) (.int .u32 0)), (List.replicate (L a + 1) 0)))) (Int × List Nat) (prod_Small_0_ex a m) (prod_Small_0_J a m) (fun y => .lit <| .no <| .yes <| .yes <| .yes <| .call (N (val (y.2.set (L a) y.1.toNat))) <| .lit <| .ret))
    (cast_ob (aI True.intro (aI (fits_i64 oA : (fits .i64 (((lim a).length : Int) + 1)) = true) (aI (mk_ok oA : (((iEq (((lim a).length : Int) + 1) (((lim a).length : Int) + 1)) && (iLe 0 (((lim a).length : Int) + 1))) && (iLe (((lim a).length : Int) + 1) 1073741824)) = true) (aI tT (aI tT (aI (rfl : (prod_Small_0_mk a m (0, 0, (List.replicate ((((lim a).length : Int) + 1).toNat) (.int .u32 0)), (List.replicate (L a + 1) 0))) = (prod_Small_0_mk a m (0, 0, (List.replicate ((((lim a).length : Int) + 1).toNat) (.int .u32 0)), (List.replicate (L a + 1) 0)))) (aI (prod_Small_0 a m c0 c1 (0, 0, (List.replicate ((((lim a).length : Int) + 1).toNat) (.int .u32 0)), (List.replicate (L a + 1) 0)) (show (List.replicate ((((lim a).length : Int) + 1).toNat) (.int .u32 0)) = U (List.replicate (L a + 1) 0) ∧ PsInv a m 0 0 (List.replicate (L a + 1) 0) from ⟨by rw [L_len]; exact U_rep _, ps_init _ _⟩)) (fun y (hJ : prod_Small_0_J a m y) => have hJ : PsInv a m (L a : Int) y.1 y.2 := hJ; have ⟨_, _, q2, q3, q4, _⟩ := hJ; have q5 := U_len y.2; aI (inB_mk oA : (inB ((lim a).length : Int) ((((lim a).length : Int) + 1).toNat)) = true) (aI (st_ok oA : (Nat.ble ((0 + ((lim a).length : Int).toNat) + 1) (U y.2).length) = true) (aI (ok_arg oA : ((true && Nat.ble (0 + (((lim a).length : Int) + 1).toNat) (List.set (U y.2) (0 + ((lim a).length : Int).toNat) (.int .u32 (IntKind.wrap .u32 y.1))).length) && true) = true) (aI (nat_TrimC (List.take ((((lim a).length : Int) + 1).toNat) (List.drop 0 (List.set (U y.2) (0 + ((lim a).length : Int).toNat) (.int .u32 (IntKind.wrap .u32 y.1))))) (y.2.set (L a) y.1.toNat) (tkU (setU y.2 (show _ = L a by omega) (by rw [wrap_u32]; omega)) (by rw [(ps_end hJ).2.1]; omega)) (ps_end hJ).1 (by rw [(ps_end hJ).2.1]; omega)) ((vsub_of (congrArg N (ps_end hJ).2.2) : vsub (N (val (y.2.set (L a) y.1.toNat))) (N (a * (m).toNat))))))))))))))) (by kernel_rfl))
theorem prod_Small1 (a : Nat) (c0 : L a ≤ 33554432) : Impl Tryz.prog Amb 229 [(N a), (.int .u32 1), (.int .u32 0)] (N a) := by
  have h := prod_Small a 1 c0 oO
  rw [show (1 : Int).toNat = 1 from rfl, Nat.mul_one] at h
  exact h
def prod_Power_0_mk (a : Nat) (n : Int) (x : Int × Nat) : St := ⟨mkS 35 [(0, (.val (N a))), (1, (.val (.int .i64 n))), (5, (.val (N x.2))), (6, (.val (.int .i64 x.1)))], []⟩
def prod_Power_0_I (a : Nat) (n : Int) (x : Int × Nat) : Prop := -1 ≤ x.1 ∧ x.1 ≤ 6 ∧ x.2 = a ^ (n.toNat / 2 ^ (x.1 + 1).toNat)
def prod_Power_0_mu (_ : Nat) (_ : Int) (x : Int × Nat) : Nat := (x.1 + 1).toNat
def prod_Power_0_ex (_ : Nat) (_ : Int) (y : Nat) : Ex × St := (.exit 0, ⟨mkS 35 [(5, (.val (N y)))], []⟩)
def prod_Power_0_J (a : Nat) (n : Int) (y : Nat) : Prop := y = a ^ (n).toNat
abbrev prod_Power_0_N (a : Nat) (n : Int) := NX (prod_Power_0_mk a n) (prod_Power_0_I a n) (prod_Power_0_mu a n) (prod_Power_0_ex a n) (prod_Power_0_J a n)
theorem prod_Power_0 (a : Nat) (n : Int) (c0 : L a ≤ 4096)(c1 : (0 : Int) ≤ n ∧ n ≤ 64) (x0 : Int × Nat) (hI : prod_Power_0_I a n x0) : LoopOk Tryz.prog Amb (loopN Tryz.f198 0) (prod_Power_0_mk a n x0) (fun e st_ => ∃ y, prod_Power_0_J a n y ∧ prod_Power_0_ex a n y = (e, st_)) :=
  loop_ob hP hAmb ⟨[0, 1, 5, 6], 0, []⟩ (prod_Power_0_mk a n) (prod_Power_0_I a n) (prod_Power_0_mu a n) (prod_Power_0_ex a n) (prod_Power_0_J a n) x0 hI (fun (i, o) => .lit <| .both (.lit <| .both (.lits 6 <| .call (N (o * o)) <| .yes <| .lits 2 <| .both (.lit <| .call (N ((o * o) * a)) <| .lit <| .yes <| .fin2 ⟨[0, 1, 5, 6], 0, []⟩) (.lit <| .yes <| .fin2 ⟨[0, 1, 5, 6], 0, []⟩)) (.lit <| .yes <| .lit <| .yes <| .lits 3 <| .both (.lit <| .call (N (o * o)) <| .yes <| .lits 2 <| .both (.lit <| .call (N ((o * o) * a)) <| .lit <| .yes <| .fin2 ⟨[0, 1, 5, 6], 0, []⟩) (.lit <| .yes <| .fin2 ⟨[0, 1, 5, 6], 0, []⟩)) (.yes <| .lits 2 <| .both (.lit <| .call (N (o * a)) <| .lit <| .yes <| .fin2 ⟨[0, 1, 5, 6], 0, []⟩) (.lit <| .yes <| .fin2 ⟨[0, 1, 5, 6], 0, []⟩)))) (.fin2 ⟨[5], 0, []⟩)) (by
    rintro ⟨i, o⟩ hI
    have hI : -1 ≤ i ∧ i ≤ 6 ∧ o = a ^ (n.toNat / 2 ^ (i + 1).toNat) := hI
    obtain ⟨h1, h2, h3⟩ := hI
    have lo : L o ≤ 64 * L a + 1 := by rw [h3]; exact L_pow64 (Nat.le_trans (Nat.div_le_self _ _) oO)
    have e0 := L_len o
    exact cast_ob (aI True.intro (aI (fun (h101 : (iGe i 0) = true) => have _gh101 := iGe_t h101; aI (fun (h102 : (iNe ((lim o).length : Int) 1) = true) => have _gh102 := iNe_t h102; aI (prod_Square o oO) (have f106 := L_mul o o; aI (iLe_mk oO : (iLe 0 i) = true) (aI (fun (h103 : (iEq (wAnd .i64 (Int.fdiv n (2 ^ (min i.toNat (IntKind.bits .i64)))) (1 : Int)) 1) = true) => have _gh103 := iEq_t h103; aI (prod_Mul (o * o) a oO oO) (have f104 := L_mul (o * o) a; aI (fits_i64 oO : (fits .i64 (i - 1)) = true) (aI tT ((nx_next ((i - 1), ((o * o) * a)) (show -1 ≤ (i - 1) ∧ (i - 1) ≤ 6 ∧ ((o * o) * a) = a ^ (n.toNat / 2 ^ ((i - 1) + 1).toNat) from ⟨by omega, by omega, pw_y h3 c1 oO (by assumption)⟩) (show (i - 1 + 1).toNat < (i + 1).toNat by omega) : prod_Power_0_N a n (i, o) .normal (prod_Power_0_mk a n ((i - 1), ((o * o) * a)))))))) (fun (h105 : (iEq (wAnd .i64 (Int.fdiv n (2 ^ (min i.toNat (IntKind.bits .i64)))) (1 : Int)) 1) = false) => have _gh105 := iEq_f h105; aI (fits_i64 oO : (fits .i64 (i - 1)) = true) (aI tT ((nx_next ((i - 1), (o * o)) (show -1 ≤ (i - 1) ∧ (i - 1) ≤ 6 ∧ (o * o) = a ^ (n.toNat / 2 ^ ((i - 1) + 1).toNat) from ⟨by omega, by omega, pw_n h3 c1 oO (by assumption)⟩) (show (i - 1 + 1).toNat < (i + 1).toNat by omega) : prod_Power_0_N a n (i, o) .normal (prod_Power_0_mk a n ((i - 1), (o * o)))))))))) (fun (h107 : (iNe ((lim o).length : Int) 1) = false) => have _gh107 := iNe_f h107; aI (inB_mk oO : (inB (0 : Int) ((lim o).length)) = true) (aI (ld_L oO : (Nat.blt 0 (lim o).length && isIntK .u32 (nth (lim o) 0 .unk)) = true) (aI (fun (h108 : (iNe (gi (limbs o) 0) 1) = true) => have _gh108 := iNe_t h108; aI (prod_Square o oO) (have f112 := L_mul o o; aI (iLe_mk oO : (iLe 0 i) = true) (aI (fun (h109 : (iEq (wAnd .i64 (Int.fdiv n (2 ^ (min i.toNat (IntKind.bits .i64)))) (1 : Int)) 1) = true) => have _gh109 := iEq_t h109; aI (prod_Mul (o * o) a oO oO) (have f110 := L_mul (o * o) a; aI (fits_i64 oO : (fits .i64 (i - 1)) = true) (aI tT ((nx_next ((i - 1), ((o * o) * a)) (show -1 ≤ (i - 1) ∧ (i - 1) ≤ 6 ∧ ((o * o) * a) = a ^ (n.toNat / 2 ^ ((i - 1) + 1).toNat) from ⟨by omega, by omega, pw_y h3 c1 oO (by assumption)⟩) (show (i - 1 + 1).toNat < (i + 1).toNat by omega) : prod_Power_0_N a n (i, o) .normal (prod_Power_0_mk a n ((i - 1), ((o * o) * a)))))))) (fun (h111 : (iEq (wAnd .i64 (Int.fdiv n (2 ^ (min i.toNat (IntKind.bits .i64)))) (1 : Int)) 1) = false) => have _gh111 := iEq_f h111; aI (fits_i64 oO : (fits .i64 (i - 1)) = true) (aI tT ((nx_next ((i - 1), (o * o)) (show -1 ≤ (i - 1) ∧ (i - 1) ≤ 6 ∧ (o * o) = a ^ (n.toNat / 2 ^ ((i - 1) + 1).toNat) from ⟨by omega, by omega, pw_n h3 c1 oO (by assumption)⟩) (show (i - 1 + 1).toNat < (i + 1).toNat by omega) : prod_Power_0_N a n (i, o) .normal (prod_Power_0_mk a n ((i - 1), (o * o)))))))))) (fun (h113 : (iNe (gi (limbs o) 0) 1) = false) => have _gh113 := iNe_f h113; aI (iLe_mk oO : (iLe 0 i) = true) (aI (fun (h114 : (iEq (wAnd .i64 (Int.fdiv n (2 ^ (min i.toNat (IntKind.bits .i64)))) (1 : Int)) 1) = true) => have _gh114 := iEq_t h114; aI (prod_Mul o a oO oO) (have f115 := L_mul o a; aI (fits_i64 oO : (fits .i64 (i - 1)) = true) (aI tT ((nx_next ((i - 1), (o * a)) (show -1 ≤ (i - 1) ∧ (i - 1) ≤ 6 ∧ (o * a) = a ^ (n.toNat / 2 ^ ((i - 1) + 1).toNat) from ⟨by omega, by omega, (sq_one' oO (by assumption)).trans (pw_y h3 c1 oO (by assumption))⟩) (show (i - 1 + 1).toNat < (i + 1).toNat by omega) : prod_Power_0_N a n (i, o) .normal (prod_Power_0_mk a n ((i - 1), (o * a)))))))) (fun (h116 : (iEq (wAnd .i64 (Int.fdiv n (2 ^ (min i.toNat (IntKind.bits .i64)))) (1 : Int)) 1) = false) => have _gh116 := iEq_f h116; aI (fits_i64 oO : (fits .i64 (i - 1)) = true) (aI tT ((nx_next ((i - 1), o) (show -1 ≤ (i - 1) ∧ (i - 1) ≤ 6 ∧ o = a ^ (n.toNat / 2 ^ ((i - 1) + 1).toNat) from ⟨by omega, by omega, (sq_one oO (by assumption)).trans (pw_n h3 c1 oO (by assumption))⟩) (show (i - 1 + 1).toNat < (i + 1).toNat by omega) : prod_Power_0_N a n (i, o) .normal (prod_Power_0_mk a n ((i - 1), o)))))))))))) (fun (h117 : (iGe i 0) = false) => have _gh117 := iGe_f h117; aI tT ((nx_exit 0 ((prod_Power_0_ex a n o).2) o (show o = a ^ (n).toNat from (by rw [h3, show (i + 1).toNat = 0 by omega, Nat.pow_zero, Nat.div_one])) rfl : prod_Power_0_N a n (i, o) (.exit 0) ((prod_Power_0_ex a n o).2)))))) (by kernel_rfl))
theorem prod_Power (a : Nat) (n : Int) (c0 : L a ≤ 4096) (c1 : (0 : Int) ≤ n ∧ n ≤ 64) : Impl Tryz.prog Amb 198 [(N a), (.int .i64 n)] (N (a ^ (n).toNat)) := by
  have en : iMin (iMax n (0 : Int)) (64 : Int) = n := by unfold iMin iMax; split <;> split <;> omega
  exact impl_ob hP hAmb Tryz.func198 (by kernel_rfl) (.lits 3 <| .call (N 1) <| .loop ⟨[0, 1, 5, 6], 0, []⟩ ((prod_Power_0_mk a (iMin (iMax n (0 : Int)) (64 : Int)) ((6 : Int), 1))) (Nat) (prod_Power_0_ex a (iMin (iMax n (0 : Int)) (64 : Int))) (prod_Power_0_J a (iMin (iMax n (0 : Int)) (64 : Int))) (fun y => .lit <| .ret))
    (cast_ob (aI True.intro (aI (nat_Of 1 oA) (aI tT (aI (rfl : (prod_Power_0_mk a (iMin (iMax n (0 : Int)) (64 : Int)) ((6 : Int), 1)) = (prod_Power_0_mk a (iMin (iMax n (0 : Int)) (64 : Int)) ((6 : Int), 1))) (aI (prod_Power_0 a (iMin (iMax n (0 : Int)) (64 : Int)) c0 (by rw [en]; exact c1) ((6 : Int), 1) (show -1 ≤ (6 : Int) ∧ (6 : Int) ≤ 6 ∧ 1 = a ^ ((iMin (iMax n (0 : Int)) (64 : Int)).toNat / 2 ^ ((6 : Int) + 1).toNat) from ⟨by omega, by omega, (by rw [show ((6 : Int) + 1).toNat = 7 from rfl, Nat.div_eq_of_lt (show Int.toNat _ < 2 ^ 7 by omega)]; rfl)⟩)) (fun y (hJ : prod_Power_0_J a (iMin (iMax n (0 : Int)) (64 : Int)) y) => have hJ : y = a ^ ((iMin (iMax n (0 : Int)) (64 : Int))).toNat := hJ; (vsub_of (congrArg N (by rw [hJ, en])) : vsub (N y) (N (a ^ (n).toNat))))))))) (by kernel_rfl))
theorem prod_Power1 (a : Nat) (c0 : L a ≤ 4096) : Impl Tryz.prog Amb 198 [(N a), .int .i64 1] (N a) := by
  have h := prod_Power a 1 c0 oO
  rw [show (1 : Int).toNat = 1 from rfl, Nat.pow_one] at h
  exact h
def root_newton_0_mk (a : Nat) (x : Nat) : St := ⟨mkS 51 [(0, (.val (N a))), (1, (.val (.int .i64 2))), (5, (.val (N x)))], []⟩
def root_newton_0_I (a : Nat) (x : Nat) : Prop := 0 < x ∧ a < (x + 1) * (x + 1) ∧ L x ≤ 4096
def root_newton_0_mu (_ : Nat) (x : Nat) : Nat := x
def root_newton_0_ex (_ : Nat) (y : Nat) : Ex × St := (.ret, ⟨mkS 51 [(4, (.val (N y)))], []⟩)
def root_newton_0_J (a : Nat) (y : Nat) : Prop := y = rt a
abbrev root_newton_0_N (a : Nat) := NX (root_newton_0_mk a) (root_newton_0_I a) (root_newton_0_mu a) (root_newton_0_ex a) (root_newton_0_J a)
theorem root_newton_0 (a : Nat) (c0 : L a ≤ 4096)(c1 : 0 < a) (x0 : Nat) (hI : root_newton_0_I a x0) : LoopOk Tryz.prog Amb (loopN Tryz.f219 0) (root_newton_0_mk a x0) (fun e st_ => ∃ y, root_newton_0_J a y ∧ root_newton_0_ex a y = (e, st_)) :=
  loop_ob hP hAmb ⟨[0, 1, 5], 0, []⟩ (root_newton_0_mk a) (root_newton_0_I a) (root_newton_0_mu a) (root_newton_0_ex a) (root_newton_0_J a) x0 hI (fun z => .lit <| .yes <| .lit <| .call (N z) <| .lit <| .call (.tup [(N (a / z)), (N (a % z)), (.bool true)]) <| .lit <| .yes <| .lit <| .yes <| .lit <| .call (N z) <| .lit <| .call (N (z + (a / z))) <| .lit <| .yes <| .lit <| .call (.tup [(N ((z + (a / z)) / 2)), (.int .u32 (((z + (a / z)) % 2 : Nat) : Int)), (.bool true)]) <| .lit <| .call (.int .i64 (cmpN ((z + (a / z)) / 2) z)) <| .lit <| .both (.fin2 ⟨[4], 0, []⟩) (.fin2 ⟨[0, 1, 5], 0, []⟩)) (by
    rintro z hI
    have hI : 0 < z ∧ a < (z + 1) * (z + 1) ∧ L z ≤ 4096 := hI
    obtain ⟨h1, h2, h3⟩ := hI
    have l0 := L_div a z
    have l1 := L_add z (a / z)
    have l2 := L_div (z + a / z) 2
    have l3 := fun (q : (z + a / z) / 2 < z) => L_mono (Nat.le_of_lt q)
    have r0 := cmpN_range ((z + a / z) / 2) z
    exact cast_ob (aI True.intro (aI tT (aI (prod_Power1 z oO) (aI (quot_DivMod a z oO oO oO) (have f107 := L_mod a z; have f106 := L_div a z; aI tT (aI tT (aI (prod_Small1 z oO) (aI (nat_Add z (a / z) oO oO) (have f105 := L_add z (a / z); aI tT (aI (quot_SmallI (z + (a / z)) 2 oO oO) (have f104 := L_div (z + (a / z)) 2; aI (nat_Cmp ((z + (a / z)) / 2) z oO oO) (have f103 := cmpN_range ((z + (a / z)) / 2) z; aI (fun (h101 : (iGe (cmpN ((z + (a / z)) / 2) z) 0) = true) => have _gh101 := iGe_t h101; aI tT ((nx_ret ((root_newton_0_ex a z).2) z (show z = rt a from nw_end (y := (z + a / z) / 2) h1 h2 rfl oO) rfl : root_newton_0_N a z .ret ((root_newton_0_ex a z).2)))) (fun (h102 : (iGe (cmpN ((z + (a / z)) / 2) z) 0) = false) => have _gh102 := iGe_f h102; aI tT ((nx_next ((z + (a / z)) / 2) (show 0 < ((z + (a / z)) / 2) ∧ a < (((z + (a / z)) / 2) + 1) * (((z + (a / z)) / 2) + 1) ∧ L ((z + (a / z)) / 2) ≤ 4096 from ⟨nw_pos c1 h1 rfl, nw_up h1 rfl, by omega⟩) (show (z + a / z) / 2 < z by omega) : root_newton_0_N a z .normal (root_newton_0_mk a ((z + (a / z)) / 2))))))))))))))))) (by kernel_rfl))
theorem root_newton (a : Nat) (c0 : L a ≤ 4096) (c1 : 0 < a) : Impl Tryz.prog Amb 219 [(N a), (.int .i64 2)] (N (rt a)) := by
  have l0 := L_le (n := 1) (k := 1) (by decide)
  have b0 := nbits_L a
  have t0 : Int.tdiv (((nbits a : Int) + 2) - 1) (2 : Int) = ((nbits a : Int) + 2 - 1) / 2 := Int.tdiv_eq_ediv_of_nonneg oO
  have l1 := L_shl 1 (Int.tdiv (((nbits a : Int) + 2) - 1) (2 : Int)).toNat
  exact impl_ob hP hAmb Tryz.func219 (by kernel_rfl) (.lit <| .call (N 1) <| .lit <| .call (.int .i64 (nbits a : Int)) <| .lit <| .yes <| .lit <| .yes <| .lit <| .yes <| .lit <| .call (N (1 * 2 ^ ((Int.tdiv (((nbits a : Int) + 2) - 1) (2 : Int))).toNat)) <| .loop ⟨[0, 1, 5], 0, []⟩ ((root_newton_0_mk a (1 * 2 ^ ((Int.tdiv (((nbits a : Int) + 2) - 1) (2 : Int))).toNat))) (Nat) (root_newton_0_ex a) (root_newton_0_J a) (fun y => .lit <| .ret))
    (cast_ob (aI True.intro (aI (nat_Of 1 oA) (aI (nat_Bits a oA) (have f2 := nbits_L a; aI (fits_i64 oA : (fits .i64 ((nbits a : Int) + 2)) = true) (aI (fits_i64 oA : (fits .i64 (((nbits a : Int) + 2) - 1)) = true) (aI (fits_i64 oA : (fits .i64 (Int.tdiv (((nbits a : Int) + 2) - 1) (2 : Int))) = true) (aI (nat_Shl 1 (Int.tdiv (((nbits a : Int) + 2) - 1) (2 : Int)) oA oA) (have f1 := L_shl 1 ((Int.tdiv (((nbits a : Int) + 2) - 1) (2 : Int))).toNat; aI tT (aI (rfl : (root_newton_0_mk a (1 * 2 ^ ((Int.tdiv (((nbits a : Int) + 2) - 1) (2 : Int))).toNat)) = (root_newton_0_mk a (1 * 2 ^ ((Int.tdiv (((nbits a : Int) + 2) - 1) (2 : Int))).toNat))) (aI (root_newton_0 a c0 c1 (1 * 2 ^ ((Int.tdiv (((nbits a : Int) + 2) - 1) (2 : Int))).toNat) (show 0 < (1 * 2 ^ ((Int.tdiv (((nbits a : Int) + 2) - 1) (2 : Int))).toNat) ∧ a < ((1 * 2 ^ ((Int.tdiv (((nbits a : Int) + 2) - 1) (2 : Int))).toNat) + 1) * ((1 * 2 ^ ((Int.tdiv (((nbits a : Int) + 2) - 1) (2 : Int))).toNat) + 1) ∧ L ((1 * 2 ^ ((Int.tdiv (((nbits a : Int) + 2) - 1) (2 : Int))).toNat)) ≤ 4096 from ⟨by rw [Nat.one_mul]; exact Nat.pow_pos oO, nw_init oO, by omega⟩)) (fun y (hJ : root_newton_0_J a y) => have hJ : y = rt a := hJ; (vsub_of (congrArg N hJ) : vsub (N y) (N (rt a)))))))))))))) (by kernel_rfl))
theorem root_Sqrt (a : Nat) (c0 : L a ≤ 4096) : Impl Tryz.prog Amb 192 [(N a)] (.tup [(N (rt a)), (N (a - rt a * rt a))]) := by
  have e0 := L_len a
  have e1 := L_pos_iff a
  have s0 := (rt_spec a).1
  exact impl_ob hP hAmb Tryz.func192 (by kernel_rfl) (.lit <| .call (N a) <| .lit <| .both (.lit <| .ret) (.lit <| .call (N (rt a)) <| .lit <| .call (N ((rt a) * (rt a))) <| .lit <| .call (.tup [(N (a - ((rt a) * (rt a)))), (.bool (decide (((rt a) * (rt a)) ≤ a)))]) <| .lit <| .ret))
    (cast_ob (aI True.intro (aI (nat_TrimN a oA) (aI (fun (h1 : (iEq ((lim a).length : Int) 0) = true) => have _gh1 := iEq_t h1; (rt_nil oO : vsub (.tup [.nil, .nil]) (.tup [(N (rt a)), (N (a - rt a * rt a))]))) (fun (h2 : (iEq ((lim a).length : Int) 0) = false) => have _gh2 := iEq_f h2; aI (root_newton a oA oA) (have f5 := rt_L a; aI (prod_Square (rt a) oA) (have f4 := L_mul (rt a) (rt a); aI (nat_Sub2 a ((rt a) * (rt a)) oA oA) (have f3 := L_sub a ((rt a) * (rt a)); (vsub_of (by first | rfl | simp_all) : vsub (.tup [(N (rt a)), (N (a - ((rt a) * (rt a))))]) (.tup [(N (rt a)), (N (a - rt a * rt a))]))))))))) (by kernel_rfl))
def r02_Power_0_mk (a : Nat) (n : Int) (x : Int × Nat) : St := ⟨mkS 15 [(0, (.val (N a))), (5, (.val (N x.2))), (7, (.val (.int .i64 n))), (8, (.val (.int .i64 x.1)))], []⟩
def r02_Power_0_I (a : Nat) (n : Int) (x : Int × Nat) : Prop := 0 ≤ x.1 ∧ x.1 ≤ n ∧ x.2 = a ^ (x.1).toNat
def r02_Power_0_mu (_ : Nat) (n : Int) (x : Int × Nat) : Nat := (n - x.1).toNat
def r02_Power_0_ex (_ : Nat) (_ : Int) (y : Nat) : Ex × St := (.exit 0, ⟨mkS 15 [(5, (.val (N y)))], []⟩)
def r02_Power_0_J (a : Nat) (n : Int) (y : Nat) : Prop := y = a ^ (n).toNat
abbrev r02_Power_0_N (a : Nat) (n : Int) := NX (r02_Power_0_mk a n) (r02_Power_0_I a n) (r02_Power_0_mu a n) (r02_Power_0_ex a n) (r02_Power_0_J a n)
theorem r02_Power_0 (a : Nat) (n : Int) (c0 : L a ≤ 4096)(c1 : (0 : Int) ≤ n ∧ n ≤ 64) (x0 : Int × Nat) (hI : r02_Power_0_I a n x0) : LoopOk Tryz.prog Amb (loopN Tryz.f110 0) (r02_Power_0_mk a n x0) (fun e st_ => ∃ y, r02_Power_0_J a n y ∧ r02_Power_0_ex a n y = (e, st_)) :=
  loop_ob hP hAmb ⟨[0, 5, 7, 8], 0, []⟩ (r02_Power_0_mk a n) (r02_Power_0_I a n) (r02_Power_0_mu a n) (r02_Power_0_ex a n) (r02_Power_0_J a n) x0 hI (fun (i, o) => .lit <| .both (.lit <| .call (N (o * a)) <| .lit <| .yes <| .fin2 ⟨[0, 5, 7, 8], 0, []⟩) (.fin2 ⟨[5], 0, []⟩)) (by
    rintro ⟨i, o⟩ hI
    have hI : 0 ≤ i ∧ i ≤ n ∧ o = a ^ (i).toNat := hI
    obtain ⟨h1, h2, h3⟩ := hI
    have lo : L o ≤ 64 * L a + 1 := by rw [h3]; exact L_pow64 oO
    exact cast_ob (aI True.intro (aI (fun (h101 : (iLt i n) = true) => have _gh101 := iLt_t h101; aI (r02_Mul o a oO oO) (have f102 := L_mul o a; aI (fits_i64 oO : (fits .i64 (i + 1)) = true) (aI tT ((nx_next ((i + 1), (o * a)) (show 0 ≤ (i + 1) ∧ (i + 1) ≤ n ∧ (o * a) = a ^ ((i + 1)).toNat from ⟨by omega, by omega, by rw [h3, show (i + 1).toNat = i.toNat + 1 by omega, Nat.pow_succ]⟩) (show (n - (i + 1)).toNat < (n - i).toNat by omega) : r02_Power_0_N a n (i, o) .normal (r02_Power_0_mk a n ((i + 1), (o * a)))))))) (fun (h103 : (iLt i n) = false) => have _gh103 := iLt_f h103; aI tT ((nx_exit 0 ((r02_Power_0_ex a n o).2) o (show o = a ^ (n).toNat from (by rw [h3, show i = n by omega])) rfl : r02_Power_0_N a n (i, o) (.exit 0) ((r02_Power_0_ex a n o).2)))))) (by kernel_rfl))
theorem r02_Power (a : Nat) (n : Int) (c0 : L a ≤ 4096) (c1 : (0 : Int) ≤ n ∧ n ≤ 64) : Impl Tryz.prog Amb 110 [(N a), (.int .i64 n)] (N (a ^ (n).toNat)) := by
  exact impl_ob hP hAmb Tryz.func110 (by kernel_rfl) (.lit <| .call (N 1) <| .loop ⟨[0, 5, 7, 8], 0, []⟩ ((r02_Power_0_mk a n ((0 : Int), 1))) (Nat) (r02_Power_0_ex a n) (r02_Power_0_J a n) (fun y => .lit <| .ret))
    (cast_ob (aI True.intro (aI (r01_Of 1 oA) (aI tT (aI (rfl : (r02_Power_0_mk a n ((0 : Int), 1)) = (r02_Power_0_mk a n ((0 : Int), 1))) (aI (r02_Power_0 a n oO oO ((0 : Int), 1) (show 0 ≤ (0 : Int) ∧ (0 : Int) ≤ n ∧ 1 = a ^ ((0 : Int)).toNat from ⟨by omega, by omega, rfl⟩)) (fun y (hJ : r02_Power_0_J a n y) => have hJ : y = a ^ (n).toNat := hJ; (vsub_of (congrArg N hJ) : vsub (N y) (N (a ^ (n).toNat))))))))) (by kernel_rfl))
end Go.Proofs.YtmbpoibhamlkbaaGreatDoor

namespace Go.Proofs.YtmbpoibhamlkbaaGreatDoor
def sqF (m e w : Int) : Nat := rt (flr (dv m e) (2 * w)).natAbs
def sqX (m e w : Int) : Bool := decide (sqF m e w * sqF m e w = (flr (dv m e) (2 * w)).natAbs ∧ (m = 0 ∨ -(2 * w) ≤ e))
def sqV (m e w : Int) (up : Bool) : Int := (sqF m e w : Int) + (if (up && !sqX m e w) = true then 1 else 0)
def srE (m e w : Int) (up : Bool) : Int := if 0 ≤ w ∧ w ≤ 4096 then (if m < 0 then 4 else mkE (sqV m e w up) (-w)) else 1
def srM (m e w : Int) (up : Bool) : Int := if (0 ≤ w ∧ w ≤ 4096) ∧ 0 ≤ m then mkM (sqV m e w up) (-w) else 0
def srX (m e w : Int) (up : Bool) : Int := if (0 ≤ w ∧ w ≤ 4096) ∧ 0 ≤ m then mkX (sqV m e w up) (-w) else 0
theorem sr_1 {m e w : Int} {up : Bool} (h : w < 0 ∨ 4096 < w) : srM m e w up = 0 ∧ srX m e w up = 0 ∧ srE m e w up = 1 := by
  unfold srM srX srE
  rw [if_neg (by omega), if_neg (by omega), if_neg (by omega)]; exact ⟨rfl, rfl, rfl⟩
theorem sr_2 {m e w : Int} {up : Bool} (h : 0 ≤ w ∧ w ≤ 4096) (hm : m < 0) : srM m e w up = 0 ∧ srX m e w up = 0 ∧ srE m e w up = 4 := by
  unfold srM srX srE
  rw [if_neg (by omega), if_neg (by omega), if_pos h, if_pos hm]; exact ⟨rfl, rfl, rfl⟩
theorem sr_3 {m e w : Int} {up : Bool} (h : 0 ≤ w ∧ w ≤ 4096) (hm : 0 ≤ m) : srM m e w up = mkM (sqV m e w up) (-w) ∧ srX m e w up = mkX (sqV m e w up) (-w) ∧ srE m e w up = mkE (sqV m e w up) (-w) := by
  unfold srM srX srE
  rw [if_pos ⟨h, hm⟩, if_pos ⟨h, hm⟩, if_pos h, if_neg (by omega)]; exact ⟨rfl, rfl, rfl⟩
theorem sr_y {m e w x z : Int} {up : Bool} (h : 0 ≤ w ∧ w ≤ 4096) (hm : 0 ≤ m) (hx : x = sqV m e w up) (hz : z = -w) : srM m e w up = mkM x z ∧ srX m e w up = mkX x z ∧ srE m e w up = mkE x z := by
  obtain ⟨a, b, c⟩ := sr_3 (e := e) (up := up) h hm
  rw [a, b, c, hx, hz]; exact ⟨rfl, rfl, rfl⟩
theorem sqV_no {m e w : Int} {up : Bool} {x : Nat} (hx : x = sqF m e w) (h : (up && !sqX m e w) = false) : sgn false x = sqV m e w up := by
  unfold sqV; rw [h, sgn_f, hx]; simp
theorem sqV_up {m e w : Int} {up : Bool} {x : Nat} (hx : x = sqF m e w) (h : (up && !sqX m e w) = true) : sgn false (x + 1) = sqV m e w up := by
  unfold sqV; rw [h, sgn_f, hx]; simp
theorem flr_nonneg {r : Rat} (h : 0 ≤ r) (p : Int) : 0 ≤ flr r p := le_flr.2 (by rw [dv_zero]; exact h)
theorem sq_p {m e w : Int} (hm : 0 ≤ m) (h : 0 ≤ e + 2 * w) : m.natAbs * 2 ^ (e + 2 * w).toNat = (flr (dv m e) (2 * w)).natAbs := by
  rw [flr_dv, if_pos h, abs_shl]
theorem sq_n {m e w : Int} (hm : 0 ≤ m) (h : e + 2 * w < 0) : m.natAbs / 2 ^ (0 - (e + 2 * w)).toNat = (flr (dv m e) (2 * w)).natAbs := by
  rw [flr_dv, if_neg (by omega), show 0 - (e + 2 * w) = -(e + 2 * w) by omega]
  obtain ⟨k, rfl⟩ := Int.eq_ofNat_of_zero_le hm
  rw [pow_cast, ← Int.natCast_ediv, Int.natAbs_natCast, Int.natAbs_natCast]
theorem rest_zero (a : Nat) : a - rt a * rt a = 0 ↔ rt a * rt a = a := by have := (rt_spec a).1; omega
theorem len_zero {x : Nat} : ((lim x).length : Int) = 0 ↔ x = 0 := by
  have := L_len x; have := L_pos_iff x; omega
theorem iEq_dec (a b : Int) : iEq a b = decide (a = b) := by unfold iEq; by_cases h : a = b <;> simp [h]
theorem sqX_p {m e w : Int} (hm : 0 ≤ m) (h : 0 ≤ e + 2 * w) {a : Nat} (ha : a = (flr (dv m e) (2 * w)).natAbs) : iEq ((lim (a - rt a * rt a)).length : Int) 0 = sqX m e w := by
  unfold sqX sqF
  rw [← ha, iEq_dec, decide_eq_decide, len_zero, rest_zero]
  exact ⟨fun q => ⟨q, .inr (by omega)⟩, fun q => q.1⟩
theorem odd_mod {m : Int} {e : Int} (hv : vdb m e = true) {k : Int} (hk : 0 < k) : m.natAbs % 2 ^ k.toNat = 0 ↔ m = 0 := by
  constructor
  · intro h
    refine Decidable.byContradiction fun hm => ?_
    rcases vdb_iff.1 hv with q | q
    · exact hm q.1
    · have h2 : 2 ∣ 2 ^ k.toNat := ⟨2 ^ (k.toNat - 1), by rw [← Nat.pow_succ']; congr 1; omega⟩
      have h3 := Nat.dvd_trans h2 (Nat.dvd_of_mod_eq_zero h)
      have := Nat.mod_eq_zero_of_dvd h3
      omega
  · intro h; subst h; exact Nat.zero_mod _
theorem sqX_n {m e w : Int} (hm : 0 ≤ m) (hv : vdb m e = true) (h : e + 2 * w < 0) {a : Nat} (ha : a = (flr (dv m e) (2 * w)).natAbs) (hr : ((lim (a - rt a * rt a)).length : Int) = 0) :
    iEq ((lim (m.natAbs % 2 ^ (0 - (e + 2 * w)).toNat)).length : Int) 0 = sqX m e w := by
  unfold sqX sqF
  rw [← ha, iEq_dec, decide_eq_decide, len_zero, odd_mod hv (by omega)]
  exact ⟨fun q => ⟨(rest_zero a).1 (len_zero.1 hr), .inl q⟩, fun q => q.2.elim id fun k => by omega⟩
theorem sqX_no {m e w : Int} {a : Nat} (ha : a = (flr (dv m e) (2 * w)).natAbs) (hr : ((lim (a - rt a * rt a)).length : Int) ≠ 0) : false = sqX m e w := by
  unfold sqX sqF
  rw [← ha]
  exact (decide_eq_false fun q => hr (len_zero.2 ((rest_zero a).2 q.1))).symm
theorem sq_L {m e w : Int} (hm : L m.natAbs ≤ 60) (he : -5000 ≤ e ∧ e ≤ 5000) (hw : 0 ≤ w ∧ w ≤ 4096) : L (flr (dv m e) (2 * w)).natAbs ≤ 480 ∧ L (sqF m e w) ≤ 480 := by
  have h := flr_LD m e (2 * w)
  have h2 := rt_L (flr (dv m e) (2 * w)).natAbs
  unfold sqF
  omega
theorem sqV_L {m e w : Int} {up : Bool} (hm : L m.natAbs ≤ 60) (he : -5000 ≤ e ∧ e ≤ 5000) (hw : 0 ≤ w ∧ w ≤ 4096) : L (sqV m e w up).natAbs ≤ 481 := by
  have h := (sq_L hm he hw).2
  have h1 : L (1 : Int).natAbs ≤ 1 := L_le (by decide)
  have h2 := L_abs_add (sqF m e w) 1
  rw [Int.natAbs_natCast] at h2
  unfold sqV
  split
  · omega
  · rw [Int.add_zero, Int.natAbs_natCast]; omega
theorem sr_facts (m e w : Int) (up : Bool) : (L (srM m e w up).natAbs ≤ L (sqV m e w up).natAbs ∧ (-65536 ≤ srX m e w up ∧ srX m e w up ≤ 65536) ∧ 0 ≤ srE m e w up ∧ srE m e w up ≤ 4) ∧ vdb (srM m e w up) (srX m e w up) = true := by
  by_cases hw : 0 ≤ w ∧ w ≤ 4096
  · by_cases h0 : 0 ≤ m
    · obtain ⟨a, b, c⟩ := sr_3 (e := e) (up := up) hw h0
      rw [a, b, c]
      have := mk_facts (sqV m e w up) (-w)
      exact ⟨by omega, vdb_mk⟩
    · obtain ⟨a, b, c⟩ := sr_2 (e := e) (up := up) hw (show m < 0 by omega)
      rw [a, b, c]
      have : L (0 : Int).natAbs = 0 := L_zero
      exact ⟨by omega, by unfold vdb; simp⟩
  · obtain ⟨a, b, c⟩ := sr_1 (m := m) (e := e) (up := up) (show w < 0 ∨ 4096 < w by omega)
    rw [a, b, c]
    have : L (0 : Int).natAbs = 0 := L_zero
    exact ⟨by omega, by unfold vdb; simp⟩
def stE (m e n f w : Int) : Int := if 0 ≤ w ∧ w ≤ 4096 then (if n < 0 then 4 else if m < 0 then 5 else ecE (srM m e w false) (srX m e w false) (srM n f w true) (srX n f w true) (srE m e w false) (srE n f w true)) else 1
def stV (x m e n f w : Int) : Int := if (0 ≤ w ∧ w ≤ 4096) ∧ 0 ≤ n ∧ 0 ≤ m then ecV x (srM m e w false) (srX m e w false) (srM n f w true) (srX n f w true) (srE m e w false) (srE n f w true) else 0
def stT (m e n f w : Int) : V := .tup [.agg [.bool (decide (stV (srM m e w false) m e n f w < 0)), N (stV (srM m e w false) m e n f w).natAbs, .int .i64 (stV (srX m e w false) m e n f w), .bool (decide (stV (srM n f w true) m e n f w < 0)), N (stV (srM n f w true) m e n f w).natAbs, .int .i64 (stV (srX n f w true) m e n f w)], .int .i64 (stE m e n f w)]
theorem st_bad {m e n f w c : Int} (h : ¬ ((0 ≤ w ∧ w ≤ 4096) ∧ 0 ≤ n ∧ 0 ≤ m)) (hc : c = stE m e n f w) : vsub (.tup [.agg [.bool false, .nil, .int .i64 0, .bool false, .nil, .int .i64 0], .int .i64 c]) (stT m e n f w) := by
  unfold stT
  have z : ∀ x, stV x m e n f w = 0 := fun x => by unfold stV; rw [if_neg h]
  rw [z, z, z, z, ← hc]
  exact vsub_w0 c
theorem st_1 {m e n f w : Int} (h : w < 0 ∨ 4096 < w) : 1 = stE m e n f w := by unfold stE; rw [if_neg (by omega)]
theorem st_4 {m e n f w : Int} (h : 0 ≤ w ∧ w ≤ 4096) (hn : n < 0) : 4 = stE m e n f w := by unfold stE; rw [if_pos h, if_pos hn]
theorem st_5 {m e n f w : Int} (h : 0 ≤ w ∧ w ≤ 4096) (hn : 0 ≤ n) (hm : m < 0) : 5 = stE m e n f w := by unfold stE; rw [if_pos h, if_neg (by omega), if_pos hm]
theorem sst_ok {m e n f w : Int} (h : 0 ≤ w ∧ w ≤ 4096) (hn : 0 ≤ n) (hm : 0 ≤ m) : stE m e n f w = ecE (srM m e w false) (srX m e w false) (srM n f w true) (srX n f w true) (srE m e w false) (srE n f w true) ∧
    ∀ x, stV x m e n f w = ecV x (srM m e w false) (srX m e w false) (srM n f w true) (srX n f w true) (srE m e w false) (srE n f w true) := by
  refine ⟨by unfold stE; rw [if_pos h, if_neg (by omega), if_neg (by omega)], fun x => by unfold stV; rw [if_pos ⟨h, hn, hm⟩]⟩
theorem st_ec {m e n f w : Int} (h : 0 ≤ w ∧ w ≤ 4096) (hn : 0 ≤ n) (hm : 0 ≤ m) :
    vsub (.tup [.agg [.bool (decide (ecV (srM m e w false) (srM m e w false) (srX m e w false) (srM n f w true) (srX n f w true) (srE m e w false) (srE n f w true) < 0)), N (ecV (srM m e w false) (srM m e w false) (srX m e w false) (srM n f w true) (srX n f w true) (srE m e w false) (srE n f w true)).natAbs, .int .i64 (ecV (srX m e w false) (srM m e w false) (srX m e w false) (srM n f w true) (srX n f w true) (srE m e w false) (srE n f w true)),
      .bool (decide (ecV (srM n f w true) (srM m e w false) (srX m e w false) (srM n f w true) (srX n f w true) (srE m e w false) (srE n f w true) < 0)), N (ecV (srM n f w true) (srM m e w false) (srX m e w false) (srM n f w true) (srX n f w true) (srE m e w false) (srE n f w true)).natAbs, .int .i64 (ecV (srX n f w true) (srM m e w false) (srX m e w false) (srM n f w true) (srX n f w true) (srE m e w false) (srE n f w true))], .int .i64 (ecE (srM m e w false) (srX m e w false) (srM n f w true) (srX n f w true) (srE m e w false) (srE n f w true))])
      (stT m e n f w) := by
  obtain ⟨a, b⟩ := sst_ok (e := e) (f := f) h hn hm
  unfold stT
  rw [a, b, b, b, b]
  exact vsub_refl _
theorem st_facts (m e n f w : Int) : (L (stV (srM m e w false) m e n f w).natAbs ≤ 400 ∧ L (stV (srM n f w true) m e n f w).natAbs ≤ 400) ∧ (-8192 ≤ stV (srX m e w false) m e n f w ∧ stV (srX m e w false) m e n f w ≤ 2048) ∧ (-8192 ≤ stV (srX n f w true) m e n f w ∧ stV (srX n f w true) m e n f w ≤ 2048) ∧ 0 ≤ stE m e n f w ∧ stE m e n f w ≤ 5 := by
  have zl : L (0 : Int).natAbs = 0 := L_zero
  have hE : 0 ≤ stE m e n f w ∧ stE m e n f w ≤ 5 := by
    unfold stE ecE; repeat' split
    all_goals omega
  refine ⟨?_, ?_, ?_, hE⟩
  all_goals
    by_cases h : (0 ≤ w ∧ w ≤ 4096) ∧ 0 ≤ n ∧ 0 ≤ m
    · have hv := (sst_ok (e := e) (f := f) h.1 h.2.1 h.2.2).2
      simp only [hv]
      rcases ec_iff (srM m e w false) (srX m e w false) (srM n f w true) (srX n f w true) (srE m e w false) (srE n f w true) with q | q
      · have hs := q.2.2.2
        unfold smB at hs
        simp only [Bool.and_eq_true] at hs
        have h1 := endB_sz hs.1.2
        have h2 := endB_sz hs.2
        have v1 := (sr_facts m e w false).2
        have v2 := (sr_facts n f w true).2
        unfold ecV
        simp only [if_pos q.1]
        have z1 : srM m e w false = 0 → srX m e w false = 0 := fun k => by
          rw [k] at v1; unfold vdb at v1; rw [if_pos rfl] at v1; exact of_decide_eq_true v1
        have z2 : srM n f w true = 0 → srX n f w true = 0 := fun k => by
          rw [k] at v2; unfold vdb at v2; rw [if_pos rfl] at v2; exact of_decide_eq_true v2
        omega
      · unfold ecV
        simp only [show ¬ ecE (srM m e w false) (srX m e w false) (srM n f w true) (srX n f w true) (srE m e w false) (srE n f w true) = 0 by omega, if_false]
        omega
    · unfold stV
      simp only [if_neg h]
      omega
abbrev srT (m e w : Int) (up : Bool) : V := .tup [.agg [.bool (decide (srM m e w up < 0)), N (srM m e w up).natAbs, .int .i64 (srX m e w up)], .int .i64 (srE m e w up)]
end Go.Proofs.YtmbpoibhamlkbaaGreatDoor
