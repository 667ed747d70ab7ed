/-
  Lower layers: what functions of the program compute, and plain facts. Conditions: as the theorems say.
-/
import Derived.BigRegion
import Derived.RegionTactic
import Derived.ChangeAlike
import Derived.WalkKit
import Derived.Test.YtmbpoibhamlkbaaGreatDoorPsP
set_option linter.unusedVariables false
set_option linter.unusedSimpArgs false
namespace Go.Proofs.YtmbpoibhamlkbaaGreatDoor
open Go.RowKit
set_option maxRecDepth 100000

theorem ar_end (m : Int) (e : Int) (c0 : L (m).natAbs ≤ 8192) (c1 : (-65536 : Int) ≤ e ∧ e ≤ 65536) : Impl Tryz.prog Amb 122 [(yV m e)] (.bool (endB m e)) := by
  have s0 := sign_range m
  have t0 := topD_range m e
  exact impl_ob hP hAmb Tryz.func122 (by kernel_rfl) (.lits 2 <| .call (.int .i64 ((m).sign)) <| .lit <| .both (.lits 7 <| .call (.bool (decide (((-2048 : Int) ≤ (8192 : Int) ∧ (8192 : Int) ≤ 8192) ∧ (m = 0 ∨ -8192 ≤ e)))) <| .lits 2 <| .ret) (.lits 3 <| .call (.int .i64 (topD m e)) <| .lits 3 <| .both (.lits 3 <| .call (.bool (decide (((-2048 : Int) ≤ (8192 : Int) ∧ (8192 : Int) ≤ 8192) ∧ (m = 0 ∨ -8192 ≤ e)))) <| .lits 2 <| .ret) (.lits 3 <| .ret)))
    (cast_ob (aI True.intro (aI (dy_Sign m e oA) (have f6 := sign_range m; aI (fun (h1 : (iEq ((m).sign) 0) = true) => have _gh1 := iEq_t h1; aI (gr_On m e 8192 oA oA) ((vsub_of (congrArg V.bool (endB_1 oO)) : vsub (.bool (decide (((-2048 : Int) ≤ (8192 : Int) ∧ (8192 : Int) ≤ 8192) ∧ (m = 0 ∨ -8192 ≤ e)))) (.bool (endB m e))))) (fun (h2 : (iEq ((m).sign) 0) = false) => have _gh2 := iEq_f h2; aI (dy_Top m e oA oA) (have f5 := topD_range m e; aI (fun (h3 : (iLe (topD m e) 2048) = true) => have _gh3 := iLe_t h3; aI (gr_On m e 8192 oA oA) ((vsub_of (congrArg V.bool (endB_1 oO)) : vsub (.bool (decide (((-2048 : Int) ≤ (8192 : Int) ∧ (8192 : Int) ≤ 8192) ∧ (m = 0 ∨ -8192 ≤ e)))) (.bool (endB m e))))) (fun (h4 : (iLe (topD m e) 2048) = false) => have _gh4 := iLe_f h4; (vsub_of (congrArg V.bool ((endB_2 oO))) : vsub (.bool false) (.bool (endB m e))))))))) (by kernel_rfl))

theorem ar_Small (m : Int) (e : Int) (n : Int) (f : Int) (c0 : L (m).natAbs ≤ 8192) (c1 : (-65536 : Int) ≤ e ∧ e ≤ 65536) (c2 : L (n).natAbs ≤ 8192) (c3 : (-65536 : Int) ≤ f ∧ f ≤ 65536) : Impl Tryz.prog Amb 57 [(wV m e n f)] (.bool (smB m e n f)) := by
  exact impl_ob hP hAmb Tryz.func57 (by kernel_rfl) (.lits 2 <| .call (.bool (ivB m e n f)) <| .both (.lits 4 <| .call (.bool (endB m e)) <| .lit <| .both (.lits 4 <| .call (.bool (endB n f)) <| .lits 2 <| .ret) (.lits 4 <| .ret)) (.lits 8 <| .ret))
    (cast_ob (aI True.intro (aI (iv_Valid m e n f oA oA) (aI (fun (h1 : (ivB m e n f) = true) => aI (ar_end m e oA oA) (aI (fun (h2 : (endB m e) = true) => aI (ar_end n f oA oA) ((vsub_of (congrArg V.bool (by first | exact smB_1 (by assumption) (by assumption) | exact smB_2 (by assumption) | exact smB_3 (by assumption) (by assumption))) : vsub (.bool (endB n f)) (.bool (smB m e n f))))) (fun (h3 : (endB m e) = false) => (vsub_of (congrArg V.bool (by first | exact smB_1 (by assumption) (by assumption) | exact smB_2 (by assumption) | exact smB_3 (by assumption) (by assumption))) : vsub (.bool false) (.bool (smB m e n f)))))) (fun (h4 : (ivB m e n f) = false) => (vsub_of (congrArg V.bool (by first | exact smB_1 (by assumption) (by assumption) | exact smB_2 (by assumption) | exact smB_3 (by assumption) (by assumption))) : vsub (.bool false) (.bool (smB m e n f))))))) (by kernel_rfl))

theorem ar_works (w : Int) (c0 : (-9223372036854775808 : Int) ≤ w ∧ w ≤ 9223372036854775807) : Impl Tryz.prog Amb 75 [(.int .i64 w)] (.bool (decide (0 ≤ w ∧ w ≤ 4096))) := by
  exact impl_ob hP hAmb Tryz.func75 (by kernel_rfl) (.lit <| .both (.lits 4 <| .ret) (.lits 3 <| .ret))
    (cast_ob (aI True.intro (aI (fun (h1 : (iGe w 0) = true) => have _gh1 := iGe_t h1; (vsub_of (congrArg V.bool (by first | exact work_1 oO | exact work_2 oO)) : vsub (.bool (iLe w 4096)) (.bool (decide (0 ≤ w ∧ w ≤ 4096))))) (fun (h2 : (iGe w 0) = false) => have _gh2 := iGe_f h2; (vsub_of (congrArg V.bool (by first | exact work_1 oO | exact work_2 oO)) : vsub (.bool false) (.bool (decide (0 ≤ w ∧ w ≤ 4096))))))) (by kernel_rfl))

theorem ar_enclose (m : Int) (e : Int) (n : Int) (f : Int) (a : Int) (b : Int) (c0 : L (m).natAbs ≤ 8192) (c1 : (-65536 : Int) ≤ e ∧ e ≤ 65536) (c2 : L (n).natAbs ≤ 8192) (c3 : (-65536 : Int) ≤ f ∧ f ≤ 65536) : Impl Tryz.prog Amb 81 [(yV m e), (yV n f), (.int .i64 a), (.int .i64 b)] (.tup [(wV (ecV m m e n f a b) (ecV e m e n f a b) (ecV n m e n f a b) (ecV f m e n f a b)), (.int .i64 (ecE m e n f a b))]) := by
  exact impl_ob hP hAmb Tryz.func81 (by kernel_rfl) (.lits 5 <| .both (.lits 10 <| .ret) (.lits 3 <| .both (.lits 7 <| .ret) (.lits 3 <| .call (.bool (smB m e n f)) <| .lits 3 <| .both (.lits 3 <| .ret) (.lits 3 <| .ret))))
    (cast_ob (aI True.intro (aI (fun (h1 : (iNe a 0) = true) => have _gh1 := iNe_t h1; (W_ec0 (by first | exact not_smB (by assumption) | omega) : vsub (.tup [(.agg [(.bool false), .nil, (.int .i64 0), (.bool false), .nil, (.int .i64 0)]), (.int .i64 3)]) (.tup [(wV (ecV m m e n f a b) (ecV e m e n f a b) (ecV n m e n f a b) (ecV f m e n f a b)), (.int .i64 (ecE m e n f a b))]))) (fun (h2 : (iNe a 0) = false) => have _gh2 := iNe_f h2; aI (fun (h3 : (iNe b 0) = true) => have _gh3 := iNe_t h3; (W_ec0 (by first | exact not_smB (by assumption) | omega) : vsub (.tup [(.agg [(.bool false), .nil, (.int .i64 0), (.bool false), .nil, (.int .i64 0)]), (.int .i64 3)]) (.tup [(wV (ecV m m e n f a b) (ecV e m e n f a b) (ecV n m e n f a b) (ecV f m e n f a b)), (.int .i64 (ecE m e n f a b))]))) (fun (h4 : (iNe b 0) = false) => have _gh4 := iNe_f h4; aI (ar_Small m e n f oA oA oA oA) (aI (fun (h5 : (!(smB m e n f)) = true) => (W_ec0 (by first | exact not_smB (by assumption) | omega) : vsub (.tup [(.agg [(.bool false), .nil, (.int .i64 0), (.bool false), .nil, (.int .i64 0)]), (.int .i64 3)]) (.tup [(wV (ecV m m e n f a b) (ecV e m e n f a b) (ecV n m e n f a b) (ecV f m e n f a b)), (.int .i64 (ecE m e n f a b))]))) (fun (h6 : (!(smB m e n f)) = false) => (W_ec1 (is_smB oO oO (by assumption)) : vsub (.tup [(wV m e n f), (.int .i64 0)]) (.tup [(wV (ecV m m e n f a b) (ecV e m e n f a b) (ecV n m e n f a b) (ecV f m e n f a b)), (.int .i64 (ecE m e n f a b))])))))))) (by kernel_rfl))

theorem ar_Const (r : Rat) (w : Int) (c0 : L r.num.natAbs ≤ 5000) (c1 : L r.den ≤ 30000) (c2 : (-9223372036854775808 : Int) ≤ w ∧ w ≤ 9223372036854775807) : Impl Tryz.prog Amb 24 [(.agg [(.bool (decide (r.num < 0))), (N r.num.natAbs), (N r.den)]), (.int .i64 w)] (enV r r w) := by
  have d0 := r.den_nz
  exact impl_ob hP hAmb Tryz.func24 (by kernel_rfl) (.lit <| .call (.bool (decide (0 ≤ w ∧ w ≤ 4096))) <| .lit <| .both (.lits 3 <| .ret) (.lits 2 <| .call (.tup [(yV (mkM (flF r.num (r.den : Int) w) (-w)) (mkX (flF r.num (r.den : Int) w) (-w))), (.int .i64 (mkE (flF r.num (r.den : Int) w) (-w)))]) <| .lits 3 <| .call (.tup [(yV (mkM (-(flF (-r.num) (r.den : Int) w)) (-w)) (mkX (-(flF (-r.num) (r.den : Int) w)) (-w))), (.int .i64 (mkE (-(flF (-r.num) (r.den : Int) w)) (-w)))]) <| .lits 4 <| .call (.tup [(wV (ecV (mkM (flF r.num (r.den : Int) w) (-w)) (mkM (flF r.num (r.den : Int) w) (-w)) (mkX (flF r.num (r.den : Int) w) (-w)) (mkM (-(flF (-r.num) (r.den : Int) w)) (-w)) (mkX (-(flF (-r.num) (r.den : Int) w)) (-w)) (mkE (flF r.num (r.den : Int) w) (-w)) (mkE (-(flF (-r.num) (r.den : Int) w)) (-w))) (ecV (mkX (flF r.num (r.den : Int) w) (-w)) (mkM (flF r.num (r.den : Int) w) (-w)) (mkX (flF r.num (r.den : Int) w) (-w)) (mkM (-(flF (-r.num) (r.den : Int) w)) (-w)) (mkX (-(flF (-r.num) (r.den : Int) w)) (-w)) (mkE (flF r.num (r.den : Int) w) (-w)) (mkE (-(flF (-r.num) (r.den : Int) w)) (-w))) (ecV (mkM (-(flF (-r.num) (r.den : Int) w)) (-w)) (mkM (flF r.num (r.den : Int) w) (-w)) (mkX (flF r.num (r.den : Int) w) (-w)) (mkM (-(flF (-r.num) (r.den : Int) w)) (-w)) (mkX (-(flF (-r.num) (r.den : Int) w)) (-w)) (mkE (flF r.num (r.den : Int) w) (-w)) (mkE (-(flF (-r.num) (r.den : Int) w)) (-w))) (ecV (mkX (-(flF (-r.num) (r.den : Int) w)) (-w)) (mkM (flF r.num (r.den : Int) w) (-w)) (mkX (flF r.num (r.den : Int) w) (-w)) (mkM (-(flF (-r.num) (r.den : Int) w)) (-w)) (mkX (-(flF (-r.num) (r.den : Int) w)) (-w)) (mkE (flF r.num (r.den : Int) w) (-w)) (mkE (-(flF (-r.num) (r.den : Int) w)) (-w)))), (.int .i64 (ecE (mkM (flF r.num (r.den : Int) w) (-w)) (mkX (flF r.num (r.den : Int) w) (-w)) (mkM (-(flF (-r.num) (r.den : Int) w)) (-w)) (mkX (-(flF (-r.num) (r.den : Int) w)) (-w)) (mkE (flF r.num (r.den : Int) w) (-w)) (mkE (-(flF (-r.num) (r.den : Int) w)) (-w))))]) <| .lits 2 <| .ret))
    (cast_ob (aI True.intro (aI (ar_works w oA) (aI (fun (h1 : (!(decide (0 ≤ w ∧ w ≤ 4096))) = true) => have _gh1 := of_decide_eq_false (notb_t h1); (en_vbad oO : vsub (.tup [(.agg [(.bool false), .nil, (.int .i64 0), (.bool false), .nil, (.int .i64 0)]), (.int .i64 1)]) (enV r r w))) (fun (h2 : (!(decide (0 ≤ w ∧ w ≤ 4096))) = false) => have _gh2 := of_decide_eq_true (notb_f h2); aI (gr_FloorRat r.num r.den w oA oA oA oA) (have f8 := flF_L r.num (r.den : Int) w; have f7 := mk_facts (flF r.num (r.den : Int) w) (-w); aI (gr_CeilRat r.num r.den w oA oA oA oA) (have f6 := L_abs_neg r.num; have f5 := L_abs_neg (flF (-r.num) (r.den : Int) w); have f4 := flF_L (-r.num) (r.den : Int) w; have f3 := mk_facts (-(flF (-r.num) (r.den : Int) w)) (-w); aI (ar_enclose (mkM (flF r.num (r.den : Int) w) (-w)) (mkX (flF r.num (r.den : Int) w) (-w)) (mkM (-(flF (-r.num) (r.den : Int) w)) (-w)) (mkX (-(flF (-r.num) (r.den : Int) w)) (-w)) (mkE (flF r.num (r.den : Int) w) (-w)) (mkE (-(flF (-r.num) (r.den : Int) w)) (-w)) oA oA oA oA) ((by rw [flF_eq, flF_neg]; exact en_vec rfl rfl oO : vsub (.tup [(wV (ecV (mkM (flF r.num (r.den : Int) w) (-w)) (mkM (flF r.num (r.den : Int) w) (-w)) (mkX (flF r.num (r.den : Int) w) (-w)) (mkM (-(flF (-r.num) (r.den : Int) w)) (-w)) (mkX (-(flF (-r.num) (r.den : Int) w)) (-w)) (mkE (flF r.num (r.den : Int) w) (-w)) (mkE (-(flF (-r.num) (r.den : Int) w)) (-w))) (ecV (mkX (flF r.num (r.den : Int) w) (-w)) (mkM (flF r.num (r.den : Int) w) (-w)) (mkX (flF r.num (r.den : Int) w) (-w)) (mkM (-(flF (-r.num) (r.den : Int) w)) (-w)) (mkX (-(flF (-r.num) (r.den : Int) w)) (-w)) (mkE (flF r.num (r.den : Int) w) (-w)) (mkE (-(flF (-r.num) (r.den : Int) w)) (-w))) (ecV (mkM (-(flF (-r.num) (r.den : Int) w)) (-w)) (mkM (flF r.num (r.den : Int) w) (-w)) (mkX (flF r.num (r.den : Int) w) (-w)) (mkM (-(flF (-r.num) (r.den : Int) w)) (-w)) (mkX (-(flF (-r.num) (r.den : Int) w)) (-w)) (mkE (flF r.num (r.den : Int) w) (-w)) (mkE (-(flF (-r.num) (r.den : Int) w)) (-w))) (ecV (mkX (-(flF (-r.num) (r.den : Int) w)) (-w)) (mkM (flF r.num (r.den : Int) w) (-w)) (mkX (flF r.num (r.den : Int) w) (-w)) (mkM (-(flF (-r.num) (r.den : Int) w)) (-w)) (mkX (-(flF (-r.num) (r.den : Int) w)) (-w)) (mkE (flF r.num (r.den : Int) w) (-w)) (mkE (-(flF (-r.num) (r.den : Int) w)) (-w)))), (.int .i64 (ecE (mkM (flF r.num (r.den : Int) w) (-w)) (mkX (flF r.num (r.den : Int) w) (-w)) (mkM (-(flF (-r.num) (r.den : Int) w)) (-w)) (mkX (-(flF (-r.num) (r.den : Int) w)) (-w)) (mkE (flF r.num (r.den : Int) w) (-w)) (mkE (-(flF (-r.num) (r.den : Int) w)) (-w))))]) (enV r r w))))))))) (by kernel_rfl))

set_option maxHeartbeats 4000000 in
theorem pair_core (x1 y1 : Bool) (px py : Option Addr) (lx cx ly cy : Nat) (x3 y3 : Int) (a b : Int) (w : World) :
    Calls Tryz.prog 115 #[.agg #[.bool x1, .slice px lx cx, .int .i64 x3], .agg #[.bool y1, .slice py ly cy, .int .i64 y3], .int .i64 a, .int .i64 b] w fun e w' =>
      e = .returned (.tuple #[.agg #[.bool x1, .slice px lx cx, .int .i64 x3], .agg #[.bool y1, .slice py ly cy, .int .i64 y3], .int .i64 (max a b)]) ∧ Below w.heap.size w w' := by
  go_enter Tryz.func115, Tryz.ntmps115
  go_wp2
  go_region
  go_wp2
  refine bodyPost_ret (v := .tuple #[.agg #[.bool x1, .slice px lx cx, .int .i64 x3], .agg #[.bool y1, .slice py ly cy, .int .i64 y3], .int .i64 (max a b)]) (by simp [results, Tryz.results115, go_sem]) rfl ⟨rfl, ?_⟩
  have h := (((((Below.refl w.heap.size w).alloc (Nat.le_refl _) (Obj.cells #[Value.bool x1, Value.slice px lx cx, Value.int IntKind.i64 x3] 26)).alloc (by simp) (Obj.cells #[Value.bool y1, Value.slice py ly cy, Value.int IntKind.i64 y3] 26)).alloc (by simp; omega) (Obj.cells #[Value.bool x1, Value.slice px lx cx, Value.int IntKind.i64 x3] 26)).alloc (by simp; omega) (Obj.cells #[Value.bool y1, Value.slice py ly cy, Value.int IntKind.i64 y3] 26)).drew
  exact h
theorem rd_N_inv {w : World} {S : Nat → Prop} {v : Value} {n : Nat} (h : Rd w S v (N n)) : ∃ p l c, v = .slice p l c := by
  generalize hc : N n = x at h
  unfold N at hc
  cases h <;> first | cases hc; exact ⟨_, _, _, rfl⟩ | exact ⟨_, _, _, rfl⟩ | cases hc
theorem max_iMax (a b : Int) : max a b = iMax a b := by unfold iMax; rw [Int.max_def]; split <;> split <;> omega
theorem ar_pair (m e n f a b : Int) : Impl Tryz.prog Amb 115 [(yV m e), (yV n f), .int .i64 a, .int .i64 b] (.tup [(yV m e), (yV n f), .int .i64 (iMax a b)]) := by
  refine ⟨by kernel_rfl, fun w S args hC hS h => ?_⟩
  cases h with | cons h1 h => cases h with | cons h2 h => cases h with | cons h3 h => cases h with | cons h4 h => cases h with | nil =>
    have r1 := h1
    have r2 := h2
    obtain ⟨x, rfl, hx⟩ := h1.agg_inv
    obtain ⟨y, rfl, hy⟩ := h2.agg_inv
    cases hx with | cons k1 hx => cases hx with | cons k2 hx => cases hx with | cons k3 hx => cases hx with | nil =>
    cases hy with | cons l1 hy => cases hy with | cons l2 hy => cases hy with | cons l3 hy => cases hy with | nil =>
      obtain rfl := k1.bool_inv
      obtain rfl := l1.bool_inv
      obtain rfl := k3.int_inv
      obtain rfl := l3.int_inv
      obtain rfl := h3.int_inv
      obtain rfl := h4.int_inv
      obtain ⟨px, lx, cx, rfl⟩ := rd_N_inv k2
      obtain ⟨py, ly, cy, rfl⟩ := rd_N_inv l2
      refine (pair_core _ _ px py lx cx ly cy e f a b w).mono ?_
      rintro en w' ⟨rfl, hb⟩
      refine ⟨_, rfl, ?_, hb⟩
      have hl := Lasts.of_below hb S
      rw [max_iMax]
      exact .tup (.cons (r1.lasts hl) (.cons (r2.lasts hl) (.cons .int .nil)))

theorem ar_Add_1 (m : Int) (e : Int) (n : Int) (f : Int) (p : Int) (g : Int) (q : Int) (h : Int) (c0 : L (m).natAbs ≤ 600) (c1 : (-20000 : Int) ≤ e ∧ e ≤ 20000) (c2 : L (n).natAbs ≤ 600) (c3 : (-20000 : Int) ≤ f ∧ f ≤ 20000) (c4 : L (p).natAbs ≤ 600) (c5 : (-20000 : Int) ≤ g ∧ g ≤ 20000) (c6 : L (q).natAbs ≤ 600) (c7 : (-20000 : Int) ≤ h ∧ h ≤ 20000) (c8 : (mkE (adS m e p g) (iMin e g)) = 0) (c9 : (mkE (adS n f q h) (iMin f h)) = 0) : Impl Tryz.prog Amb 113 [(.pt [(V.bool (decide (m < 0))), (N m.natAbs), (V.int .i64 e), (V.bool (decide (n < 0))), (N n.natAbs), (V.int .i64 f)] 0), (.pt [(V.bool (decide (p < 0))), (N p.natAbs), (V.int .i64 g), (V.bool (decide (q < 0))), (N q.natAbs), (V.int .i64 h)] 0)] (.tup [(yV (mkM (adS m e p g) (iMin e g)) (mkX (adS m e p g) (iMin e g))), (yV (mkM (adS n f q h) (iMin f h)) (mkX (adS n f q h) (iMin f h))), (.int .i64 0)]) := by
  exact impl_ob hP hAmb Tryz.func113 (by kernel_rfl) (.lits 3 <| .call (.tup [(yV (mkM (adS m e p g) (iMin e g)) (mkX (adS m e p g) (iMin e g))), (.int .i64 (exE (adS m e p g) (iMin e g)))]) <| .lits 4 <| .call (.tup [(yV (mkM (adS n f q h) (iMin f h)) (mkX (adS n f q h) (iMin f h))), (.int .i64 (exE (adS n f q h) (iMin f h)))]) <| .lits 4 <| .call (.tup [(yV (mkM (adS m e p g) (iMin e g)) (mkX (adS m e p g) (iMin e g))), (yV (mkM (adS n f q h) (iMin f h)) (mkX (adS n f q h) (iMin f h))), (.int .i64 (iMax (exE (adS m e p g) (iMin e g)) (exE (adS n f q h) (iMin f h))))]) <| .lits 3 <| .ret)
    (cast_ob (aI True.intro (aI (dy_Add m e p g oA oA oA oA) (have f6 := ex_range (adS m e p g) (iMin e g); have f5 := mk_facts (adS m e p g) (iMin e g); have f4 := ad_facts m e p g oA oA; aI (dy_Add n f q h oA oA oA oA) (have f3 := ex_range (adS n f q h) (iMin f h); have f2 := mk_facts (adS n f q h) (iMin f h); have f1 := ad_facts n f q h oA oA; aI (ar_pair (mkM (adS m e p g) (iMin e g)) (mkX (adS m e p g) (iMin e g)) (mkM (adS n f q h) (iMin f h)) (mkX (adS n f q h) (iMin f h)) (exE (adS m e p g) (iMin e g)) (exE (adS n f q h) (iMin f h)) ) ((vsub_tup3 (vsub_refl _) (vsub_refl _) (vsub_of (congrArg (V.int .i64) (by unfold iMax; split <;> omega))) : vsub (.tup [(yV (mkM (adS m e p g) (iMin e g)) (mkX (adS m e p g) (iMin e g))), (yV (mkM (adS n f q h) (iMin f h)) (mkX (adS n f q h) (iMin f h))), (.int .i64 (iMax (exE (adS m e p g) (iMin e g)) (exE (adS n f q h) (iMin f h))))]) (.tup [(yV (mkM (adS m e p g) (iMin e g)) (mkX (adS m e p g) (iMin e g))), (yV (mkM (adS n f q h) (iMin f h)) (mkX (adS n f q h) (iMin f h))), (.int .i64 0)]))))))) (by kernel_rfl))

theorem ar_out_A (m : Int) (e : Int) (n : Int) (f : Int) (p : Int) (g : Int) (q : Int) (h : Int) (w : Int) (c0 : L (m).natAbs ≤ 600) (c1 : (-20000 : Int) ≤ e ∧ e ≤ 20000) (c2 : L (n).natAbs ≤ 600) (c3 : (-20000 : Int) ≤ f ∧ f ≤ 20000) (c4 : L (p).natAbs ≤ 600) (c5 : (-20000 : Int) ≤ g ∧ g ≤ 20000) (c6 : L (q).natAbs ≤ 600) (c7 : (-20000 : Int) ≤ h ∧ h ≤ 20000) (c8 : (mkE (adS m e p g) (iMin e g)) = 0) (c9 : (mkE (adS n f q h) (iMin f h)) = 0) (c10 : (-9223372036854775808 : Int) ≤ w ∧ w ≤ 9223372036854775807) : Impl Tryz.prog Amb 112 [(.int .i64 w), (.clos 113 [(.pt [(V.bool (decide (m < 0))), (N m.natAbs), (V.int .i64 e), (V.bool (decide (n < 0))), (N n.natAbs), (V.int .i64 f)] 0), (.pt [(V.bool (decide (p < 0))), (N p.natAbs), (V.int .i64 g), (V.bool (decide (q < 0))), (N q.natAbs), (V.int .i64 h)] 0)])] (enV ((dv m e) + (dv p g)) ((dv n f) + (dv q h)) w) := by
  exact impl_ob hP hAmb Tryz.func112 (by kernel_rfl) (.lit <| .call (.bool (decide (0 ≤ w ∧ w ≤ 4096))) <| .lit <| .both (.lits 3 <| .ret) (.lit <| .call (.tup [(yV (mkM (adS m e p g) (iMin e g)) (mkX (adS m e p g) (iMin e g))), (yV (mkM (adS n f q h) (iMin f h)) (mkX (adS n f q h) (iMin f h))), (.int .i64 0)]) <| .lits 6 <| .call (.tup [(yV (mkM (flr (dv (mkM (adS m e p g) (iMin e g)) (mkX (adS m e p g) (iMin e g))) w) (-w)) (mkX (flr (dv (mkM (adS m e p g) (iMin e g)) (mkX (adS m e p g) (iMin e g))) w) (-w))), (.int .i64 (mkE (flr (dv (mkM (adS m e p g) (iMin e g)) (mkX (adS m e p g) (iMin e g))) w) (-w)))]) <| .lits 3 <| .call (.tup [(yV (mkM (cei (dv (mkM (adS n f q h) (iMin f h)) (mkX (adS n f q h) (iMin f h))) w) (-w)) (mkX (cei (dv (mkM (adS n f q h) (iMin f h)) (mkX (adS n f q h) (iMin f h))) w) (-w))), (.int .i64 (mkE (cei (dv (mkM (adS n f q h) (iMin f h)) (mkX (adS n f q h) (iMin f h))) w) (-w)))]) <| .lits 4 <| .call (.tup [(wV (ecV (mkM (flr (dv (mkM (adS m e p g) (iMin e g)) (mkX (adS m e p g) (iMin e g))) w) (-w)) (mkM (flr (dv (mkM (adS m e p g) (iMin e g)) (mkX (adS m e p g) (iMin e g))) w) (-w)) (mkX (flr (dv (mkM (adS m e p g) (iMin e g)) (mkX (adS m e p g) (iMin e g))) w) (-w)) (mkM (cei (dv (mkM (adS n f q h) (iMin f h)) (mkX (adS n f q h) (iMin f h))) w) (-w)) (mkX (cei (dv (mkM (adS n f q h) (iMin f h)) (mkX (adS n f q h) (iMin f h))) w) (-w)) (mkE (flr (dv (mkM (adS m e p g) (iMin e g)) (mkX (adS m e p g) (iMin e g))) w) (-w)) (mkE (cei (dv (mkM (adS n f q h) (iMin f h)) (mkX (adS n f q h) (iMin f h))) w) (-w))) (ecV (mkX (flr (dv (mkM (adS m e p g) (iMin e g)) (mkX (adS m e p g) (iMin e g))) w) (-w)) (mkM (flr (dv (mkM (adS m e p g) (iMin e g)) (mkX (adS m e p g) (iMin e g))) w) (-w)) (mkX (flr (dv (mkM (adS m e p g) (iMin e g)) (mkX (adS m e p g) (iMin e g))) w) (-w)) (mkM (cei (dv (mkM (adS n f q h) (iMin f h)) (mkX (adS n f q h) (iMin f h))) w) (-w)) (mkX (cei (dv (mkM (adS n f q h) (iMin f h)) (mkX (adS n f q h) (iMin f h))) w) (-w)) (mkE (flr (dv (mkM (adS m e p g) (iMin e g)) (mkX (adS m e p g) (iMin e g))) w) (-w)) (mkE (cei (dv (mkM (adS n f q h) (iMin f h)) (mkX (adS n f q h) (iMin f h))) w) (-w))) (ecV (mkM (cei (dv (mkM (adS n f q h) (iMin f h)) (mkX (adS n f q h) (iMin f h))) w) (-w)) (mkM (flr (dv (mkM (adS m e p g) (iMin e g)) (mkX (adS m e p g) (iMin e g))) w) (-w)) (mkX (flr (dv (mkM (adS m e p g) (iMin e g)) (mkX (adS m e p g) (iMin e g))) w) (-w)) (mkM (cei (dv (mkM (adS n f q h) (iMin f h)) (mkX (adS n f q h) (iMin f h))) w) (-w)) (mkX (cei (dv (mkM (adS n f q h) (iMin f h)) (mkX (adS n f q h) (iMin f h))) w) (-w)) (mkE (flr (dv (mkM (adS m e p g) (iMin e g)) (mkX (adS m e p g) (iMin e g))) w) (-w)) (mkE (cei (dv (mkM (adS n f q h) (iMin f h)) (mkX (adS n f q h) (iMin f h))) w) (-w))) (ecV (mkX (cei (dv (mkM (adS n f q h) (iMin f h)) (mkX (adS n f q h) (iMin f h))) w) (-w)) (mkM (flr (dv (mkM (adS m e p g) (iMin e g)) (mkX (adS m e p g) (iMin e g))) w) (-w)) (mkX (flr (dv (mkM (adS m e p g) (iMin e g)) (mkX (adS m e p g) (iMin e g))) w) (-w)) (mkM (cei (dv (mkM (adS n f q h) (iMin f h)) (mkX (adS n f q h) (iMin f h))) w) (-w)) (mkX (cei (dv (mkM (adS n f q h) (iMin f h)) (mkX (adS n f q h) (iMin f h))) w) (-w)) (mkE (flr (dv (mkM (adS m e p g) (iMin e g)) (mkX (adS m e p g) (iMin e g))) w) (-w)) (mkE (cei (dv (mkM (adS n f q h) (iMin f h)) (mkX (adS n f q h) (iMin f h))) w) (-w)))), (.int .i64 (ecE (mkM (flr (dv (mkM (adS m e p g) (iMin e g)) (mkX (adS m e p g) (iMin e g))) w) (-w)) (mkX (flr (dv (mkM (adS m e p g) (iMin e g)) (mkX (adS m e p g) (iMin e g))) w) (-w)) (mkM (cei (dv (mkM (adS n f q h) (iMin f h)) (mkX (adS n f q h) (iMin f h))) w) (-w)) (mkX (cei (dv (mkM (adS n f q h) (iMin f h)) (mkX (adS n f q h) (iMin f h))) w) (-w)) (mkE (flr (dv (mkM (adS m e p g) (iMin e g)) (mkX (adS m e p g) (iMin e g))) w) (-w)) (mkE (cei (dv (mkM (adS n f q h) (iMin f h)) (mkX (adS n f q h) (iMin f h))) w) (-w))))]) <| .lits 2 <| .ret))
    (cast_ob (aI True.intro (aI (ar_works w oA) (aI (fun (h1 : (!(decide (0 ≤ w ∧ w ≤ 4096))) = true) => have _gh1 := of_decide_eq_false (notb_t h1); (en_vbad oO : vsub (.tup [(.agg [(.bool false), .nil, (.int .i64 0), (.bool false), .nil, (.int .i64 0)]), (.int .i64 1)]) (enV ((dv m e) + (dv p g)) ((dv n f) + (dv q h)) w))) (fun (h2 : (!(decide (0 ≤ w ∧ w ≤ 4096))) = false) => have _gh2 := of_decide_eq_true (notb_f h2); aI (ar_Add_1 m e n f p g q h oA oA oA oA oA oA oA oA oA oA) (have f14 := ex_range (adS n f q h) (iMin f h); have f13 := mk_facts (adS n f q h) (iMin f h); have f12 := ad_facts n f q h oA oA; have f11 := ex_range (adS m e p g) (iMin e g); have f10 := mk_facts (adS m e p g) (iMin e g); have f9 := ad_facts m e p g oA oA; aI (gr_Floor (mkM (adS m e p g) (iMin e g)) (mkX (adS m e p g) (iMin e g)) w oA oA oA) (have f8 := mk_facts (cei (dv (mkM (adS m e p g) (iMin e g)) (mkX (adS m e p g) (iMin e g))) w) (-w); have f7 := mk_facts (flr (dv (mkM (adS m e p g) (iMin e g)) (mkX (adS m e p g) (iMin e g))) w) (-w); have f6 := flr_LD (mkM (adS m e p g) (iMin e g)) (mkX (adS m e p g) (iMin e g)) w; aI (gr_Ceil (mkM (adS n f q h) (iMin f h)) (mkX (adS n f q h) (iMin f h)) w oA oA oA) (have f5 := mk_facts (cei (dv (mkM (adS n f q h) (iMin f h)) (mkX (adS n f q h) (iMin f h))) w) (-w); have f4 := mk_facts (flr (dv (mkM (adS n f q h) (iMin f h)) (mkX (adS n f q h) (iMin f h))) w) (-w); have f3 := flr_LD (mkM (adS n f q h) (iMin f h)) (mkX (adS n f q h) (iMin f h)) w; aI (ar_enclose (mkM (flr (dv (mkM (adS m e p g) (iMin e g)) (mkX (adS m e p g) (iMin e g))) w) (-w)) (mkX (flr (dv (mkM (adS m e p g) (iMin e g)) (mkX (adS m e p g) (iMin e g))) w) (-w)) (mkM (cei (dv (mkM (adS n f q h) (iMin f h)) (mkX (adS n f q h) (iMin f h))) w) (-w)) (mkX (cei (dv (mkM (adS n f q h) (iMin f h)) (mkX (adS n f q h) (iMin f h))) w) (-w)) (mkE (flr (dv (mkM (adS m e p g) (iMin e g)) (mkX (adS m e p g) (iMin e g))) w) (-w)) (mkE (cei (dv (mkM (adS n f q h) (iMin f h)) (mkX (adS n f q h) (iMin f h))) w) (-w)) oA oA oA oA) ((en_vec (by rw [dv_mk c8, dv_ad]) (by rw [dv_mk c9, dv_ad]) oO : vsub (.tup [(wV (ecV (mkM (flr (dv (mkM (adS m e p g) (iMin e g)) (mkX (adS m e p g) (iMin e g))) w) (-w)) (mkM (flr (dv (mkM (adS m e p g) (iMin e g)) (mkX (adS m e p g) (iMin e g))) w) (-w)) (mkX (flr (dv (mkM (adS m e p g) (iMin e g)) (mkX (adS m e p g) (iMin e g))) w) (-w)) (mkM (cei (dv (mkM (adS n f q h) (iMin f h)) (mkX (adS n f q h) (iMin f h))) w) (-w)) (mkX (cei (dv (mkM (adS n f q h) (iMin f h)) (mkX (adS n f q h) (iMin f h))) w) (-w)) (mkE (flr (dv (mkM (adS m e p g) (iMin e g)) (mkX (adS m e p g) (iMin e g))) w) (-w)) (mkE (cei (dv (mkM (adS n f q h) (iMin f h)) (mkX (adS n f q h) (iMin f h))) w) (-w))) (ecV (mkX (flr (dv (mkM (adS m e p g) (iMin e g)) (mkX (adS m e p g) (iMin e g))) w) (-w)) (mkM (flr (dv (mkM (adS m e p g) (iMin e g)) (mkX (adS m e p g) (iMin e g))) w) (-w)) (mkX (flr (dv (mkM (adS m e p g) (iMin e g)) (mkX (adS m e p g) (iMin e g))) w) (-w)) (mkM (cei (dv (mkM (adS n f q h) (iMin f h)) (mkX (adS n f q h) (iMin f h))) w) (-w)) (mkX (cei (dv (mkM (adS n f q h) (iMin f h)) (mkX (adS n f q h) (iMin f h))) w) (-w)) (mkE (flr (dv (mkM (adS m e p g) (iMin e g)) (mkX (adS m e p g) (iMin e g))) w) (-w)) (mkE (cei (dv (mkM (adS n f q h) (iMin f h)) (mkX (adS n f q h) (iMin f h))) w) (-w))) (ecV (mkM (cei (dv (mkM (adS n f q h) (iMin f h)) (mkX (adS n f q h) (iMin f h))) w) (-w)) (mkM (flr (dv (mkM (adS m e p g) (iMin e g)) (mkX (adS m e p g) (iMin e g))) w) (-w)) (mkX (flr (dv (mkM (adS m e p g) (iMin e g)) (mkX (adS m e p g) (iMin e g))) w) (-w)) (mkM (cei (dv (mkM (adS n f q h) (iMin f h)) (mkX (adS n f q h) (iMin f h))) w) (-w)) (mkX (cei (dv (mkM (adS n f q h) (iMin f h)) (mkX (adS n f q h) (iMin f h))) w) (-w)) (mkE (flr (dv (mkM (adS m e p g) (iMin e g)) (mkX (adS m e p g) (iMin e g))) w) (-w)) (mkE (cei (dv (mkM (adS n f q h) (iMin f h)) (mkX (adS n f q h) (iMin f h))) w) (-w))) (ecV (mkX (cei (dv (mkM (adS n f q h) (iMin f h)) (mkX (adS n f q h) (iMin f h))) w) (-w)) (mkM (flr (dv (mkM (adS m e p g) (iMin e g)) (mkX (adS m e p g) (iMin e g))) w) (-w)) (mkX (flr (dv (mkM (adS m e p g) (iMin e g)) (mkX (adS m e p g) (iMin e g))) w) (-w)) (mkM (cei (dv (mkM (adS n f q h) (iMin f h)) (mkX (adS n f q h) (iMin f h))) w) (-w)) (mkX (cei (dv (mkM (adS n f q h) (iMin f h)) (mkX (adS n f q h) (iMin f h))) w) (-w)) (mkE (flr (dv (mkM (adS m e p g) (iMin e g)) (mkX (adS m e p g) (iMin e g))) w) (-w)) (mkE (cei (dv (mkM (adS n f q h) (iMin f h)) (mkX (adS n f q h) (iMin f h))) w) (-w)))), (.int .i64 (ecE (mkM (flr (dv (mkM (adS m e p g) (iMin e g)) (mkX (adS m e p g) (iMin e g))) w) (-w)) (mkX (flr (dv (mkM (adS m e p g) (iMin e g)) (mkX (adS m e p g) (iMin e g))) w) (-w)) (mkM (cei (dv (mkM (adS n f q h) (iMin f h)) (mkX (adS n f q h) (iMin f h))) w) (-w)) (mkX (cei (dv (mkM (adS n f q h) (iMin f h)) (mkX (adS n f q h) (iMin f h))) w) (-w)) (mkE (flr (dv (mkM (adS m e p g) (iMin e g)) (mkX (adS m e p g) (iMin e g))) w) (-w)) (mkE (cei (dv (mkM (adS n f q h) (iMin f h)) (mkX (adS n f q h) (iMin f h))) w) (-w))))]) (enV ((dv m e) + (dv p g)) ((dv n f) + (dv q h)) w)))))))))) (by kernel_rfl))

theorem ar_Add (m : Int) (e : Int) (n : Int) (f : Int) (p : Int) (g : Int) (q : Int) (h : Int) (w : Int) (c0 : L (m).natAbs ≤ 600) (c1 : (-20000 : Int) ≤ e ∧ e ≤ 20000) (c2 : L (n).natAbs ≤ 600) (c3 : (-20000 : Int) ≤ f ∧ f ≤ 20000) (c4 : L (p).natAbs ≤ 600) (c5 : (-20000 : Int) ≤ g ∧ g ≤ 20000) (c6 : L (q).natAbs ≤ 600) (c7 : (-20000 : Int) ≤ h ∧ h ≤ 20000) (c8 : (mkE (adS m e p g) (iMin e g)) = 0) (c9 : (mkE (adS n f q h) (iMin f h)) = 0) (c10 : (-9223372036854775808 : Int) ≤ w ∧ w ≤ 9223372036854775807) : Impl Tryz.prog Amb 50 [(wV m e n f), (wV p g q h), (.int .i64 w)] (enV ((dv m e) + (dv p g)) ((dv n f) + (dv q h)) w) := by
  exact impl_ob hP hAmb Tryz.func50 (by kernel_rfl) (.lit <| .call (enV ((dv m e) + (dv p g)) ((dv n f) + (dv q h)) w) <| .lits 2 <| .ret)
    (cast_ob (aI True.intro (aI (ar_out_A m e n f p g q h w oA oA oA oA oA oA oA oA oA oA oA) (have f1 := en_facts ((dv m e) + (dv p g)) ((dv n f) + (dv q h)) w; (vsub_refl (enV ((dv m e) + (dv p g)) ((dv n f) + (dv q h)) w))))) (by kernel_rfl))

end Go.Proofs.YtmbpoibhamlkbaaGreatDoor

namespace Go.Proofs.YtmbpoibhamlkbaaGreatDoor

theorem qmin_or (a b : Rat) : (qmin a b = b ∧ b < a) ∨ (qmin a b = a ∧ a ≤ b) := by
  unfold qmin
  by_cases h : b < a
  · exact .inl ⟨if_pos h, h⟩
  · exact .inr ⟨if_neg h, Rat.not_lt.1 h⟩
theorem qmax_or (a b : Rat) : (qmax a b = b ∧ a < b) ∨ (qmax a b = a ∧ b ≤ a) := by
  unfold qmax
  by_cases h : a < b
  · exact .inl ⟨if_pos h, h⟩
  · exact .inr ⟨if_neg h, Rat.not_lt.1 h⟩
def mlLo (m e n f p g q h : Int) : Rat := qmin (qmin (qmin (dv m e * dv p g) (dv m e * dv q h)) (dv n f * dv p g)) (dv n f * dv q h)
def mlHi (m e n f p g q h : Int) : Rat := qmax (qmax (qmax (dv m e * dv p g) (dv m e * dv q h)) (dv n f * dv p g)) (dv n f * dv q h)
def dvLo (m e n f p g q h : Int) : Rat := qmin (qmin (qmin (dv m e / dv p g) (dv m e / dv q h)) (dv n f / dv p g)) (dv n f / dv q h)
def dvHi (m e n f p g q h : Int) : Rat := qmax (qmax (qmax (dv m e / dv p g) (dv m e / dv q h)) (dv n f / dv p g)) (dv n f / dv q h)
def pmn (a b : Int × Int) : Int × Int := if cmpD b.1 b.2 a.1 a.2 < 0 then b else a
def pmx (a b : Int × Int) : Int × Int := if 0 < cmpD b.1 b.2 a.1 a.2 then b else a
theorem cmpD_neg {m e n f : Int} : cmpD n f m e < 0 ↔ dv n f < dv m e := by
  rw [cmpD_dv]
  rcases cmpQ_range (dv n f) (dv m e) with ⟨h, k⟩ | ⟨h, k⟩ | ⟨h, k⟩
  · rw [h]; exact ⟨fun _ => k, fun _ => by omega⟩
  · rw [h]; exact ⟨fun q => by omega, fun q => absurd (Rat.lt_iff_le_and_ne.1 q).1 (Rat.not_le.2 k)⟩
  · rw [h, k]; exact ⟨fun q => by omega, fun q => absurd q Rat.lt_irrefl⟩
theorem cmpD_pos {m e n f : Int} : 0 < cmpD n f m e ↔ dv m e < dv n f := by
  rw [cmpD_swap, ← cmpD_neg]; omega
def PV (a : Int × Int) : Rat := dv a.1 a.2
theorem pmn_dv (a b : Int × Int) : PV (pmn a b) = qmin (PV a) (PV b) := by
  unfold pmn qmin PV
  by_cases h : dv b.1 b.2 < dv a.1 a.2
  · rw [if_pos (cmpD_neg.2 h), if_pos h]
  · rw [if_neg (fun q => h (cmpD_neg.1 q)), if_neg h]
theorem pmx_dv (a b : Int × Int) : PV (pmx a b) = qmax (PV a) (PV b) := by
  unfold pmx qmax PV
  by_cases h : dv a.1 a.2 < dv b.1 b.2
  · rw [if_pos (cmpD_pos.2 h), if_pos h]
  · rw [if_neg (fun q => h (cmpD_pos.1 q)), if_neg h]
theorem pmn_or (a b : Int × Int) : pmn a b = a ∨ pmn a b = b := by unfold pmn; split <;> simp
theorem pmx_or (a b : Int × Int) : pmx a b = a ∨ pmx a b = b := by unfold pmx; split <;> simp
def pdt (m e n f : Int) : Int × Int := (mkM (m * n) (e + f), mkX (m * n) (e + f))
theorem pdt_dv {m e n f : Int} (h : mkE (m * n) (e + f) = 0) : PV (pdt m e n f) = dv m e * dv n f := by
  unfold PV pdt; rw [dv_mk h, dv_mul]
def SzP (k : Nat) (a : Int × Int) : Prop := L a.1.natAbs ≤ k ∧ -65536 ≤ a.2 ∧ a.2 ≤ 65536
theorem pdt_sz {m e n f : Int} {k : Nat} (h : L m.natAbs + L n.natAbs ≤ k) : SzP k (pdt m e n f) := by
  have h1 := mk_facts (m * n) (e + f)
  have h2 := L_abs_mul m n
  exact ⟨by show L (mkM (m * n) (e + f)).natAbs ≤ k; omega, h1.2.1, h1.2.2.1⟩
theorem pmn_sz {k : Nat} {a b : Int × Int} (ha : SzP k a) (hb : SzP k b) : SzP k (pmn a b) := by rcases pmn_or a b with h | h <;> rw [h] <;> assumption
theorem pmx_sz {k : Nat} {a b : Int × Int} (ha : SzP k a) (hb : SzP k b) : SzP k (pmx a b) := by rcases pmx_or a b with h | h <;> rw [h] <;> assumption
def mlLoP (m e n f p g q h : Int) : Int × Int := pmn (pmn (pmn (pdt m e p g) (pdt m e q h)) (pdt n f p g)) (pdt n f q h)
def mlHiP (m e n f p g q h : Int) : Int × Int := pmx (pmx (pmx (pdt m e p g) (pdt m e q h)) (pdt n f p g)) (pdt n f q h)
theorem mlLoP_dv {m e n f p g q h : Int} (h0 : mkE (m * p) (e + g) = 0) (h1 : mkE (m * q) (e + h) = 0) (h2 : mkE (n * p) (f + g) = 0) (h3 : mkE (n * q) (f + h) = 0) : PV (mlLoP m e n f p g q h) = mlLo m e n f p g q h := by
  unfold mlLoP mlLo; rw [pmn_dv, pmn_dv, pmn_dv, pdt_dv h0, pdt_dv h1, pdt_dv h2, pdt_dv h3]
theorem mlHiP_dv {m e n f p g q h : Int} (h0 : mkE (m * p) (e + g) = 0) (h1 : mkE (m * q) (e + h) = 0) (h2 : mkE (n * p) (f + g) = 0) (h3 : mkE (n * q) (f + h) = 0) : PV (mlHiP m e n f p g q h) = mlHi m e n f p g q h := by
  unfold mlHiP mlHi; rw [pmx_dv, pmx_dv, pmx_dv, pdt_dv h0, pdt_dv h1, pdt_dv h2, pdt_dv h3]
theorem mlP_sz {m e n f p g q h : Int} {k : Nat} (hk : L m.natAbs + L p.natAbs ≤ k ∧ L m.natAbs + L q.natAbs ≤ k ∧ L n.natAbs + L p.natAbs ≤ k ∧ L n.natAbs + L q.natAbs ≤ k) :
    SzP k (mlLoP m e n f p g q h) ∧ SzP k (mlHiP m e n f p g q h) :=
  ⟨pmn_sz (pmn_sz (pmn_sz (pdt_sz hk.1) (pdt_sz hk.2.1)) (pdt_sz hk.2.2.1)) (pdt_sz hk.2.2.2), pmx_sz (pmx_sz (pmx_sz (pdt_sz hk.1) (pdt_sz hk.2.1)) (pdt_sz hk.2.2.1)) (pdt_sz hk.2.2.2)⟩
/-! ### quotients -/
theorem floor_fdiv (n d : Int) (hd : d ≠ 0) : ((n : Rat) / (d : Rat)).floor = Int.fdiv n d := by
  rcases Int.lt_trichotomy d 0 with h | h | h
  · have e : (n : Rat) / (d : Rat) = ((-n : Int) : Rat) / ((-d : Int) : Rat) := by
      have : (d : Rat) ≠ 0 := fun q => hd (Rat.intCast_eq_zero_iff.1 q)
      rw [Rat.intCast_neg, Rat.intCast_neg]
      grind
    rw [e, floor_div _ _ (by omega), ← Int.neg_fdiv_neg, fdiv_pos (by omega)]
  · exact absurd h hd
  · rw [floor_div _ _ h, fdiv_pos h]
theorem quo_p {m e p g w : Int} (hp : p ≠ 0) (h : 0 ≤ e - g + w) : Int.fdiv (m * 2 ^ (e - g + w).toNat) p = flr (dv m e / dv p g) w := by
  rw [← floor_fdiv _ _ hp]
  unfold flr
  congr 1
  have h2 := zp_nat (e - g + w).toNat
  rw [show (((e - g + w).toNat : Nat) : Int) = e - g + w by omega] at h2
  rw [Rat.intCast_mul, ← h2]
  have e1 : (2 : Rat) ^ (e - g + w) = 2 ^ e * 2 ^ (-g) * 2 ^ w := by rw [← zp_add, ← zp_add]; congr 1
  have e2 := zp_cancel g
  have e3 : (p : Rat) ≠ 0 := fun q => hp (Rat.intCast_eq_zero_iff.1 q)
  rw [e1]
  unfold dv
  generalize (2 : Rat) ^ e = a at *
  generalize (2 : Rat) ^ w = b at *
  have e4 := zp_ne g
  generalize (2 : Rat) ^ g = c at *
  generalize (2 : Rat) ^ (-g) = d at *
  grind
theorem quo_n {m e p g w : Int} (hp : p ≠ 0) (h : e - g + w < 0) : Int.fdiv m (p * 2 ^ (0 - (e - g + w)).toNat) = flr (dv m e / dv p g) w := by
  rw [← floor_fdiv _ _ (Int.mul_ne_zero hp (Int.ne_of_gt (two_pos _)))]
  unfold flr
  congr 1
  have h2 := zp_nat (0 - (e - g + w)).toNat
  rw [show (((0 - (e - g + w)).toNat : Nat) : Int) = 0 - (e - g + w) by omega] at h2
  rw [Rat.intCast_mul, ← h2]
  have e1 : (2 : Rat) ^ (0 - (e - g + w)) = 2 ^ (-e) * 2 ^ g * 2 ^ (-w) := by rw [← zp_add, ← zp_add]; congr 1; omega
  have e2 := zp_cancel e
  have e5 := zp_cancel w
  have e3 : (p : Rat) ≠ 0 := fun q => hp (Rat.intCast_eq_zero_iff.1 q)
  rw [e1]
  unfold dv
  have e4 := zp_ne g
  have e6 := zp_ne (-e)
  have e7 := zp_ne (-w)
  generalize (2 : Rat) ^ e = a at *
  generalize (2 : Rat) ^ w = b at *
  generalize (2 : Rat) ^ g = c at *
  generalize (2 : Rat) ^ (-e) = a' at *
  generalize (2 : Rat) ^ (-w) = b' at *
  generalize (m : Rat) = M at *
  generalize (p : Rat) = P at *
  clear h2 e1
  have k1 : a * b * (a' * b') = 1 := by grind
  have k2 : M / (P * (a' * c * b')) = M * (a * b) / (P * c) := by grind
  rw [k2]
  grind
theorem quo_L {m e p g w : Int} (hp : p ≠ 0) : (L (flr (dv m e / dv p g) w).natAbs : Int) ≤ L m.natAbs + (e - g + w).toNat / 32 + 2 := by
  by_cases h : 0 ≤ e - g + w
  · rw [← quo_p hp h]
    have h1 := L_fdiv (m * 2 ^ (e - g + w).toNat) p
    have h2 := L_abs_shl m (e - g + w).toNat
    omega
  · rw [← quo_n hp (by omega)]
    have h1 := L_fdiv m (p * 2 ^ (0 - (e - g + w)).toNat)
    omega
theorem neg_flr {m e p g w : Int} : -(flr (dv (-m) e / dv p g) w) = cei (dv m e / dv p g) w := by
  unfold cei
  rw [dv_neg]
  congr 2
  rw [Rat.div_def, Rat.div_def, Rat.neg_mul]
theorem flr_qmin {a b : Rat} {w : Int} : flr (qmin a b) w = if flr b w < flr a w then flr b w else flr a w := by
  rcases qmin_or a b with ⟨h, k⟩ | ⟨h, k⟩ <;> rw [h]
  · have := flr_mono (Rat.le_of_lt k) w
    split
    · rfl
    · omega
  · have := flr_mono k w
    rw [if_neg (by omega)]
theorem cei_mono {r s : Rat} (h : r ≤ s) (p : Int) : cei r p ≤ cei s p := by
  unfold cei
  have := flr_mono (Rat.neg_le_neg h) p
  omega
theorem cei_qmax {a b : Rat} {w : Int} : cei (qmax a b) w = if cei a w < cei b w then cei b w else cei a w := by
  rcases qmax_or a b with ⟨h, k⟩ | ⟨h, k⟩ <;> rw [h]
  · have := cei_mono (Rat.le_of_lt k) w
    split
    · rfl
    · omega
  · have := cei_mono k w
    rw [if_neg (by omega)]
theorem flr_y {a b : Rat} {w x : Int} (hx : x = flr a w) (h : cmpI (flr b w) x < 0) : flr b w = flr (qmin a b) w := by
  rw [flr_qmin, if_pos]
  rcases cmpI_range (flr b w) x with q | q | q <;> omega
theorem flr_n {a b : Rat} {w x : Int} (hx : x = flr a w) (h : 0 ≤ cmpI (flr b w) x) : x = flr (qmin a b) w := by
  rw [flr_qmin, if_neg]
  · exact hx
  · rcases cmpI_range (flr b w) x with q | q | q <;> omega
theorem cei_y {a b : Rat} {w x y : Int} (hx : x = cei a w) (hy : y = cei b w) (h : 0 < cmpI y x) : y = cei (qmax a b) w := by
  rw [cei_qmax, if_pos]
  · exact hy
  · rcases cmpI_range y x with q | q | q <;> omega
theorem cei_n {a b : Rat} {w x y : Int} (hx : x = cei a w) (hy : y = cei b w) (h : cmpI y x ≤ 0) : x = cei (qmax a b) w := by
  rw [cei_qmax, if_neg]
  · exact hx
  · rcases cmpI_range y x with q | q | q <;> omega
/-! ### what a quotient of intervals is -/
def dqE (m e n f p g q h w : Int) : Int := if ¬ (0 ≤ w ∧ w ≤ 4096) then 1 else if p.sign ≠ q.sign then 5 else if p = 0 then 2 else enE (dvLo m e n f p g q h) (dvHi m e n f p g q h) w
def dqV (x m e n f p g q h w : Int) : Int := if p.sign ≠ q.sign ∨ p = 0 then 0 else x
abbrev dqT (m e n f p g q h w : Int) : V := .tup [.agg [.bool (decide (dqV (enM (dvLo m e n f p g q h) (dvHi m e n f p g q h) w) m e n f p g q h w < 0)), N (dqV (enM (dvLo m e n f p g q h) (dvHi m e n f p g q h) w) m e n f p g q h w).natAbs, .int .i64 (dqV (enX (dvLo m e n f p g q h) (dvHi m e n f p g q h) w) m e n f p g q h w),
  .bool (decide (dqV (enN (dvLo m e n f p g q h) (dvHi m e n f p g q h) w) m e n f p g q h w < 0)), N (dqV (enN (dvLo m e n f p g q h) (dvHi m e n f p g q h) w) m e n f p g q h w).natAbs, .int .i64 (dqV (enF (dvLo m e n f p g q h) (dvHi m e n f p g q h) w) m e n f p g q h w)], .int .i64 (dqE m e n f p g q h w)]
theorem dq_w {m e n f p g q h w : Int} (hw : w < 0 ∨ 4096 < w) : vsub (.tup [.agg [.bool false, .nil, .int .i64 0, .bool false, .nil, .int .i64 0], .int .i64 1]) (dqT m e n f p g q h w) := by
  obtain ⟨a, b, c, d, _⟩ := en_bad (lo := dvLo m e n f p g q h) (hi := dvHi m e n f p g q h) hw
  have e1 : dqE m e n f p g q h w = 1 := by unfold dqE; rw [if_pos (by omega)]
  have e2 : dqV 0 m e n f p g q h w = 0 := by unfold dqV; split <;> rfl
  unfold dqT
  rw [a, b, c, d, e1, e2]; exact vsub_w0 1
theorem dq_u {m e n f p g q h w : Int} (hw : 0 ≤ w ∧ w ≤ 4096) (hs : p.sign ≠ q.sign) : vsub (.tup [.agg [.bool false, .nil, .int .i64 0, .bool false, .nil, .int .i64 0], .int .i64 5]) (dqT m e n f p g q h w) := by
  have e1 : dqE m e n f p g q h w = 5 := by unfold dqE; rw [if_neg (by omega), if_pos hs]
  have e2 : ∀ x, dqV x m e n f p g q h w = 0 := fun x => by unfold dqV; rw [if_pos (.inl hs)]
  unfold dqT
  rw [e1, e2, e2, e2, e2]; exact vsub_w0 5
theorem dq_z {m e n f p g q h w : Int} (hw : 0 ≤ w ∧ w ≤ 4096) (hs : p.sign = q.sign) (hp : p = 0) : vsub (.tup [.agg [.bool false, .nil, .int .i64 0, .bool false, .nil, .int .i64 0], .int .i64 2]) (dqT m e n f p g q h w) := by
  have e1 : dqE m e n f p g q h w = 2 := by unfold dqE; rw [if_neg (by omega), if_neg (by omega), if_pos hp]
  have e2 : ∀ x, dqV x m e n f p g q h w = 0 := fun x => by unfold dqV; rw [if_pos (.inr hp)]
  unfold dqT
  rw [e1, e2, e2, e2, e2]; exact vsub_w0 2
theorem dq_en {m e n f p g q h w : Int} (hs : p.sign = q.sign) (hp : p ≠ 0) : dqT m e n f p g q h w = enV (dvLo m e n f p g q h) (dvHi m e n f p g q h) w := by
  have e1 : dqE m e n f p g q h w = enE (dvLo m e n f p g q h) (dvHi m e n f p g q h) w := by
    by_cases hw : 0 ≤ w ∧ w ≤ 4096
    · unfold dqE; rw [if_neg (by omega), if_neg (by omega), if_neg hp]
    · unfold dqE; rw [if_pos hw]; exact (en_bad (by omega)).2.2.2.2.symm
  have e2 : ∀ x, dqV x m e n f p g q h w = x := fun x => by unfold dqV; rw [if_neg (by omega)]
  unfold dqT enV
  rw [e1, e2, e2, e2, e2]
theorem dq_facts (m e n f p g q h w : Int) : 0 ≤ dqE m e n f p g q h w ∧ dqE m e n f p g q h w ≤ 5 ∧ ∀ x, dqV x m e n f p g q h w = x ∨ dqV x m e n f p g q h w = 0 := by
  have h1 := en_facts (dvLo m e n f p g q h) (dvHi m e n f p g q h) w
  refine ⟨?_, ?_, fun x => ?_⟩
  · unfold dqE; (repeat' split) <;> omega
  · unfold dqE; (repeat' split) <;> omega
  · unfold dqV; split <;> simp
theorem SzP_mk {k : Nat} {a : Int × Int} (h : SzP k a) : SzP k a := h
theorem mn_yes {M X : Int} {a b : Int × Int} (hM : M = a.1) (hX : X = a.2) (h : cmpD b.1 b.2 M X < 0) : b.1 = (pmn a b).1 ∧ b.2 = (pmn a b).2 := by
  subst hM; subst hX; unfold pmn; rw [if_pos h]; exact ⟨rfl, rfl⟩
theorem mn_no {M X : Int} {a b : Int × Int} (hM : M = a.1) (hX : X = a.2) (h : 0 ≤ cmpD b.1 b.2 M X) : M = (pmn a b).1 ∧ X = (pmn a b).2 := by
  subst hM; subst hX; unfold pmn; rw [if_neg (show ¬ cmpD b.1 b.2 a.1 a.2 < 0 by omega)]; exact ⟨rfl, rfl⟩
theorem mx_yes {M X : Int} {a b : Int × Int} (hM : M = a.1) (hX : X = a.2) (h : 0 < cmpD b.1 b.2 M X) : b.1 = (pmx a b).1 ∧ b.2 = (pmx a b).2 := by
  subst hM; subst hX; unfold pmx; rw [if_pos h]; exact ⟨rfl, rfl⟩
theorem mx_no {M X : Int} {a b : Int × Int} (hM : M = a.1) (hX : X = a.2) (h : cmpD b.1 b.2 M X ≤ 0) : M = (pmx a b).1 ∧ X = (pmx a b).2 := by
  subst hM; subst hX; unfold pmx; rw [if_neg (show ¬ 0 < cmpD b.1 b.2 a.1 a.2 by omega)]; exact ⟨rfl, rfl⟩
theorem dqV_or (x m e n f p g q h w : Int) : dqV x m e n f p g q h w = x ∨ dqV x m e n f p g q h w = 0 := (dq_facts m e n f p g q h w).2.2 x
theorem dq_L (m e n f p g q h w : Int) :
    L (dqV (enM (dvLo m e n f p g q h) (dvHi m e n f p g q h) w) m e n f p g q h w).natAbs ≤ L (enM (dvLo m e n f p g q h) (dvHi m e n f p g q h) w).natAbs ∧
    L (dqV (enN (dvLo m e n f p g q h) (dvHi m e n f p g q h) w) m e n f p g q h w).natAbs ≤ L (enN (dvLo m e n f p g q h) (dvHi m e n f p g q h) w).natAbs ∧
    0 ≤ dqE m e n f p g q h w ∧ dqE m e n f p g q h w ≤ 5 := by
  have z : L (0 : Int).natAbs = 0 := L_zero
  refine ⟨?_, ?_, (dq_facts m e n f p g q h w).1, (dq_facts m e n f p g q h w).2.1⟩
  · rcases dqV_or (enM (dvLo m e n f p g q h) (dvHi m e n f p g q h) w) m e n f p g q h w with k | k <;> rw [k]
    · exact Nat.le_refl _
    · omega
  · rcases dqV_or (enN (dvLo m e n f p g q h) (dvHi m e n f p g q h) w) m e n f p g q h w with k | k <;> rw [k]
    · exact Nat.le_refl _
    · omega
theorem impl_eq {P : Program} {C : World → Prop} {f : FuncId} {ds : List V} {r r' : V} (h : r = r') (k : Impl P C f ds r) : Impl P C f ds r' := h ▸ k
/-! ### the reference of chapter 11 -/
theorem small_t {m e n f : Int} (h : ivB m e n f = true) (t1 : topD m e ≤ 2048) (t2 : topD n f ≤ 2048) (o : m = 0 ∨ -8192 ≤ e) :
    decide (((-2048 : Int) ≤ 8192 ∧ (8192 : Int) ≤ 8192) ∧ (n = 0 ∨ -8192 ≤ f)) = smB m e n f := by
  unfold smB endB onB
  rw [h, decide_eq_true t1, decide_eq_true t2, decide_eq_true (show ((-2048 : Int) ≤ 8192 ∧ (8192 : Int) ≤ 8192) ∧ (m = 0 ∨ -8192 ≤ e) from ⟨by omega, o⟩)]
  rfl
theorem small_f {m e n f : Int} (h : ivB m e n f = false ∨ 2048 < topD m e ∨ 2048 < topD n f ∨ ¬ (m = 0 ∨ -8192 ≤ e)) : false = smB m e n f := by
  unfold smB endB onB
  rcases h with h | h | h | h
  · rw [h]; rfl
  · rw [show decide (topD m e ≤ 2048) = false from decide_eq_false (by omega)]; simp
  · rw [show decide (topD n f ≤ 2048) = false from decide_eq_false (by omega)]; simp
  · rw [show decide (((-2048 : Int) ≤ 8192 ∧ (8192 : Int) ≤ 8192) ∧ (m = 0 ∨ -8192 ≤ e)) = false from decide_eq_false (fun q => h q.2)]; simp
theorem qmin_self (a : Rat) : qmin a a = a := by unfold qmin; split <;> rfl
theorem qmax_self (a : Rat) : qmax a a = a := by unfold qmax; split <;> rfl
theorem qn_y {a c r : Rat} (hM : a = c) (h : cmpQ r a < 0) : r = qmin c r := by
  subst hM
  rcases cmpQ_range r a with ⟨q, k⟩ | ⟨q, k⟩ | ⟨q, k⟩
  · unfold qmin; rw [if_pos k]
  · omega
  · omega
theorem qn_n {a c r : Rat} (hM : a = c) (h : 0 ≤ cmpQ r a) : a = qmin c r := by
  subst hM
  rcases cmpQ_range r a with ⟨q, k⟩ | ⟨q, k⟩ | ⟨q, k⟩
  · omega
  · unfold qmin; rw [if_neg (Rat.not_lt.2 (Rat.le_of_lt k))]
  · rw [k, qmin_self]
theorem qx_y {a c r : Rat} (hM : a = c) (h : 0 < cmpQ r a) : r = qmax c r := by
  subst hM
  rcases cmpQ_range r a with ⟨q, k⟩ | ⟨q, k⟩ | ⟨q, k⟩
  · omega
  · unfold qmax; rw [if_pos k]
  · omega
theorem qx_n {a c r : Rat} (hM : a = c) (h : cmpQ r a ≤ 0) : a = qmax c r := by
  subst hM
  rcases cmpQ_range r a with ⟨q, k⟩ | ⟨q, k⟩ | ⟨q, k⟩
  · unfold qmax; rw [if_neg (Rat.not_lt.2 (Rat.le_of_lt k))]
  · omega
  · rw [k, qmax_self]
theorem W_en0 {lo hi : Rat} {w : Int} (hw : 0 ≤ w ∧ w ≤ 4096) (h : ¬ (mkE (flr lo w) (-w) = 0 ∧ mkE (cei hi w) (-w) = 0 ∧ smB (mkM (flr lo w) (-w)) (mkX (flr lo w) (-w)) (mkM (cei hi w) (-w)) (mkX (cei hi w) (-w)) = true)) :
    vsub (.tup [.agg [.bool false, .nil, .int .i64 0, .bool false, .nil, .int .i64 0], .int .i64 3]) (enV lo hi w) := by
  obtain ⟨a, b, c, d, e⟩ := en_ec (lo := lo) (hi := hi) hw
  have := W_ec0 h
  rw [a, b, c, d, e] at this
  exact this
theorem W_en1 {lo hi : Rat} {w : Int} (hw : 0 ≤ w ∧ w ≤ 4096) (h : mkE (flr lo w) (-w) = 0 ∧ mkE (cei hi w) (-w) = 0 ∧ smB (mkM (flr lo w) (-w)) (mkX (flr lo w) (-w)) (mkM (cei hi w) (-w)) (mkX (cei hi w) (-w)) = true) :
    vsub (.tup [.agg [.bool (decide (mkM (flr lo w) (-w) < 0)), N (mkM (flr lo w) (-w)).natAbs, .int .i64 (mkX (flr lo w) (-w)), .bool (decide (mkM (cei hi w) (-w) < 0)), N (mkM (cei hi w) (-w)).natAbs, .int .i64 (mkX (cei hi w) (-w))], .int .i64 0]) (enV lo hi w) := by
  obtain ⟨a, b, c, d, e⟩ := en_ec (lo := lo) (hi := hi) hw
  have := W_ec1 h
  rw [a, b, c, d, e] at this
  exact this
theorem W_en0' {x y lo hi : Rat} {w : Int} (h1 : x = lo) (h2 : y = hi) (hw : 0 ≤ w ∧ w ≤ 4096) (h : ¬ (mkE (flr x w) (-w) = 0 ∧ mkE (cei y w) (-w) = 0 ∧ smB (mkM (flr x w) (-w)) (mkX (flr x w) (-w)) (mkM (cei y w) (-w)) (mkX (cei y w) (-w)) = true)) :
    vsub (.tup [.agg [.bool false, .nil, .int .i64 0, .bool false, .nil, .int .i64 0], .int .i64 3]) (enV lo hi w) := by
  subst h1; subst h2; exact W_en0 hw h
theorem W_en1' {x y lo hi : Rat} {w : Int} (h1 : x = lo) (h2 : y = hi) (hw : 0 ≤ w ∧ w ≤ 4096) (h : mkE (flr x w) (-w) = 0 ∧ mkE (cei y w) (-w) = 0 ∧ smB (mkM (flr x w) (-w)) (mkX (flr x w) (-w)) (mkM (cei y w) (-w)) (mkX (cei y w) (-w)) = true) :
    vsub (.tup [.agg [.bool (decide (mkM (flr x w) (-w) < 0)), N (mkM (flr x w) (-w)).natAbs, .int .i64 (mkX (flr x w) (-w)), .bool (decide (mkM (cei y w) (-w) < 0)), N (mkM (cei y w) (-w)).natAbs, .int .i64 (mkX (cei y w) (-w))], .int .i64 0]) (enV lo hi w) := by
  subst h1; subst h2; exact W_en1 hw h
theorem q_add_le {a b c d : Rat} (h : a ≤ b) (k : c ≤ d) : a + c ≤ b + d := Rat.le_trans (Rat.add_le_add_right.2 h) (Rat.add_le_add_left.2 k)
/-! ### raw fractions -/
end Go.Proofs.YtmbpoibhamlkbaaGreatDoor
