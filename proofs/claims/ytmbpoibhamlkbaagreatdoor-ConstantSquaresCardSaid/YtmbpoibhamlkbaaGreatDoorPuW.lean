/-
  Lower layers: what functions of the program compute, and plain facts. Conditions: as the theorems say.
-/
import Derived.Test.YtmbpoibhamlkbaaGreatDoorChecked
import Derived.Test.YtmbpoibhamlkbaaGreatDoorRows
import Derived.WalkKit
import Derived.ProofKit
import Derived.OpenShut
import Derived.Deep.DeepHandedRow
import Derived.Lib.LaidTab
import Derived.Lib.SmallJoins
import Derived.ChangeSlices
import Derived.Carry
import Derived.Test.YtmbpoibhamlkbaaGreatDoorPuV
set_option linter.unusedVariables false
set_option linter.unusedSimpArgs false
namespace Go.Proofs.YtmbpoibhamlkbaaGreatDoor
open Go.RowKit
set_option maxRecDepth 100000
set_option maxHeartbeats 8000000
theorem rad_PowerN (m : Int) (e : Int) (n : Int) (f : Int) (k : Int) (w : Int) (c0 : L (m).natAbs ≤ 60) (c1 : (-5000 : Int) ≤ e ∧ e ≤ 5000) (c2 : vdb m e = true) (c3 : L (n).natAbs ≤ 60) (c4 : (-5000 : Int) ≤ f ∧ f ≤ 5000) (c5 : vdb n f = true) (c6 : (dv m e) ≤ (dv n f)) (c7 : (-9223372036854775808 : Int) ≤ k ∧ k ≤ 9223372036854775807) (c8 : (-9223372036854775808 : Int) ≤ w ∧ w ≤ 9223372036854775807) (c9 : (0 : Int) ≤ w ∧ w ≤ 4096) (c10 : (-64 : Int) ≤ k ∧ k ≤ 64) (c11 : k < 0) : Impl Tryz.prog Amb 44 [(wV m e n f), (.int .i64 k), (.int .i64 w)] (pqT m e n f k w) := by
  have s0 := sign_range m
  have s1 := sign_range n
  have os := ord_sign c6
  have ew := even_wRem k
  have sg : (m.sign = n.sign → sgI m n = m.sign) ∧ (m.sign ≠ n.sign → sgI m n = 0) := ⟨fun q => if_pos q, fun q => if_neg q⟩
  have dz : vdb 0 0 = true := (by unfold vdb; simp)
  have zl : L (0 : Int).natAbs = 0 := L_zero
  have n0 := L_abs_neg m
  have o1 := of_fit (n := 1) oO
  exact impl_ob hP hAmb Tryz.func44 (by kernel_rfl) (.lits 2 <| .call (.tup [(.int .i64 (sgI m n)), (.bool (decide (m.sign = n.sign)))]) <| .lits 2 <| .call (.int .i64 ((m).sign)) <| .lit <| .both (.lits 4 <| .call (.int .i64 ((n).sign)) <| .lits 4 <| .call (.bool (decide (0 ≤ w ∧ w ≤ 4096))) <| .lit <| .no <| .lits 3 <| .no <| .lits 3 <| .no <| .lit <| .yes <| .lit <| .both (.lits 3 <| .both (.lits 3 <| .ret) (.lit <| .yes <| .lit <| .both (.lits 3 <| .ret) (.lits 2 <| .call (.bool (tlB m e k)) <| .both (.lits 8 <| .ret) (.lits 5 <| .call (.bool (tlB n f k)) <| .lit <| .both (.lits 3 <| .ret) (.lits 4 <| .both (.lit <| .no <| .yes <| .lits 4 <| .call (.int .i64 ((n).sign)) <| .lits 3 <| .both (.lits 5 <| .yes <| .lits 5 <| .no <| .lits 2 <| .call (mkT (pwR m e k w false) (-w)) <| .lits 3 <| .call (mkT (pwR n f k w true) (-w)) <| .lits 4 <| .call (pcT m e n f k w) <| .lits 2 <| .ret) (.lit <| .yes <| .lits 5 <| .no <| .lits 2 <| .call (mkT (pwR n f k w false) (-w)) <| .lits 3 <| .call (mkT (pwR m e k w true) (-w)) <| .lits 4 <| .call (pcT n f m e k w) <| .lits 2 <| .ret)) (.lits 2 <| .no <| .lits 6 <| .yes <| .lits 5 <| .no <| .lits 2 <| .call (mkT (pwR n f k w false) (-w)) <| .lits 3 <| .call (mkT (pwR m e k w true) (-w)) <| .lits 4 <| .call (pcT n f m e k w) <| .lits 2 <| .ret)))))) (.lits 4 <| .yes <| .lit <| .both (.lits 3 <| .ret) (.lits 2 <| .call (.bool (tlB m e k)) <| .both (.lits 8 <| .ret) (.lits 5 <| .call (.bool (tlB n f k)) <| .lit <| .both (.lits 3 <| .ret) (.lits 4 <| .both (.lit <| .no <| .yes <| .lits 4 <| .call (.int .i64 ((n).sign)) <| .lits 3 <| .both (.lits 5 <| .yes <| .lits 5 <| .no <| .lits 2 <| .call (mkT (pwR m e k w false) (-w)) <| .lits 3 <| .call (mkT (pwR n f k w true) (-w)) <| .lits 4 <| .call (pcT m e n f k w) <| .lits 2 <| .ret) (.lit <| .yes <| .lits 5 <| .no <| .lits 2 <| .call (mkT (pwR n f k w false) (-w)) <| .lits 3 <| .call (mkT (pwR m e k w true) (-w)) <| .lits 4 <| .call (pcT n f m e k w) <| .lits 2 <| .ret)) (.lits 2 <| .no <| .lits 6 <| .yes <| .lits 5 <| .no <| .lits 2 <| .call (mkT (pwR n f k w false) (-w)) <| .lits 3 <| .call (mkT (pwR m e k w true) (-w)) <| .lits 4 <| .call (pcT n f m e k w) <| .lits 2 <| .ret)))))) (.lits 5 <| .call (.bool (decide (0 ≤ w ∧ w ≤ 4096))) <| .lit <| .no <| .lits 3 <| .no <| .lits 3 <| .no <| .lit <| .yes <| .lit <| .both (.lits 3 <| .both (.lits 3 <| .ret) (.lit <| .yes <| .lits 4 <| .call (.bool (tlB m e k)) <| .both (.lits 8 <| .ret) (.lits 5 <| .call (.bool (tlB n f k)) <| .lit <| .both (.lits 3 <| .ret) (.lits 4 <| .both (.lits 2 <| .yes <| .lits 4 <| .call (.int .i64 ((n).sign)) <| .lits 3 <| .both (.lits 5 <| .yes <| .lits 5 <| .no <| .lits 2 <| .call (mkT (pwR m e k w false) (-w)) <| .lits 3 <| .call (mkT (pwR n f k w true) (-w)) <| .lits 4 <| .call (pcT m e n f k w) <| .lits 2 <| .ret) (.lit <| .yes <| .lits 5 <| .no <| .lits 2 <| .call (mkT (pwR n f k w false) (-w)) <| .lits 3 <| .call (mkT (pwR m e k w true) (-w)) <| .lits 4 <| .call (pcT n f m e k w) <| .lits 2 <| .ret)) (.lits 2 <| .no <| .lits 6 <| .yes <| .lits 5 <| .no <| .lits 2 <| .call (mkT (pwR n f k w false) (-w)) <| .lits 3 <| .call (mkT (pwR m e k w true) (-w)) <| .lits 4 <| .call (pcT n f m e k w) <| .lits 2 <| .ret))))) (.lits 4 <| .yes <| .lits 4 <| .call (.bool (tlB m e k)) <| .both (.lits 8 <| .ret) (.lits 5 <| .call (.bool (tlB n f k)) <| .lit <| .both (.lits 3 <| .ret) (.lits 4 <| .both (.lits 2 <| .yes <| .lits 4 <| .call (.int .i64 ((n).sign)) <| .lits 3 <| .both (.lits 5 <| .yes <| .lits 5 <| .no <| .lits 2 <| .call (mkT (pwR m e k w false) (-w)) <| .lits 3 <| .call (mkT (pwR n f k w true) (-w)) <| .lits 4 <| .call (pcT m e n f k w) <| .lits 2 <| .ret) (.lit <| .yes <| .lits 5 <| .no <| .lits 2 <| .call (mkT (pwR n f k w false) (-w)) <| .lits 3 <| .call (mkT (pwR m e k w true) (-w)) <| .lits 4 <| .call (pcT n f m e k w) <| .lits 2 <| .ret)) (.lits 2 <| .no <| .lits 6 <| .yes <| .lits 5 <| .no <| .lits 2 <| .call (mkT (pwR n f k w false) (-w)) <| .lits 3 <| .call (mkT (pwR m e k w true) (-w)) <| .lits 4 <| .call (pcT n f m e k w) <| .lits 2 <| .ret))))))
    (cast_ob (aI True.intro (aI (iv_Sign m e n f oP oP) (aI (dy_Sign m e oP) (have f100 := sign_range m; aI (fun (h1 : (iLe ((m).sign) 0) = true) => have _gh1 := iLe_t h1; aI (dy_Sign n f oP) (have f52 := sign_range n; aI (rad_works w oP) (aI (not_of' (decide_eq_true c9) : (!(decide (0 ≤ w ∧ w ≤ 4096))) = false) (aI (iLt_mkF oO : (iLt k (-64)) = false) (aI (iGt_mkF oO : (iGt k 64) = false) (aI (iLt_mk oO : (iLt k 0) = true) (aI (fun (h2 : (decide (m.sign = n.sign)) = true) => have _gh2 := of_decide_eq_true h2; aI (fun (h3 : (iEq (sgI m n) 0) = true) => have _gh3 := iEq_t h3; (pq_bad oO (pq_2 oO oO) : vsub (e0T 2) (pqT m e n f k w))) (fun (h4 : (iEq (sgI m n) 0) = false) => have _gh4 := iEq_f h4; aI (iLt_mk oO : (iLt k 0) = true) (aI (fun (h5 : (iGe ((n).sign) 0) = true) => have _gh5 := iGe_t h5; (pq_bad oO (pq_5 oO oO oO) : vsub (e0T 5) (pqT m e n f k w))) (fun (h6 : (iGe ((n).sign) 0) = false) => have _gh6 := iGe_f h6; aI (rad_tooLarge m e k oP oP oP) (aI (fun (h7 : (tlB m e k) = true) => (pq_3 oO oO (by first | exact .inl (by assumption) | exact .inr (by assumption)) : vsub (e0T 3) (pqT m e n f k w))) (fun (h8 : (tlB m e k) = false) => aI (rad_tooLarge n f k oP oP oP) (aI (fun (h9 : (tlB n f k) = true) => (pq_3 oO oO (by first | exact .inl (by assumption) | exact .inr (by assumption)) : vsub (e0T 3) (pqT m e n f k w))) (fun (h10 : (tlB n f k) = false) => aI (fun (h11 : (iEq (wRem k (2 : Int)) 0) = true) => have _gh11 := iEq_t h11; aI (h6 : (iGe ((n).sign) 0) = false) (aI (h11 : (iEq (wRem k (2 : Int)) 0) = true) (aI (dy_Sign n f oP) (have f22 := sign_range n; aI (fun (h12 : (iLt ((n).sign) 0) = true) => have _gh12 := iLt_t h12; aI (iLt_mk oO : (iLt k 0) = true) (aI (iEq_mkF oO : (iEq k 0) = false) (aI (rad_power m e k w false oP oP oP oP oP oP) (have f16 := vdb_range _ _ (vdb_mk (m := (pwR m e k w false)) (e := -w)); have f15 := mk_facts (pwR m e k w false) (-w); aI (rad_power n f k w true oP oP oP oP oP oP) (have f14 := vdb_range _ _ (vdb_mk (m := (pwR n f k w true)) (e := -w)); have f13 := mk_facts (pwR n f k w true) (-w); aI (rad_small (mkM (pwR m e k w false) (-w)) (mkX (pwR m e k w false) (-w)) (mkM (pwR n f k w true) (-w)) (mkX (pwR n f k w true) (-w)) (mkE (pwR m e k w false) (-w)) (mkE (pwR n f k w true) (-w)) oP oP oP oP) ((by first | exact pq_vec oO oO (pwo_p1 c6 oO oO) | exact pq_vec oO oO (pwo_n2 c6 oO oO oO) | exact False.elim oO : vsub (pcT m e n f k w) (pqT m e n f k w)))))))) (fun (h17 : (iLt ((n).sign) 0) = false) => have _gh17 := iLt_f h17; aI (iLt_mk oO : (iLt k 0) = true) (aI (iEq_mkF oO : (iEq k 0) = false) (aI (rad_power n f k w false oP oP oP oP oP oP) (have f21 := vdb_range _ _ (vdb_mk (m := (pwR n f k w false)) (e := -w)); have f20 := mk_facts (pwR n f k w false) (-w); aI (rad_power m e k w true oP oP oP oP oP oP) (have f19 := vdb_range _ _ (vdb_mk (m := (pwR m e k w true)) (e := -w)); have f18 := mk_facts (pwR m e k w true) (-w); aI (rad_small (mkM (pwR n f k w false) (-w)) (mkX (pwR n f k w false) (-w)) (mkM (pwR m e k w true) (-w)) (mkX (pwR m e k w true) (-w)) (mkE (pwR n f k w false) (-w)) (mkE (pwR m e k w true) (-w)) oP oP oP oP) ((by first | exact pq_vec oO oO (pwo_n1 c6 oO oO oO) | exact pq_vec oO oO (pwo_p2 c6 oO oO) | exact False.elim oO : vsub (pcT n f m e k w) (pqT m e n f k w)))))))))))) (fun (h23 : (iEq (wRem k (2 : Int)) 0) = false) => have _gh23 := iEq_f h23; aI (h23 : (iEq (wRem k (2 : Int)) 0) = false) (aI (iLt_mk oO : (iLt k 0) = true) (aI (iEq_mkF oO : (iEq k 0) = false) (aI (rad_power n f k w false oP oP oP oP oP oP) (have f27 := vdb_range _ _ (vdb_mk (m := (pwR n f k w false)) (e := -w)); have f26 := mk_facts (pwR n f k w false) (-w); aI (rad_power m e k w true oP oP oP oP oP oP) (have f25 := vdb_range _ _ (vdb_mk (m := (pwR m e k w true)) (e := -w)); have f24 := mk_facts (pwR m e k w true) (-w); aI (rad_small (mkM (pwR n f k w false) (-w)) (mkX (pwR n f k w false) (-w)) (mkM (pwR m e k w true) (-w)) (mkX (pwR m e k w true) (-w)) (mkE (pwR n f k w false) (-w)) (mkE (pwR m e k w true) (-w)) oP oP oP oP) ((by first | exact pq_vec oO oO (pwo_n1 c6 oO oO oO) | exact pq_vec oO oO (pwo_p2 c6 oO oO) | exact False.elim oO : vsub (pcT n f m e k w) (pqT m e n f k w))))))))))))))))) (fun (h28 : (decide (m.sign = n.sign)) = false) => have _gh28 := of_decide_eq_false h28; aI (iLt_mk oO : (iLt k 0) = true) (aI (fun (h29 : (iGe ((n).sign) 0) = true) => have _gh29 := iGe_t h29; (pq_bad oO (pq_5 oO oO oO) : vsub (e0T 5) (pqT m e n f k w))) (fun (h30 : (iGe ((n).sign) 0) = false) => have _gh30 := iGe_f h30; aI (rad_tooLarge m e k oP oP oP) (aI (fun (h31 : (tlB m e k) = true) => (pq_3 oO oO (by first | exact .inl (by assumption) | exact .inr (by assumption)) : vsub (e0T 3) (pqT m e n f k w))) (fun (h32 : (tlB m e k) = false) => aI (rad_tooLarge n f k oP oP oP) (aI (fun (h33 : (tlB n f k) = true) => (pq_3 oO oO (by first | exact .inl (by assumption) | exact .inr (by assumption)) : vsub (e0T 3) (pqT m e n f k w))) (fun (h34 : (tlB n f k) = false) => aI (fun (h35 : (iEq (wRem k (2 : Int)) 0) = true) => have _gh35 := iEq_t h35; aI (h30 : (iGe ((n).sign) 0) = false) (aI (h35 : (iEq (wRem k (2 : Int)) 0) = true) (aI (dy_Sign n f oP) (have f46 := sign_range n; aI (fun (h36 : (iLt ((n).sign) 0) = true) => have _gh36 := iLt_t h36; aI (iLt_mk oO : (iLt k 0) = true) (aI (iEq_mkF oO : (iEq k 0) = false) (aI (rad_power m e k w false oP oP oP oP oP oP) (have f40 := vdb_range _ _ (vdb_mk (m := (pwR m e k w false)) (e := -w)); have f39 := mk_facts (pwR m e k w false) (-w); aI (rad_power n f k w true oP oP oP oP oP oP) (have f38 := vdb_range _ _ (vdb_mk (m := (pwR n f k w true)) (e := -w)); have f37 := mk_facts (pwR n f k w true) (-w); aI (rad_small (mkM (pwR m e k w false) (-w)) (mkX (pwR m e k w false) (-w)) (mkM (pwR n f k w true) (-w)) (mkX (pwR n f k w true) (-w)) (mkE (pwR m e k w false) (-w)) (mkE (pwR n f k w true) (-w)) oP oP oP oP) ((by first | exact pq_vec oO oO (pwo_p1 c6 oO oO) | exact pq_vec oO oO (pwo_n2 c6 oO oO oO) | exact False.elim oO : vsub (pcT m e n f k w) (pqT m e n f k w)))))))) (fun (h41 : (iLt ((n).sign) 0) = false) => have _gh41 := iLt_f h41; aI (iLt_mk oO : (iLt k 0) = true) (aI (iEq_mkF oO : (iEq k 0) = false) (aI (rad_power n f k w false oP oP oP oP oP oP) (have f45 := vdb_range _ _ (vdb_mk (m := (pwR n f k w false)) (e := -w)); have f44 := mk_facts (pwR n f k w false) (-w); aI (rad_power m e k w true oP oP oP oP oP oP) (have f43 := vdb_range _ _ (vdb_mk (m := (pwR m e k w true)) (e := -w)); have f42 := mk_facts (pwR m e k w true) (-w); aI (rad_small (mkM (pwR n f k w false) (-w)) (mkX (pwR n f k w false) (-w)) (mkM (pwR m e k w true) (-w)) (mkX (pwR m e k w true) (-w)) (mkE (pwR n f k w false) (-w)) (mkE (pwR m e k w true) (-w)) oP oP oP oP) ((by first | exact pq_vec oO oO (pwo_n1 c6 oO oO oO) | exact pq_vec oO oO (pwo_p2 c6 oO oO) | exact False.elim oO : vsub (pcT n f m e k w) (pqT m e n f k w)))))))))))) (fun (h47 : (iEq (wRem k (2 : Int)) 0) = false) => have _gh47 := iEq_f h47; aI (h47 : (iEq (wRem k (2 : Int)) 0) = false) (aI (iLt_mk oO : (iLt k 0) = true) (aI (iEq_mkF oO : (iEq k 0) = false) (aI (rad_power n f k w false oP oP oP oP oP oP) (have f51 := vdb_range _ _ (vdb_mk (m := (pwR n f k w false)) (e := -w)); have f50 := mk_facts (pwR n f k w false) (-w); aI (rad_power m e k w true oP oP oP oP oP oP) (have f49 := vdb_range _ _ (vdb_mk (m := (pwR m e k w true)) (e := -w)); have f48 := mk_facts (pwR m e k w true) (-w); aI (rad_small (mkM (pwR n f k w false) (-w)) (mkX (pwR n f k w false) (-w)) (mkM (pwR m e k w true) (-w)) (mkX (pwR m e k w true) (-w)) (mkE (pwR n f k w false) (-w)) (mkE (pwR m e k w true) (-w)) oP oP oP oP) ((by first | exact pq_vec oO oO (pwo_n1 c6 oO oO oO) | exact pq_vec oO oO (pwo_p2 c6 oO oO) | exact False.elim oO : vsub (pcT n f m e k w) (pqT m e n f k w))))))))))))))))))))))) (fun (h53 : (iLe ((m).sign) 0) = false) => have _gh53 := iLe_f h53; aI (rad_works w oP) (aI (not_of' (decide_eq_true c9) : (!(decide (0 ≤ w ∧ w ≤ 4096))) = false) (aI (iLt_mkF oO : (iLt k (-64)) = false) (aI (iGt_mkF oO : (iGt k 64) = false) (aI (iLt_mk oO : (iLt k 0) = true) (aI (fun (h54 : (decide (m.sign = n.sign)) = true) => have _gh54 := of_decide_eq_true h54; aI (fun (h55 : (iEq (sgI m n) 0) = true) => have _gh55 := iEq_t h55; (pq_bad oO (pq_2 oO oO) : vsub (e0T 2) (pqT m e n f k w))) (fun (h56 : (iEq (sgI m n) 0) = false) => have _gh56 := iEq_f h56; aI (iLt_mk oO : (iLt k 0) = true) (aI (rad_tooLarge m e k oP oP oP) (aI (fun (h57 : (tlB m e k) = true) => (pq_3 oO oO (by first | exact .inl (by assumption) | exact .inr (by assumption)) : vsub (e0T 3) (pqT m e n f k w))) (fun (h58 : (tlB m e k) = false) => aI (rad_tooLarge n f k oP oP oP) (aI (fun (h59 : (tlB n f k) = true) => (pq_3 oO oO (by first | exact .inl (by assumption) | exact .inr (by assumption)) : vsub (e0T 3) (pqT m e n f k w))) (fun (h60 : (tlB n f k) = false) => aI (fun (h61 : (iEq (wRem k (2 : Int)) 0) = true) => have _gh61 := iEq_t h61; aI (h61 : (iEq (wRem k (2 : Int)) 0) = true) (aI (dy_Sign n f oP) (have f72 := sign_range n; aI (fun (h62 : (iLt ((n).sign) 0) = true) => have _gh62 := iLt_t h62; aI (iLt_mk oO : (iLt k 0) = true) (aI (iEq_mkF oO : (iEq k 0) = false) (aI (rad_power m e k w false oP oP oP oP oP oP) (have f66 := vdb_range _ _ (vdb_mk (m := (pwR m e k w false)) (e := -w)); have f65 := mk_facts (pwR m e k w false) (-w); aI (rad_power n f k w true oP oP oP oP oP oP) (have f64 := vdb_range _ _ (vdb_mk (m := (pwR n f k w true)) (e := -w)); have f63 := mk_facts (pwR n f k w true) (-w); aI (rad_small (mkM (pwR m e k w false) (-w)) (mkX (pwR m e k w false) (-w)) (mkM (pwR n f k w true) (-w)) (mkX (pwR n f k w true) (-w)) (mkE (pwR m e k w false) (-w)) (mkE (pwR n f k w true) (-w)) oP oP oP oP) ((by first | exact pq_vec oO oO (pwo_p1 c6 oO oO) | exact pq_vec oO oO (pwo_n2 c6 oO oO oO) | exact False.elim oO : vsub (pcT m e n f k w) (pqT m e n f k w)))))))) (fun (h67 : (iLt ((n).sign) 0) = false) => have _gh67 := iLt_f h67; aI (iLt_mk oO : (iLt k 0) = true) (aI (iEq_mkF oO : (iEq k 0) = false) (aI (rad_power n f k w false oP oP oP oP oP oP) (have f71 := vdb_range _ _ (vdb_mk (m := (pwR n f k w false)) (e := -w)); have f70 := mk_facts (pwR n f k w false) (-w); aI (rad_power m e k w true oP oP oP oP oP oP) (have f69 := vdb_range _ _ (vdb_mk (m := (pwR m e k w true)) (e := -w)); have f68 := mk_facts (pwR m e k w true) (-w); aI (rad_small (mkM (pwR n f k w false) (-w)) (mkX (pwR n f k w false) (-w)) (mkM (pwR m e k w true) (-w)) (mkX (pwR m e k w true) (-w)) (mkE (pwR n f k w false) (-w)) (mkE (pwR m e k w true) (-w)) oP oP oP oP) ((by first | exact pq_vec oO oO (pwo_n1 c6 oO oO oO) | exact pq_vec oO oO (pwo_p2 c6 oO oO) | exact False.elim oO : vsub (pcT n f m e k w) (pqT m e n f k w))))))))))) (fun (h73 : (iEq (wRem k (2 : Int)) 0) = false) => have _gh73 := iEq_f h73; aI (h73 : (iEq (wRem k (2 : Int)) 0) = false) (aI (iLt_mk oO : (iLt k 0) = true) (aI (iEq_mkF oO : (iEq k 0) = false) (aI (rad_power n f k w false oP oP oP oP oP oP) (have f77 := vdb_range _ _ (vdb_mk (m := (pwR n f k w false)) (e := -w)); have f76 := mk_facts (pwR n f k w false) (-w); aI (rad_power m e k w true oP oP oP oP oP oP) (have f75 := vdb_range _ _ (vdb_mk (m := (pwR m e k w true)) (e := -w)); have f74 := mk_facts (pwR m e k w true) (-w); aI (rad_small (mkM (pwR n f k w false) (-w)) (mkX (pwR n f k w false) (-w)) (mkM (pwR m e k w true) (-w)) (mkX (pwR m e k w true) (-w)) (mkE (pwR n f k w false) (-w)) (mkE (pwR m e k w true) (-w)) oP oP oP oP) ((by first | exact pq_vec oO oO (pwo_n1 c6 oO oO oO) | exact pq_vec oO oO (pwo_p2 c6 oO oO) | exact False.elim oO : vsub (pcT n f m e k w) (pqT m e n f k w)))))))))))))))) (fun (h78 : (decide (m.sign = n.sign)) = false) => have _gh78 := of_decide_eq_false h78; aI (iLt_mk oO : (iLt k 0) = true) (aI (rad_tooLarge m e k oP oP oP) (aI (fun (h79 : (tlB m e k) = true) => (pq_3 oO oO (by first | exact .inl (by assumption) | exact .inr (by assumption)) : vsub (e0T 3) (pqT m e n f k w))) (fun (h80 : (tlB m e k) = false) => aI (rad_tooLarge n f k oP oP oP) (aI (fun (h81 : (tlB n f k) = true) => (pq_3 oO oO (by first | exact .inl (by assumption) | exact .inr (by assumption)) : vsub (e0T 3) (pqT m e n f k w))) (fun (h82 : (tlB n f k) = false) => aI (fun (h83 : (iEq (wRem k (2 : Int)) 0) = true) => have _gh83 := iEq_t h83; aI (h83 : (iEq (wRem k (2 : Int)) 0) = true) (aI (dy_Sign n f oP) (have f94 := sign_range n; aI (fun (h84 : (iLt ((n).sign) 0) = true) => have _gh84 := iLt_t h84; aI (iLt_mk oO : (iLt k 0) = true) (aI (iEq_mkF oO : (iEq k 0) = false) (aI (rad_power m e k w false oP oP oP oP oP oP) (have f88 := vdb_range _ _ (vdb_mk (m := (pwR m e k w false)) (e := -w)); have f87 := mk_facts (pwR m e k w false) (-w); aI (rad_power n f k w true oP oP oP oP oP oP) (have f86 := vdb_range _ _ (vdb_mk (m := (pwR n f k w true)) (e := -w)); have f85 := mk_facts (pwR n f k w true) (-w); aI (rad_small (mkM (pwR m e k w false) (-w)) (mkX (pwR m e k w false) (-w)) (mkM (pwR n f k w true) (-w)) (mkX (pwR n f k w true) (-w)) (mkE (pwR m e k w false) (-w)) (mkE (pwR n f k w true) (-w)) oP oP oP oP) ((by first | exact pq_vec oO oO (pwo_p1 c6 oO oO) | exact pq_vec oO oO (pwo_n2 c6 oO oO oO) | exact False.elim oO : vsub (pcT m e n f k w) (pqT m e n f k w)))))))) (fun (h89 : (iLt ((n).sign) 0) = false) => have _gh89 := iLt_f h89; aI (iLt_mk oO : (iLt k 0) = true) (aI (iEq_mkF oO : (iEq k 0) = false) (aI (rad_power n f k w false oP oP oP oP oP oP) (have f93 := vdb_range _ _ (vdb_mk (m := (pwR n f k w false)) (e := -w)); have f92 := mk_facts (pwR n f k w false) (-w); aI (rad_power m e k w true oP oP oP oP oP oP) (have f91 := vdb_range _ _ (vdb_mk (m := (pwR m e k w true)) (e := -w)); have f90 := mk_facts (pwR m e k w true) (-w); aI (rad_small (mkM (pwR n f k w false) (-w)) (mkX (pwR n f k w false) (-w)) (mkM (pwR m e k w true) (-w)) (mkX (pwR m e k w true) (-w)) (mkE (pwR n f k w false) (-w)) (mkE (pwR m e k w true) (-w)) oP oP oP oP) ((by first | exact pq_vec oO oO (pwo_n1 c6 oO oO oO) | exact pq_vec oO oO (pwo_p2 c6 oO oO) | exact False.elim oO : vsub (pcT n f m e k w) (pqT m e n f k w))))))))))) (fun (h95 : (iEq (wRem k (2 : Int)) 0) = false) => have _gh95 := iEq_f h95; aI (h95 : (iEq (wRem k (2 : Int)) 0) = false) (aI (iLt_mk oO : (iLt k 0) = true) (aI (iEq_mkF oO : (iEq k 0) = false) (aI (rad_power n f k w false oP oP oP oP oP oP) (have f99 := vdb_range _ _ (vdb_mk (m := (pwR n f k w false)) (e := -w)); have f98 := mk_facts (pwR n f k w false) (-w); aI (rad_power m e k w true oP oP oP oP oP oP) (have f97 := vdb_range _ _ (vdb_mk (m := (pwR m e k w true)) (e := -w)); have f96 := mk_facts (pwR m e k w true) (-w); aI (rad_small (mkM (pwR n f k w false) (-w)) (mkX (pwR n f k w false) (-w)) (mkM (pwR m e k w true) (-w)) (mkX (pwR m e k w true) (-w)) (mkE (pwR n f k w false) (-w)) (mkE (pwR m e k w true) (-w)) oP oP oP oP) ((by first | exact pq_vec oO oO (pwo_n1 c6 oO oO oO) | exact pq_vec oO oO (pwo_p2 c6 oO oO) | exact False.elim oO : vsub (pcT n f m e k w) (pqT m e n f k w))))))))))))))))))))))))) (by kernel_rfl))
theorem rad_PowerW (m : Int) (e : Int) (n : Int) (f : Int) (k : Int) (w : Int) (c0 : L (m).natAbs ≤ 60) (c1 : (-5000 : Int) ≤ e ∧ e ≤ 5000) (c2 : vdb m e = true) (c3 : L (n).natAbs ≤ 60) (c4 : (-5000 : Int) ≤ f ∧ f ≤ 5000) (c5 : vdb n f = true) (c6 : (dv m e) ≤ (dv n f)) (c7 : (-9223372036854775808 : Int) ≤ k ∧ k ≤ 9223372036854775807) (c8 : (-9223372036854775808 : Int) ≤ w ∧ w ≤ 9223372036854775807) (c9 : w < 0 ∨ 4096 < w) : Impl Tryz.prog Amb 44 [(wV m e n f), (.int .i64 k), (.int .i64 w)] (pqT m e n f k w) := by
  have s0 := sign_range m
  have s1 := sign_range n
  have os := ord_sign c6
  have ew := even_wRem k
  have sg : (m.sign = n.sign → sgI m n = m.sign) ∧ (m.sign ≠ n.sign → sgI m n = 0) := ⟨fun q => if_pos q, fun q => if_neg q⟩
  have dz : vdb 0 0 = true := (by unfold vdb; simp)
  have zl : L (0 : Int).natAbs = 0 := L_zero
  have n0 := L_abs_neg m
  have o1 := of_fit (n := 1) oO
  exact impl_ob hP hAmb Tryz.func44 (by kernel_rfl) (.lits 2 <| .call (.tup [(.int .i64 (sgI m n)), (.bool (decide (m.sign = n.sign)))]) <| .lits 2 <| .call (.int .i64 ((m).sign)) <| .lit <| .both (.lits 4 <| .call (.int .i64 ((n).sign)) <| .lits 4 <| .call (.bool (decide (0 ≤ w ∧ w ≤ 4096))) <| .lit <| .yes <| .lits 9 <| .ret) (.lits 5 <| .call (.bool (decide (0 ≤ w ∧ w ≤ 4096))) <| .lit <| .yes <| .lits 9 <| .ret))
    (cast_ob (aI True.intro (aI (iv_Sign m e n f oU oU) (aI (dy_Sign m e oU) (have f4 := sign_range m; aI (fun (h1 : (iLe ((m).sign) 0) = true) => have _gh1 := iLe_t h1; aI (dy_Sign n f oU) (have f2 := sign_range n; aI (rad_works w oU) (aI ((by simp; omega) : (!(decide (0 ≤ w ∧ w ≤ 4096))) = true) ((pq_bad oO (pq_1 oO) : vsub (e0T 1) (pqT m e n f k w)))))) (fun (h3 : (iLe ((m).sign) 0) = false) => have _gh3 := iLe_f h3; aI (rad_works w oU) (aI ((by simp; omega) : (!(decide (0 ≤ w ∧ w ≤ 4096))) = true) ((pq_bad oO (pq_1 oO) : vsub (e0T 1) (pqT m e n f k w))))))))) (by kernel_rfl))
theorem rad_PowerK (m : Int) (e : Int) (n : Int) (f : Int) (k : Int) (w : Int) (c0 : L (m).natAbs ≤ 60) (c1 : (-5000 : Int) ≤ e ∧ e ≤ 5000) (c2 : vdb m e = true) (c3 : L (n).natAbs ≤ 60) (c4 : (-5000 : Int) ≤ f ∧ f ≤ 5000) (c5 : vdb n f = true) (c6 : (dv m e) ≤ (dv n f)) (c7 : (-9223372036854775808 : Int) ≤ k ∧ k ≤ 9223372036854775807) (c8 : (-9223372036854775808 : Int) ≤ w ∧ w ≤ 9223372036854775807) (c9 : (0 ≤ w ∧ w ≤ 4096) ∧ (k < -64 ∨ 64 < k)) : Impl Tryz.prog Amb 44 [(wV m e n f), (.int .i64 k), (.int .i64 w)] (pqT m e n f k w) := by
  have s0 := sign_range m
  have s1 := sign_range n
  have os := ord_sign c6
  have ew := even_wRem k
  have sg : (m.sign = n.sign → sgI m n = m.sign) ∧ (m.sign ≠ n.sign → sgI m n = 0) := ⟨fun q => if_pos q, fun q => if_neg q⟩
  have dz : vdb 0 0 = true := (by unfold vdb; simp)
  have zl : L (0 : Int).natAbs = 0 := L_zero
  have n0 := L_abs_neg m
  have o1 := of_fit (n := 1) oO
  exact impl_ob hP hAmb Tryz.func44 (by kernel_rfl) (.lits 2 <| .call (.tup [(.int .i64 (sgI m n)), (.bool (decide (m.sign = n.sign)))]) <| .lits 2 <| .call (.int .i64 ((m).sign)) <| .lit <| .both (.lits 4 <| .call (.int .i64 ((n).sign)) <| .lits 4 <| .call (.bool (decide (0 ≤ w ∧ w ≤ 4096))) <| .lit <| .no <| .lits 3 <| .both (.lits 6 <| .ret) (.lits 3 <| .yes <| .lits 3 <| .ret)) (.lits 5 <| .call (.bool (decide (0 ≤ w ∧ w ≤ 4096))) <| .lit <| .no <| .lits 3 <| .both (.lits 6 <| .ret) (.lits 3 <| .yes <| .lits 3 <| .ret)))
    (cast_ob (aI True.intro (aI (iv_Sign m e n f oU oU) (aI (dy_Sign m e oU) (have f8 := sign_range m; aI (fun (h1 : (iLe ((m).sign) 0) = true) => have _gh1 := iLe_t h1; aI (dy_Sign n f oU) (have f4 := sign_range n; aI (rad_works w oU) (aI (not_of' (decide_eq_true c9.1) : (!(decide (0 ≤ w ∧ w ≤ 4096))) = false) (aI (fun (h2 : (iLt k (-64)) = true) => have _gh2 := iLt_t h2; (pq_bad oO (pq_1 oO) : vsub (e0T 1) (pqT m e n f k w))) (fun (h3 : (iLt k (-64)) = false) => have _gh3 := iLt_f h3; aI (iGt_mk oO : (iGt k 64) = true) ((pq_bad oO (pq_1 oO) : vsub (e0T 1) (pqT m e n f k w)))))))) (fun (h5 : (iLe ((m).sign) 0) = false) => have _gh5 := iLe_f h5; aI (rad_works w oU) (aI (not_of' (decide_eq_true c9.1) : (!(decide (0 ≤ w ∧ w ≤ 4096))) = false) (aI (fun (h6 : (iLt k (-64)) = true) => have _gh6 := iLt_t h6; (pq_bad oO (pq_1 oO) : vsub (e0T 1) (pqT m e n f k w))) (fun (h7 : (iLt k (-64)) = false) => have _gh7 := iLt_f h7; aI (iGt_mk oO : (iGt k 64) = true) ((pq_bad oO (pq_1 oO) : vsub (e0T 1) (pqT m e n f k w))))))))))) (by kernel_rfl))
theorem rad_Power (m e n f k w : Int) (c0 : L (m).natAbs ≤ 60) (c1 : (-5000 : Int) ≤ e ∧ e ≤ 5000) (c2 : vdb m e = true) (c3 : L (n).natAbs ≤ 60) (c4 : (-5000 : Int) ≤ f ∧ f ≤ 5000) (c5 : vdb n f = true) (c6 : (dv m e) ≤ (dv n f)) (c7 : (-9223372036854775808 : Int) ≤ k ∧ k ≤ 9223372036854775807) (c8 : (-9223372036854775808 : Int) ≤ w ∧ w ≤ 9223372036854775807) : Impl Tryz.prog Amb 44 [(wV m e n f), (.int .i64 k), (.int .i64 w)] (pqT m e n f k w) := by
  by_cases h : 0 ≤ w ∧ w ≤ 4096
  · by_cases h2 : -64 ≤ k ∧ k ≤ 64
    · rcases Int.lt_trichotomy k 0 with q | q | q
      · exact rad_PowerN m e n f k w c0 c1 c2 c3 c4 c5 c6 c7 c8 h h2 q
      · exact rad_Power0 m e n f k w c0 c1 c2 c3 c4 c5 c6 c7 c8 h h2 q
      · exact rad_PowerP m e n f k w c0 c1 c2 c3 c4 c5 c6 c7 c8 h h2 q
    · exact rad_PowerK m e n f k w c0 c1 c2 c3 c4 c5 c6 c7 c8 ⟨h, by omega⟩
  · exact rad_PowerW m e n f k w c0 c1 c2 c3 c4 c5 c6 c7 c8 oO

end Go.Proofs.YtmbpoibhamlkbaaGreatDoor

namespace Go.Proofs.YtmbpoibhamlkbaaGreatDoor
theorem natAbs_flr {M X : Int} (w : Int) (hM : 0 ≤ M) : ((flr (dv M X) (2 * w)).natAbs : Int) = flr (dv M X) (2 * w) := by
  have := flr_nonneg (dv_nonneg (e := X) hM) (2 * w); omega
theorem dv_sq (x w : Int) : dv x (-w) * dv x (-w) = dv (x * x) (-(2 * w)) := by
  rw [← dv_mul, show -w + -w = -(2 * w) by omega]
theorem sq_le {M X : Int} (w : Int) (hM : 0 ≤ M) : dv (sqF M X w : Int) (-w) * dv (sqF M X w : Int) (-w) ≤ dv M X := by
  have h := (rt_spec (flr (dv M X) (2 * w)).natAbs).1
  have h2 := natAbs_flr (X := X) w hM
  rw [dv_sq]
  refine le_flr.1 ?_
  have h3 : ((sqF M X w * sqF M X w : Nat) : Int) ≤ ((flr (dv M X) (2 * w)).natAbs : Int) := Int.ofNat_le.2 h
  rw [Int.natCast_mul] at h3
  omega
theorem sq_gt {M X : Int} (w : Int) (hM : 0 ≤ M) : dv M X < dv ((sqF M X w : Int) + 1) (-w) * dv ((sqF M X w : Int) + 1) (-w) := by
  have h := (rt_spec (flr (dv M X) (2 * w)).natAbs).2
  have h2 := natAbs_flr (X := X) w hM
  rw [dv_sq]
  have h3 : ((flr (dv M X) (2 * w)).natAbs : Int) < (((sqF M X w + 1) * (sqF M X w + 1) : Nat) : Int) := Int.ofNat_lt.2 h
  rw [Int.natCast_mul] at h3
  have h4 := flr_lt (dv M X) (2 * w)
  have h5 : dv (flr (dv M X) (2 * w) + 1) (-(2 * w)) ≤ dv (((sqF M X w : Int) + 1) * ((sqF M X w : Int) + 1)) (-(2 * w)) := dv_le.2 (by push_cast at h3; omega)
  grind
theorem sq_ex {M X : Int} {w : Int} (hM : 0 ≤ M) (hv : vdb M X = true) : sqX M X w = true ↔ dv (sqF M X w : Int) (-w) * dv (sqF M X w : Int) (-w) = dv M X := by
  have h2 := natAbs_flr (X := X) w hM
  have hs := (rt_spec (flr (dv M X) (2 * w)).natAbs).1
  have hflr : (M = 0 ∨ -(2 * w) ≤ X) ↔ dv (flr (dv M X) (2 * w)) (-(2 * w)) = dv M X := by
    constructor
    · rintro (h | h)
      · rw [h, flr_dv]
        split
        · rw [Int.zero_mul, dv_zero, dv_zero]
        · rw [Int.zero_ediv, dv_zero, dv_zero]
      · rw [flr_dv, if_pos (by omega), dv_at (m := M) (show -(2 * w) ≤ X by omega)]
        congr 2; congr 1; omega
    · intro h
      by_cases hM0 : M = 0
      · exact .inl hM0
      · refine .inr (Decidable.byContradiction fun q => ?_)
        rw [dv_at (m := flr (dv M X) (2 * w)) (show X ≤ -(2 * w) by omega)] at h
        have h3 := dv_inj h
        rcases vdb_iff.1 hv with q2 | q2
        · exact hM0 q2.1
        · have h4 : M.natAbs = (flr (dv M X) (2 * w)).natAbs * 2 ^ (-(2 * w) - X).toNat := by
            have := congrArg Int.natAbs h3
            rw [abs_shl] at this; exact this.symm
          have h5 : 2 ∣ 2 ^ (-(2 * w) - X).toNat := ⟨2 ^ ((-(2 * w) - X).toNat - 1), by rw [← Nat.pow_succ']; congr 1; omega⟩
          have h6 : 2 ∣ M.natAbs := by rw [h4]; exact Nat.dvd_trans h5 (Nat.dvd_mul_left _ _)
          have := Nat.mod_eq_zero_of_dvd h6
          omega
  unfold sqX
  rw [decide_eq_true_eq, hflr]
  constructor
  · rintro ⟨a, b⟩
    rw [dv_sq, ← b, ← h2, ← a, Int.natCast_mul]
  · intro h
    have a1 := sq_le (X := X) w hM
    have a2 : dv ((sqF M X w : Int) * (sqF M X w : Int)) (-(2 * w)) ≤ dv (flr (dv M X) (2 * w)) (-(2 * w)) := dv_le.2 (by
      rw [← h2]
      have : ((sqF M X w * sqF M X w : Nat) : Int) ≤ ((flr (dv M X) (2 * w)).natAbs : Int) := Int.ofNat_le.2 hs
      rwa [Int.natCast_mul] at this)
    have a3 := flr_le (dv M X) (2 * w)
    rw [dv_sq] at h
    have a4 : dv (flr (dv M X) (2 * w)) (-(2 * w)) = dv M X := by grind
    refine ⟨?_, a4⟩
    rw [← a4] at h
    have a5 := dv_inj h
    rw [← h2] at a5
    exact Int.ofNat.inj (by rw [Int.ofNat_eq_natCast, Int.ofNat_eq_natCast, Int.natCast_mul]; exact a5)
theorem sq_Ls {M X w : Int} {up : Bool} (hL : L M.natAbs ≤ 30) (hX : -1000 ≤ X ∧ X ≤ 3000) (hw : 0 ≤ w ∧ w ≤ 300) : L (sqV M X w up).natAbs ≤ 150 := by
  have h := flr_LD M X (2 * w)
  have h2 := rt_L (flr (dv M X) (2 * w)).natAbs
  have h1 : L (1 : Int).natAbs ≤ 1 := L_le (by decide)
  have h3 := L_abs_add (sqF M X w) 1
  rw [Int.natAbs_natCast] at h3
  have h4 : L (sqF M X w) ≤ 149 := by unfold sqF; omega
  unfold sqV
  split
  · omega
  · rw [Int.add_zero, Int.natAbs_natCast]; omega
theorem sr_all {M X w : Int} {up : Bool} (hM : 0 ≤ M) (hL : L M.natAbs ≤ 30) (hX : -1000 ≤ X ∧ X ≤ 3000) (hw : 0 ≤ w ∧ w ≤ 300) :
    srE M X w up = 0 ∧ srM M X w up = mkM (sqV M X w up) (-w) ∧ srX M X w up = mkX (sqV M X w up) (-w) ∧ dv (srM M X w up) (srX M X w up) = dv (sqV M X w up) (-w) ∧ L (srM M X w up).natAbs ≤ 150 ∧ (-300 ≤ srX M X w up ∧ srX M X w up ≤ 4900) ∧ vdb (srM M X w up) (srX M X w up) = true ∧ (srM M X w up = 0 ∨ -w ≤ srX M X w up) := by
  have k := sq_Ls (up := up) hL hX hw
  have f := mk_fit (m := sqV M X w up) (e := -w) (by omega) (by omega)
  obtain ⟨a, b, c⟩ := sr_3 (e := X) (up := up) (show 0 ≤ w ∧ w ≤ 4096 by omega) hM
  have i1 := iMin_range (-w) 0
  have i2 : iMax (-w) 0 ≤ 0 := by unfold iMax; split <;> omega
  rw [a, b, c]
  refine ⟨f.1, rfl, rfl, f.2.2.2.2.2, by omega, by omega, f.2.2.2.2.1, ?_⟩
  rcases mkX_b f.1 with ⟨q, _⟩ | ⟨_, q, _⟩
  · left; rw [q]; exact (mk_zero _).1
  · right; exact q
theorem sqV_nonneg {M X w : Int} {up : Bool} : 0 ≤ sqV M X w up := by unfold sqV; split <;> omega
theorem sr_nonneg {M X w : Int} {up : Bool} (hM : 0 ≤ M) (hL : L M.natAbs ≤ 30) (hX : -1000 ≤ X ∧ X ≤ 3000) (hw : 0 ≤ w ∧ w ≤ 300) : 0 ≤ srM M X w up := by
  have h := (sr_all (up := up) hM hL hX hw).2.2.2.1
  have h2 := dv_nonneg (e := -w) (sqV_nonneg (M := M) (X := X) (w := w) (up := up))
  rw [← h] at h2
  exact dv_ge0.1 h2
end Go.Proofs.YtmbpoibhamlkbaaGreatDoor


namespace Go.Proofs.YtmbpoibhamlkbaaGreatDoor
theorem st_found {m e n f w : Int} (hm : 0 ≤ m) (hn : 0 ≤ n) (h1 : L m.natAbs ≤ 30 ∧ -1000 ≤ e ∧ e ≤ 3000) (h2 : L n.natAbs ≤ 30 ∧ -1000 ≤ f ∧ f ≤ 3000) (hw : 0 ≤ w ∧ w ≤ 300) (ho : dv m e ≤ dv n f)
    (s1 : L (sqV m e w false).natAbs ≤ 60) (s2 : L (sqV n f w true).natAbs ≤ 60) :
    stE m e n f w = 0 ∧ ∀ x, stV x m e n f w = x := by
  have hw2 : 0 ≤ w ∧ w ≤ 4096 := by omega
  obtain ⟨a, b⟩ := sst_ok (e := e) (f := f) hw2 hn hm
  have r1 := sr_all (up := false) hm h1.1 h1.2 hw
  have r2 := sr_all (up := true) hn h2.1 h2.2 hw
  have key : ecE (srM m e w false) (srX m e w false) (srM n f w true) (srX n f w true) (srE m e w false) (srE n f w true) = 0 := by
    unfold ecE
    rw [if_pos]
    refine ⟨r1.1, r2.1, ?_⟩
    unfold smB ivB
    rw [r1.2.1, r1.2.2.1, r2.2.1, r2.2.2.1, end_ok s1 hw, end_ok s2 hw, ← r1.2.1, ← r1.2.2.1, ← r2.2.1, ← r2.2.2.1, r1.2.2.2.2.2.2.1, r2.2.2.2.2.2.2.1]
    simp only [Bool.and_true, Bool.true_and, decide_eq_true_eq]
    rw [cmpD_dv, cmpQ_le, r1.2.2.2.1, r2.2.2.2.1, dv_le]
    have q1 := sq_le (X := e) w hm
    have q2 := sq_gt (X := f) w hn
    have q3 : dv (sqF m e w : Int) (-w) * dv (sqF m e w : Int) (-w) < dv ((sqF n f w : Int) + 1) (-w) * dv ((sqF n f w : Int) + 1) (-w) := by grind
    rw [dv_sq, dv_sq, dv_lt] at q3
    have q4 : sqF m e w < sqF n f w + 1 := by
      refine sq_lt ?_
      have : ((sqF m e w * sqF m e w : Nat) : Int) < (((sqF n f w + 1) * (sqF n f w + 1) : Nat) : Int) := by push_cast; exact q3
      exact Int.ofNat_lt.1 this
    have q5 : sqV m e w false = (sqF m e w : Int) := by unfold sqV; simp
    rw [q5]
    by_cases hx : sqX n f w = true
    · have q6 : sqV n f w true = (sqF n f w : Int) := by unfold sqV; rw [hx]; simp
      rw [q6]; omega
    · have q6 : sqV n f w true = (sqF n f w : Int) + 1 := by
        have : sqX n f w = false := by simpa using hx
        unfold sqV; rw [this]; rfl
      rw [q6]; omega
  refine ⟨by rw [a]; exact key, fun x => by rw [b]; unfold ecV; rw [if_pos key]⟩
theorem sq_up {M X w : Int} (hM : 0 ≤ M) (hv : vdb M X = true) : dv M X ≤ dv (sqV M X w true) (-w) * dv (sqV M X w true) (-w) := by
  by_cases hx : sqX M X w = true
  · have e1 := (sq_ex hM hv).1 hx
    have q6 : sqV M X w true = (sqF M X w : Int) := by unfold sqV; rw [hx]; simp
    rw [q6, e1]; exact Rat.le_refl
  · have q6 : sqV M X w true = (sqF M X w : Int) + 1 := by
      have : sqX M X w = false := by simpa using hx
      unfold sqV; rw [this]; rfl
    rw [q6]
    exact Rat.le_of_lt (sq_gt w hM)
theorem sq_dn {M X w : Int} (hM : 0 ≤ M) : dv (sqV M X w false) (-w) * dv (sqV M X w false) (-w) ≤ dv M X := by
  have q5 : sqV M X w false = (sqF M X w : Int) := by unfold sqV; simp
  rw [q5]; exact sq_le w hM
theorem sq_cmp {a b : Rat} (ha : 0 ≤ a) (hb : 0 ≤ b) (h : a * a ≤ b * b) : a ≤ b := by
  refine Rat.not_lt.1 fun q => ?_
  have h1 : b * b ≤ a * b := Rat.mul_le_mul_of_nonneg_right (Rat.le_of_lt q) hb
  have h2 : a * b < a * a := Rat.mul_lt_mul_of_pos_left q (by grind)
  grind
end Go.Proofs.YtmbpoibhamlkbaaGreatDoor

namespace Go.Proofs.YtmbpoibhamlkbaaGreatDoor
theorem pw2 (a : Rat) : a ^ (2 : Int) = a * a := by
  rw [zp_n (by decide)]
  show a ^ 2 = a * a
  rw [Rat.pow_succ, Rat.pow_succ, Rat.pow_zero, Rat.one_mul]
theorem en_pos {lo hi : Rat} {w : Int} {c : Nat} (h0 : 0 ≤ lo) (hl : lo ≤ hi) (hw : 0 ≤ w ∧ w ≤ 200) (h1 : L (flr lo w).natAbs ≤ c) (h2 : L (cei hi w).natAbs ≤ c) (hc : c ≤ 25) :
    enE lo hi w = 0 ∧ (0 ≤ enM lo hi w ∧ L (enM lo hi w).natAbs ≤ c ∧ (-200 ≤ enX lo hi w ∧ enX lo hi w ≤ 32 * c)) ∧ (0 ≤ enN lo hi w ∧ L (enN lo hi w).natAbs ≤ c ∧ (-200 ≤ enF lo hi w ∧ enF lo hi w ≤ 32 * c)) ∧
    (dv (enM lo hi w) (enX lo hi w) ≤ lo ∧ hi ≤ dv (enN lo hi w) (enF lo hi w)) ∧ (dv (enM lo hi w) (enX lo hi w) = dv (flr lo w) (-w) ∧ dv (enN lo hi w) (enF lo hi w) = dv (cei hi w) (-w)) := by
  have he := en_ok (by omega : 0 ≤ w ∧ w ≤ 300) hl (Nat.le_trans h1 (by omega)) (Nat.le_trans h2 (by omega))
  obtain ⟨a, b, cc, d⟩ := en_yes he
  have f1 := mk_fit (m := flr lo w) (e := -w) (by omega) (by omega)
  have f2 := mk_fit (m := cei hi w) (e := -w) (by omega) (by omega)
  have i1 := iMin_range (-w) 0
  have i2 : iMax (-w) 0 ≤ 0 := by unfold iMax; split <;> omega
  have p1 : 0 ≤ flr lo w := flr_nonneg h0 w
  have p2 := flr_cei hl w
  have dd := en_dv he
  have n1 : 0 ≤ enM lo hi w := dv_ge0.1 (by rw [dd.1]; exact dv_nonneg p1)
  have n2 : 0 ≤ enN lo hi w := dv_ge0.1 (by rw [dd.2]; exact dv_nonneg (by omega))
  refine ⟨he, ⟨n1, ?_, ?_⟩, ⟨n2, ?_, ?_⟩, ⟨?_, ?_⟩, dd⟩
  · rw [a]; omega
  · rw [b]; omega
  · rw [cc]; omega
  · rw [d]; omega
  · rw [dd.1]; exact flr_le lo w
  · rw [dd.2]; exact cei_ge hi w
end Go.Proofs.YtmbpoibhamlkbaaGreatDoor

namespace Go.Proofs.YtmbpoibhamlkbaaGreatDoor
open Go.RowKit
set_option maxRecDepth 100000
set_option maxHeartbeats 8000000
theorem pi0 : piLo (0 + 24) / 2 ^ 24 = 3 ∧ -(-(piHi (0 + 24)) / 2 ^ 24) = 4 := ⟨by kernel_rfl, by kernel_rfl⟩
theorem aw_within : decide ((cmpD (piA 0) (piB 0) (mkM 3 0) (mkX 3 0)) ≤ 0 ∧ (cmpD (mkM 4 0) (mkX 4 0) (piC 0) (piD 0)) ≤ 0) = true := by
  have e3 : mkE 3 0 = 0 := mk_fine2 (Nat.le_trans (L_lit (3 : Int).natAbs (by decide)) oO) oO
  have e4 : mkE 4 0 = 0 := mk_fine2 (Nat.le_trans (L_lit (4 : Int).natAbs (by decide)) oO) oO
  unfold piA piB piC piD
  rw [pi0.1, pi0.2, show (-0 : Int) = 0 from rfl, cmpD_mk e3 e3, cmpD_mk e4 e4]
  exact decide_eq_true ⟨by rw [cmpD_same, cmpI_eq rfl]; omega, by rw [cmpD_same, cmpI_eq rfl]; omega⟩
theorem l13_awake : Impl Tryz.prog Amb 67 [] (.bool true) := by
  have q := ckB_spec (ckv_pi (w := 0) oO)
  have z0 : L (0 : Int).natAbs = 0 := L_zero
  exact impl_ob hP hAmb Tryz.func67 (by kernel_rfl) (.lit <| .call (.tup [(wV (mkM ((piLo (0 + 24)) / 2 ^ 24) (-0)) (mkX ((piLo (0 + 24)) / 2 ^ 24) (-0)) (mkM (-(-(piHi (0 + 24)) / 2 ^ 24)) (-0)) (mkX (-(-(piHi (0 + 24)) / 2 ^ 24)) (-0))), (.int .i64 0)]) <| .lits 2 <| .call (.tup [(wV (0 : Int) 0 (0 : Int) 0), (.int .i64 1)]) <| .lits 2 <| .call (yV (mkM 3 0) (mkX 3 0)) <| .lit <| .call (yV (mkM 4 0) (mkX 4 0)) <| .lits 11 <| .call (.bool (tgB (mkM ((piLo (0 + 24)) / 2 ^ 24) (-0)) (mkX ((piLo (0 + 24)) / 2 ^ 24) (-0)) (mkM (-(-(piHi (0 + 24)) / 2 ^ 24)) (-0)) (mkX (-(-(piHi (0 + 24)) / 2 ^ 24)) (-0)) 0)) <| .lit <| .yes <| .lits 5 <| .call (.bool (decide ((cmpD (mkM ((piLo (0 + 24)) / 2 ^ 24) (-0)) (mkX ((piLo (0 + 24)) / 2 ^ 24) (-0)) (mkM 3 0) (mkX 3 0)) ≤ 0 ∧ (cmpD (mkM 4 0) (mkX 4 0) (mkM (-(-(piHi (0 + 24)) / 2 ^ 24)) (-0)) (mkX (-(-(piHi (0 + 24)) / 2 ^ 24)) (-0))) ≤ 0))) <| .lits 2 <| .ret)
    (cast_ob (aI True.intro (aI (ct_Pi 0 oO) (have f20 := L_abs_neg (piHi (0 + 24)); have f19 := L_abs_neg (-(piHi (0 + 24)) / 2 ^ 24); have f18 := L_abs_shr (-(piHi (0 + 24))) 24; have f17 := L_abs_shr (piLo (0 + 24)) 24; have f16 := mk_facts (-(-(piHi (0 + 24)) / 2 ^ 24)) (-0); have f15 := mk_facts ((piLo (0 + 24)) / 2 ^ 24) (-0); aI (ct_PiX (-1) oO) (aI (r08_Of 3 oO) (have f14 := (of_fit (n := 3) oO).2.2.2.2.1; have f13 := (of_fit (n := 3) oO).2.2.2.1; have f12 := (of_fit (n := 3) oO).2.2.1; have f11 := (of_fit (n := 3) oO).2.1; have f10 := (of_fit (n := 3) oO).1; have f9 := (L_i64 oO : L (3 : Int).natAbs ≤ 2); have f8 := mk_facts 3 0; aI (r08_Of 4 oO) (have f7 := (of_fit (n := 4) oO).2.2.2.2.1; have f6 := (of_fit (n := 4) oO).2.2.2.1; have f5 := (of_fit (n := 4) oO).2.2.1; have f4 := (of_fit (n := 4) oO).2.1; have f3 := (of_fit (n := 4) oO).1; have f2 := (L_i64 oO : L (4 : Int).natAbs ≤ 2); have f1 := mk_facts 4 0; aI (r13_Tight (mkM ((piLo (0 + 24)) / 2 ^ 24) (-0)) (mkX ((piLo (0 + 24)) / 2 ^ 24) (-0)) (mkM (-(-(piHi (0 + 24)) / 2 ^ 24)) (-0)) (mkX (-(-(piHi (0 + 24)) / 2 ^ 24)) (-0)) 0 oO oO oO) (aI (ckT_pi (w := 0) oO : (tgB (mkM ((piLo (0 + 24)) / 2 ^ 24) (-0)) (mkX ((piLo (0 + 24)) / 2 ^ 24) (-0)) (mkM (-(-(piHi (0 + 24)) / 2 ^ 24)) (-0)) (mkX (-(-(piHi (0 + 24)) / 2 ^ 24)) (-0)) 0) = true) (aI (r10_Within (mkM 3 0) (mkX 3 0) (mkM 4 0) (mkX 4 0) (mkM ((piLo (0 + 24)) / 2 ^ 24) (-0)) (mkX ((piLo (0 + 24)) / 2 ^ 24) (-0)) (mkM (-(-(piHi (0 + 24)) / 2 ^ 24)) (-0)) (mkX (-(-(piHi (0 + 24)) / 2 ^ 24)) (-0)) oO oO oO oO oO oO oO oO) ((vsub_of (congrArg V.bool aw_within) : vsub (.bool (decide ((cmpD (mkM ((piLo (0 + 24)) / 2 ^ 24) (-0)) (mkX ((piLo (0 + 24)) / 2 ^ 24) (-0)) (mkM 3 0) (mkX 3 0)) ≤ 0 ∧ (cmpD (mkM 4 0) (mkX 4 0) (mkM (-(-(piHi (0 + 24)) / 2 ^ 24)) (-0)) (mkX (-(-(piHi (0 + 24)) / 2 ^ 24)) (-0))) ≤ 0))) (.bool true))))))))))) (by kernel_rfl))
theorem l13_CSq0 (w : Int) (xa : Int) (xb : Int) (xc : Int) (xd : Int) (ya : Int) (yb : Int) (yc : Int) (yd : Int) (za : Int) (zb : Int) (zc : Int) (zd : Int) (sa : Int) (sb : Int) (sc : Int) (sd : Int) (ra : Int) (rb : Int) (rc : Int) (rd : Int) (ha : Int) (hb : Int) (hc : Int) (hd : Int) (ta : Int) (tb : Int) (k1 : Int) (k2 : Int) (c0 : (-9223372036854775808 : Int) ≤ w ∧ w ≤ 9223372036854775807) (c1 : Impl Tryz.prog Amb 67 [] (.bool true)) (c2 : Impl Tryz.prog Amb 68 [(.int .i64 (w % 200))] (.tup [(.agg [(.bool (decide (xa < 0))), (N xa.natAbs), (.int .i64 xb), (.bool (decide (xc < 0))), (N xc.natAbs), (.int .i64 xd), (.bool (decide (ya < 0))), (N ya.natAbs), (.int .i64 yb), (.bool (decide (yc < 0))), (N yc.natAbs), (.int .i64 yd), (.bool (decide (za < 0))), (N za.natAbs), (.int .i64 zb), (.bool (decide (zc < 0))), (N zc.natAbs), (.int .i64 zd)]), (.agg [(.int .i64 0), (.int .i64 0), (.int .i64 0)])])) (c3 : Impl Tryz.prog Amb 51 [(wV xa xb xc xd), (wV xa xb xc xd), (.int .i64 (w % 200))] (.tup [(wV sa sb sc sd), (.int .i64 0)])) (c4 : Impl Tryz.prog Amb 32 [(wV sa sb sc sd), (.int .i64 (w % 200))] (.tup [(wV ra rb rc rd), (.int .i64 0)])) (c5 : Impl Tryz.prog Amb 44 [(wV ya yb yc yd), (.int .i64 2), (.int .i64 (w % 200))] (.tup [(wV ha hb hc hd), (.int .i64 0)])) (c6 : Impl Tryz.prog Amb 69 [(.int .i64 10)] (yV ta tb)) (c7 : Impl Tryz.prog Amb 63 [(wV xa xb xc xd), (wV ra rb rc rd)] (.bool true)) (c8 : Impl Tryz.prog Amb 70 [(wV sa sb sc sd), (wV ta tb ta tb)] (.int .i64 k1)) (c9 : Impl Tryz.prog Amb 70 [(wV ha hb hc hd), (wV sa sb sc sd)] (.int .i64 k2)) (c10 : (w % 200) < 8 ∨ (k1 < 0 ∧ k2 < 0)) : Impl Tryz.prog Amb 14 [(.int .i64 w)] (.bool true) := by
  exact impl_ob hP hAmb Tryz.func14 (by kernel_rfl) (.lit <| .call (.bool true) <| .lits 3 <| .call (.int .i64 (w % 200)) <| .lit <| .call (.tup [(.agg [(.bool (decide (xa < 0))), (N xa.natAbs), (.int .i64 xb), (.bool (decide (xc < 0))), (N xc.natAbs), (.int .i64 xd), (.bool (decide (ya < 0))), (N ya.natAbs), (.int .i64 yb), (.bool (decide (yc < 0))), (N yc.natAbs), (.int .i64 yd), (.bool (decide (za < 0))), (N za.natAbs), (.int .i64 zb), (.bool (decide (zc < 0))), (N zc.natAbs), (.int .i64 zd)]), (.agg [(.int .i64 0), (.int .i64 0), (.int .i64 0)])]) <| .lits 18 <| .call (.tup [(wV sa sb sc sd), (.int .i64 0)]) <| .lits 3 <| .call (.tup [(wV ra rb rc rd), (.int .i64 0)]) <| .lits 4 <| .call (.tup [(wV ha hb hc hd), (.int .i64 0)]) <| .lits 2 <| .call (yV ta tb) <| .lit <| .call (yV ta tb) <| .lits 19 <| .call (.bool true) <| .lits 5 <| .both (.lits 9 <| .ret) (.lits 5 <| .call (.int .i64 k1) <| .lits 3 <| .both (.lits 5 <| .call (.int .i64 k2) <| .lits 8 <| .ret) (.lits 9 <| .ret)))
    (cast_ob (aI True.intro (aI (c1 ) (aI (mill_Mod w 200 oS oS) (have f6 := Int.emod_lt_of_pos w (show (0 : Int) < 200 by first | omega | assumption); have f5 := Int.emod_nonneg w (show (200 : Int) ≠ 0 by first | omega | assumption); aI (c2 ) (aI (c3 ) (aI (c4 ) (aI (c5 ) (aI (c6 ) (aI (c6 ) (aI (c7 ) (aI (fun (h1 : (iLt (w % 200) 8) = true) => have _gh1 := iLt_t h1; (vsub_refl (.bool true))) (fun (h2 : (iLt (w % 200) 8) = false) => have _gh2 := iLt_f h2; aI (c8 ) (aI (fun (h3 : (iLt k1 0) = true) => have _gh3 := iLt_t h3; aI (c9 ) ((vsub_of (congrArg V.bool (decide_eq_true (show k2 < 0 by omega))) : vsub (.bool (iLt k2 0)) (.bool true)))) (fun (h4 : (iLt k1 0) = false) => have _gh4 := iLt_f h4; (absurd c10 oO : vsub (.bool false) (.bool true)))))))))))))))) (by kernel_rfl))
end Go.Proofs.YtmbpoibhamlkbaaGreatDoor


namespace Go.Proofs.YtmbpoibhamlkbaaGreatDoor
open Go.RowKit
set_option maxRecDepth 100000
set_option maxHeartbeats 8000000
def ckN (pl ph el eh U : Int) (big : Bool) : Bool :=
  decide (0 < pl) && decide (pl ≤ ph) && decide (ph ≤ 5 * U) && decide (0 < el) && decide (el ≤ eh) && decide (eh ≤ 5 * U) && decide (5 * U < 2 ^ 224) && (!big || (decide (313 * U ≤ 100 * pl) && decide (100 * ph ≤ 316 * U) && decide (100 * eh ≤ 275 * U)))
def ckS (w : Int) : Bool := ckN (piLo (w + 24) / 2 ^ 24) (-(-(piHi (w + 24)) / 2 ^ 24)) (eLo (w + 24) / 2 ^ 24) (-(-(eHi (w + 24)) / 2 ^ 24)) (2 ^ w.toNat) (decide (8 ≤ w))
theorem cks_all : (List.range 200).all (fun n => ckS (n : Int)) = true := by kernel_rfl
theorem cks_at {w : Int} (hw : 0 ≤ w ∧ w < 200) : ckS w = true := by
  have h := all_int cks_all hw
  rw [Int.toNat_of_nonneg hw.1] at h
  exact h
theorem ckN_spec {pl ph el eh U : Int} {b : Bool} (h : ckN pl ph el eh U b = true) : (0 < pl ∧ pl ≤ ph ∧ ph ≤ 5 * U) ∧ (0 < el ∧ el ≤ eh ∧ eh ≤ 5 * U) ∧ 5 * U < 2 ^ 224 ∧ (b = true → 313 * U ≤ 100 * pl ∧ 100 * ph ≤ 316 * U ∧ 100 * eh ≤ 275 * U) := by
  unfold ckN at h
  simp only [Bool.and_eq_true, Bool.or_eq_true, decide_eq_true_eq, Bool.not_eq_true'] at h
  obtain ⟨⟨⟨⟨⟨⟨⟨a, b1⟩, c⟩, d⟩, e⟩, f⟩, g⟩, i⟩ := h
  refine ⟨⟨a, b1, c⟩, ⟨d, e, f⟩, g, fun hb => ?_⟩
  rcases i with i | i
  · rw [hb] at i; cases i
  · exact ⟨i.1.1, i.1.2, i.2⟩
theorem L_224 {x U : Int} (h0 : 0 < x) (h1 : x ≤ 5 * U) (h2 : 5 * U < 2 ^ 224) : L x.natAbs ≤ 7 := L_pow2 (n := 224) oO (by decide)
theorem sqV_L3 {M X w : Int} {up : Bool} (hL : L M.natAbs ≤ 20) (hX : -200 ≤ X ∧ X ≤ 640) (hw : 0 ≤ w ∧ w ≤ 200) : L (sqV M X w up).natAbs ≤ 60 := by
  have h := flr_LD M X (2 * w)
  have h2 := rt_L (flr (dv M X) (2 * w)).natAbs
  have h1 : L (1 : Int).natAbs ≤ 1 := L_le (by decide)
  have h3 := L_abs_add (sqF M X w) 1
  rw [Int.natAbs_natCast] at h3
  have h4 : L (sqF M X w) ≤ 55 := by unfold sqF; omega
  unfold sqV
  split
  · omega
  · rw [Int.add_zero, Int.natAbs_natCast]; omega
theorem mul_mono {a b c d : Rat} (ha : 0 ≤ a) (h : a ≤ b) (hc : 0 ≤ c) (k : c ≤ d) : a * c ≤ b * d :=
  Rat.le_trans (Rat.mul_le_mul_of_nonneg_right h hc) (Rat.mul_le_mul_of_nonneg_left k (Rat.le_trans ha h))
theorem ml_sq {m e n f : Int} (h0 : 0 ≤ dv m e) (h : dv m e ≤ dv n f) : mlLo m e n f m e n f = dv m e * dv m e ∧ mlHi m e n f m e n f = dv n f * dv n f := by
  have a := ml_in (a := dv m e) (b := dv m e) Rat.le_refl h Rat.le_refl h
  have b := ml_in (a := dv n f) (b := dv n f) h Rat.le_refl h Rat.le_refl
  have k := Rat.le_trans h0 h
  have t1 := mul_mono h0 h h0 (Rat.le_refl (a := dv m e))
  have t2 := mul_mono h0 (Rat.le_refl (a := dv m e)) h0 h
  have t3 := mul_mono h0 h h0 h
  have t4 := mul_mono h0 h k (Rat.le_refl (a := dv n f))
  have t5 := mul_mono k (Rat.le_refl (a := dv n f)) h0 h
  refine ⟨Rat.le_antisymm a.1 ?_, Rat.le_antisymm ?_ b.2⟩
  · unfold mlLo
    exact le_qmin (le_qmin (le_qmin Rat.le_refl t2) t1) t3
  · unfold mlHi
    exact qmax_le2 (qmax_le2 (qmax_le2 t3 t4) t5) Rat.le_refl
theorem cs_num {pl ph eh w : Int} (hw : 8 ≤ w) (h1 : 313 * 2 ^ w.toNat ≤ 100 * pl) (h2 : 100 * ph ≤ 316 * 2 ^ w.toNat) (h3 : 100 * eh ≤ 275 * 2 ^ w.toNat) :
    (313 : Rat) ≤ 100 * dv pl (-w) ∧ 100 * dv ph (-w) ≤ (316 : Rat) ∧ 100 * dv eh (-w) ≤ (275 : Rat) ∧ dv 1 (-w) ≤ (1 : Rat) / 256 := by
  have z : ((2 : Int) ^ w.toNat : Int) = 1 * 2 ^ w.toNat := by omega
  have e : ∀ k : Int, dv (k * 2 ^ w.toNat) (-w) = (k : Rat) := fun k => by
    rw [dv_shl, show (-w + (w.toNat : Int)) = 0 by omega]; unfold dv; rw [zp_zero, Rat.mul_one]
  have m : ∀ k x : Int, dv (k * x) (-w) = (k : Rat) * dv x (-w) := fun k x => by unfold dv; rw [Rat.intCast_mul, Rat.mul_assoc]
  have a1 := (dv_le (c := -w)).2 h1
  have a2 := (dv_le (c := -w)).2 h2
  have a3 := (dv_le (c := -w)).2 h3
  rw [e, m] at a1 a2 a3
  have p : (256 : Int) ≤ 2 ^ w.toNat := by
    have : (2 : Int) ^ w.toNat = 2 ^ 8 * 2 ^ (w.toNat - 8) := by rw [← Int.pow_add]; congr 1; omega
    have := two_pos (w.toNat - 8)
    omega
  have a4 := (dv_le (c := -w)).2 (show 256 * 1 ≤ 1 * (2 : Int) ^ w.toNat by omega)
  rw [e, m] at a4
  have c1 : ((313 : Int) : Rat) = 313 := rfl
  have c2 : ((100 : Int) : Rat) = 100 := rfl
  have c3 : ((316 : Int) : Rat) = 316 := rfl
  have c4 : ((275 : Int) : Rat) = 275 := rfl
  have c5 : ((256 : Int) : Rat) = 256 := rfl
  have c6 : ((1 : Int) : Rat) = 1 := rfl
  rw [c1, c2] at a1
  rw [c2, c3] at a2
  rw [c2, c4] at a3
  rw [c5, c6] at a4
  exact ⟨a1, a2, a3, by grind⟩
theorem l13_ConstantSquares (w : Int) (c0 : (-9223372036854775808 : Int) ≤ w ∧ w ≤ 9223372036854775807) : Impl Tryz.prog Amb 14 [.int .i64 w] (.bool true) := by
  have w1 := Int.emod_nonneg w (show (200 : Int) ≠ 0 by omega)
  have w2 := Int.emod_lt_of_pos w (show (0 : Int) < 200 by omega)
  generalize hv : w % 200 = v at w1 w2
  have h3 := l13_three v oO
  have k := cks_at (w := v) oO
  unfold ckS at k
  have h3 := h3
  unfold piA piB piC piD eA eB eC eD at h3
  generalize (piLo (v + 24) / 2 ^ 24) = pl at k h3
  generalize (-(-(piHi (v + 24)) / 2 ^ 24)) = ph at k h3
  generalize (eLo (v + 24) / 2 ^ 24) = el at k h3
  generalize (-(-(eHi (v + 24)) / 2 ^ 24)) = eh at k h3
  obtain ⟨⟨q1, q2, q3⟩, ⟨q4, q5, q6⟩, q7, q8⟩ := ckN_spec k
  have l1 := L_224 q1 oO q7
  have l2 := L_224 (x := ph) oO q3 q7
  have l3 := L_224 q4 oO q7
  have l4 := L_224 (x := eh) oO q6 q7
  have i1 := iMin_range (-v) 0
  have i2 : iMax (-v) 0 ≤ 0 := by unfold iMax; split <;> omega
  have f1 := mk_fit (m := pl) (e := -v) oO oO
  have f2 := mk_fit (m := ph) (e := -v) oO oO
  have f3 := mk_fit (m := el) (e := -v) oO oO
  have f4 := mk_fit (m := eh) (e := -v) oO oO
  have nf : 8 ≤ v → (313 : Rat) ≤ 100 * dv pl (-v) ∧ 100 * dv ph (-v) ≤ (316 : Rat) ∧ 100 * dv eh (-v) ≤ (275 : Rat) ∧ dv 1 (-v) ≤ (1 : Rat) / 256 := fun hb => by
    obtain ⟨a, b, c⟩ := q8 (decide_eq_true hb)
    exact cs_num hb a b c
  have o1 : dv (mkM pl (-v)) (mkX pl (-v)) ≤ dv (mkM ph (-v)) (mkX ph (-v)) := by rw [f1.2.2.2.2.2, f2.2.2.2.2.2]; exact dv_le.2 q2
  have o2 : dv (mkM el (-v)) (mkX el (-v)) ≤ dv (mkM eh (-v)) (mkX eh (-v)) := by rw [f3.2.2.2.2.2, f4.2.2.2.2.2]; exact dv_le.2 q5
  have n1 : 0 < dv (mkM pl (-v)) (mkX pl (-v)) := by rw [f1.2.2.2.2.2]; exact dv_pos.2 q1
  have n2 : 0 < dv (mkM el (-v)) (mkX el (-v)) := by rw [f3.2.2.2.2.2]; exact dv_pos.2 q4
  have g1 := f1.2.2.2.2.2
  have g2 := f2.2.2.2.2.2
  have g3 := f3.2.2.2.2.2
  have g4 := f4.2.2.2.2.2
  generalize mkM pl (-v) = xa at *
  generalize mkX pl (-v) = xb at *
  generalize mkM ph (-v) = xc at *
  generalize mkX ph (-v) = xd at *
  generalize mkM el (-v) = ya at *
  generalize mkX el (-v) = yb at *
  generalize mkM eh (-v) = yc at *
  generalize mkX eh (-v) = yd at *
  have F1 : FitI xa xb xc xd := ⟨⟨by omega, by omega, by omega⟩, ⟨by omega, by omega, by omega⟩, o1⟩
  have kq := ml_ok (w := v) F1 F1 oO
  have q9 : enV (mlLo xa xb xc xd xa xb xc xd) (mlHi xa xb xc xd xa xb xc xd) v = .tup [(wV (enM (mlLo xa xb xc xd xa xb xc xd) (mlHi xa xb xc xd xa xb xc xd) v) (enX (mlLo xa xb xc xd xa xb xc xd) (mlHi xa xb xc xd xa xb xc xd) v) (enN (mlLo xa xb xc xd xa xb xc xd) (mlHi xa xb xc xd xa xb xc xd) v) (enF (mlLo xa xb xc xd xa xb xc xd) (mlHi xa xb xc xd xa xb xc xd) v)), .int .i64 0] := by unfold enV; rw [kq]
  have hq := impl_eq q9 (ar_Mul xa xb xc xd xa xb xc xd v oO oO oO oO oO oO oO oO (ml_fine oO oO oO oO) (ml_fine oO oO oO oO) (ml_fine oO oO oO oO) (ml_fine oO oO oO oO) oO)
  obtain ⟨s1, s2⟩ := ml_sq (Rat.le_of_lt n1) o1
  have lx := L_abs_mul pl pl
  have ly := L_abs_mul ph ph
  have le := L_abs_mul el el
  have lf := L_abs_mul eh eh
  have fx := flr_LD (pl * pl) (-(2 * v)) v
  have fy := flr_LD (ph * ph) (-(2 * v)) v
  have fe := flr_LD (el * el) (-(2 * v)) v
  have ff := flr_LD (eh * eh) (-(2 * v)) v
  rw [← dv_sq, ← g1] at fx
  rw [← dv_sq, ← g2] at fy
  rw [← dv_sq, ← g3] at fe
  rw [← dv_sq, ← g4] at ff
  rw [← s1] at fx
  rw [← s2] at fy
  have ms := mul_mono (Rat.le_of_lt n1) o1 (Rat.le_of_lt n1) o1
  have me := mul_mono (Rat.le_of_lt n2) o2 (Rat.le_of_lt n2) o2
  have p1 := Rat.mul_nonneg (Rat.le_of_lt n1) (Rat.le_of_lt n1)
  have p2 := Rat.mul_nonneg (Rat.le_of_lt n2) (Rat.le_of_lt n2)
  have ks := en_pos (w := v) (c := 20) (by rw [s1]; exact p1) (by rw [s1, s2]; exact ms) oO (show L (flr (mlLo xa xb xc xd xa xb xc xd) v).natAbs ≤ 20 by omega) (show L (cei (mlHi xa xb xc xd xa xb xc xd) v).natAbs ≤ 20 by omega) oO
  obtain ⟨b1, b2⟩ := pwo_p1 o2 (show (0 : Int) < 2 by decide) (.inr (dv_pos.1 n2))
  have e1 : pwL ya yb yc yd 2 = dv ya yb * dv ya yb := by rw [← pw2]; exact b1.symm
  have e2 : pwH ya yb yc yd 2 = dv yc yd * dv yc yd := by rw [← pw2]; exact b2.symm
  rw [← e1] at fe
  rw [← e2] at ff
  have kh := en_pos (w := v) (c := 20) (by rw [e1]; exact p2) (by rw [e1, e2]; exact me) oO (show L (flr (pwL ya yb yc yd 2) v).natAbs ≤ 20 by omega) (show L (cei (pwH ya yb yc yd 2) v).natAbs ≤ 20 by omega) oO
  have t1 : pqT ya yb yc yd 2 v = .tup [(wV (enM (pwL ya yb yc yd 2) (pwH ya yb yc yd 2) v) (enX (pwL ya yb yc yd 2) (pwH ya yb yc yd 2) v) (enN (pwL ya yb yc yd 2) (pwH ya yb yc yd 2) v) (enF (pwL ya yb yc yd 2) (pwH ya yb yc yd 2) v)), .int .i64 0] := by
    rw [pq_ok (show (0 ≤ v ∧ v ≤ 4096) ∧ (-64 : Int) ≤ 2 ∧ (2 : Int) ≤ 64 by omega) oO]; unfold enV; rw [kh.1]
  have hp := impl_eq t1 (rad_Power ya yb yc yd 2 v oO oO f3.2.2.2.2.1 oO oO f4.2.2.2.2.1 o2 oO oO)
  have vs := en_vdb (mlLo xa xb xc xd xa xb xc xd) (mlHi xa xb xc xd xa xb xc xd) v
  have os : dv (enM (mlLo xa xb xc xd xa xb xc xd) (mlHi xa xb xc xd xa xb xc xd) v) (enX (mlLo xa xb xc xd xa xb xc xd) (mlHi xa xb xc xd xa xb xc xd) v) ≤ dv (enN (mlLo xa xb xc xd xa xb xc xd) (mlHi xa xb xc xd xa xb xc xd) v) (enF (mlLo xa xb xc xd xa xb xc xd) (mlHi xa xb xc xd xa xb xc xd) v) :=
    Rat.le_trans ks.2.2.2.1.1 (Rat.le_trans (by rw [s1, s2]; exact ms) ks.2.2.2.1.2)
  have zs := en_sz (mlLo xa xb xc xd xa xb xc xd) (mlHi xa xb xc xd xa xb xc xd) v
  have zh := en_sz (pwL ya yb yc yd 2) (pwH ya yb yc yd 2) v
  have us := flr_lt (mlLo xa xb xc xd xa xb xc xd) v
  have ut := cei_lt (mlHi xa xb xc xd xa xb xc xd) v
  have uh := cei_lt (pwH ya yb yc yd 2) v
  obtain ⟨d1, d2⟩ := ks.2.2.2.2
  obtain ⟨d3, d4⟩ := kh.2.2.2.2
  rw [dv_add, ← d1] at us
  rw [show cei (mlHi xa xb xc xd xa xb xc xd) v - 1 = cei (mlHi xa xb xc xd xa xb xc xd) v + -1 by omega, dv_add, dv_neg, ← d2] at ut
  rw [show cei (pwH ya yb yc yd 2) v - 1 = cei (pwH ya yb yc yd 2) v + -1 by omega, dv_add, dv_neg, ← d4] at uh
  obtain ⟨_, ⟨r1, r2, r3⟩, ⟨r4, r5, r6⟩, ⟨r7, r8⟩, _⟩ := ks
  obtain ⟨_, ⟨_, y2, y3⟩, ⟨_, y5, y6⟩, ⟨_, _⟩, _⟩ := kh
  generalize enM (mlLo xa xb xc xd xa xb xc xd) (mlHi xa xb xc xd xa xb xc xd) v = sa at *
  generalize enX (mlLo xa xb xc xd xa xb xc xd) (mlHi xa xb xc xd xa xb xc xd) v = sb at *
  generalize enN (mlLo xa xb xc xd xa xb xc xd) (mlHi xa xb xc xd xa xb xc xd) v = sc at *
  generalize enF (mlLo xa xb xc xd xa xb xc xd) (mlHi xa xb xc xd xa xb xc xd) v = sd at *
  generalize enM (pwL ya yb yc yd 2) (pwH ya yb yc yd 2) v = ha at *
  generalize enX (pwL ya yb yc yd 2) (pwH ya yb yc yd 2) v = hb at *
  generalize enN (pwL ya yb yc yd 2) (pwH ya yb yc yd 2) v = hc at *
  generalize enF (pwL ya yb yc yd 2) (pwH ya yb yc yd 2) v = hd at *
  rw [s1] at us r7
  rw [s2] at ut r8
  rw [e2] at uh
  have sf := st_found (w := v) r1 r4 (show L sa.natAbs ≤ 30 ∧ -1000 ≤ sb ∧ sb ≤ 3000 by omega) (show L sc.natAbs ≤ 30 ∧ -1000 ≤ sd ∧ sd ≤ 3000 by omega) oO os (sqV_L3 oO oO oO) (sqV_L3 oO oO oO)
  have qq8 : stT sa sb sc sd v = .tup [(wV (srM sa sb v false) (srX sa sb v false) (srM sc sd v true) (srX sc sd v true)), .int .i64 0] := by unfold stT; simp only [sf.1, sf.2]
  have hs := impl_eq qq8 (rad_Sqrt sa sb sc sd v oO oO vs.1 oO oO vs.2 oO)
  have R1 := sr_all (w := v) (up := false) r1 (show L sa.natAbs ≤ 30 by omega) (show -1000 ≤ sb ∧ sb ≤ 3000 by omega) oO
  have R2 := sr_all (w := v) (up := true) r4 (show L sc.natAbs ≤ 30 by omega) (show -1000 ≤ sd ∧ sd ≤ 3000 by omega) oO
  have N1 := sr_nonneg (w := v) (up := false) r1 (show L sa.natAbs ≤ 30 by omega) (show -1000 ≤ sb ∧ sb ≤ 3000 by omega) oO
  have N2 := sr_nonneg (w := v) (up := true) r4 (show L sc.natAbs ≤ 30 by omega) (show -1000 ≤ sd ∧ sd ≤ 3000 by omega) oO
  have Q1 : dv (srM sa sb v false) (srX sa sb v false) * dv (srM sa sb v false) (srX sa sb v false) ≤ dv sa sb := by rw [R1.2.2.2.1]; exact sq_dn r1
  have Q2 : dv sc sd ≤ dv (srM sc sd v true) (srX sc sd v true) * dv (srM sc sd v true) (srX sc sd v true) := by rw [R2.2.2.2.1]; exact sq_up r4 vs.2
  have P1 := dv_nonneg (e := srX sa sb v false) N1
  have P2 := dv_nonneg (e := srX sc sd v true) N2
  have R1 := R1.2.2.2.2
  have R2 := R2.2.2.2.2
  generalize srM sa sb v false = ra at *
  generalize srX sa sb v false = rb at *
  generalize srM sc sd v true = rc at *
  generalize srX sc sd v true = rd at *
  have hw2 : decide (cmpD ra rb xa xb ≤ 0 ∧ cmpD xc xd rc rd ≤ 0) = true := by
    refine decide_eq_true ⟨?_, ?_⟩ <;> rw [cmpD_dv, cmpQ_le]
    · exact sq_cmp P1 (Rat.le_of_lt n1) (Rat.le_trans Q1 r7)
    · exact sq_cmp (Rat.le_trans (Rat.le_of_lt n1) o1) P2 (Rat.le_trans r8 Q2)
  have hW := impl_eq (congrArg V.bool hw2) (r10_Within xa xb xc xd ra rb rc rd oO oO oO oO oO oO oO oO)
  have ft := of_fit (n := 10) oO
  have ho := r08_Of 10 oO
  generalize mkM 10 0 = ta at *
  generalize mkX 10 0 = tb at *
  have hc1 := r10_Cmp sa sb sc sd ta tb ta tb oO oO oO oO oO oO oO oO
  have hc2 := r10_Cmp ha hb hc hd sa sb sc sd oO oO oO oO oO oO oO oO
  refine l13_CSq0 w xa xb xc xd ya yb yc yd _ _ _ _ sa sb sc sd ra rb rc rd ha hb hc hd ta tb _ _ c0 l13_awake (by rw [hv]; exact h3) (by rw [hv]; exact hq) (by rw [hv]; exact hs) (by rw [hv]; exact hp) ho hW hc1 hc2 ?_
  by_cases hb8 : v < 8
  · left; omega
  · right
    obtain ⟨u1, u2, u3, u4⟩ := nf oO
    rw [← g1] at u1
    rw [← g2] at u2
    rw [← g4] at u3
    have x1 := mul_mono (a := (313 : Rat) / 100) (b := dv xa xb) (c := (313 : Rat) / 100) (d := dv xa xb) (by grind) (by grind) (by grind) (by grind)
    have x2 := mul_mono (a := dv xc xd) (b := (316 : Rat) / 100) (c := dv xc xd) (d := (316 : Rat) / 100) (Rat.le_trans (Rat.le_of_lt n1) o1) (by grind) (Rat.le_trans (Rat.le_of_lt n1) o1) (by grind)
    have x3 := mul_mono (a := dv yc yd) (b := (275 : Rat) / 100) (c := dv yc yd) (d := (275 : Rat) / 100) (Rat.le_trans (Rat.le_of_lt n2) o2) (by grind) (Rat.le_trans (Rat.le_of_lt n2) o2) (by grind)
    have cl : ∀ {a b : Rat}, a < b → cmpQ a b < 0 := fun h => by unfold cmpQ; rw [if_pos h]; decide
    constructor
    · unfold ivCmp
      rw [cmpD_dv, if_pos (cl (by rw [ft.2.2.2.2.2]; show dv sc sd < (10 : Rat); generalize dv xc xd * dv xc xd = B at *; grind))]
      decide
    · unfold ivCmp
      rw [cmpD_dv, if_pos (cl (by generalize dv xa xb * dv xa xb = B1 at *; generalize dv yc yd * dv yc yd = B2 at *; grind))]
      decide
end Go.Proofs.YtmbpoibhamlkbaaGreatDoor

namespace Go.Proofs.YtmbpoibhamlkbaaGreatDoor
open Go.ChangeShapes Go.WideShapes Go.ChangeAt Go.RowKit
theorem ownNone : ownKnob Tryz.prog.godebug = none := by kernel_rfl
theorem gTab : Tryz.prog.globalNamed "math/bits.deBruijn32tab" = some 0 := by kernel_rfl
theorem gTabType : (Tryz.prog.globals[0]?).map (·.type) = some 172 := by kernel_rfl
theorem cellsTab : Tryz.prog.cellsOf 172 = 32 := by kernel_rfl
theorem cellsU8 : Tryz.prog.cellsOf 5 = 1 := by kernel_rfl
theorem amb_of {W : World} (h : laidMetH Tryz.prog [("math/bits.deBruijn32tab", Rows.laid_math_bits_deBruijn32tab)] W) : Amb W := by
  have t : Lib.TabIs Tryz.prog W "math/bits.deBruijn32tab" .u8 tab32 := Lib.tabIs_of_head (rest := []) gTab gTabType Tryz.underlying172 Tryz.underlying5 cellsU8 cellsTab h
  intro i v hi
  have hlt : i < tab32.length := by
    rcases Nat.lt_or_ge i tab32.length with q | q
    · exact q
    · rw [List.getElem?_eq_none q] at hi; cases hi
  have h1 := t.cell gTab i hlt
  rw [List.getD_eq_getElem?_getD, hi] at h1
  exact h1
theorem int_wf {n : Int} (h : (Lit.int .i64 n).wf = true) : (-9223372036854775808 : Int) ≤ n ∧ n ≤ 9223372036854775807 := by
  simp only [Lit.wf, Bool.and_eq_true, decide_eq_true_eq] at h
  simp [IntKind.min, IntKind.max, IntKind.signed, IntKind.bits] at h
  omega
noncomputable def laidWorld (os : Os) : World :=
  { World.holding Tryz.prog os ⟨#[], #[], []⟩ with heap := (World.holding Tryz.prog os ⟨#[], #[], []⟩).heap.modify 0 fun
      | .cells _ t frozen => .cells (tab32.map (Value.int .u8)).toArray t frozen
      | o => o }
theorem post_of_below {H : Type} {enc : TypeId × Value → H} {P : Program} {f : Func} {s : ChangeSpec} {apart fresh handsOn again : Bool} {W W' : World} {args : Array Value} {v : Value} {ds gs : List (DataW H)} {before pa pv : List MemPlace}
    (hW : DataW.Whole enc P f.params.toList s.vars apart W args.toList ds gs before)
    (hres : ∀ (b : Nat) (sp : Nat → Bool) (hd : Bool), DataW.TrodAll enc P W' b sp hd f.resultTypes.toList (v.resultList f.resultTypes.size) (s.fn H (ds ++ gs)).results [])
    (hargs : ∀ sp : Nat → Bool, (∀ p ∈ before, sp p.block = true) → DataW.TrodAll enc P W' 0 sp true f.params.toList args.toList (s.fn H (ds ++ gs)).args pa)
    (hvars : ∀ sp : Nat → Bool, (∀ p ∈ before, sp p.block = true) → DataW.TrodVars enc P W' sp s.vars (s.fn H (ds ++ gs)).vars pv)
    (hps : before = pa ++ pv) (hb : Below W.heap.size W W')
    (hok : ∀ (j : Nat) (t : TypeId) (r : Value), f.resultTypes[j]? = some t → (v.resultList f.resultTypes.size)[j]? = some r → Value.okWide P W' .any 0 t r) : s.post enc P f apart fresh handsOn again W args v W' := by
  have lt := hW.lt
  have old : ∀ p ∈ before, (fun b => decide (b < W.heap.size)) p.block = true := fun p hp => decide_eq_true (lt p hp)
  subst hps
  refine ⟨ds, gs, pa ++ pv, [], pa, pv, hW, hres _ _ _, hargs _ old, hvars _ old, hb.frame _, fun _ => ?_⟩
  obtain ⟨_, _, _, _, _, hz, hn⟩ := hW
  have h1 := trodAll_append (hargs (fun _ => true) fun _ _ => rfl) (hres 0 (fun _ => true) true)
  refine ⟨hok, _, _, _, ⟨_, pv, h1, hvars _ fun _ _ => rfl, rfl, fun b off hp => ?_, fun ha => ?_⟩, fun p hp _ => ?_⟩
  · have hp' : MemPlace.cell b off ∈ pa ++ pv := by simpa using hp
    rw [hb.frozen (lt _ hp')]
    exact hz b off hp'
  · simpa using hn ha
  · simpa using hp
end Go.Proofs.YtmbpoibhamlkbaaGreatDoor

