/-
  Lower layers: what functions of the program compute, and plain facts. Conditions: as the theorems say.
-/
import Derived.Test.YtekcladflnieeaaGreatDoorPhR
set_option linter.unusedVariables false
set_option linter.unusedSimpArgs false
namespace Go.Proofs.YtekcladflnieeaaGreatDoor
open Go.RowKit
set_option maxRecDepth 100000
theorem lg_Split (m : Int) (e : Int) (c0 : L (m).natAbs ≤ 4000) (c1 : -65536 ≤ e ∧ e ≤ 65536) (c2 : 0 < m) : Impl Tryz.prog Amb 26 [(yV m e)] (.tup [(.int .i64 (spl m e)), (yV m (e - (spl m e))), (.int .i64 0)]) := by
  have sm := L_sgn false m.natAbs
  have sf : sgn false m.natAbs = m := (sgn_f _).trans (Int.natAbs_of_nonneg oO)
  have tr := topD_range m e
  have l3 := L_lit 3 (by decide)
  have ce : cmpD (sgn false m.natAbs) (e - topD m e) 3 (-2) = cmpD m (e - topD m e) 3 (-2) := by rw [sf]
  exact impl_ob hP hAmb Tryz.func26 (by kernel_rfl) (.lits 2 <| .call (.int .i64 ((m).sign)) <| .lit <| .no <| .lits 2 <| .call (.int .i64 (topD m e)) <| .lits 2 <| .call (zV (sgn false m.natAbs)) <| .lits 2 <| .yes <| .lits 2 <| .call (zV (3 : Int)) <| .lits 5 <| .call (.int .i64 (cmpD (sgn false m.natAbs) (e - (topD m e)) (3 : Int) (-2))) <| .lit <| .both (.lit <| .yes <| .lits 3 <| .yes <| .lits 3 <| .ret) (.lits 3 <| .ret))
    (cast_ob (aI True.intro (aI (dy_Sign m e oO) (have f7 := sign_range m; aI (iLe_mkF oO : (iLe ((m).sign) 0) = false) (aI (dy_Top m e oO oO) (have f6 := topD_range m e; aI (int_Nat false m.natAbs oO) (have f5 := L_sgn false m.natAbs; aI (fits_i64 oO : (fits .i64 (e - (topD m e))) = true) (aI (int_Of 3 oO) (have f4 := (L_i64 oO : L (3 : Int).natAbs ≤ 2); aI (dy_Cmp (sgn false m.natAbs) (e - (topD m e)) (3 : Int) (-2) oO oO oO oO) (have f3 := cmpD_range (sgn false m.natAbs) (e - (topD m e)) (3 : Int) (-2); aI (fun (h1 : (iLt (cmpD (sgn false m.natAbs) (e - (topD m e)) (3 : Int) (-2)) 0) = true) => have _gh1 := iLt_t h1; aI (fits_i64 oO : (fits .i64 ((topD m e) - 1)) = true) (aI (fits_i64 oO : (fits .i64 ((e - (topD m e)) + 1)) = true) ((spl_r1 sf (sp_y oO) : vsub (.tup [(.int .i64 ((topD m e) - 1)), (yV (sgn false m.natAbs) ((e - (topD m e)) + 1)), (.int .i64 0)]) (.tup [(.int .i64 (spl m e)), (yV m (e - (spl m e))), (.int .i64 0)]))))) (fun (h2 : (iLt (cmpD (sgn false m.natAbs) (e - (topD m e)) (3 : Int) (-2)) 0) = false) => have _gh2 := iLt_f h2; (spl_r1 sf (sp_n oO) : vsub (.tup [(.int .i64 (topD m e)), (yV (sgn false m.natAbs) (e - (topD m e))), (.int .i64 0)]) (.tup [(.int .i64 (spl m e)), (yV m (e - (spl m e))), (.int .i64 0)])))))))))))) (by kernel_rfl))
theorem r15_Split (m : Int) (e : Int) (c0 : L (m).natAbs ≤ 4000) (c1 : -65536 ≤ e ∧ e ≤ 65536) (c2 : 0 < m) : Impl Tryz.prog Amb 27 [(yV m e)] (.tup [(.int .i64 (spl m e)), (yV m (e - (spl m e))), (.int .i64 0)]) := by
  have tr := topD_range m e
  have nb := nbits_L m.natAbs
  have l3 := L_lit (3 : Int).natAbs (by decide)
  have f3 := of_fit (n := 3) oO
  exact impl_ob hP hAmb Tryz.func27 (by kernel_rfl) (.lits 2 <| .call (.int .i64 ((m).sign)) <| .lit <| .no <| .lits 2 <| .call (.int .i64 (nbits m.natAbs : Int)) <| .lits 2 <| .yes <| .lits 4 <| .yes <| .lit <| .yes <| .lit <| .call (yV (mkM 3 0) (mkX 3 0)) <| .lits 2 <| .call (mkT (mkM 3 0) (-1)) <| .lits 4 <| .call (.int .i64 (cmpD m ((1 : Int) - (nbits m.natAbs : Int)) (mkM (mkM 3 0) (-1)) (mkX (mkM 3 0) (-1)))) <| .lit <| .both (.lits 2 <| .yes <| .lits 2 <| .yes <| .lits 3 <| .ret) (.lits 3 <| .ret))
    (cast_ob (aI True.intro (aI (r08_Sign m e oO) (have f8 := sign_range m; aI (iLe_mkF oO : (iLe ((m).sign) 0) = false) (aI (r01_Bits m.natAbs oO) (have f7 := nbits_L m.natAbs; aI (fits_i64 oO : (fits .i64 ((1 : Int) - (nbits m.natAbs : Int))) = true) (aI (fits_i64 oO : (fits .i64 (e + (nbits m.natAbs : Int))) = true) (aI (fits_i64 oO : (fits .i64 ((e + (nbits m.natAbs : Int)) - 1)) = true) (aI (r08_Of 3 oO) (have f6 := (L_i64 oO : L (3 : Int).natAbs ≤ 2); have f5 := mk_facts 3 0; aI (r08_Make (mkM 3 0) (-1) oO oO) (have f4 := mk_facts (mkM 3 0) (-1); aI (r08_Cmp m ((1 : Int) - (nbits m.natAbs : Int)) (mkM (mkM 3 0) (-1)) (mkX (mkM 3 0) (-1)) oO oO oO oO) (have f3 := cmpD_range m ((1 : Int) - (nbits m.natAbs : Int)) (mkM (mkM 3 0) (-1)) (mkX (mkM 3 0) (-1)); aI (fun (h1 : (iGe (cmpD m ((1 : Int) - (nbits m.natAbs : Int)) (mkM (mkM 3 0) (-1)) (mkX (mkM 3 0) (-1))) 0) = true) => have _gh1 := iGe_t h1; aI (fits_i64 oO : (fits .i64 (((1 : Int) - (nbits m.natAbs : Int)) - 1)) = true) (aI (fits_i64 oO : (fits .i64 (((e + (nbits m.natAbs : Int)) - 1) + 1)) = true) ((spl_r3 (rs_y oO three_half oO) : vsub (.tup [(.int .i64 (((e + (nbits m.natAbs : Int)) - 1) + 1)), (yV m (((1 : Int) - (nbits m.natAbs : Int)) - 1)), (.int .i64 0)]) (.tup [(.int .i64 (spl m e)), (yV m (e - (spl m e))), (.int .i64 0)]))))) (fun (h2 : (iGe (cmpD m ((1 : Int) - (nbits m.natAbs : Int)) (mkM (mkM 3 0) (-1)) (mkX (mkM 3 0) (-1))) 0) = false) => have _gh2 := iGe_f h2; (spl_r3 (rs_n oO three_half oO) : vsub (.tup [(.int .i64 ((e + (nbits m.natAbs : Int)) - 1)), (yV m ((1 : Int) - (nbits m.natAbs : Int))), (.int .i64 0)]) (.tup [(.int .i64 (spl m e)), (yV m (e - (spl m e))), (.int .i64 0)])))))))))))))) (by kernel_rfl))
def fx_Settle2_0_mk (fk : Nat) (u1 : V) (u2 : V) (_ _ w : Int) (x : Int) : St := ⟨mkS 27 [(0, (.val (.int .i64 w))), (1, (.val (.clos fk [u1, u2]))), (4, (.own 0 0)), (5, (.val (.int .i64 24)))], [⟨true, false, [(V.bool false), V.nil, (V.bool false), V.nil]⟩]⟩
def fx_Settle2_0_I (_ : Nat) (_ : V) (_ : V) (_ _ _ : Int) (x : Int) : Prop := x = x
def fx_Settle2_0_mu (_ : Nat) (_ : V) (_ : V) (_ _ _ : Int) (x : Int) : Nat := 0
def fx_Settle2_0_ex (_ : Nat) (_ : V) (_ : V) (ka kb _ : Int) (y : Int) : Ex × St := (.ret, ⟨mkS 27 [(4, (.own 0 0))], [⟨true, false, [(V.bool (decide ((ka / 2 ^ 24) < 0))), (N ((ka / 2 ^ 24).natAbs)), (V.bool (decide ((-(-kb / 2 ^ 24)) < 0))), (N ((-(-kb / 2 ^ 24)).natAbs))]⟩]⟩)
def fx_Settle2_0_J (_ : Nat) (_ : V) (_ : V) (_ _ _ : Int) (y : Int) : Prop := y = y
theorem fx_Settle2_0 (fk : Nat) (u1 : V) (u2 : V) (ka kb w : Int) (c0 : Impl Tryz.prog Amb fk [(.int .i64 (w + 24)), u1, u2] (.agg [(.bool (decide (ka < 0))), (N ka.natAbs), (.bool (decide (kb < 0))), (N kb.natAbs)]))(c1 : L ka.natAbs ≤ 8192 ∧ L kb.natAbs ≤ 8192)(c2 : nbits (kb - ka).natAbs ≤ 24)(c3 : (0 : Int) ≤ w ∧ w ≤ 5000) (x0 : Int) (hI : fx_Settle2_0_I fk u1 u2 ka kb w x0) : LoopOk Tryz.prog Amb (loopN Tryz.f107 0) (fx_Settle2_0_mk fk u1 u2 ka kb w x0) (fun e st_ => ∃ y, fx_Settle2_0_J fk u1 u2 ka kb w y ∧ fx_Settle2_0_ex fk u1 u2 ka kb w y = (e, st_)) :=
  loop_ob hP hAmb ⟨[0, 1, 4, 5], 1, []⟩ (fx_Settle2_0_mk fk u1 u2 ka kb w) (fx_Settle2_0_I fk u1 u2 ka kb w) (fx_Settle2_0_mu fk u1 u2 ka kb w) (fx_Settle2_0_ex fk u1 u2 ka kb w) (fx_Settle2_0_J fk u1 u2 ka kb w) x0 hI (fun j => .lit <| .yes <| .lit <| .call (.agg [(.bool (decide (ka < 0))), (N ka.natAbs), (.bool (decide (kb < 0))), (N kb.natAbs)]) <| .lits 3 <| .call (zV (kb - ka)) <| .lits 2 <| .call (.int .i64 (nbits ((kb - ka).natAbs) : Int)) <| .lit <| .yes <| .lits 5 <| .call (.agg [(.bool (decide ((ka / 2 ^ 24) < 0))), (N ((ka / 2 ^ 24).natAbs)), (.bool (decide ((-(-kb / 2 ^ 24)) < 0))), (N ((-(-kb / 2 ^ 24)).natAbs))]) <| .lit <| .fin3 ⟨[4], [0]⟩) (by
    rintro j hI
    have hI : j = j := hI
    have h1 := hI
    exact cast_ob (aI True.intro (aI (fits_i64 oS : (fits .i64 (w + 24)) = true) (aI (c0 ) (aI (fx_Width ka kb oS oS) (have f106 := L_abs_sub kb ka; aI (nat_Bits ((kb - ka).natAbs) oS) (have f105 := nbits_L ((kb - ka).natAbs); aI (iLe_mk oO : (iLe (nbits ((kb - ka).natAbs) : Int) 24) = true) (aI (fx_Half ka kb 24 oS oS oS) (have f104 := L_abs_neg (-kb / 2 ^ 24); have f103 := L_abs_shr (-kb) 24; have f102 := L_abs_neg kb; have f101 := L_abs_shr ka 24; aI tT ((nx_ret ((fx_Settle2_0_ex fk u1 u2 ka kb w j).2) j (show j = j from rfl) rfl : NX (fx_Settle2_0_mk fk u1 u2 ka kb w) (fx_Settle2_0_I fk u1 u2 ka kb w) (fx_Settle2_0_mu fk u1 u2 ka kb w) (fx_Settle2_0_ex fk u1 u2 ka kb w) (fx_Settle2_0_J fk u1 u2 ka kb w) j .ret ((fx_Settle2_0_ex fk u1 u2 ka kb w j).2))))))))))) (by kernel_rfl))
theorem fx_Settle2 (fk : Nat) (u1 : V) (u2 : V) (ka : Int) (kb : Int) (w : Int) (c0 : Impl Tryz.prog Amb fk [(.int .i64 (w + 24)), u1, u2] (.agg [(.bool (decide (ka < 0))), (N ka.natAbs), (.bool (decide (kb < 0))), (N kb.natAbs)])) (c1 : L ka.natAbs ≤ 8192 ∧ L kb.natAbs ≤ 8192) (c2 : nbits (kb - ka).natAbs ≤ 24) (c3 : (0 : Int) ≤ w ∧ w ≤ 5000) : Impl Tryz.prog Amb 107 [(.int .i64 w), (.clos fk [u1, u2])] (.agg [(.bool (decide ((ka / 2 ^ 24) < 0))), (N ((ka / 2 ^ 24).natAbs)), (.bool (decide ((-(-kb / 2 ^ 24)) < 0))), (N ((-(-kb / 2 ^ 24)).natAbs))]) := by
  exact impl_ob hP hAmb Tryz.func107 (by kernel_rfl) (.loop ⟨[0, 1, 4, 5], 1, []⟩ ((fx_Settle2_0_mk fk u1 u2 ka kb w (0 : Int))) (Int) (fx_Settle2_0_ex fk u1 u2 ka kb w) (fx_Settle2_0_J fk u1 u2 ka kb w) (fun y => .lit <| .ret))
    (cast_ob (aI True.intro (aI tT (aI (rfl : (fx_Settle2_0_mk fk u1 u2 ka kb w (0 : Int)) = (fx_Settle2_0_mk fk u1 u2 ka kb w (0 : Int))) (aI (fx_Settle2_0 fk u1 u2 ka kb w c0 c1 c2 c3 (0 : Int) (show (0 : Int) = (0 : Int) from rfl)) (fun y (hJ : fx_Settle2_0_J fk u1 u2 ka kb w y) => have hJ : y = y := hJ; (vsub_refl (.agg [(.bool (decide ((ka / 2 ^ 24) < 0))), (N ((ka / 2 ^ 24).natAbs)), (.bool (decide ((-(-kb / 2 ^ 24)) < 0))), (N ((-(-kb / 2 ^ 24)).natAbs))]))))))) (by kernel_rfl))
end Go.Proofs.YtekcladflnieeaaGreatDoor

namespace Go.Proofs.YtekcladflnieeaaGreatDoor
open Go.RowKit
set_option maxRecDepth 100000
def sp1 (x1 x2 v : Int) (j : Nat) : Int := (sP v.toNat x1 x2 j).1
def sp2 (x1 x2 v : Int) (j : Nat) : Int := (sP v.toNat x1 x2 j).2
def ss1 (x1 x2 v : Int) (j : Nat) : Int := (sA v.toNat x1 x2 j).1
def ss2 (x1 x2 v : Int) (j : Nat) : Int := (sA v.toNat x1 x2 j).2
def so1 (x1 x2 v : Int) (j : Nat) : Int := ovLo (sp1 x1 x2 v j) (sp2 x1 x2 v j) (odn j)
def so2 (x1 x2 v : Int) (j : Nat) : Int := ovHi (sp1 x1 x2 v j) (sp2 x1 x2 v j) (odn j)
def r15_At_0_mk (_ : Nat) (m ee w k ek xa xb x1 x2 : Int) (x : Nat × Int) : St := ⟨mkS 85 [(1, (.val (.int .i64 w))), (4, (.own 1 0)), (5, (.val (.int .i64 (w + 60)))), (6, (.val (.int .i64 k))), (11, (.own 5 0)), (12, (.own 6 0)), (13, (.own 7 0)), (14, (.val (.int .i64 x.2)))], [⟨true, false, [(V.bool (decide (m < 0))), (N m.natAbs), (V.int .i64 ee)]⟩, ⟨true, false, [(V.bool false), V.nil, (V.int .i64 0), (V.bool false), V.nil, (V.int .i64 0)]⟩, ⟨true, false, [(V.bool (decide (m < 0))), (N m.natAbs), (V.int .i64 ek)]⟩, ⟨true, false, [(V.bool (decide (xa < 0))), (N xa.natAbs), (V.bool (decide (xb < 0))), (N xb.natAbs)]⟩, ⟨true, false, [(V.bool (decide (x1 < 0))), (N x1.natAbs), (V.bool (decide (x2 < 0))), (N x2.natAbs)]⟩, ⟨true, false, [(V.bool (decide ((rq1 (2 ^ (w + 60).toNat) x1 x2) < 0))), (N ((rq1 (2 ^ (w + 60).toNat) x1 x2).natAbs)), (V.bool (decide ((rq2 (2 ^ (w + 60).toNat) x1 x2) < 0))), (N ((rq2 (2 ^ (w + 60).toNat) x1 x2).natAbs))]⟩, ⟨true, false, [(V.bool (decide ((sp1 x1 x2 (w + 60) x.1) < 0))), (N ((sp1 x1 x2 (w + 60) x.1).natAbs)), (V.bool (decide ((sp2 x1 x2 (w + 60) x.1) < 0))), (N ((sp2 x1 x2 (w + 60) x.1).natAbs))]⟩, ⟨true, false, [(V.bool (decide ((ss1 x1 x2 (w + 60) x.1) < 0))), (N ((ss1 x1 x2 (w + 60) x.1).natAbs)), (V.bool (decide ((ss2 x1 x2 (w + 60) x.1) < 0))), (N ((ss2 x1 x2 (w + 60) x.1).natAbs))]⟩]⟩
def r15_At_0_I (nn : Nat) (_ _ _ _ _ _ _ _ _ : Int) (x : Nat × Int) : Prop := x.1 ≤ nn ∧ x.2 = x.1
def r15_At_0_mu (nn : Nat) (_ _ _ _ _ _ _ _ _ : Int) (x : Nat × Int) : Nat := nn - x.1
def r15_At_0_ex (_ : Nat) (m ee w k ek xa xb x1 x2 : Int) (y : Nat) : Ex × St := (.exit 0, ⟨mkS 85 [(1, (.val (.int .i64 w))), (4, (.own 1 0)), (5, (.val (.int .i64 (w + 60)))), (6, (.val (.int .i64 k))), (13, (.own 7 0))], [⟨true, false, [(V.bool (decide (m < 0))), (N m.natAbs), (V.int .i64 ee)]⟩, ⟨true, false, [(V.bool false), V.nil, (V.int .i64 0), (V.bool false), V.nil, (V.int .i64 0)]⟩, ⟨true, false, [(V.bool (decide (m < 0))), (N m.natAbs), (V.int .i64 ek)]⟩, ⟨true, false, [(V.bool (decide (xa < 0))), (N xa.natAbs), (V.bool (decide (xb < 0))), (N xb.natAbs)]⟩, ⟨true, false, [(V.bool (decide (x1 < 0))), (N x1.natAbs), (V.bool (decide (x2 < 0))), (N x2.natAbs)]⟩, ⟨true, false, [(V.bool (decide ((rq1 (2 ^ (w + 60).toNat) x1 x2) < 0))), (N ((rq1 (2 ^ (w + 60).toNat) x1 x2).natAbs)), (V.bool (decide ((rq2 (2 ^ (w + 60).toNat) x1 x2) < 0))), (N ((rq2 (2 ^ (w + 60).toNat) x1 x2).natAbs))]⟩, ⟨true, false, [(V.bool (decide ((sp1 x1 x2 (w + 60) y) < 0))), (N ((sp1 x1 x2 (w + 60) y).natAbs)), (V.bool (decide ((sp2 x1 x2 (w + 60) y) < 0))), (N ((sp2 x1 x2 (w + 60) y).natAbs))]⟩, ⟨true, false, [(V.bool (decide ((ss1 x1 x2 (w + 60) y) < 0))), (N ((ss1 x1 x2 (w + 60) y).natAbs)), (V.bool (decide ((ss2 x1 x2 (w + 60) y) < 0))), (N ((ss2 x1 x2 (w + 60) y).natAbs))]⟩]⟩)
def r15_At_0_J (nn : Nat) (_ _ _ _ _ _ _ _ _ : Int) (y : Nat) : Prop := y = nn
abbrev r15_At_0_N (nn : Nat) (m ee w k ek xa xb x1 x2 : Int) := NX (r15_At_0_mk nn m ee w k ek xa xb x1 x2) (r15_At_0_I nn m ee w k ek xa xb x1 x2) (r15_At_0_mu nn m ee w k ek xa xb x1 x2) (r15_At_0_ex nn m ee w k ek xa xb x1 x2) (r15_At_0_J nn m ee w k ek xa xb x1 x2)
theorem r15_At_0 (nn : Nat) (m ee w k ek xa xb x1 x2 : Int) (c0 : nn ≤ 10000)(c1 : ∀ j, j ≤ nn → Impl Tryz.prog Amb 84 [(.agg [(.bool (decide ((sp1 x1 x2 (w + 60) j) < 0))), (N ((sp1 x1 x2 (w + 60) j).natAbs)), (.bool (decide ((sp2 x1 x2 (w + 60) j) < 0))), (N ((sp2 x1 x2 (w + 60) j).natAbs))])] (.bool (decide (nn ≤ j))))(c2 : ∀ (j : Nat) (kk : Int), j < nn → kk = j → Impl Tryz.prog Amb 65 [(.agg [(.bool (decide ((sp1 x1 x2 (w + 60) j) < 0))), (N ((sp1 x1 x2 (w + 60) j).natAbs)), (.bool (decide ((sp2 x1 x2 (w + 60) j) < 0))), (N ((sp2 x1 x2 (w + 60) j).natAbs))]), (.int .i64 (((2 : Int) * kk) + 1))] (.agg [(.bool (decide ((so1 x1 x2 (w + 60) j) < 0))), (N ((so1 x1 x2 (w + 60) j).natAbs)), (.bool (decide ((so2 x1 x2 (w + 60) j) < 0))), (N ((so2 x1 x2 (w + 60) j).natAbs))]))(c3 : ∀ j, j < nn → Impl Tryz.prog Amb 50 [(.agg [(.bool (decide ((ss1 x1 x2 (w + 60) j) < 0))), (N ((ss1 x1 x2 (w + 60) j).natAbs)), (.bool (decide ((ss2 x1 x2 (w + 60) j) < 0))), (N ((ss2 x1 x2 (w + 60) j).natAbs))]), (.agg [(.bool (decide ((so1 x1 x2 (w + 60) j) < 0))), (N ((so1 x1 x2 (w + 60) j).natAbs)), (.bool (decide ((so2 x1 x2 (w + 60) j) < 0))), (N ((so2 x1 x2 (w + 60) j).natAbs))])] (.agg [(.bool (decide ((ss1 x1 x2 (w + 60) (j + 1)) < 0))), (N ((ss1 x1 x2 (w + 60) (j + 1)).natAbs)), (.bool (decide ((ss2 x1 x2 (w + 60) (j + 1)) < 0))), (N ((ss2 x1 x2 (w + 60) (j + 1)).natAbs))]))(c4 : ∀ j, j < nn → Impl Tryz.prog Amb 83 [(.agg [(.bool (decide ((sp1 x1 x2 (w + 60) j) < 0))), (N ((sp1 x1 x2 (w + 60) j).natAbs)), (.bool (decide ((sp2 x1 x2 (w + 60) j) < 0))), (N ((sp2 x1 x2 (w + 60) j).natAbs))]), (.agg [(.bool (decide ((rq1 (2 ^ (w + 60).toNat) x1 x2) < 0))), (N ((rq1 (2 ^ (w + 60).toNat) x1 x2).natAbs)), (.bool (decide ((rq2 (2 ^ (w + 60).toNat) x1 x2) < 0))), (N ((rq2 (2 ^ (w + 60).toNat) x1 x2).natAbs))]), (.int .i64 (w + 60))] (.agg [(.bool (decide ((sp1 x1 x2 (w + 60) (j + 1)) < 0))), (N ((sp1 x1 x2 (w + 60) (j + 1)).natAbs)), (.bool (decide ((sp2 x1 x2 (w + 60) (j + 1)) < 0))), (N ((sp2 x1 x2 (w + 60) (j + 1)).natAbs))])) (x0 : Nat × Int) (hI : r15_At_0_I nn m ee w k ek xa xb x1 x2 x0) : LoopOk Tryz.prog Amb (loopN Tryz.f21 0) (r15_At_0_mk nn m ee w k ek xa xb x1 x2 x0) (fun e st_ => ∃ y, r15_At_0_J nn m ee w k ek xa xb x1 x2 y ∧ r15_At_0_ex nn m ee w k ek xa xb x1 x2 y = (e, st_)) :=
  loop_ob hP hAmb ⟨[1, 4, 5, 6, 11, 12, 13, 14], 8, []⟩ (r15_At_0_mk nn m ee w k ek xa xb x1 x2) (r15_At_0_I nn m ee w k ek xa xb x1 x2) (r15_At_0_mu nn m ee w k ek xa xb x1 x2) (r15_At_0_ex nn m ee w k ek xa xb x1 x2) (r15_At_0_J nn m ee w k ek xa xb x1 x2) x0 hI (fun (j, kk) => .lits 2 <| .call (.bool (decide (nn ≤ j))) <| .lit <| .both (.lits 3 <| .yes <| .lit <| .yes <| .lit <| .call (.agg [(.bool (decide ((so1 x1 x2 (w + 60) j) < 0))), (N ((so1 x1 x2 (w + 60) j).natAbs)), (.bool (decide ((so2 x1 x2 (w + 60) j) < 0))), (N ((so2 x1 x2 (w + 60) j).natAbs))]) <| .lit <| .call (.agg [(.bool (decide ((ss1 x1 x2 (w + 60) (j + 1)) < 0))), (N ((ss1 x1 x2 (w + 60) (j + 1)).natAbs)), (.bool (decide ((ss2 x1 x2 (w + 60) (j + 1)) < 0))), (N ((ss2 x1 x2 (w + 60) (j + 1)).natAbs))]) <| .lits 4 <| .call (.agg [(.bool (decide ((sp1 x1 x2 (w + 60) (j + 1)) < 0))), (N ((sp1 x1 x2 (w + 60) (j + 1)).natAbs)), (.bool (decide ((sp2 x1 x2 (w + 60) (j + 1)) < 0))), (N ((sp2 x1 x2 (w + 60) (j + 1)).natAbs))]) <| .lits 2 <| .yes <| .fin2 ⟨[1, 4, 5, 6, 11, 12, 13, 14], 8, []⟩) (.fin2 ⟨[1, 4, 5, 6, 13], 8, []⟩)) (by
    rintro ⟨j, kk⟩ hI
    have hI : j ≤ nn ∧ kk = j := hI
    obtain ⟨h1, h2⟩ := hI
    exact cast_ob (aI True.intro (aI (c1 j h1 ) (aI (fun (h101 : (!(decide (nn ≤ j))) = true) => have _gh101 := of_decide_eq_false (notb_t h101); aI (fits_i64 oO : (fits .i64 ((2 : Int) * kk)) = true) (aI (fits_i64 oO : (fits .i64 (((2 : Int) * kk) + 1)) = true) (aI (c2 j kk oO h2 ) (aI (c3 j oO ) (aI (c4 j oO ) (aI (fits_i64 oO : (fits .i64 (kk + 1)) = true) (aI tT ((nx_next ((j + 1), (kk + 1)) (show (j + 1) ≤ nn ∧ (kk + 1) = (j + 1) from ⟨by omega, by omega⟩) (show nn - (j + 1) < nn - j by omega) : r15_At_0_N nn m ee w k ek xa xb x1 x2 (j, kk) .normal (r15_At_0_mk nn m ee w k ek xa xb x1 x2 ((j + 1), (kk + 1)))))))))))) (fun (h102 : (!(decide (nn ≤ j))) = false) => have _gh102 := of_decide_eq_true (notb_f h102); aI tT ((nx_exit 0 ((r15_At_0_ex nn m ee w k ek xa xb x1 x2 j).2) j (show j = nn from show j = nn by omega) rfl : r15_At_0_N nn m ee w k ek xa xb x1 x2 (j, kk) (.exit 0) ((r15_At_0_ex nn m ee w k ek xa xb x1 x2 j).2))))))) (by kernel_rfl))
theorem r15_AtN (nn : Nat) (m : Int) (ee : Int) (w : Int) (k : Int) (ek : Int) (xa : Int) (xb : Int) (x1 : Int) (x2 : Int) (o1 : Int) (e1 : Int) (e2 : Int) (g1 : Int) (g2 : Int) (w1 : Int) (w2 : Int) (t1 : Int) (t2 : Int) (n1 : Int) (n2 : Int) (r1 : Int) (r2 : Int) (f1 : Int) (f2 : Int) (a1 : Int) (a2 : Int) (a3 : Int) (a4 : Int) (c0 : nn ≤ 10000) (c1 : ∀ j, j ≤ nn → Impl Tryz.prog Amb 84 [(.agg [(.bool (decide ((sp1 x1 x2 (w + 60) j) < 0))), (N ((sp1 x1 x2 (w + 60) j).natAbs)), (.bool (decide ((sp2 x1 x2 (w + 60) j) < 0))), (N ((sp2 x1 x2 (w + 60) j).natAbs))])] (.bool (decide (nn ≤ j)))) (c2 : ∀ (j : Nat) (kk : Int), j < nn → kk = j → Impl Tryz.prog Amb 65 [(.agg [(.bool (decide ((sp1 x1 x2 (w + 60) j) < 0))), (N ((sp1 x1 x2 (w + 60) j).natAbs)), (.bool (decide ((sp2 x1 x2 (w + 60) j) < 0))), (N ((sp2 x1 x2 (w + 60) j).natAbs))]), (.int .i64 (((2 : Int) * kk) + 1))] (.agg [(.bool (decide ((so1 x1 x2 (w + 60) j) < 0))), (N ((so1 x1 x2 (w + 60) j).natAbs)), (.bool (decide ((so2 x1 x2 (w + 60) j) < 0))), (N ((so2 x1 x2 (w + 60) j).natAbs))])) (c3 : ∀ j, j < nn → Impl Tryz.prog Amb 50 [(.agg [(.bool (decide ((ss1 x1 x2 (w + 60) j) < 0))), (N ((ss1 x1 x2 (w + 60) j).natAbs)), (.bool (decide ((ss2 x1 x2 (w + 60) j) < 0))), (N ((ss2 x1 x2 (w + 60) j).natAbs))]), (.agg [(.bool (decide ((so1 x1 x2 (w + 60) j) < 0))), (N ((so1 x1 x2 (w + 60) j).natAbs)), (.bool (decide ((so2 x1 x2 (w + 60) j) < 0))), (N ((so2 x1 x2 (w + 60) j).natAbs))])] (.agg [(.bool (decide ((ss1 x1 x2 (w + 60) (j + 1)) < 0))), (N ((ss1 x1 x2 (w + 60) (j + 1)).natAbs)), (.bool (decide ((ss2 x1 x2 (w + 60) (j + 1)) < 0))), (N ((ss2 x1 x2 (w + 60) (j + 1)).natAbs))])) (c4 : ∀ j, j < nn → Impl Tryz.prog Amb 83 [(.agg [(.bool (decide ((sp1 x1 x2 (w + 60) j) < 0))), (N ((sp1 x1 x2 (w + 60) j).natAbs)), (.bool (decide ((sp2 x1 x2 (w + 60) j) < 0))), (N ((sp2 x1 x2 (w + 60) j).natAbs))]), (.agg [(.bool (decide ((rq1 (2 ^ (w + 60).toNat) x1 x2) < 0))), (N ((rq1 (2 ^ (w + 60).toNat) x1 x2).natAbs)), (.bool (decide ((rq2 (2 ^ (w + 60).toNat) x1 x2) < 0))), (N ((rq2 (2 ^ (w + 60).toNat) x1 x2).natAbs))]), (.int .i64 (w + 60))] (.agg [(.bool (decide ((sp1 x1 x2 (w + 60) (j + 1)) < 0))), (N ((sp1 x1 x2 (w + 60) (j + 1)).natAbs)), (.bool (decide ((sp2 x1 x2 (w + 60) (j + 1)) < 0))), (N ((sp2 x1 x2 (w + 60) (j + 1)).natAbs))])) (c5 : Impl Tryz.prog Amb 27 [(yV m ee)] (.tup [(.int .i64 k), (yV m ek), (.int .i64 0)])) (c6 : Impl Tryz.prog Amb 46 [(yV m ek), (.int .i64 (w + 60))] (.agg [(.bool (decide (xa < 0))), (N xa.natAbs), (.bool (decide (xb < 0))), (N xb.natAbs)])) (c7 : Impl Tryz.prog Amb 82 [(.int .i64 1), (.int .i64 (w + 60))] (.agg [(.bool (decide (o1 < 0))), (N o1.natAbs), (.bool (decide (o1 < 0))), (N o1.natAbs)])) (c8 : Impl Tryz.prog Amb 82 [(.int .i64 0), (.int .i64 (w + 60))] (.agg [(.bool (decide ((0 : Int) < 0))), (N ((0 : Int).natAbs)), (.bool (decide ((0 : Int) < 0))), (N ((0 : Int).natAbs))])) (c9 : Impl Tryz.prog Amb 47 [(.agg [(.bool (decide (xa < 0))), (N xa.natAbs), (.bool (decide (xb < 0))), (N xb.natAbs)]), (.agg [(.bool (decide (o1 < 0))), (N o1.natAbs), (.bool (decide (o1 < 0))), (N o1.natAbs)])] (.agg [(.bool (decide (e1 < 0))), (N e1.natAbs), (.bool (decide (e2 < 0))), (N e2.natAbs)])) (c10 : Impl Tryz.prog Amb 50 [(.agg [(.bool (decide (xa < 0))), (N xa.natAbs), (.bool (decide (xb < 0))), (N xb.natAbs)]), (.agg [(.bool (decide (o1 < 0))), (N o1.natAbs), (.bool (decide (o1 < 0))), (N o1.natAbs)])] (.agg [(.bool (decide (g1 < 0))), (N g1.natAbs), (.bool (decide (g2 < 0))), (N g2.natAbs)])) (c11 : Impl Tryz.prog Amb 81 [(.agg [(.bool (decide (e1 < 0))), (N e1.natAbs), (.bool (decide (e2 < 0))), (N e2.natAbs)]), (.agg [(.bool (decide (g1 < 0))), (N g1.natAbs), (.bool (decide (g2 < 0))), (N g2.natAbs)]), (.int .i64 (w + 60))] (.agg [(.bool (decide (x1 < 0))), (N x1.natAbs), (.bool (decide (x2 < 0))), (N x2.natAbs)])) (c12 : Impl Tryz.prog Amb 83 [(.agg [(.bool (decide (x1 < 0))), (N x1.natAbs), (.bool (decide (x2 < 0))), (N x2.natAbs)]), (.agg [(.bool (decide (x1 < 0))), (N x1.natAbs), (.bool (decide (x2 < 0))), (N x2.natAbs)]), (.int .i64 (w + 60))] (.agg [(.bool (decide ((rq1 (2 ^ (w + 60).toNat) x1 x2) < 0))), (N ((rq1 (2 ^ (w + 60).toNat) x1 x2).natAbs)), (.bool (decide ((rq2 (2 ^ (w + 60).toNat) x1 x2) < 0))), (N ((rq2 (2 ^ (w + 60).toNat) x1 x2).natAbs))])) (c13 : Impl Tryz.prog Amb 85 [(.agg [(.bool (decide ((ss1 x1 x2 (w + 60) nn) < 0))), (N ((ss1 x1 x2 (w + 60) nn).natAbs)), (.bool (decide ((ss2 x1 x2 (w + 60) nn) < 0))), (N ((ss2 x1 x2 (w + 60) nn).natAbs))]), (.int .i64 3)] (.agg [(.bool (decide (w1 < 0))), (N w1.natAbs), (.bool (decide (w2 < 0))), (N w2.natAbs)])) (c14 : Impl Tryz.prog Amb 48 [(.agg [(.bool (decide (w1 < 0))), (N w1.natAbs), (.bool (decide (w2 < 0))), (N w2.natAbs)]), (.int .i64 2)] (.agg [(.bool (decide (t1 < 0))), (N t1.natAbs), (.bool (decide (t2 < 0))), (N t2.natAbs)])) (c15 : Impl Tryz.prog Amb 49 [(.int .i64 (w + 60))] (.agg [(.bool (decide (n1 < 0))), (N n1.natAbs), (.bool (decide (n2 < 0))), (N n2.natAbs)])) (c16 : Impl Tryz.prog Amb 48 [(.agg [(.bool (decide (n1 < 0))), (N n1.natAbs), (.bool (decide (n2 < 0))), (N n2.natAbs)]), (.int .i64 ((0 : Int) - k))] (.agg [(.bool (decide (r1 < 0))), (N r1.natAbs), (.bool (decide (r2 < 0))), (N r2.natAbs)])) (c17 : Impl Tryz.prog Amb 47 [(.agg [(.bool (decide (t1 < 0))), (N t1.natAbs), (.bool (decide (t2 < 0))), (N t2.natAbs)]), (.agg [(.bool (decide (r1 < 0))), (N r1.natAbs), (.bool (decide (r2 < 0))), (N r2.natAbs)])] (.agg [(.bool (decide (f1 < 0))), (N f1.natAbs), (.bool (decide (f2 < 0))), (N f2.natAbs)])) (c18 : Impl Tryz.prog Amb 52 [(.agg [(.bool (decide (f1 < 0))), (N f1.natAbs), (.bool (decide (f2 < 0))), (N f2.natAbs)]), (.int .i64 (w + 60)), (.int .i64 (w + 16))] (wV a1 a2 a3 a4)) (c19 : 0 ≤ w ∧ w ≤ 1400) (c20 : k < 0) (c21 : -9223372036854775807 ≤ k ∧ k ≤ 9223372036854775807) : Impl Tryz.prog Amb 21 [(yV m ee), (.int .i64 w)] (wV a1 a2 a3 a4) := by
  exact impl_ob hP hAmb Tryz.func21 (by kernel_rfl) (.lit <| .yes <| .lits 2 <| .call (.tup [(.int .i64 k), (yV m ek), (.int .i64 0)]) <| .lits 3 <| .call (.agg [(.bool (decide (xa < 0))), (N xa.natAbs), (.bool (decide (xb < 0))), (N xb.natAbs)]) <| .lits 3 <| .call (.agg [(.bool (decide (o1 < 0))), (N o1.natAbs), (.bool (decide (o1 < 0))), (N o1.natAbs)]) <| .lit <| .call (.agg [(.bool (decide (e1 < 0))), (N e1.natAbs), (.bool (decide (e2 < 0))), (N e2.natAbs)]) <| .lits 2 <| .call (.agg [(.bool (decide (o1 < 0))), (N o1.natAbs), (.bool (decide (o1 < 0))), (N o1.natAbs)]) <| .lit <| .call (.agg [(.bool (decide (g1 < 0))), (N g1.natAbs), (.bool (decide (g2 < 0))), (N g2.natAbs)]) <| .lit <| .call (.agg [(.bool (decide (x1 < 0))), (N x1.natAbs), (.bool (decide (x2 < 0))), (N x2.natAbs)]) <| .lits 3 <| .call (.agg [(.bool (decide ((rq1 (2 ^ (w + 60).toNat) x1 x2) < 0))), (N ((rq1 (2 ^ (w + 60).toNat) x1 x2).natAbs)), (.bool (decide ((rq2 (2 ^ (w + 60).toNat) x1 x2) < 0))), (N ((rq2 (2 ^ (w + 60).toNat) x1 x2).natAbs))]) <| .lits 3 <| .call (.agg [(.bool (decide ((0 : Int) < 0))), (N ((0 : Int).natAbs)), (.bool (decide ((0 : Int) < 0))), (N ((0 : Int).natAbs))]) <| .loop ⟨[1, 4, 5, 6, 11, 12, 13, 14], 8, []⟩ ((r15_At_0_mk nn m ee w k ek xa xb x1 x2 (0, 0))) (Nat) (r15_At_0_ex nn m ee w k ek xa xb x1 x2) (r15_At_0_J nn m ee w k ek xa xb x1 x2) (fun y => .lits 2 <| .call (.agg [(.bool (decide (w1 < 0))), (N w1.natAbs), (.bool (decide (w2 < 0))), (N w2.natAbs)]) <| .lit <| .call (.agg [(.bool (decide (t1 < 0))), (N t1.natAbs), (.bool (decide (t2 < 0))), (N t2.natAbs)]) <| .lits 2 <| .call (.agg [(.bool (decide (n1 < 0))), (N n1.natAbs), (.bool (decide (n2 < 0))), (N n2.natAbs)]) <| .lits 2 <| .yes <| .lits 3 <| .yes <| .lit <| .call (.agg [(.bool (decide (r1 < 0))), (N r1.natAbs), (.bool (decide (r2 < 0))), (N r2.natAbs)]) <| .lit <| .call (.agg [(.bool (decide (f1 < 0))), (N f1.natAbs), (.bool (decide (f2 < 0))), (N f2.natAbs)]) <| .lits 3 <| .yes <| .lit <| .call (wV a1 a2 a3 a4) <| .lits 2 <| .ret))
    (cast_ob (aI True.intro (aI (fits_i64 oS : (fits .i64 (w + 60)) = true) (aI (c5 ) (aI (c6 ) (aI (c7 ) (aI (c9 ) (aI (c7 ) (aI (c10 ) (aI (c11 ) (aI (c12 ) (aI (c8 ) (aI tT (aI (rfl : (r15_At_0_mk nn m ee w k ek xa xb x1 x2 (0, 0)) = (r15_At_0_mk nn m ee w k ek xa xb x1 x2 (0, 0))) (aI (r15_At_0 nn m ee w k ek xa xb x1 x2 c0 c1 c2 c3 c4 (0, 0) (show 0 ≤ nn ∧ 0 = 0 from ⟨by omega, by omega⟩)) (fun y (hJ : r15_At_0_J nn m ee w k ek xa xb x1 x2 y) => have hJ : y = nn := hJ; aI ((hJ ▸ c13) ) (aI (c14 ) (aI (c15 ) (aI (iLt_mk oO : (iLt k 0) = true) (aI (fits_i64 oS : (fits .i64 ((0 : Int) - k)) = true) (aI (c16 ) (aI (c17 ) (aI (fits_i64 oS : (fits .i64 (w + 16)) = true) (aI (c18 ) ((vsub_refl (wV a1 a2 a3 a4)))))))))))))))))))))))))) (by kernel_rfl))
theorem r15_AtP (nn : Nat) (m : Int) (ee : Int) (w : Int) (k : Int) (ek : Int) (xa : Int) (xb : Int) (x1 : Int) (x2 : Int) (o1 : Int) (e1 : Int) (e2 : Int) (g1 : Int) (g2 : Int) (w1 : Int) (w2 : Int) (t1 : Int) (t2 : Int) (n1 : Int) (n2 : Int) (r1 : Int) (r2 : Int) (f1 : Int) (f2 : Int) (a1 : Int) (a2 : Int) (a3 : Int) (a4 : Int) (c0 : nn ≤ 10000) (c1 : ∀ j, j ≤ nn → Impl Tryz.prog Amb 84 [(.agg [(.bool (decide ((sp1 x1 x2 (w + 60) j) < 0))), (N ((sp1 x1 x2 (w + 60) j).natAbs)), (.bool (decide ((sp2 x1 x2 (w + 60) j) < 0))), (N ((sp2 x1 x2 (w + 60) j).natAbs))])] (.bool (decide (nn ≤ j)))) (c2 : ∀ (j : Nat) (kk : Int), j < nn → kk = j → Impl Tryz.prog Amb 65 [(.agg [(.bool (decide ((sp1 x1 x2 (w + 60) j) < 0))), (N ((sp1 x1 x2 (w + 60) j).natAbs)), (.bool (decide ((sp2 x1 x2 (w + 60) j) < 0))), (N ((sp2 x1 x2 (w + 60) j).natAbs))]), (.int .i64 (((2 : Int) * kk) + 1))] (.agg [(.bool (decide ((so1 x1 x2 (w + 60) j) < 0))), (N ((so1 x1 x2 (w + 60) j).natAbs)), (.bool (decide ((so2 x1 x2 (w + 60) j) < 0))), (N ((so2 x1 x2 (w + 60) j).natAbs))])) (c3 : ∀ j, j < nn → Impl Tryz.prog Amb 50 [(.agg [(.bool (decide ((ss1 x1 x2 (w + 60) j) < 0))), (N ((ss1 x1 x2 (w + 60) j).natAbs)), (.bool (decide ((ss2 x1 x2 (w + 60) j) < 0))), (N ((ss2 x1 x2 (w + 60) j).natAbs))]), (.agg [(.bool (decide ((so1 x1 x2 (w + 60) j) < 0))), (N ((so1 x1 x2 (w + 60) j).natAbs)), (.bool (decide ((so2 x1 x2 (w + 60) j) < 0))), (N ((so2 x1 x2 (w + 60) j).natAbs))])] (.agg [(.bool (decide ((ss1 x1 x2 (w + 60) (j + 1)) < 0))), (N ((ss1 x1 x2 (w + 60) (j + 1)).natAbs)), (.bool (decide ((ss2 x1 x2 (w + 60) (j + 1)) < 0))), (N ((ss2 x1 x2 (w + 60) (j + 1)).natAbs))])) (c4 : ∀ j, j < nn → Impl Tryz.prog Amb 83 [(.agg [(.bool (decide ((sp1 x1 x2 (w + 60) j) < 0))), (N ((sp1 x1 x2 (w + 60) j).natAbs)), (.bool (decide ((sp2 x1 x2 (w + 60) j) < 0))), (N ((sp2 x1 x2 (w + 60) j).natAbs))]), (.agg [(.bool (decide ((rq1 (2 ^ (w + 60).toNat) x1 x2) < 0))), (N ((rq1 (2 ^ (w + 60).toNat) x1 x2).natAbs)), (.bool (decide ((rq2 (2 ^ (w + 60).toNat) x1 x2) < 0))), (N ((rq2 (2 ^ (w + 60).toNat) x1 x2).natAbs))]), (.int .i64 (w + 60))] (.agg [(.bool (decide ((sp1 x1 x2 (w + 60) (j + 1)) < 0))), (N ((sp1 x1 x2 (w + 60) (j + 1)).natAbs)), (.bool (decide ((sp2 x1 x2 (w + 60) (j + 1)) < 0))), (N ((sp2 x1 x2 (w + 60) (j + 1)).natAbs))])) (c5 : Impl Tryz.prog Amb 27 [(yV m ee)] (.tup [(.int .i64 k), (yV m ek), (.int .i64 0)])) (c6 : Impl Tryz.prog Amb 46 [(yV m ek), (.int .i64 (w + 60))] (.agg [(.bool (decide (xa < 0))), (N xa.natAbs), (.bool (decide (xb < 0))), (N xb.natAbs)])) (c7 : Impl Tryz.prog Amb 82 [(.int .i64 1), (.int .i64 (w + 60))] (.agg [(.bool (decide (o1 < 0))), (N o1.natAbs), (.bool (decide (o1 < 0))), (N o1.natAbs)])) (c8 : Impl Tryz.prog Amb 82 [(.int .i64 0), (.int .i64 (w + 60))] (.agg [(.bool (decide ((0 : Int) < 0))), (N ((0 : Int).natAbs)), (.bool (decide ((0 : Int) < 0))), (N ((0 : Int).natAbs))])) (c9 : Impl Tryz.prog Amb 47 [(.agg [(.bool (decide (xa < 0))), (N xa.natAbs), (.bool (decide (xb < 0))), (N xb.natAbs)]), (.agg [(.bool (decide (o1 < 0))), (N o1.natAbs), (.bool (decide (o1 < 0))), (N o1.natAbs)])] (.agg [(.bool (decide (e1 < 0))), (N e1.natAbs), (.bool (decide (e2 < 0))), (N e2.natAbs)])) (c10 : Impl Tryz.prog Amb 50 [(.agg [(.bool (decide (xa < 0))), (N xa.natAbs), (.bool (decide (xb < 0))), (N xb.natAbs)]), (.agg [(.bool (decide (o1 < 0))), (N o1.natAbs), (.bool (decide (o1 < 0))), (N o1.natAbs)])] (.agg [(.bool (decide (g1 < 0))), (N g1.natAbs), (.bool (decide (g2 < 0))), (N g2.natAbs)])) (c11 : Impl Tryz.prog Amb 81 [(.agg [(.bool (decide (e1 < 0))), (N e1.natAbs), (.bool (decide (e2 < 0))), (N e2.natAbs)]), (.agg [(.bool (decide (g1 < 0))), (N g1.natAbs), (.bool (decide (g2 < 0))), (N g2.natAbs)]), (.int .i64 (w + 60))] (.agg [(.bool (decide (x1 < 0))), (N x1.natAbs), (.bool (decide (x2 < 0))), (N x2.natAbs)])) (c12 : Impl Tryz.prog Amb 83 [(.agg [(.bool (decide (x1 < 0))), (N x1.natAbs), (.bool (decide (x2 < 0))), (N x2.natAbs)]), (.agg [(.bool (decide (x1 < 0))), (N x1.natAbs), (.bool (decide (x2 < 0))), (N x2.natAbs)]), (.int .i64 (w + 60))] (.agg [(.bool (decide ((rq1 (2 ^ (w + 60).toNat) x1 x2) < 0))), (N ((rq1 (2 ^ (w + 60).toNat) x1 x2).natAbs)), (.bool (decide ((rq2 (2 ^ (w + 60).toNat) x1 x2) < 0))), (N ((rq2 (2 ^ (w + 60).toNat) x1 x2).natAbs))])) (c13 : Impl Tryz.prog Amb 85 [(.agg [(.bool (decide ((ss1 x1 x2 (w + 60) nn) < 0))), (N ((ss1 x1 x2 (w + 60) nn).natAbs)), (.bool (decide ((ss2 x1 x2 (w + 60) nn) < 0))), (N ((ss2 x1 x2 (w + 60) nn).natAbs))]), (.int .i64 3)] (.agg [(.bool (decide (w1 < 0))), (N w1.natAbs), (.bool (decide (w2 < 0))), (N w2.natAbs)])) (c14 : Impl Tryz.prog Amb 48 [(.agg [(.bool (decide (w1 < 0))), (N w1.natAbs), (.bool (decide (w2 < 0))), (N w2.natAbs)]), (.int .i64 2)] (.agg [(.bool (decide (t1 < 0))), (N t1.natAbs), (.bool (decide (t2 < 0))), (N t2.natAbs)])) (c15 : Impl Tryz.prog Amb 49 [(.int .i64 (w + 60))] (.agg [(.bool (decide (n1 < 0))), (N n1.natAbs), (.bool (decide (n2 < 0))), (N n2.natAbs)])) (c16 : Impl Tryz.prog Amb 48 [(.agg [(.bool (decide (n1 < 0))), (N n1.natAbs), (.bool (decide (n2 < 0))), (N n2.natAbs)]), (.int .i64 k)] (.agg [(.bool (decide (r1 < 0))), (N r1.natAbs), (.bool (decide (r2 < 0))), (N r2.natAbs)])) (c17 : Impl Tryz.prog Amb 50 [(.agg [(.bool (decide (t1 < 0))), (N t1.natAbs), (.bool (decide (t2 < 0))), (N t2.natAbs)]), (.agg [(.bool (decide (r1 < 0))), (N r1.natAbs), (.bool (decide (r2 < 0))), (N r2.natAbs)])] (.agg [(.bool (decide (f1 < 0))), (N f1.natAbs), (.bool (decide (f2 < 0))), (N f2.natAbs)])) (c18 : Impl Tryz.prog Amb 52 [(.agg [(.bool (decide (f1 < 0))), (N f1.natAbs), (.bool (decide (f2 < 0))), (N f2.natAbs)]), (.int .i64 (w + 60)), (.int .i64 (w + 16))] (wV a1 a2 a3 a4)) (c19 : 0 ≤ w ∧ w ≤ 1400) (c20 : 0 < k) (c21 : -9223372036854775807 ≤ k ∧ k ≤ 9223372036854775807) : Impl Tryz.prog Amb 21 [(yV m ee), (.int .i64 w)] (wV a1 a2 a3 a4) := by
  exact impl_ob hP hAmb Tryz.func21 (by kernel_rfl) (.lit <| .yes <| .lits 2 <| .call (.tup [(.int .i64 k), (yV m ek), (.int .i64 0)]) <| .lits 3 <| .call (.agg [(.bool (decide (xa < 0))), (N xa.natAbs), (.bool (decide (xb < 0))), (N xb.natAbs)]) <| .lits 3 <| .call (.agg [(.bool (decide (o1 < 0))), (N o1.natAbs), (.bool (decide (o1 < 0))), (N o1.natAbs)]) <| .lit <| .call (.agg [(.bool (decide (e1 < 0))), (N e1.natAbs), (.bool (decide (e2 < 0))), (N e2.natAbs)]) <| .lits 2 <| .call (.agg [(.bool (decide (o1 < 0))), (N o1.natAbs), (.bool (decide (o1 < 0))), (N o1.natAbs)]) <| .lit <| .call (.agg [(.bool (decide (g1 < 0))), (N g1.natAbs), (.bool (decide (g2 < 0))), (N g2.natAbs)]) <| .lit <| .call (.agg [(.bool (decide (x1 < 0))), (N x1.natAbs), (.bool (decide (x2 < 0))), (N x2.natAbs)]) <| .lits 3 <| .call (.agg [(.bool (decide ((rq1 (2 ^ (w + 60).toNat) x1 x2) < 0))), (N ((rq1 (2 ^ (w + 60).toNat) x1 x2).natAbs)), (.bool (decide ((rq2 (2 ^ (w + 60).toNat) x1 x2) < 0))), (N ((rq2 (2 ^ (w + 60).toNat) x1 x2).natAbs))]) <| .lits 3 <| .call (.agg [(.bool (decide ((0 : Int) < 0))), (N ((0 : Int).natAbs)), (.bool (decide ((0 : Int) < 0))), (N ((0 : Int).natAbs))]) <| .loop ⟨[1, 4, 5, 6, 11, 12, 13, 14], 8, []⟩ ((r15_At_0_mk nn m ee w k ek xa xb x1 x2 (0, 0))) (Nat) (r15_At_0_ex nn m ee w k ek xa xb x1 x2) (r15_At_0_J nn m ee w k ek xa xb x1 x2) (fun y => .lits 2 <| .call (.agg [(.bool (decide (w1 < 0))), (N w1.natAbs), (.bool (decide (w2 < 0))), (N w2.natAbs)]) <| .lit <| .call (.agg [(.bool (decide (t1 < 0))), (N t1.natAbs), (.bool (decide (t2 < 0))), (N t2.natAbs)]) <| .lits 2 <| .call (.agg [(.bool (decide (n1 < 0))), (N n1.natAbs), (.bool (decide (n2 < 0))), (N n2.natAbs)]) <| .lits 2 <| .no <| .lit <| .yes <| .lits 3 <| .call (.agg [(.bool (decide (r1 < 0))), (N r1.natAbs), (.bool (decide (r2 < 0))), (N r2.natAbs)]) <| .lit <| .call (.agg [(.bool (decide (f1 < 0))), (N f1.natAbs), (.bool (decide (f2 < 0))), (N f2.natAbs)]) <| .lits 3 <| .yes <| .lit <| .call (wV a1 a2 a3 a4) <| .lits 2 <| .ret))
    (cast_ob (aI True.intro (aI (fits_i64 oS : (fits .i64 (w + 60)) = true) (aI (c5 ) (aI (c6 ) (aI (c7 ) (aI (c9 ) (aI (c7 ) (aI (c10 ) (aI (c11 ) (aI (c12 ) (aI (c8 ) (aI tT (aI (rfl : (r15_At_0_mk nn m ee w k ek xa xb x1 x2 (0, 0)) = (r15_At_0_mk nn m ee w k ek xa xb x1 x2 (0, 0))) (aI (r15_At_0 nn m ee w k ek xa xb x1 x2 c0 c1 c2 c3 c4 (0, 0) (show 0 ≤ nn ∧ 0 = 0 from ⟨by omega, by omega⟩)) (fun y (hJ : r15_At_0_J nn m ee w k ek xa xb x1 x2 y) => have hJ : y = nn := hJ; aI ((hJ ▸ c13) ) (aI (c14 ) (aI (c15 ) (aI (iLt_mkF oO : (iLt k 0) = false) (aI (iGt_mk oO : (iGt k 0) = true) (aI (c16 ) (aI (c17 ) (aI (fits_i64 oS : (fits .i64 (w + 16)) = true) (aI (c18 ) ((vsub_refl (wV a1 a2 a3 a4)))))))))))))))))))))))))) (by kernel_rfl))
theorem r15_AtZ (nn : Nat) (m : Int) (ee : Int) (w : Int) (k : Int) (ek : Int) (xa : Int) (xb : Int) (x1 : Int) (x2 : Int) (o1 : Int) (e1 : Int) (e2 : Int) (g1 : Int) (g2 : Int) (w1 : Int) (w2 : Int) (t1 : Int) (t2 : Int) (n1 : Int) (n2 : Int) (r1 : Int) (r2 : Int) (f1 : Int) (f2 : Int) (a1 : Int) (a2 : Int) (a3 : Int) (a4 : Int) (c0 : nn ≤ 10000) (c1 : ∀ j, j ≤ nn → Impl Tryz.prog Amb 84 [(.agg [(.bool (decide ((sp1 x1 x2 (w + 60) j) < 0))), (N ((sp1 x1 x2 (w + 60) j).natAbs)), (.bool (decide ((sp2 x1 x2 (w + 60) j) < 0))), (N ((sp2 x1 x2 (w + 60) j).natAbs))])] (.bool (decide (nn ≤ j)))) (c2 : ∀ (j : Nat) (kk : Int), j < nn → kk = j → Impl Tryz.prog Amb 65 [(.agg [(.bool (decide ((sp1 x1 x2 (w + 60) j) < 0))), (N ((sp1 x1 x2 (w + 60) j).natAbs)), (.bool (decide ((sp2 x1 x2 (w + 60) j) < 0))), (N ((sp2 x1 x2 (w + 60) j).natAbs))]), (.int .i64 (((2 : Int) * kk) + 1))] (.agg [(.bool (decide ((so1 x1 x2 (w + 60) j) < 0))), (N ((so1 x1 x2 (w + 60) j).natAbs)), (.bool (decide ((so2 x1 x2 (w + 60) j) < 0))), (N ((so2 x1 x2 (w + 60) j).natAbs))])) (c3 : ∀ j, j < nn → Impl Tryz.prog Amb 50 [(.agg [(.bool (decide ((ss1 x1 x2 (w + 60) j) < 0))), (N ((ss1 x1 x2 (w + 60) j).natAbs)), (.bool (decide ((ss2 x1 x2 (w + 60) j) < 0))), (N ((ss2 x1 x2 (w + 60) j).natAbs))]), (.agg [(.bool (decide ((so1 x1 x2 (w + 60) j) < 0))), (N ((so1 x1 x2 (w + 60) j).natAbs)), (.bool (decide ((so2 x1 x2 (w + 60) j) < 0))), (N ((so2 x1 x2 (w + 60) j).natAbs))])] (.agg [(.bool (decide ((ss1 x1 x2 (w + 60) (j + 1)) < 0))), (N ((ss1 x1 x2 (w + 60) (j + 1)).natAbs)), (.bool (decide ((ss2 x1 x2 (w + 60) (j + 1)) < 0))), (N ((ss2 x1 x2 (w + 60) (j + 1)).natAbs))])) (c4 : ∀ j, j < nn → Impl Tryz.prog Amb 83 [(.agg [(.bool (decide ((sp1 x1 x2 (w + 60) j) < 0))), (N ((sp1 x1 x2 (w + 60) j).natAbs)), (.bool (decide ((sp2 x1 x2 (w + 60) j) < 0))), (N ((sp2 x1 x2 (w + 60) j).natAbs))]), (.agg [(.bool (decide ((rq1 (2 ^ (w + 60).toNat) x1 x2) < 0))), (N ((rq1 (2 ^ (w + 60).toNat) x1 x2).natAbs)), (.bool (decide ((rq2 (2 ^ (w + 60).toNat) x1 x2) < 0))), (N ((rq2 (2 ^ (w + 60).toNat) x1 x2).natAbs))]), (.int .i64 (w + 60))] (.agg [(.bool (decide ((sp1 x1 x2 (w + 60) (j + 1)) < 0))), (N ((sp1 x1 x2 (w + 60) (j + 1)).natAbs)), (.bool (decide ((sp2 x1 x2 (w + 60) (j + 1)) < 0))), (N ((sp2 x1 x2 (w + 60) (j + 1)).natAbs))])) (c5 : Impl Tryz.prog Amb 27 [(yV m ee)] (.tup [(.int .i64 k), (yV m ek), (.int .i64 0)])) (c6 : Impl Tryz.prog Amb 46 [(yV m ek), (.int .i64 (w + 60))] (.agg [(.bool (decide (xa < 0))), (N xa.natAbs), (.bool (decide (xb < 0))), (N xb.natAbs)])) (c7 : Impl Tryz.prog Amb 82 [(.int .i64 1), (.int .i64 (w + 60))] (.agg [(.bool (decide (o1 < 0))), (N o1.natAbs), (.bool (decide (o1 < 0))), (N o1.natAbs)])) (c8 : Impl Tryz.prog Amb 82 [(.int .i64 0), (.int .i64 (w + 60))] (.agg [(.bool (decide ((0 : Int) < 0))), (N ((0 : Int).natAbs)), (.bool (decide ((0 : Int) < 0))), (N ((0 : Int).natAbs))])) (c9 : Impl Tryz.prog Amb 47 [(.agg [(.bool (decide (xa < 0))), (N xa.natAbs), (.bool (decide (xb < 0))), (N xb.natAbs)]), (.agg [(.bool (decide (o1 < 0))), (N o1.natAbs), (.bool (decide (o1 < 0))), (N o1.natAbs)])] (.agg [(.bool (decide (e1 < 0))), (N e1.natAbs), (.bool (decide (e2 < 0))), (N e2.natAbs)])) (c10 : Impl Tryz.prog Amb 50 [(.agg [(.bool (decide (xa < 0))), (N xa.natAbs), (.bool (decide (xb < 0))), (N xb.natAbs)]), (.agg [(.bool (decide (o1 < 0))), (N o1.natAbs), (.bool (decide (o1 < 0))), (N o1.natAbs)])] (.agg [(.bool (decide (g1 < 0))), (N g1.natAbs), (.bool (decide (g2 < 0))), (N g2.natAbs)])) (c11 : Impl Tryz.prog Amb 81 [(.agg [(.bool (decide (e1 < 0))), (N e1.natAbs), (.bool (decide (e2 < 0))), (N e2.natAbs)]), (.agg [(.bool (decide (g1 < 0))), (N g1.natAbs), (.bool (decide (g2 < 0))), (N g2.natAbs)]), (.int .i64 (w + 60))] (.agg [(.bool (decide (x1 < 0))), (N x1.natAbs), (.bool (decide (x2 < 0))), (N x2.natAbs)])) (c12 : Impl Tryz.prog Amb 83 [(.agg [(.bool (decide (x1 < 0))), (N x1.natAbs), (.bool (decide (x2 < 0))), (N x2.natAbs)]), (.agg [(.bool (decide (x1 < 0))), (N x1.natAbs), (.bool (decide (x2 < 0))), (N x2.natAbs)]), (.int .i64 (w + 60))] (.agg [(.bool (decide ((rq1 (2 ^ (w + 60).toNat) x1 x2) < 0))), (N ((rq1 (2 ^ (w + 60).toNat) x1 x2).natAbs)), (.bool (decide ((rq2 (2 ^ (w + 60).toNat) x1 x2) < 0))), (N ((rq2 (2 ^ (w + 60).toNat) x1 x2).natAbs))])) (c13 : Impl Tryz.prog Amb 85 [(.agg [(.bool (decide ((ss1 x1 x2 (w + 60) nn) < 0))), (N ((ss1 x1 x2 (w + 60) nn).natAbs)), (.bool (decide ((ss2 x1 x2 (w + 60) nn) < 0))), (N ((ss2 x1 x2 (w + 60) nn).natAbs))]), (.int .i64 3)] (.agg [(.bool (decide (w1 < 0))), (N w1.natAbs), (.bool (decide (w2 < 0))), (N w2.natAbs)])) (c14 : Impl Tryz.prog Amb 48 [(.agg [(.bool (decide (w1 < 0))), (N w1.natAbs), (.bool (decide (w2 < 0))), (N w2.natAbs)]), (.int .i64 2)] (.agg [(.bool (decide (t1 < 0))), (N t1.natAbs), (.bool (decide (t2 < 0))), (N t2.natAbs)])) (c15 : Impl Tryz.prog Amb 49 [(.int .i64 (w + 60))] (.agg [(.bool (decide (n1 < 0))), (N n1.natAbs), (.bool (decide (n2 < 0))), (N n2.natAbs)])) (c16 : Impl Tryz.prog Amb 52 [(.agg [(.bool (decide (t1 < 0))), (N t1.natAbs), (.bool (decide (t2 < 0))), (N t2.natAbs)]), (.int .i64 (w + 60)), (.int .i64 (w + 16))] (wV a1 a2 a3 a4)) (c17 : 0 ≤ w ∧ w ≤ 1400) (c18 : k = 0) (c19 : -9223372036854775807 ≤ k ∧ k ≤ 9223372036854775807) : Impl Tryz.prog Amb 21 [(yV m ee), (.int .i64 w)] (wV a1 a2 a3 a4) := by
  exact impl_ob hP hAmb Tryz.func21 (by kernel_rfl) (.lit <| .yes <| .lits 2 <| .call (.tup [(.int .i64 k), (yV m ek), (.int .i64 0)]) <| .lits 3 <| .call (.agg [(.bool (decide (xa < 0))), (N xa.natAbs), (.bool (decide (xb < 0))), (N xb.natAbs)]) <| .lits 3 <| .call (.agg [(.bool (decide (o1 < 0))), (N o1.natAbs), (.bool (decide (o1 < 0))), (N o1.natAbs)]) <| .lit <| .call (.agg [(.bool (decide (e1 < 0))), (N e1.natAbs), (.bool (decide (e2 < 0))), (N e2.natAbs)]) <| .lits 2 <| .call (.agg [(.bool (decide (o1 < 0))), (N o1.natAbs), (.bool (decide (o1 < 0))), (N o1.natAbs)]) <| .lit <| .call (.agg [(.bool (decide (g1 < 0))), (N g1.natAbs), (.bool (decide (g2 < 0))), (N g2.natAbs)]) <| .lit <| .call (.agg [(.bool (decide (x1 < 0))), (N x1.natAbs), (.bool (decide (x2 < 0))), (N x2.natAbs)]) <| .lits 3 <| .call (.agg [(.bool (decide ((rq1 (2 ^ (w + 60).toNat) x1 x2) < 0))), (N ((rq1 (2 ^ (w + 60).toNat) x1 x2).natAbs)), (.bool (decide ((rq2 (2 ^ (w + 60).toNat) x1 x2) < 0))), (N ((rq2 (2 ^ (w + 60).toNat) x1 x2).natAbs))]) <| .lits 3 <| .call (.agg [(.bool (decide ((0 : Int) < 0))), (N ((0 : Int).natAbs)), (.bool (decide ((0 : Int) < 0))), (N ((0 : Int).natAbs))]) <| .loop ⟨[1, 4, 5, 6, 11, 12, 13, 14], 8, []⟩ ((r15_At_0_mk nn m ee w k ek xa xb x1 x2 (0, 0))) (Nat) (r15_At_0_ex nn m ee w k ek xa xb x1 x2) (r15_At_0_J nn m ee w k ek xa xb x1 x2) (fun y => .lits 2 <| .call (.agg [(.bool (decide (w1 < 0))), (N w1.natAbs), (.bool (decide (w2 < 0))), (N w2.natAbs)]) <| .lit <| .call (.agg [(.bool (decide (t1 < 0))), (N t1.natAbs), (.bool (decide (t2 < 0))), (N t2.natAbs)]) <| .lits 2 <| .call (.agg [(.bool (decide (n1 < 0))), (N n1.natAbs), (.bool (decide (n2 < 0))), (N n2.natAbs)]) <| .lits 2 <| .no <| .lit <| .no <| .lits 2 <| .yes <| .lit <| .call (wV a1 a2 a3 a4) <| .lits 2 <| .ret))
    (cast_ob (aI True.intro (aI (fits_i64 oS : (fits .i64 (w + 60)) = true) (aI (c5 ) (aI (c6 ) (aI (c7 ) (aI (c9 ) (aI (c7 ) (aI (c10 ) (aI (c11 ) (aI (c12 ) (aI (c8 ) (aI tT (aI (rfl : (r15_At_0_mk nn m ee w k ek xa xb x1 x2 (0, 0)) = (r15_At_0_mk nn m ee w k ek xa xb x1 x2 (0, 0))) (aI (r15_At_0 nn m ee w k ek xa xb x1 x2 c0 c1 c2 c3 c4 (0, 0) (show 0 ≤ nn ∧ 0 = 0 from ⟨by omega, by omega⟩)) (fun y (hJ : r15_At_0_J nn m ee w k ek xa xb x1 x2 y) => have hJ : y = nn := hJ; aI ((hJ ▸ c13) ) (aI (c14 ) (aI (c15 ) (aI (iLt_mkF oO : (iLt k 0) = false) (aI (iGt_mkF oO : (iGt k 0) = false) (aI (fits_i64 oS : (fits .i64 (w + 16)) = true) (aI (c16 ) ((vsub_refl (wV a1 a2 a3 a4)))))))))))))))))))))))) (by kernel_rfl))
end Go.Proofs.YtekcladflnieeaaGreatDoor

namespace Go.Proofs.YtekcladflnieeaaGreatDoor
open Go.RowKit
set_option maxRecDepth 100000
set_option maxHeartbeats 400000
def rlLo (v : Int) : Int := ((lnT v).1 - 2) * 2
def rlHi (v : Int) : Int := ((lnT v).2 + 2) * 2
theorem rln_all : (List.range 400).all (fun t => decide (t < 24) || (decide (0 ≤ rlLo (t : Int)) && decide (rlLo (t : Int) * 2 ^ (430 - t) ≤ ptLn) && decide (ptLn ≤ rlHi (t : Int) * 2 ^ (430 - t)) && decide (rlHi (t : Int) ≤ 8 * 2 ^ t))) = true := by kernel_rfl
theorem rln_at {t : Nat} (ht : t < 400) (h24 : 24 ≤ t) : (((rlLo (t : Int) : Int) : Rat) ≤ cLn * ((2 ^ t : Int) : Rat) ∧ cLn * ((2 ^ t : Int) : Rat) ≤ ((rlHi (t : Int) : Int) : Rat)) ∧ 0 ≤ rlLo (t : Int) ∧ rlHi (t : Int) ≤ 8 * 2 ^ t := by
  have h := List.all_eq_true.1 rln_all t (List.mem_range.2 ht)
  simp only [Bool.or_eq_true, Bool.and_eq_true, decide_eq_true_eq] at h
  have h := h.resolve_left oO
  exact ⟨⟨(cl_sc oO).1 h.1.1.2, (cl_sc oO).2 h.1.2⟩, h.1.1.1, h.2⟩
theorem abs_big {x : Int} {t c : Nat} (h : x.natAbs ≤ c * 2 ^ t) (hc : c ≤ 2 ^ 20) (ht : t ≤ 2000) : L x.natAbs ≤ 70 := by
  refine L_pow2 (n := t + 21) ?_ oO
  have e : (2 : Nat) ^ (t + 21) = 2 * (2 ^ 20 * 2 ^ t) := by rw [Nat.pow_add]; omega
  have p := Nat.mul_le_mul_right (2 ^ t) hc
  have := Nat.pow_pos (n := t) (show 0 < 2 by omega)
  omega
theorem vdb_sh {m e f : Int} (h : vdb m e = true) (hm : m ≠ 0) (hf : -65536 ≤ f ∧ f ≤ 65536) : vdb m f = true := by
  rcases vdb_iff.1 h with q | q
  · exact absurd q.1 hm
  · exact vdb_iff.2 (.inr ⟨hm, q.2.1, hf.1, hf.2, q.2.2.2.2⟩)
theorem kb_abs {y k : Int} {v : Nat} (h1 : 0 ≤ y) (h2 : y ≤ 8 * 2 ^ v) (hk : -4096 ≤ k ∧ k ≤ 4096) : (y * k).natAbs ≤ 32768 * 2 ^ v := by
  have pv2 : ((2 ^ v : Nat) : Int) = (2 : Int) ^ v := (pow_cast _).symm
  rw [Int.natAbs_mul]
  have := Nat.mul_le_mul (show y.natAbs ≤ 8 * 2 ^ v by omega) (show k.natAbs ≤ 4096 by omega)
  omega
theorem tm_abs {a b k : Int} {v : Nat} (h1 : 0 ≤ a) (h2 : a ≤ b) (h3 : b ≤ 8 * 2 ^ v) (hk : -4096 ≤ k ∧ k ≤ 4096) : (tmLo a b k).natAbs ≤ 32768 * 2 ^ v ∧ (tmHi a b k).natAbs ≤ 32768 * 2 ^ v := by
  have x := kb_abs (y := a) (v := v) h1 oO hk
  have y := kb_abs (y := b) (v := v) oO h3 hk
  unfold tmLo tmHi
  split <;> exact ⟨by assumption, by assumption⟩
theorem sum_big {u t : Int} {v : Nat} (h1 : u.natAbs ≤ 2001 * 2 ^ v) (h2 : t.natAbs ≤ 32768 * 2 ^ v) : (u * 2 + t).natAbs ≤ 40000 * 2 ^ v := by omega
theorem r15_loop {w x1 x2 : Int} {v : Nat} (vn : (w + 60).toNat = v) (hw : 0 ≤ w ∧ w ≤ 330) (H : RrH v x1 x2) :
    ∃ (nN : Nat) (u1 u2 : Int), nN ≤ 10000 ∧ (∀ j, j ≤ nN → Impl Tryz.prog Amb 84 [(.agg [(.bool (decide ((sp1 x1 x2 (w + 60) j) < 0))), (N ((sp1 x1 x2 (w + 60) j).natAbs)), (.bool (decide ((sp2 x1 x2 (w + 60) j) < 0))), (N ((sp2 x1 x2 (w + 60) j).natAbs))])] (.bool (decide (nN ≤ j)))) ∧ (∀ (j : Nat) (kk : Int), j < nN → kk = j → Impl Tryz.prog Amb 65 [(.agg [(.bool (decide ((sp1 x1 x2 (w + 60) j) < 0))), (N ((sp1 x1 x2 (w + 60) j).natAbs)), (.bool (decide ((sp2 x1 x2 (w + 60) j) < 0))), (N ((sp2 x1 x2 (w + 60) j).natAbs))]), (.int .i64 (((2 : Int) * kk) + 1))] (.agg [(.bool (decide ((so1 x1 x2 (w + 60) j) < 0))), (N ((so1 x1 x2 (w + 60) j).natAbs)), (.bool (decide ((so2 x1 x2 (w + 60) j) < 0))), (N ((so2 x1 x2 (w + 60) j).natAbs))])) ∧ (∀ j, j < nN → Impl Tryz.prog Amb 50 [(.agg [(.bool (decide ((ss1 x1 x2 (w + 60) j) < 0))), (N ((ss1 x1 x2 (w + 60) j).natAbs)), (.bool (decide ((ss2 x1 x2 (w + 60) j) < 0))), (N ((ss2 x1 x2 (w + 60) j).natAbs))]), (.agg [(.bool (decide ((so1 x1 x2 (w + 60) j) < 0))), (N ((so1 x1 x2 (w + 60) j).natAbs)), (.bool (decide ((so2 x1 x2 (w + 60) j) < 0))), (N ((so2 x1 x2 (w + 60) j).natAbs))])] (.agg [(.bool (decide ((ss1 x1 x2 (w + 60) (j + 1)) < 0))), (N ((ss1 x1 x2 (w + 60) (j + 1)).natAbs)), (.bool (decide ((ss2 x1 x2 (w + 60) (j + 1)) < 0))), (N ((ss2 x1 x2 (w + 60) (j + 1)).natAbs))])) ∧ (∀ j, j < nN → Impl Tryz.prog Amb 83 [(.agg [(.bool (decide ((sp1 x1 x2 (w + 60) j) < 0))), (N ((sp1 x1 x2 (w + 60) j).natAbs)), (.bool (decide ((sp2 x1 x2 (w + 60) j) < 0))), (N ((sp2 x1 x2 (w + 60) j).natAbs))]), (.agg [(.bool (decide ((rq1 (2 ^ (w + 60).toNat) x1 x2) < 0))), (N ((rq1 (2 ^ (w + 60).toNat) x1 x2).natAbs)), (.bool (decide ((rq2 (2 ^ (w + 60).toNat) x1 x2) < 0))), (N ((rq2 (2 ^ (w + 60).toNat) x1 x2).natAbs))]), (.int .i64 (w + 60))] (.agg [(.bool (decide ((sp1 x1 x2 (w + 60) (j + 1)) < 0))), (N ((sp1 x1 x2 (w + 60) (j + 1)).natAbs)), (.bool (decide ((sp2 x1 x2 (w + 60) (j + 1)) < 0))), (N ((sp2 x1 x2 (w + 60) (j + 1)).natAbs))])) ∧ Impl Tryz.prog Amb 85 [(.agg [(.bool (decide ((ss1 x1 x2 (w + 60) nN) < 0))), (N ((ss1 x1 x2 (w + 60) nN).natAbs)), (.bool (decide ((ss2 x1 x2 (w + 60) nN) < 0))), (N ((ss2 x1 x2 (w + 60) nN).natAbs))]), (.int .i64 3)] (.agg [(.bool (decide (u1 < 0))), (N u1.natAbs), (.bool (decide (u2 < 0))), (N u2.natAbs)]) ∧ u1.natAbs ≤ 2001 * 2 ^ v ∧ u2.natAbs ≤ 2001 * 2 ^ v ∧
      Impl Tryz.prog Amb 83 [(.agg [(.bool (decide (x1 < 0))), (N x1.natAbs), (.bool (decide (x2 < 0))), (N x2.natAbs)]), (.agg [(.bool (decide (x1 < 0))), (N x1.natAbs), (.bool (decide (x2 < 0))), (N x2.natAbs)]), (.int .i64 (w + 60))] (.agg [(.bool (decide ((rq1 (2 ^ (w + 60).toNat) x1 x2) < 0))), (N ((rq1 (2 ^ (w + 60).toNat) x1 x2).natAbs)), (.bool (decide ((rq2 (2 ^ (w + 60).toNat) x1 x2) < 0))), (N ((rq2 (2 ^ (w + 60).toNat) x1 x2).natAbs))]) ∧
      ∀ Z : Rat, 2 * Z ≤ 1 → -1 ≤ 2 * Z → (x1 : Rat) ≤ Z * ((2 ^ v : Int) : Rat) → Z * ((2 ^ v : Int) : Rat) ≤ (x2 : Rat) → ∀ K, nN ≤ K → (u1 : Rat) ≤ PL Z K * ((2 ^ v : Int) : Rat) ∧ PL Z K * ((2 ^ v : Int) : Rat) ≤ (u2 : Rat) := by
  have v4 : v ≤ 390 := by omega
  have half_le : 2 ^ (v - 1) ≤ 1 * 2 ^ v := by rw [Nat.one_mul]; exact Nat.pow_le_pow_right oO oO
  have lx1 : L x1.natAbs ≤ 70 := abs_big (t := v) (c := 1) (Nat.le_trans H.h1 half_le) oO oO
  have lx2 : L x2.natAbs ≤ 70 := abs_big (t := v) (c := 1) (Nat.le_trans H.h2 half_le) oO oO
  have hMul := r13_Mul x1 x2 x1 x2 (w + 60) oO oO oO oO oO
  obtain ⟨nN, hN, hs, hl⟩ := sP_small H
  have rq := rq_abs H
  have q_le : 2 ^ (v - 2) ≤ 1 * 2 ^ v := by rw [Nat.one_mul]; exact Nat.pow_le_pow_right oO oO
  have lq1 : L (rq1 (2 ^ v) x1 x2).natAbs ≤ 70 := abs_big (t := v) (c := 1) (Nat.le_trans rq.1 q_le) oO oO
  have lq2 : L (rq2 (2 ^ v) x1 x2).natAbs ≤ 70 := abs_big (t := v) (c := 1) (Nat.le_trans rq.2 q_le) oO oO
  have pa : ∀ j, j ≤ nN → (sP v x1 x2 j).1.natAbs ≤ 1 * 2 ^ v ∧ (sP v x1 x2 j).2.natAbs ≤ 1 * 2 ^ v := fun j hj => by
    have a := rP_abs H j oO
    have b : 2 ^ (v - 1 - j) ≤ 1 * 2 ^ v := by rw [Nat.one_mul]; exact Nat.pow_le_pow_right oO oO
    exact ⟨Nat.le_trans a.1 b, Nat.le_trans a.2 b⟩
  have pl : ∀ j, j ≤ nN → L (sp1 x1 x2 (w + 60) j).natAbs ≤ 70 ∧ L (sp2 x1 x2 (w + 60) j).natAbs ≤ 70 := fun j hj => by
    unfold sp1 sp2; rw [vn]
    have a := pa j hj
    exact ⟨abs_big (t := v) (c := 1) a.1 oO oO, abs_big (t := v) (c := 1) a.2 oO oO⟩
  have sa : ∀ j, j ≤ nN → (sA v x1 x2 j).1.natAbs ≤ 2000 * 2 ^ v ∧ (sA v x1 x2 j).2.natAbs ≤ 2000 * 2 ^ v := fun j hj => by
    have a := sA_abs H j oO
    have b := Nat.mul_le_mul_right (2 ^ v) (show j ≤ 2000 by omega)
    exact ⟨Nat.le_trans a.1 b, Nat.le_trans a.2 b⟩
  have sl : ∀ j, j ≤ nN → L (ss1 x1 x2 (w + 60) j).natAbs ≤ 70 ∧ L (ss2 x1 x2 (w + 60) j).natAbs ≤ 70 := fun j hj => by
    unfold ss1 ss2; rw [vn]
    have a := sa j hj
    exact ⟨abs_big (t := v) (c := 2000) a.1 oO oO, abs_big (t := v) (c := 2000) a.2 oO oO⟩
  have ol : ∀ j, j ≤ nN → L (so1 x1 x2 (w + 60) j).natAbs ≤ 70 ∧ L (so2 x1 x2 (w + 60) j).natAbs ≤ 70 := fun j hj => by
    unfold so1 so2 sp1 sp2; rw [vn]
    have a := pa j hj
    have o := ov_le (n := odn j) (by have := odn_pos j; omega) a.1 a.2
    exact ⟨abs_big (t := v) (c := 1) o.1 oO oO, abs_big (t := v) (c := 1) o.2 oO oO⟩
  have sN := sl nN (Nat.le_refl _)
  have saN := sa nN (Nat.le_refl _)
  have e1 : ss1 x1 x2 (w + 60) nN = (sA v x1 x2 nN).1 := by unfold ss1; rw [vn]
  have e2 : ss2 x1 x2 (w + 60) nN = (sA v x1 x2 nN).2 := by unfold ss2; rw [vn]
  have hWide := r13_Wide (ss1 x1 x2 (w + 60) nN) (ss2 x1 x2 (w + 60) nN) 3 oO oO oO
  have p8 : (8 : Nat) ≤ 2 ^ v := by
    have := Nat.pow_le_pow_right (n := 2) (show 0 < 2 by omega) (show 3 ≤ v by have := H.hv; omega)
    omega
  refine ⟨nN, (sA v x1 x2 nN).1 - 3, (sA v x1 x2 nN).2 + 3, by omega, fun j hj => ?_, fun j kk hj hq => ?_, fun j hj => ?_, fun j hj => ?_, by rw [← e1, ← e2]; exact hWide, by omega, by omega, hMul, fun Z z1 z2 z3 z4 K hK => sum_enc (v := v) (N := nN) (K := K) z1 z2 z3 z4 hs hK⟩
  · have a := pl j hj
    refine impl_eq (congrArg V.bool (decide_eq_decide.2 ?_)) (r13_Tiny (sp1 x1 x2 (w + 60) j) (sp2 x1 x2 (w + 60) j) oO oO)
    unfold sp1 sp2; rw [vn]
    constructor
    · intro q
      exact Decidable.byContradiction fun hn => hl j oO q
    · intro q
      rw [show j = nN by omega]; exact hs
  · subst hq
    have a := pl j oO
    exact r13_Over (sp1 x1 x2 (w + 60) j) (sp2 x1 x2 (w + 60) j) (2 * (j : Int) + 1) oO oO oO
  · have a := sl j oO
    have b := ol j oO
    exact r13_Add (ss1 x1 x2 (w + 60) j) (ss2 x1 x2 (w + 60) j) (so1 x1 x2 (w + 60) j) (so2 x1 x2 (w + 60) j) oO oO oO oO
  · have a := pl j oO
    exact r13_Mul (sp1 x1 x2 (w + 60) j) (sp2 x1 x2 (w + 60) j) (rq1 (2 ^ (w + 60).toNat) x1 x2) (rq2 (2 ^ (w + 60).toNat) x1 x2) (w + 60) oO oO (by rw [vn]; omega) (by rw [vn]; omega) oO
theorem r15_quo {w m f : Int} {v : Nat} (vn : (w + 60).toNat = v) (hw : 0 ≤ w ∧ w ≤ 330) (hL : L m.natAbs ≤ 300) (hf : -11000 ≤ f ∧ f ≤ 100) (hvk : vdb m f = true) (s1 : 3 ≤ 4 * dv m f) (s2 : 2 * dv m f < 3) :
    ∃ xa xb e1 e2 g1 g2 x1 x2 : Int, Impl Tryz.prog Amb 46 [(yV m f), (.int .i64 (w + 60))] (.agg [(.bool (decide (xa < 0))), (N xa.natAbs), (.bool (decide (xb < 0))), (N xb.natAbs)]) ∧ Impl Tryz.prog Amb 47 [(.agg [(.bool (decide (xa < 0))), (N xa.natAbs), (.bool (decide (xb < 0))), (N xb.natAbs)]), (.agg [(.bool (decide (((2 : Int) ^ v) < 0))), (N (((2 : Int) ^ v).natAbs)), (.bool (decide (((2 : Int) ^ v) < 0))), (N (((2 : Int) ^ v).natAbs))])] (.agg [(.bool (decide (e1 < 0))), (N e1.natAbs), (.bool (decide (e2 < 0))), (N e2.natAbs)]) ∧ Impl Tryz.prog Amb 50 [(.agg [(.bool (decide (xa < 0))), (N xa.natAbs), (.bool (decide (xb < 0))), (N xb.natAbs)]), (.agg [(.bool (decide (((2 : Int) ^ v) < 0))), (N (((2 : Int) ^ v).natAbs)), (.bool (decide (((2 : Int) ^ v) < 0))), (N (((2 : Int) ^ v).natAbs))])] (.agg [(.bool (decide (g1 < 0))), (N g1.natAbs), (.bool (decide (g2 < 0))), (N g2.natAbs)]) ∧
      Impl Tryz.prog Amb 81 [(.agg [(.bool (decide (e1 < 0))), (N e1.natAbs), (.bool (decide (e2 < 0))), (N e2.natAbs)]), (.agg [(.bool (decide (g1 < 0))), (N g1.natAbs), (.bool (decide (g2 < 0))), (N g2.natAbs)]), (.int .i64 (w + 60))] (.agg [(.bool (decide (x1 < 0))), (N x1.natAbs), (.bool (decide (x2 < 0))), (N x2.natAbs)]) ∧ RrH v x1 x2 ∧ (x1 : Rat) ≤ (dv m f - 1) / (dv m f + 1) * ((2 ^ v : Int) : Rat) ∧ (dv m f - 1) / (dv m f + 1) * ((2 ^ v : Int) : Rat) ≤ (x2 : Rat) := by
  have hv60 : (v : Int) = w + 60 := by omega
  have hA := r13_At m f (w + 60) oO oO hvk oO
  have sc1 := flr_sc (dv m f) v
  have sc2 := cei_sc (dv m f) v
  have lf := flr_LD m f (w + 60)
  rw [hv60] at sc1 sc2
  generalize hM : dv m f = M at *
  generalize flr M (w + 60) = xa at *
  generalize cei M (w + 60) = xb at *
  have T1 := two_pos v
  have T0 : (0 : Rat) < ((2 ^ v : Int) : Rat) := Rat.intCast_pos.2 T1
  have P2 : (2 : Int) ^ v = 2 * 2 ^ (v - 1) := by rw [Int.mul_comm, ← Int.pow_succ]; congr 1; omega
  have P3 : (2 : Int) ^ (v - 1) = 2 * 2 ^ (v - 2) := by rw [Int.mul_comm, ← Int.pow_succ]; congr 1; omega
  have P4 := two_pos (v - 2)
  have P5 : ((2 ^ (v - 1) : Nat) : Int) = (2 : Int) ^ (v - 1) := (pow_cast _).symm
  have B1 : 3 * 2 ^ v ≤ 4 * (xa + 1) := by
    refine Rat.intCast_le_intCast.1 ?_
    rw [Rat.intCast_mul, Rat.intCast_mul, Rat.intCast_add, Rat.intCast_one]
    have := Rat.mul_le_mul_of_nonneg_right s1 (Rat.le_of_lt T0)
    show (3 : Rat) * _ ≤ 4 * _
    grind
  have B2 : 2 * xa ≤ 3 * 2 ^ v := by
    refine Rat.intCast_le_intCast.1 ?_
    rw [Rat.intCast_mul, Rat.intCast_mul]
    have := Rat.mul_le_mul_of_nonneg_right (Rat.le_of_lt s2) (Rat.le_of_lt T0)
    show (2 : Rat) * _ ≤ 3 * _
    grind
  have B3 : 2 * xb < 3 * 2 ^ v + 2 := by
    refine Rat.intCast_lt_intCast.1 ?_
    rw [Rat.intCast_mul, Rat.intCast_add, Rat.intCast_mul]
    have := Rat.mul_le_mul_of_nonneg_right (Rat.le_of_lt s2) (Rat.le_of_lt T0)
    show (2 : Rat) * _ < 3 * _ + 2
    grind
  have B4 : xa ≤ xb := Rat.intCast_le_intCast.1 (Rat.le_trans sc1.1 sc2.1)
  have lT : L ((2 : Int) ^ v).natAbs ≤ 70 := abs_big (t := v) (c := 1) (by rw [Int.natAbs_pow]; simp) oO oO
  have l1 := L_abs_neg ((2 : Int) ^ v)
  have l2 := L_abs_add xa (-(2 : Int) ^ v)
  have l3 := L_abs_add xb (-(2 : Int) ^ v)
  have l4 := L_abs_add xa ((2 : Int) ^ v)
  have l5 := L_abs_add xb ((2 : Int) ^ v)
  have hSub := r13_Sub xa xb ((2 : Int) ^ v) ((2 : Int) ^ v) oO oO oO oO
  have hAdd := r13_Add xa xb ((2 : Int) ^ v) ((2 : Int) ^ v) oO oO oO oO
  have hDiv := r13_Div (xa + -(2 : Int) ^ v) (xb + -(2 : Int) ^ v) (xa + (2 : Int) ^ v) (xb + (2 : Int) ^ v) (w + 60) oO oO oO oO oO oO oO
  rw [vn] at hDiv
  have mp : (0 : Rat) < M + 1 := by grind
  have dm := Rat.div_mul_cancel (a := M - 1) (b := M + 1) (by grind)
  have rin := rdv_in (a := xa + -(2 : Int) ^ v) (b := xb + -(2 : Int) ^ v) (c := xa + (2 : Int) ^ v) (d := xb + (2 : Int) ^ v) (T := 2 ^ v) (M := M + 1) (Z := (M - 1) / (M + 1)) T1 oO oO
    (by rw [dm, Rat.intCast_add, Rat.intCast_neg]; grind) (by rw [dm, Rat.intCast_add, Rat.intCast_neg]; grind) (by rw [Rat.intCast_add]; grind) (by rw [Rat.intCast_add]; grind)
  have rab := rdv_abs (a := xa + -(2 : Int) ^ v) (b := xb + -(2 : Int) ^ v) (c := xa + (2 : Int) ^ v) (d := xb + (2 : Int) ^ v) (T := 2 ^ v) (B := 2 ^ (v - 1)) T1 oO oO oO oO
  exact ⟨xa, xb, _, _, _, _, _, _, hA, hSub, hAdd, hDiv, ⟨by omega, rab.1, rab.2⟩, rin.1, rin.2⟩
theorem r15_fin {w k u1 u2 : Int} {v : Nat} (vn : (w + 60).toNat = v) (hw : 0 ≤ w ∧ w ≤ 330) (hk : -4096 ≤ k ∧ k ≤ 4096) (h1 : u1.natAbs ≤ 2001 * 2 ^ v) (h2 : u2.natAbs ≤ 2001 * 2 ^ v) :
    ∃ n1 n2 : Int, ((n1 : Rat) ≤ cLn * ((2 ^ v : Int) : Rat) ∧ cLn * ((2 ^ v : Int) : Rat) ≤ (n2 : Rat)) ∧ Impl Tryz.prog Amb 49 [(.int .i64 (w + 60))] (.agg [(.bool (decide (n1 < 0))), (N n1.natAbs), (.bool (decide (n2 < 0))), (N n2.natAbs)]) ∧ Impl Tryz.prog Amb 48 [(.agg [(.bool (decide (u1 < 0))), (N u1.natAbs), (.bool (decide (u2 < 0))), (N u2.natAbs)]), (.int .i64 2)] (.agg [(.bool (decide ((u1 * 2) < 0))), (N ((u1 * 2).natAbs)), (.bool (decide ((u2 * 2) < 0))), (N ((u2 * 2).natAbs))]) ∧
      (k < 0 → Impl Tryz.prog Amb 48 [(.agg [(.bool (decide (n1 < 0))), (N n1.natAbs), (.bool (decide (n2 < 0))), (N n2.natAbs)]), (.int .i64 (0 - k))] (.agg [(.bool (decide ((n1 * (0 - k)) < 0))), (N ((n1 * (0 - k)).natAbs)), (.bool (decide ((n2 * (0 - k)) < 0))), (N ((n2 * (0 - k)).natAbs))]) ∧ Impl Tryz.prog Amb 47 [(.agg [(.bool (decide ((u1 * 2) < 0))), (N ((u1 * 2).natAbs)), (.bool (decide ((u2 * 2) < 0))), (N ((u2 * 2).natAbs))]), (.agg [(.bool (decide ((n1 * (0 - k)) < 0))), (N ((n1 * (0 - k)).natAbs)), (.bool (decide ((n2 * (0 - k)) < 0))), (N ((n2 * (0 - k)).natAbs))])] (.agg [(.bool (decide ((u1 * 2 + tmLo n1 n2 k) < 0))), (N ((u1 * 2 + tmLo n1 n2 k).natAbs)), (.bool (decide ((u2 * 2 + tmHi n1 n2 k) < 0))), (N ((u2 * 2 + tmHi n1 n2 k).natAbs))])) ∧
      (0 < k → Impl Tryz.prog Amb 48 [(.agg [(.bool (decide (n1 < 0))), (N n1.natAbs), (.bool (decide (n2 < 0))), (N n2.natAbs)]), (.int .i64 k)] (.agg [(.bool (decide ((n1 * k) < 0))), (N ((n1 * k).natAbs)), (.bool (decide ((n2 * k) < 0))), (N ((n2 * k).natAbs))]) ∧ Impl Tryz.prog Amb 50 [(.agg [(.bool (decide ((u1 * 2) < 0))), (N ((u1 * 2).natAbs)), (.bool (decide ((u2 * 2) < 0))), (N ((u2 * 2).natAbs))]), (.agg [(.bool (decide ((n1 * k) < 0))), (N ((n1 * k).natAbs)), (.bool (decide ((n2 * k) < 0))), (N ((n2 * k).natAbs))])] (.agg [(.bool (decide ((u1 * 2 + tmLo n1 n2 k) < 0))), (N ((u1 * 2 + tmLo n1 n2 k).natAbs)), (.bool (decide ((u2 * 2 + tmHi n1 n2 k) < 0))), (N ((u2 * 2 + tmHi n1 n2 k).natAbs))])) ∧
      (k = 0 → tmLo n1 n2 k = 0 ∧ tmHi n1 n2 k = 0) ∧
      Impl Tryz.prog Amb 52 [(.agg [(.bool (decide ((u1 * 2 + tmLo n1 n2 k) < 0))), (N ((u1 * 2 + tmLo n1 n2 k).natAbs)), (.bool (decide ((u2 * 2 + tmHi n1 n2 k) < 0))), (N ((u2 * 2 + tmHi n1 n2 k).natAbs))]), (.int .i64 (w + 60)), (.int .i64 (w + 16))] (wV (mkM ((u1 * 2 + tmLo n1 n2 k) / 2 ^ 44) (-(w + 16))) (mkX ((u1 * 2 + tmLo n1 n2 k) / 2 ^ 44) (-(w + 16))) (mkM (-(-(u2 * 2 + tmHi n1 n2 k) / 2 ^ 44)) (-(w + 16))) (mkX (-(-(u2 * 2 + tmHi n1 n2 k) / 2 ^ 44)) (-(w + 16)))) ∧
      L ((u1 * 2 + tmLo n1 n2 k) / 2 ^ 44).natAbs ≤ 70 ∧ L (-(-(u2 * 2 + tmHi n1 n2 k) / 2 ^ 44)).natAbs ≤ 70 := by
  have v4 : v ≤ 390 := by omega
  have hv60 : (v : Int) = w + 60 := by omega
  have lu1 : L u1.natAbs ≤ 70 := abs_big (t := v) (c := 2001) h1 oO oO
  have lu2 : L u2.natAbs ≤ 70 := abs_big (t := v) (c := 2001) h2 oO oO
  have hT2 := r13_Times u1 u2 2 oO oO oO
  have hLn := r13_Ln2Span (w + 60) oO
  have rl := rln_at (t := v) oO oO
  have rc := rl.1
  have rs := rl.2
  have hLn : Impl Tryz.prog Amb 49 [(.int .i64 (w + 60))] (.agg [(.bool (decide ((rlLo (v : Int)) < 0))), (N ((rlLo (v : Int)).natAbs)), (.bool (decide ((rlHi (v : Int)) < 0))), (N ((rlHi (v : Int)).natAbs))]) := by rw [hv60]; exact hLn
  generalize rlLo (v : Int) = n1 at *
  generalize rlHi (v : Int) = n2 at *
  clear rl
  have n12 : n1 ≤ n2 := Rat.intCast_le_intCast.1 (Rat.le_trans rc.1 rc.2)
  have pv2 : ((2 ^ v : Nat) : Int) = (2 : Int) ^ v := (pow_cast _).symm
  have ln1 : L n1.natAbs ≤ 70 := abs_big (t := v) (c := 8) oO oO oO
  have ln2 : L n2.natAbs ≤ 70 := abs_big (t := v) (c := 8) oO oO oO
  have tl := tm_abs (k := k) rs.1 n12 rs.2 hk
  have f1b := sum_big h1 tl.1
  have f2b := sum_big h2 tl.2
  have lf1 : L (u1 * 2 + tmLo n1 n2 k).natAbs ≤ 70 := abs_big (t := v) (c := 40000) f1b oO oO
  have lf2 : L (u2 * 2 + tmHi n1 n2 k).natAbs ≤ 70 := abs_big (t := v) (c := 40000) f2b oO oO
  have hOut := r13_Out (u1 * 2 + tmLo n1 n2 k) (u2 * 2 + tmHi n1 n2 k) (w + 60) (w + 16) oO oO oO
  rw [show ((w + 60) - (w + 16)).toNat = 44 by omega] at hOut
  have o1 := L_abs_shr (u1 * 2 + tmLo n1 n2 k) 44
  have o2 := L_abs_neg (u2 * 2 + tmHi n1 n2 k)
  have o3 := L_abs_shr (-(u2 * 2 + tmHi n1 n2 k)) 44
  have o4 := L_abs_neg (-(u2 * 2 + tmHi n1 n2 k) / 2 ^ 44)
  have t2 : L (u1 * 2).natAbs ≤ 70 ∧ L (u2 * 2).natAbs ≤ 70 := ⟨abs_big (t := v) (c := 4002) oO oO oO, abs_big (t := v) (c := 4002) oO oO oO⟩
  refine ⟨n1, n2, rc, hLn, hT2, fun hk0 => ?_, fun hk0 => ?_, fun hk0 => ?_, hOut, by omega, by omega⟩
  · have q1 : L (n1 * (0 - k)).natAbs ≤ 70 := abs_big (t := v) (c := 32768) (kb_abs (v := v) rs.1 oO oO) oO oO
    have q2 : L (n2 * (0 - k)).natAbs ≤ 70 := abs_big (t := v) (c := 32768) (kb_abs (v := v) oO rs.2 oO) oO oO
    have z1 : u1 * 2 + -(n2 * (0 - k)) = u1 * 2 + tmLo n1 n2 k := by unfold tmLo; rw [if_pos hk0, Int.zero_sub, Int.mul_neg, Int.neg_neg]
    have z2 : u2 * 2 + -(n1 * (0 - k)) = u2 * 2 + tmHi n1 n2 k := by unfold tmHi; rw [if_pos hk0, Int.zero_sub, Int.mul_neg, Int.neg_neg]
    have hSb := r13_Sub (u1 * 2) (u2 * 2) (n1 * (0 - k)) (n2 * (0 - k)) oO oO oO oO
    rw [z1, z2] at hSb
    exact ⟨r13_Times n1 n2 (0 - k) oO oO oO, hSb⟩
  · have q1 : L (n1 * k).natAbs ≤ 70 := abs_big (t := v) (c := 32768) (kb_abs (v := v) rs.1 oO oO) oO oO
    have q2 : L (n2 * k).natAbs ≤ 70 := abs_big (t := v) (c := 32768) (kb_abs (v := v) oO rs.2 oO) oO oO
    have z1 : u1 * 2 + n1 * k = u1 * 2 + tmLo n1 n2 k := by unfold tmLo; rw [if_neg oO]
    have z2 : u2 * 2 + n2 * k = u2 * 2 + tmHi n1 n2 k := by unfold tmHi; rw [if_neg oO]
    have hSb := r13_Add (u1 * 2) (u2 * 2) (n1 * k) (n2 * k) oO oO oO oO
    rw [z1, z2] at hSb
    exact ⟨r13_Times n1 n2 k oO oO oO, hSb⟩
  · unfold tmLo tmHi
    rw [hk0, if_neg oO, if_neg oO, Int.mul_zero, Int.mul_zero]
    exact ⟨rfl, rfl⟩
theorem r15_AtE (m e w : Int) (hm : 0 < m) (hL : L (m).natAbs ≤ 300) (he : -5000 ≤ e ∧ e ≤ 5000) (hv : vdb m e = true) (hw : 0 ≤ w ∧ w ≤ 330) (hk : -4096 ≤ spl m e ∧ spl m e ≤ 4096) :
    ∃ lo hi : Int, Impl Tryz.prog Amb 21 [(yV m e), (.int .i64 w)] (wV (mkM lo (-(w + 16))) (mkX lo (-(w + 16))) (mkM hi (-(w + 16))) (mkX hi (-(w + 16)))) ∧ L lo.natAbs ≤ 70 ∧ L hi.natAbs ≤ 70 ∧ Encl (LnF (dv m (e - spl m e)) (spl m e)) (w.toNat + 16) lo hi := by
  obtain ⟨s1, s2, _, s4, s5⟩ := sp_facts (e := e) hm
  have hS := r15_Split m e oO oO hm
  generalize spl m e = k at *
  have hvk : vdb m (e - k) = true := vdb_sh hv oO oO
  obtain ⟨v, vn⟩ : ∃ v : Nat, (w + 60).toNat = v := ⟨_, rfl⟩
  have vs : v = (w.toNat + 16) + 44 := by omega
  obtain ⟨xa, xb, e1, e2, g1, g2, x1, x2, hA, hSub, hAdd, hDiv, H, r1, r2⟩ := r15_quo vn hw hL (f := e - k) oO hvk s1 s2
  obtain ⟨nN, u1, u2, hn, c1, c2, c3, c4, hW, b1, b2, hMul, enc⟩ := r15_loop vn hw H
  obtain ⟨n1, n2, rc, hLn, hT2, kn, kp, kz, hOut, l1, l2⟩ := r15_fin (k := k) vn hw hk b1 b2
  have hO := r13_Of 1 (w + 60) oO oO
  have hO0 := r13_Of 0 (w + 60) oO oO
  rw [vn] at hO hO0
  rw [Int.one_mul] at hO
  rw [Int.zero_mul] at hO0
  have mp : (0 : Rat) < dv m (e - k) + 1 := by grind
  have dm := Rat.div_mul_cancel (a := dv m (e - k) - 1) (b := dv m (e - k) + 1) (by grind)
  have add := ln_add (t := v) (M := dv m (e - k)) (k := k) (u1 := u1) (u2 := u2) (g := false) (Z := (dv m (e - k) - 1) / (dv m (e - k) + 1)) rfl
    (enc _ (Rat.le_of_mul_le_mul_right (c := dv m (e - k) + 1) (by rw [Rat.mul_assoc, dm]; grind) mp) (Rat.le_of_mul_le_mul_right (c := dv m (e - k) + 1) (by rw [Rat.mul_assoc, dm]; grind) mp) r1 r2) rc.1 rc.2
  simp only [Bool.false_eq_true, if_false] at add
  refine ⟨_, _, ?_, l1, l2, add.half vs⟩
  rcases Int.lt_trichotomy k 0 with hk0 | hk0 | hk0
  · obtain ⟨hTk, hSb⟩ := kn hk0
    exact r15_AtN nN m e w k (e - k) xa xb x1 x2 _ e1 e2 g1 g2 u1 u2 _ _ n1 n2 _ _ _ _ _ _ _ _ hn c1 c2 c3 c4 hS hA hO hO0 hSub hAdd hDiv hMul hW hT2 hLn hTk hSb hOut oO hk0 oO
  · rw [(kz hk0).1, (kz hk0).2, Int.add_zero, Int.add_zero] at hOut ⊢
    exact r15_AtZ nN m e w k (e - k) xa xb x1 x2 _ e1 e2 g1 g2 u1 u2 (u1 * 2) (u2 * 2) n1 n2 0 0 0 0 _ _ _ _ hn c1 c2 c3 c4 hS hA hO hO0 hSub hAdd hDiv hMul hW hT2 hLn hOut oO hk0 oO
  · obtain ⟨hTk, hSb⟩ := kp hk0
    exact r15_AtP nN m e w k (e - k) xa xb x1 x2 _ e1 e2 g1 g2 u1 u2 _ _ n1 n2 _ _ _ _ _ _ _ _ hn c1 c2 c3 c4 hS hA hO hO0 hSub hAdd hDiv hMul hW hT2 hLn hTk hSb hOut oO hk0 oO
end Go.Proofs.YtekcladflnieeaaGreatDoor

namespace Go.Proofs.YtekcladflnieeaaGreatDoor
open Go.RowKit
set_option maxRecDepth 100000
theorem cln_all : (List.range 400).all (fun t => decide (lnLo (t : Int) * 2 ^ (430 - t) ≤ ptLn) && decide (ptLn ≤ lnHi (t : Int) * 2 ^ (430 - t))) = true := by kernel_rfl
theorem cln_at {t : Nat} (ht : t < 400) : ((lnLo (t : Int) : Int) : Rat) ≤ cLn * ((2 ^ t : Int) : Rat) ∧ cLn * ((2 ^ t : Int) : Rat) ≤ ((lnHi (t : Int) : Int) : Rat) := by
  have h := List.all_eq_true.1 cln_all t (List.mem_range.2 ht)
  simp only [Bool.and_eq_true, decide_eq_true_eq] at h
  exact ⟨(cl_sc oO).1 h.1, (cl_sc oO).2 h.2⟩
theorem ln_le (s : Int) : lnLo s ≤ lnHi s := by
  have a := (arcT_pos 26 false s)
  have b := (arcT_pos 4801 false s)
  have c := (arcT_pos 8749 false s)
  unfold lnLo lnHi
  omega
theorem ln_part {t : Nat} {k s d1 d2 xa xb : Int} {M Z : Rat} {g : Bool} (ht : (t : Int) = s + 32) (hs : 0 ≤ s ∧ s ≤ 5900) (hk : -4096 ≤ k ∧ k ≤ 4096) (hM : 0 < M + 1) (h : LnH (2 ^ t) M Z d1 d2 xa xb) (hz : (M - 1) / (M + 1) = if g then -Z else Z) (La : L xa.natAbs ≤ 1000) (Lb : L xb.natAbs ≤ 1000) (Lc : L d1.natAbs ≤ 1002) (Ld : L d2.natAbs ≤ 1002) (xp : 0 ≤ xa) :
    ∃ z1 z2 y1 y2 v1 v2 r1 r2 : Int, Impl Tryz.prog Amb 212 [(.agg [(.bool (decide (d1 < 0))), (N d1.natAbs), (.bool (decide (d2 < 0))), (N d2.natAbs)]), (.agg [(.bool (decide ((xa + (1 : Int) * 2 ^ t) < 0))), (N ((xa + (1 : Int) * 2 ^ t).natAbs)), (.bool (decide ((xb + (1 : Int) * 2 ^ t) < 0))), (N ((xb + (1 : Int) * 2 ^ t).natAbs))]), (.int .i64 (s + 32))] (.agg [(.bool (decide (z1 < 0))), (N z1.natAbs), (.bool (decide (z2 < 0))), (N z2.natAbs)]) ∧ Impl Tryz.prog Amb 211 [(.agg [(.bool (decide (z1 < 0))), (N z1.natAbs), (.bool (decide (z2 < 0))), (N z2.natAbs)]), (.int .i64 (s + 32))] (.agg [(.bool (decide (y1 < 0))), (N y1.natAbs), (.bool (decide (y2 < 0))), (N y2.natAbs)]) ∧
      Impl Tryz.prog Amb 106 [(.int .i64 (s + 32))] (.agg [(.bool (decide (v1 < 0))), (N v1.natAbs), (.bool (decide (v2 < 0))), (N v2.natAbs)]) ∧ Impl Tryz.prog Amb 110 [(.agg [(.bool (decide (v1 < 0))), (N v1.natAbs), (.bool (decide (v2 < 0))), (N v2.natAbs)]), (.int .i64 k)] (.agg [(.bool (decide (r1 < 0))), (N r1.natAbs), (.bool (decide (r2 < 0))), (N r2.natAbs)]) ∧ (L y1.natAbs ≤ 200 ∧ L y2.natAbs ≤ 200 ∧ L r1.natAbs ≤ 6300 ∧ L r2.natAbs ≤ 6300) ∧ y1 ≤ y2 ∧ y2 - y1 ≤ 100000 ∧ r1 ≤ r2 ∧ r2 - r1 ≤ 68719476736 ∧
      (t < 400 → Encl (LnF M k) t ((if g then -(y2 * 2) else y1 * 2) + r1) ((if g then -(y1 * 2) else y2 * 2) + r2)) := by
  have T0 := two_pos t
  have tn : (s + 32).toNat = t := by omega
  have hT := h.hT
  have x2 := h.x2
  have xb0 : 0 ≤ xb := by
    refine Rat.intCast_le_intCast.1 (Rat.le_trans ?_ h.xb1)
    exact Rat.le_trans (Rat.intCast_le_intCast.2 xp) h.xa1
  have n1 : xa + (1 : Int) * 2 ^ t ≠ 0 := by omega
  have n2 : xb + (1 : Int) * 2 ^ t ≠ 0 := by omega
  have l1 := L_pow1 t
  have la := L_abs_add xa ((1 : Int) * 2 ^ t)
  have lb := L_abs_add xb ((1 : Int) * 2 ^ t)
  have hD := fx_Div d1 d2 (xa + (1 : Int) * 2 ^ t) (xb + (1 : Int) * 2 ^ t) (s + 32) oO oO oO oO oO n1 n2
  rw [tn] at hD
  have e1 : Int.fdiv (d1 * 2 ^ t) (xb + (1 : Int) * 2 ^ t) = d1 * 2 ^ t / (xb + 2 ^ t) := by rw [Int.fdiv_eq_ediv_of_nonneg _ oO, Int.one_mul]
  have e2 : -(Int.fdiv (-(d2 * 2 ^ t)) (xa + (1 : Int) * 2 ^ t)) = -(-(d2 * 2 ^ t) / (xa + 2 ^ t)) := by rw [Int.fdiv_eq_ediv_of_nonneg _ oO, Int.one_mul]
  rw [e1, e2] at hD
  obtain ⟨hA, q1, q2, q3⟩ := ln_quo h rfl rfl
  generalize d1 * 2 ^ t / (xb + 2 ^ t) = z1 at *
  generalize -(-(d2 * 2 ^ t) / (xa + 2 ^ t)) = z2 at *
  obtain ⟨y1, y2, a0, a1, a2, a3, a4, a5⟩ := fx_area z1 z2 (s + 32) oO (by rw [tn]; exact hA) q3
  rw [tn] at a4 a5
  have b := ln_ok (s := s + 32) oO
  have bl := ln_le (s + 32)
  have bw : lnHi (s + 32) - lnLo (s + 32) < 16777216 := by
    have := nbits_lt (lnHi (s + 32) - lnLo (s + 32)).natAbs
    have p := Nat.pow_le_pow_right (n := 2) oO b.2.2
    omega
  have m1 := L_abs_mul (lnLo (s + 32)) k
  have m2 := L_abs_mul (lnHi (s + 32)) k
  have lk := L_i64 (n := k) oO
  refine ⟨z1, z2, y1, y2, lnLo (s + 32), lnHi (s + 32), tmLo (lnLo (s + 32)) (lnHi (s + 32)) k, tmHi (lnLo (s + 32)) (lnHi (s + 32)) k, hD, a0, fx_Ln2 (s + 32) oO, fx_TimesA _ _ k oO oO oO, ⟨L_T (t := t) a1 oO oO, L_T (t := t) oO a4 oO, ?_, ?_⟩, a2, a3, ?_, tm_w (W := 4096) bl oO bw, fun h4 => ?_⟩
  · unfold tmLo; split <;> omega
  · unfold tmHi; split <;> omega
  · unfold tmLo tmHi
    split
    · have := Int.mul_le_mul_of_nonneg_right bl (show 0 ≤ -k by omega)
      rw [Int.mul_neg, Int.mul_neg] at this
      omega
    · exact Int.mul_le_mul_of_nonneg_right bl oO
  · obtain ⟨N0, hK⟩ := a5 Z q1 q2
    have c := cln_at h4
    rw [ht] at c
    exact ln_add hz hK c.1 c.2
theorem fx_LnE (m e k s : Int) (hs : 0 ≤ s ∧ s ≤ 5900) (hk : -4096 ≤ k ∧ k ≤ 4096) (hm : L (m).natAbs ≤ 300) (he : -20000 ≤ e ∧ e ≤ 100) (h1 : 3 ≤ 4 * dv m e) (h2 : 2 * dv m e < 3) :
    ∃ lo hi : Int, Impl Tryz.prog Amb 147 [(yV m e), (.int .i64 k), (.int .i64 s)] (.agg [(.bool (decide (lo < 0))), (N lo.natAbs), (.bool (decide (hi < 0))), (N hi.natAbs)]) ∧ lo ≤ hi ∧ hi - lo < 16777216 ∧ L lo.natAbs ≤ 6310 ∧ L hi.natAbs ≤ 6310 ∧ (s + 32 < 400 → Encl (LnF (dv m e) k) s.toNat lo hi) := by
  obtain ⟨t, ht⟩ : ∃ t : Nat, (t : Int) = s + 32 := ⟨(s + 32).toNat, by omega⟩
  have tn : (s + 32).toNat = t := by omega
  have ts : t = s.toNat + 32 := by omega
  have hO := fx_Of m e (s + 32) oO oO oO
  have lf := flr_LD m e (s + 32)
  have sc1 := flr_sc (dv m e) t
  have sc2 := cei_sc (dv m e) t
  have fc := flr_cei1 (dv m e) t
  rw [ht] at sc1 sc2 fc
  have T0 : (0 : Rat) < ((2 ^ t : Int) : Rat) := Rat.intCast_pos.2 (two_pos t)
  have T1 := two_pos t
  have hT : (256 : Int) ≤ 2 ^ t := by
    have : (2 : Int) ^ t = 2 ^ 8 * 2 ^ (t - 8) := by rw [← Int.pow_add]; congr 1; omega
    have := two_pos (t - 8)
    omega
  generalize hxa : flr (dv m e) (s + 32) = xa at *
  generalize hxb : cei (dv m e) (s + 32) = xb at *
  clear hxa hxb
  have l1 := L_pow1 t
  have l2 := L_abs_add xa (-((1 : Int) * 2 ^ t))
  have l3 := L_abs_add xb (-((1 : Int) * 2 ^ t))
  have l4 := L_abs_neg ((1 : Int) * 2 ^ t)
  have l5 := L_abs_neg (xa + (-((1 : Int) * 2 ^ t)))
  have l6 := L_abs_neg (xb + (-((1 : Int) * 2 ^ t)))
  have xp : 0 ≤ xa := by
    have b3 : (3 : Rat) * ((2 ^ t : Int) : Rat) ≤ 4 * ((xa : Rat) + 1) := by
      have := Rat.mul_le_mul_of_nonneg_right h1 (Rat.le_of_lt T0)
      grind
    have c : ((3 * 2 ^ t : Int) : Rat) ≤ ((4 * (xa + 1) : Int) : Rat) := by
      rw [Rat.intCast_mul, Rat.intCast_mul, Rat.intCast_add, Rat.intCast_one]
      exact b3
    have := Rat.intCast_le_intCast.1 c
    omega
  have mp : (0 : Rat) < dv m e + 1 := by grind
  have dm := Rat.div_mul_cancel (a := dv m e - 1) (b := dv m e + 1) (by grind)
  by_cases hn : xb ≤ (1 : Int) * 2 ^ t
  · have H : LnH (2 ^ t) (dv m e) (-((dv m e - 1) / (dv m e + 1))) (-(xb + (-((1 : Int) * 2 ^ t)))) (-(xa + (-((1 : Int) * 2 ^ t)))) xa xb := by
      have hb : (xb : Rat) ≤ ((2 ^ t : Int) : Rat) := Rat.intCast_le_intCast.2 oO
      have M1 : dv m e ≤ 1 := Rat.le_of_mul_le_mul_right (c := ((2 ^ t : Int) : Rat)) (by grind) T0
      have eq : -((dv m e - 1) / (dv m e + 1)) * (dv m e + 1) = 1 - dv m e := by grind
      refine ⟨hT, h1, Rat.le_of_lt h2, sc1.1, sc2.1, by omega, by omega, by omega, ?_, by rw [eq]; grind, ?_, ?_⟩
      · refine Rat.le_of_mul_le_mul_right (c := dv m e + 1) ?_ mp
        rw [eq]; grind
      · rw [eq, Rat.intCast_neg, Rat.intCast_add, Rat.intCast_neg, Int.one_mul]; grind
      · rw [eq, Rat.intCast_neg, Rat.intCast_add, Rat.intCast_neg, Int.one_mul]; grind
    obtain ⟨z1, z2, y1, y2, v1, v2, r1, r2, p1, p2, p3, p4, p5, p6, p7, p8, p9, p10⟩ := ln_part (g := true) (k := k) ht hs hk mp H (by simp only [if_true]; grind) oO oO oO oO xp
    have res := fx_LnN m e k s xa xb z1 z2 y1 y2 v1 v2 r1 r2 hs hO (by rw [tn]; exact p1) p2 p3 p4 oO oO oO oO oO oO (by rw [tn]; exact hn) (by rw [tn]; omega)
    rw [show (2 : Int) ^ 1 = 2 from rfl] at res
    have o1 := L_abs_mul y1 2
    have o2 := L_abs_mul y2 2
    have o3 := L_lit (2 : Int).natAbs (by decide)
    have o4 := L_abs_neg (y1 * 2)
    have o5 := L_abs_neg (y2 * 2)
    have o6 := L_abs_add (-(y2 * 2)) r1
    have o7 := L_abs_add (-(y1 * 2)) r2
    have o8 := L_abs_shr (-(y2 * 2) + r1) 32
    have o9 := L_abs_neg (-(y1 * 2) + r2)
    have o10 := L_abs_shr (-(-(y1 * 2) + r2)) 32
    have o11 := L_abs_neg (-(-(y1 * 2) + r2) / 2 ^ 32)
    have hw := half_w (a := -(y2 * 2) + r1) (b := -(y1 * 2) + r2) (W := 100) (n := 32) oO
    refine ⟨_, _, res, ?_, by omega, by omega, by omega, fun h4 => ?_⟩
    · omega
    · exact (p10 oO).half ts
  · have H : LnH (2 ^ t) (dv m e) ((dv m e - 1) / (dv m e + 1)) (xa + (-((1 : Int) * 2 ^ t))) (xb + (-((1 : Int) * 2 ^ t))) xa xb := by
      have ha : (((2 ^ t : Int)) : Rat) ≤ (xa : Rat) := Rat.intCast_le_intCast.2 oO
      have M1 : 1 ≤ dv m e := Rat.le_of_mul_le_mul_right (c := ((2 ^ t : Int) : Rat)) (by grind) T0
      refine ⟨hT, h1, Rat.le_of_lt h2, sc1.1, sc2.1, by omega, by omega, by omega, ?_, by rw [dm]; grind, ?_, ?_⟩
      · refine Rat.le_of_mul_le_mul_right (c := dv m e + 1) ?_ mp
        rw [dm]; grind
      · rw [dm, Rat.intCast_add, Rat.intCast_neg, Int.one_mul]; grind
      · rw [dm, Rat.intCast_add, Rat.intCast_neg, Int.one_mul]; grind
    obtain ⟨z1, z2, y1, y2, v1, v2, r1, r2, p1, p2, p3, p4, p5, p6, p7, p8, p9, p10⟩ := ln_part (g := false) (k := k) ht hs hk mp H (by simp) oO oO oO oO xp
    have res := fx_LnP m e k s xa xb z1 z2 y1 y2 v1 v2 r1 r2 hs hO (by rw [tn]; exact p1) p2 p3 p4 oO oO oO oO oO oO (by rw [tn]; omega) (by rw [tn]; omega)
    rw [show (2 : Int) ^ 1 = 2 from rfl] at res
    have o1 := L_abs_mul y1 2
    have o2 := L_abs_mul y2 2
    have o3 := L_lit (2 : Int).natAbs (by decide)
    have o6 := L_abs_add (y1 * 2) r1
    have o7 := L_abs_add (y2 * 2) r2
    have o8 := L_abs_shr (y1 * 2 + r1) 32
    have o9 := L_abs_neg (y2 * 2 + r2)
    have o10 := L_abs_shr (-(y2 * 2 + r2)) 32
    have o11 := L_abs_neg (-(y2 * 2 + r2) / 2 ^ 32)
    have hw := half_w (a := y1 * 2 + r1) (b := y2 * 2 + r2) (W := 100) (n := 32) oO
    refine ⟨_, _, res, ?_, by omega, by omega, by omega, fun h4 => ?_⟩
    · omega
    · have q := (p10 oO)
      simp only [Bool.false_eq_true, if_false] at q
      exact q.half ts
end Go.Proofs.YtekcladflnieeaaGreatDoor

namespace Go.Proofs.YtekcladflnieeaaGreatDoor
open Go.RowKit
set_option maxRecDepth 100000
theorem lg_clo (m : Int) (ek : Int) (k : Int) (ss : Int) (lo : Int) (hi : Int) (c0 : Impl Tryz.prog Amb 147 [(yV m ek), (.int .i64 k), (.int .i64 ss)] (.agg [(.bool (decide (lo < 0))), (N lo.natAbs), (.bool (decide (hi < 0))), (N hi.natAbs)])) : Impl Tryz.prog Amb 146 [(.int .i64 ss), (.pt [(V.bool (decide (m < 0))), (N m.natAbs), (V.int .i64 ek)] 0), (.pt [(V.int .i64 k)] 0)] (.agg [(.bool (decide (lo < 0))), (N lo.natAbs), (.bool (decide (hi < 0))), (N hi.natAbs)]) := by
  exact impl_ob hP hAmb Tryz.func146 (by kernel_rfl) (.lits 3 <| .call (.agg [(.bool (decide (lo < 0))), (N lo.natAbs), (.bool (decide (hi < 0))), (N hi.natAbs)]) <| .lits 2 <| .ret)
    (cast_ob (aI True.intro (aI (c0 ) ((vsub_refl (.agg [(.bool (decide (lo < 0))), (N lo.natAbs), (.bool (decide (hi < 0))), (N hi.natAbs)]))))) (by kernel_rfl))
theorem lg_value0 (m : Int) (e : Int) (w : Int) (k : Int) (ek : Int) (lo : Int) (hi : Int) (er : Int) (c0 : Impl Tryz.prog Amb 26 [(yV m e)] (.tup [(.int .i64 k), (yV m ek), (.int .i64 er)])) (c1 : Impl Tryz.prog Amb 107 [(.int .i64 w), (.clos 146 [(.pt [(V.bool (decide (m < 0))), (N m.natAbs), (V.int .i64 ek)] 0), (.pt [(V.int .i64 k)] 0)])] (.agg [(.bool (decide (lo < 0))), (N lo.natAbs), (.bool (decide (hi < 0))), (N hi.natAbs)])) : Impl Tryz.prog Amb 79 [(yV m e), (.int .i64 w)] (.agg [(.bool (decide (lo < 0))), (N lo.natAbs), (.bool (decide (hi < 0))), (N hi.natAbs)]) := by
  exact impl_ob hP hAmb Tryz.func79 (by kernel_rfl) (.lits 2 <| .call (.tup [(.int .i64 k), (yV m ek), (.int .i64 er)]) <| .lits 3 <| .call (.agg [(.bool (decide (lo < 0))), (N lo.natAbs), (.bool (decide (hi < 0))), (N hi.natAbs)]) <| .lits 2 <| .ret)
    (cast_ob (aI True.intro (aI (c0 ) (aI (c1 ) ((vsub_refl (.agg [(.bool (decide (lo < 0))), (N lo.natAbs), (.bool (decide (hi < 0))), (N hi.natAbs)])))))) (by kernel_rfl))
theorem lg_Ln0 (m : Int) (e : Int) (n : Int) (f : Int) (w : Int) (l1 : Int) (h1 : Int) (l2 : Int) (h2 : Int) (a1 : Int) (a2 : Int) (b1 : Int) (b2 : Int) (c0 : 0 ≤ w ∧ w ≤ 4096) (c1 : 0 < m ∧ 0 < n) (c2 : L (m).natAbs ≤ 1000 ∧ L (n).natAbs ≤ 1000) (c3 : Impl Tryz.prog Amb 79 [(yV m e), (.int .i64 w)] (.agg [(.bool (decide (l1 < 0))), (N l1.natAbs), (.bool (decide (h1 < 0))), (N h1.natAbs)])) (c4 : Impl Tryz.prog Amb 79 [(yV n f), (.int .i64 w)] (.agg [(.bool (decide (l2 < 0))), (N l2.natAbs), (.bool (decide (h2 < 0))), (N h2.natAbs)])) (c5 : Impl Tryz.prog Amb 78 [(zV l1), (.int .i64 ((0 : Int) - w))] (.tup [(yV a1 a2), (.int .i64 0)])) (c6 : Impl Tryz.prog Amb 78 [(zV h2), (.int .i64 ((0 : Int) - w))] (.tup [(yV b1 b2), (.int .i64 0)])) : Impl Tryz.prog Amb 19 [(wV m e n f), (.int .i64 w)] (.tup [(wV a1 a2 b1 b2), (.int .i64 0)]) := by
  have sm := sign_range m
  have sn := sign_range n
  exact impl_ob hP hAmb Tryz.func19 (by kernel_rfl) (.lit <| .no <| .lits 3 <| .no <| .lits 2 <| .call (.int .i64 ((n).sign)) <| .lit <| .no <| .lits 2 <| .call (.int .i64 ((m).sign)) <| .lit <| .no <| .lits 2 <| .call (.agg [(.bool (decide (l1 < 0))), (N l1.natAbs), (.bool (decide (h1 < 0))), (N h1.natAbs)]) <| .lits 2 <| .yes <| .lit <| .call (.tup [(yV a1 a2), (.int .i64 0)]) <| .lits 3 <| .call (.agg [(.bool (decide (l2 < 0))), (N l2.natAbs), (.bool (decide (h2 < 0))), (N h2.natAbs)]) <| .lits 2 <| .yes <| .lit <| .call (.tup [(yV b1 b2), (.int .i64 0)]) <| .lits 12 <| .ret)
    (cast_ob (aI True.intro (aI (iLt_mkF oS : (iLt w 0) = false) (aI (iGt_mkF oS : (iGt w 4096) = false) (aI (dy_Sign n f oS) (have f2 := sign_range n; aI (iLe_mkF oS : (iLe ((n).sign) 0) = false) (aI (dy_Sign m e oS) (have f1 := sign_range m; aI (iLe_mkF oS : (iLe ((m).sign) 0) = false) (aI (c3 ) (aI (fits_i64 oS : (fits .i64 ((0 : Int) - w)) = true) (aI (c5 ) (aI (c4 ) (aI (fits_i64 oS : (fits .i64 ((0 : Int) - w)) = true) (aI (c6 ) ((vsub_refl (.tup [(wV a1 a2 b1 b2), (.int .i64 0)])))))))))))))))) (by kernel_rfl))
theorem lg_LnD (m : Int) (e : Int) (n : Int) (f : Int) (w : Int) (c0 : L (m).natAbs ≤ 1000) (c1 : L (n).natAbs ≤ 1000) (c2 : (-9223372036854775808 : Int) ≤ w ∧ w ≤ 9223372036854775807) (c3 : 0 ≤ w ∧ w ≤ 4096) (c4 : n ≤ 0) : Impl Tryz.prog Amb 19 [(wV m e n f), (.int .i64 w)] (e0T 4) := by
  have sn := sign_range n
  exact impl_ob hP hAmb Tryz.func19 (by kernel_rfl) (.lit <| .no <| .lits 3 <| .no <| .lits 2 <| .call (.int .i64 ((n).sign)) <| .lit <| .yes <| .lits 3 <| .ret)
    (cast_ob (aI True.intro (aI (iLt_mkF oO : (iLt w 0) = false) (aI (iGt_mkF oO : (iGt w 4096) = false) (aI (dy_Sign n f oO) (have f1 := sign_range n; aI (iLe_mk oO : (iLe ((n).sign) 0) = true) ((vsub_refl (e0T 4)))))))) (by kernel_rfl))
theorem lg_LnU (m : Int) (e : Int) (n : Int) (f : Int) (w : Int) (c0 : L (m).natAbs ≤ 1000) (c1 : L (n).natAbs ≤ 1000) (c2 : (-9223372036854775808 : Int) ≤ w ∧ w ≤ 9223372036854775807) (c3 : 0 ≤ w ∧ w ≤ 4096) (c4 : 0 < n) (c5 : m ≤ 0) : Impl Tryz.prog Amb 19 [(wV m e n f), (.int .i64 w)] (e0T 5) := by
  have sm := sign_range m
  have sn := sign_range n
  exact impl_ob hP hAmb Tryz.func19 (by kernel_rfl) (.lit <| .no <| .lits 3 <| .no <| .lits 2 <| .call (.int .i64 ((n).sign)) <| .lit <| .no <| .lits 2 <| .call (.int .i64 ((m).sign)) <| .lit <| .yes <| .lits 3 <| .ret)
    (cast_ob (aI True.intro (aI (iLt_mkF oO : (iLt w 0) = false) (aI (iGt_mkF oO : (iGt w 4096) = false) (aI (dy_Sign n f oO) (have f2 := sign_range n; aI (iLe_mkF oO : (iLe ((n).sign) 0) = false) (aI (dy_Sign m e oO) (have f1 := sign_range m; aI (iLe_mk oO : (iLe ((m).sign) 0) = true) ((vsub_refl (e0T 5)))))))))) (by kernel_rfl))
theorem l15_of (a : Int) (b : Int) (c0 : (-9223372036854775808 : Int) ≤ a ∧ a ≤ 9223372036854775807) (c1 : (-9223372036854775808 : Int) ≤ b ∧ b ≤ 9223372036854775807) : Impl Tryz.prog Amb 75 [(.int .i64 a), (.int .i64 b)] (wV (mkM a 0) (mkX a 0) (mkM b 0) (mkX b 0)) := by
  exact impl_ob hP hAmb Tryz.func75 (by kernel_rfl) (.lit <| .call (yV (mkM a 0) (mkX a 0)) <| .lit <| .call (yV (mkM b 0) (mkX b 0)) <| .lits 3 <| .ret)
    (cast_ob (aI True.intro (aI (r08_Of a oO) (have f14 := (of_fit (n := a) oO).2.2.2.2.1; have f13 := (of_fit (n := a) oO).2.2.2.1; have f12 := (of_fit (n := a) oO).2.2.1; have f11 := (of_fit (n := a) oO).2.1; have f10 := (of_fit (n := a) oO).1; have f9 := (L_i64 oO : L (a : Int).natAbs ≤ 2); have f8 := mk_facts a 0; aI (r08_Of b oO) (have f7 := (of_fit (n := b) oO).2.2.2.2.1; have f6 := (of_fit (n := b) oO).2.2.2.1; have f5 := (of_fit (n := b) oO).2.2.1; have f4 := (of_fit (n := b) oO).2.1; have f3 := (of_fit (n := b) oO).1; have f2 := (L_i64 oO : L (b : Int).natAbs ≤ 2); have f1 := mk_facts b 0; (vsub_refl (wV (mkM a 0) (mkX a 0) (mkM b 0) (mkX b 0))))))) (by kernel_rfl))
theorem l15_awake : Impl Tryz.prog Amb 15 [] (.bool true) := by
  have z0 : mkM 0 0 = 0 := by kernel_rfl
  have z1 : mkM 1 0 = 1 := by kernel_rfl
  have z2 : mkM (-1) 0 = -1 := by kernel_rfl
  have z4 : mkM 4 0 = 1 := by kernel_rfl
  have z5 : mkX 4 0 = 2 := by kernel_rfl
  have z6 : spl (mkM 4 0) (mkX 4 0) = 2 := by kernel_rfl
  have l1 := L_lit 1 (by decide)
  have y1 := of_fit (n := 1) oO
  have y4 := of_fit (n := 4) oO
  exact impl_ob hP hAmb Tryz.func15 (by kernel_rfl) (.lit <| .call (wV (mkM 0 0) (mkX 0 0) (mkM 1 0) (mkX 1 0)) <| .lit <| .call (e0T 5) <| .lits 2 <| .call (wV (mkM (-1) 0) (mkX (-1) 0) (mkM 0 0) (mkX 0 0)) <| .lit <| .call (e0T 4) <| .lits 2 <| .call (yV (mkM 4 0) (mkX 4 0)) <| .lit <| .call (.tup [(.int .i64 (spl (mkM 4 0) (mkX 4 0))), (yV (mkM 4 0) ((mkX 4 0) - (spl (mkM 4 0) (mkX 4 0)))), (.int .i64 0)]) <| .lits 10 <| .yes <| .lits 7 <| .call (yV (mkM 1 0) (mkX 1 0)) <| .lits 2 <| .call (.bool (decide (((mkX 4 0) - (spl (mkM 4 0) (mkX 4 0))) = (mkX 1 0) ∧ (mkM 4 0) = (mkM 1 0)))) <| .lits 2 <| .ret)
    (cast_ob (aI True.intro (aI (l15_of 0 1 oO oO) (have f18 := (of_fit (n := 1) oO).2.1; have f17 := (of_fit (n := 0) oO).2.1; aI (lg_LnU (mkM 0 0) (mkX 0 0) (mkM 1 0) (mkX 1 0) 5 oO oO oO oO oO oO) (aI (l15_of (-1) 0 oO oO) (have f16 := (of_fit (n := 0) oO).2.1; have f15 := (of_fit (n := -1) oO).2.1; aI (lg_LnD (mkM (-1) 0) (mkX (-1) 0) (mkM 0 0) (mkX 0 0) 5 oO oO oO oO oO) (aI (r08_Of 4 oO) (have f14 := (of_fit (n := 4) oO).2.2.2.2.1; have f13 := (of_fit (n := 4) oO).2.2.2.1; have f12 := (of_fit (n := 4) oO).2.2.1; have f11 := (of_fit (n := 4) oO).2.1; have f10 := (of_fit (n := 4) oO).1; have f9 := (L_i64 oO : L (4 : Int).natAbs ≤ 2); have f8 := mk_facts 4 0; aI (lg_Split (mkM 4 0) (mkX 4 0) oO oO oO) (aI (iEq_mk oO : (iEq (spl (mkM 4 0) (mkX 4 0)) 2) = true) (aI (r08_Of 1 oO) (have f7 := (of_fit (n := 1) oO).2.2.2.2.1; have f6 := (of_fit (n := 1) oO).2.2.2.1; have f5 := (of_fit (n := 1) oO).2.2.1; have f4 := (of_fit (n := 1) oO).2.1; have f3 := (of_fit (n := 1) oO).1; have f2 := (L_i64 oO : L (1 : Int).natAbs ≤ 2); have f1 := mk_facts 1 0; aI (r08_Same (mkM 4 0) ((mkX 4 0) - (spl (mkM 4 0) (mkX 4 0))) (mkM 1 0) (mkX 1 0) oO oO) ((vsub_of (congrArg V.bool (by kernel_rfl)) : vsub (.bool (decide (((mkX 4 0) - (spl (mkM 4 0) (mkX 4 0))) = (mkX 1 0) ∧ (mkM 4 0) = (mkM 1 0)))) (.bool true))))))))))))) (by kernel_rfl))
end Go.Proofs.YtekcladflnieeaaGreatDoor

namespace Go.Proofs.YtekcladflnieeaaGreatDoor
open Go.RowKit
set_option maxRecDepth 100000
set_option maxHeartbeats 2000000
theorem PL_one : (PL (1 / 5) 100 + (1 / 5) ^ 199 ≤ 1 ∧ PL (1 / 7) 100 + (1 / 7) ^ 199 ≤ 1) ∧ (0 ≤ cLn ∧ cLn ≤ 1) := ⟨⟨of_decide_eq_true (by kernel_rfl), of_decide_eq_true (by kernel_rfl)⟩, ⟨of_decide_eq_true (by kernel_rfl), of_decide_eq_true (by kernel_rfl)⟩⟩
theorem LnF_abs {M : Rat} {k : Int} (hM : 3 ≤ 4 * M) (hM2 : 2 * M < 3) (hk : -4096 ≤ k ∧ k ≤ 4096) (K : Nat) : -8192 ≤ LnF M k K ∧ LnF M k K ≤ 8192 := by
  have z1 := z_mono (M := M) (N := 3 / 2) (by grind) (by grind)
  have z2 := z_mono (M := 3 / 4) (N := M) (by grind) (by grind)
  rw [show ((3 : Rat) / 2 - 1) / (3 / 2 + 1) = 1 / 5 by grind] at z1
  rw [show ((3 : Rat) / 4 - 1) / (3 / 4 + 1) = -(1 / 7) by grind] at z2
  have q1 := PL_odd z1 K
  have q2 := PL_odd z2 K
  rw [PL_neg] at q2
  have c1 := PL_cap (z := 1 / 5) (by grind) (by grind) PL_one.1.1 K
  have c2 := PL_cap (z := 1 / 7) (by grind) (by grind) PL_one.1.2 K
  have c0 := PL_one.2
  have k1 : ((-4096 : Int) : Rat) ≤ (k : Rat) := Rat.intCast_le_intCast.2 hk.1
  have k2 : (k : Rat) ≤ ((4096 : Int) : Rat) := Rat.intCast_le_intCast.2 hk.2
  rw [show ((-4096 : Int) : Rat) = -4096 from rfl] at k1
  rw [show ((4096 : Int) : Rat) = 4096 from rfl] at k2
  have m1 := Rat.mul_le_mul_of_nonneg_right k1 c0.1
  have m2 := Rat.mul_le_mul_of_nonneg_right k2 c0.1
  unfold LnF
  constructor <;> grind
theorem ln_size {M : Rat} {k a b : Int} {s : Nat} (hM : 3 ≤ 4 * M) (hM2 : 2 * M < 3) (hk : -4096 ≤ k ∧ k ≤ 4096) (h : Encl (LnF M k) s a b) (hw : b - a ≤ 2) (hs : s ≤ 400) : L a.natAbs ≤ 70 ∧ L b.natAbs ≤ 70 := by
  obtain ⟨A, h⟩ := h
  have h := h A (Nat.le_refl _)
  have B := LnF_abs hM hM2 hk A
  have T0 : (0 : Rat) < ((2 ^ s : Int) : Rat) := Rat.intCast_pos.2 (two_pos s)
  have m1 := Rat.mul_le_mul_of_nonneg_right B.1 (Rat.le_of_lt T0)
  have m2 := Rat.mul_le_mul_of_nonneg_right B.2 (Rat.le_of_lt T0)
  have a1 : a ≤ 8192 * 2 ^ s := by
    refine Rat.intCast_le_intCast.1 ?_
    rw [Rat.intCast_mul]
    exact Rat.le_trans h.1 m2
  have b1 : -8192 * 2 ^ s ≤ b := by
    refine Rat.intCast_le_intCast.1 ?_
    rw [Rat.intCast_mul]
    exact Rat.le_trans m1 h.2
  have ab : a ≤ b := Rat.intCast_le_intCast.1 (Rat.le_trans h.1 h.2)
  have pv2 : ((2 ^ s : Nat) : Int) = (2 : Int) ^ s := (pow_cast _).symm
  have := Nat.pow_pos (n := s) (show 0 < 2 by omega)
  exact ⟨abs_big (t := s) (c := 8194) oO oO oO, abs_big (t := s) (c := 8194) oO oO oO⟩
theorem lg_valueE (m e w : Int) (h : (0 < m) ∧ L m.natAbs ≤ 300 ∧ (-5000 ≤ e ∧ e ≤ 5000) ∧ vdb m e = true ∧ -4096 ≤ spl m e ∧ spl m e ≤ 4096) (hw : 0 ≤ w ∧ w ≤ 4096) :
    ∃ lo hi : Int, Impl Tryz.prog Amb 79 [(yV m e), (.int .i64 w)] (.agg [(.bool (decide (lo < 0))), (N lo.natAbs), (.bool (decide (hi < 0))), (N hi.natAbs)]) ∧ hi - lo ≤ 2 ∧ L lo.natAbs ≤ 6310 ∧ L hi.natAbs ≤ 6310 ∧ (w ≤ 340 → Encl (LnF (dv m (e - spl m e)) (spl m e)) w.toNat lo hi) := by
  obtain ⟨hm, hL, he, hv, hk⟩ := h
  obtain ⟨s1, s2, _, s4, s5⟩ := sp_facts (e := e) hm
  have hS := lg_Split m e oO oO hm
  generalize spl m e = k at *
  obtain ⟨lo, hi, hI, h1, h2, h3, h4, h5⟩ := fx_LnE m (e - k) k (w + 24) oO hk hL oO s1 s2
  have hC := lg_clo m (e - k) k (w + 24) lo hi hI
  have hT := fx_Settle2 146 _ _ lo hi w hC oO (nbits_of_lt oO) oO
  have o8 := L_abs_shr lo 24
  have o9 := L_abs_neg hi
  have o10 := L_abs_shr (-hi) 24
  have o11 := L_abs_neg (-hi / 2 ^ 24)
  have hw2 := half_w (a := lo) (b := hi) (W := 1) (n := 24) oO
  refine ⟨_, _, lg_value0 m e w k (e - k) _ _ 0 hS hT, hw2, by omega, by omega, fun h6 => ?_⟩
  exact (h5 oO).half oO
theorem lg_LnE (m e n f w : Int) (h : (0 < m) ∧ L m.natAbs ≤ 300 ∧ (-5000 ≤ e ∧ e ≤ 5000) ∧ vdb m e = true ∧ -4096 ≤ spl m e ∧ spl m e ≤ 4096) (h' : (0 < n) ∧ L n.natAbs ≤ 300 ∧ (-5000 ≤ f ∧ f ≤ 5000) ∧ vdb n f = true ∧ -4096 ≤ spl n f ∧ spl n f ≤ 4096) (hw : 0 ≤ w ∧ w ≤ 330) :
    ∃ l1 h1 l2 h2 : Int, Impl Tryz.prog Amb 19 [(wV m e n f), (.int .i64 w)] (.tup [(wV (mkM l1 (-w)) (mkX l1 (-w)) (mkM h2 (-w)) (mkX h2 (-w))), (.int .i64 0)]) ∧ h1 - l1 ≤ 2 ∧ h2 - l2 ≤ 2 ∧ (L l1.natAbs ≤ 70 ∧ L h2.natAbs ≤ 70) ∧ Encl (LnF (dv m (e - spl m e)) (spl m e)) w.toNat l1 h1 ∧ Encl (LnF (dv n (f - spl n f)) (spl n f)) w.toNat l2 h2 := by
  obtain ⟨l1, h1, hA, wA, _, _, eA⟩ := lg_valueE m e w h oO
  obtain ⟨l2, h2, hB, wB, _, _, eB⟩ := lg_valueE n f w h' oO
  have sA := sp_facts (e := e) h.1
  have sB := sp_facts (e := f) h'.1
  have eA := eA oO
  have eB := eB oO
  have zA := (ln_size sA.1 sA.2.1 oO eA wA oO).1
  have zB := (ln_size sB.1 sB.2.1 oO eB wB oO).2
  have mA := dy_Make l1 (0 - w) oO oO
  have mB := dy_Make h2 (0 - w) oO oO
  rw [Int.zero_sub, mk_fine2 (m := l1) (e := -w) oO oO] at mA
  rw [Int.zero_sub, mk_fine2 (m := h2) (e := -w) oO oO] at mB
  exact ⟨l1, h1, l2, h2, lg_Ln0 m e n f w l1 h1 l2 h2 _ _ _ _ oO ⟨h.1, h'.1⟩ ⟨by omega, by omega⟩ hA hB (by rw [Int.zero_sub]; exact mA) (by rw [Int.zero_sub]; exact mB), wA, wB, ⟨zA, zB⟩, eA, eB⟩
end Go.Proofs.YtekcladflnieeaaGreatDoor

namespace Go.Proofs.YtekcladflnieeaaGreatDoor
open Go.RowKit
set_option maxRecDepth 100000
def ivM (b : Bool) (l : List Nat) (e : Int) (c : Bool) (r : List Nat) (f n k : Int) : Int := (swM (mkM (rawI b l n) (e % (2 * k + 1) - k)) (mkX (rawI b l n) (e % (2 * k + 1) - k)) (mkM (rawI c r n) (f % (2 * k + 1) - k)) (mkX (rawI c r n) (f % (2 * k + 1) - k)))
def ivX (b : Bool) (l : List Nat) (e : Int) (c : Bool) (r : List Nat) (f n k : Int) : Int := (swX (mkM (rawI b l n) (e % (2 * k + 1) - k)) (mkX (rawI b l n) (e % (2 * k + 1) - k)) (mkM (rawI c r n) (f % (2 * k + 1) - k)) (mkX (rawI c r n) (f % (2 * k + 1) - k)))
def ivN (b : Bool) (l : List Nat) (e : Int) (c : Bool) (r : List Nat) (f n k : Int) : Int := (swN (mkM (rawI b l n) (e % (2 * k + 1) - k)) (mkX (rawI b l n) (e % (2 * k + 1) - k)) (mkM (rawI c r n) (f % (2 * k + 1) - k)) (mkX (rawI c r n) (f % (2 * k + 1) - k)))
def ivF (b : Bool) (l : List Nat) (e : Int) (c : Bool) (r : List Nat) (f n k : Int) : Int := (swF (mkM (rawI b l n) (e % (2 * k + 1) - k)) (mkX (rawI b l n) (e % (2 * k + 1) - k)) (mkM (rawI c r n) (f % (2 * k + 1) - k)) (mkX (rawI c r n) (f % (2 * k + 1) - k)))
theorem iv_fit {b : Bool} {l : List Nat} {e : Int} {c : Bool} {r : List Nat} {f n k : Int} (hl : Dig l) (hr : Dig r) (hn : 0 ≤ n ∧ n ≤ 800) (hk : 0 ≤ k ∧ k ≤ 20000) : ((L (ivM b l e c r f n k).natAbs ≤ n ∧ -k ≤ (ivX b l e c r f n k) ∧ (ivX b l e c r f n k) ≤ k + 32 * n) ∧ (L (ivN b l e c r f n k).natAbs ≤ n ∧ -k ≤ (ivF b l e c r f n k) ∧ (ivF b l e c r f n k) ≤ k + 32 * n)) ∧ vdb (ivM b l e c r f n k) (ivX b l e c r f n k) = true ∧ vdb (ivN b l e c r f n k) (ivF b l e c r f n k) = true ∧ dv (ivM b l e c r f n k) (ivX b l e c r f n k) ≤ dv (ivN b l e c r f n k) (ivF b l e c r f n k) := by
  have h := rawI_fit (b := b) (c := c) (e := e) (f := f) hl hr hn hk rfl rfl rfl rfl
  exact ⟨⟨h.1, h.2.1⟩, h.2.2⟩
theorem mill_Iv (b : Bool) (l : List Nat) (e : Int) (c : Bool) (r : List Nat) (f n k : Int) (c0 : Dig l) (c1 : l.length ≤ 9223372036854775807) (c2 : Dig r) (c3 : r.length ≤ 9223372036854775807) (c4 : (-9223372036854775808 : Int) ≤ e ∧ e ≤ 9223372036854775807) (c5 : (-9223372036854775808 : Int) ≤ f ∧ f ≤ 9223372036854775807) (c6 : (0 : Int) ≤ n ∧ n ≤ 800) (c7 : (0 : Int) ≤ k ∧ k ≤ 20000) : Impl Tryz.prog Amb 23 [(.agg [(.bool b), (.sl 1 (U l)), (.int .i64 e), (.bool c), (.sl 1 (U r)), (.int .i64 f)]), (.int .i64 n), (.int .i64 k)] (.tup [(wV (ivM b l e c r f n k) (ivX b l e c r f n k) (ivN b l e c r f n k) (ivF b l e c r f n k)), (.bool (decide ((l.length : Int) ≤ n ∧ (r.length : Int) ≤ n)))]) :=
  mill_Interval b l e c r f n k c0 c1 c2 c3 c4 c5 c6 c7
end Go.Proofs.YtekcladflnieeaaGreatDoor

namespace Go.Proofs.YtekcladflnieeaaGreatDoor
theorem th_fit2 {m e n f k : Int} (hm : L m.natAbs ≤ 4) (hn : L n.natAbs ≤ 4) (he : -60 ≤ e ∧ e ≤ 190) (hf : -60 ≤ f ∧ f ≤ 190) (hk : 0 ≤ k ∧ k ≤ 30) (hv : vdb n f = true) (ho : dv m e ≤ dv n f) {a b x y : Int}
    (ha : a = mkM (adS m e (mkM (1 : Int) ((0 : Int) - k)) (mkX (1 : Int) ((0 : Int) - k))) (iMin e (mkX (1 : Int) ((0 : Int) - k))))
    (hb : b = mkX (adS m e (mkM (1 : Int) ((0 : Int) - k)) (mkX (1 : Int) ((0 : Int) - k))) (iMin e (mkX (1 : Int) ((0 : Int) - k))))
    (hx : x = thM a b n f) (hy : y = thX a b n f) :
    (L x.natAbs ≤ 14 ∧ -60 ≤ y ∧ y ≤ 700) ∧ vdb x y = true ∧ dv m e ≤ dv x y ∧ dv x y ≤ dv n f := by
  have l1 := L_le (n := 1) (k := 1) (by decide)
  have c := mk_fit (m := (1 : Int)) (e := (0 : Int) - k) (by show L 1 ≤ 900; omega) (by omega)
  have c1 : L (1 : Int).natAbs ≤ 1 := l1
  have i0 := iMin_range ((0 : Int) - k) 0
  have i1 : iMax ((0 : Int) - k) 0 ≤ 0 := by unfold iMax; split <;> omega
  have i2 := iMin_range e (mkX (1 : Int) ((0 : Int) - k))
  have h1 := adS_L (a := 4) (c := 8) (e := e) (f := mkX (1 : Int) ((0 : Int) - k)) hm (show L (mkM (1 : Int) ((0 : Int) - k)).natAbs ≤ 4 by omega) (by omega) (by omega)
  have d := mk_fit (m := adS m e (mkM (1 : Int) ((0 : Int) - k)) (mkX (1 : Int) ((0 : Int) - k))) (e := iMin e (mkX (1 : Int) ((0 : Int) - k))) (by omega) (by omega)
  rw [← ha, ← hb] at d
  have i3 := iMin_range (iMin e (mkX (1 : Int) ((0 : Int) - k))) 0
  have i4 : iMax (iMin e (mkX (1 : Int) ((0 : Int) - k))) 0 ≤ 190 := by unfold iMax; split <;> omega
  have hd : dv m e ≤ dv a b := by
    rw [d.2.2.2.2.2, dv_ad, c.2.2.2.2.2]
    have : 0 < dv 1 ((0 : Int) - k) := dv_pos.2 (by decide)
    grind
  rcases th_facts a b n f with ⟨q1, q2, q3, q4⟩ | ⟨q1, q2, q3, q4⟩
  · rw [hx, hy, q2, q3]
    exact ⟨by omega, d.2.2.2.2.1, hd, Rat.le_of_lt (cmpD_neg.1 q1)⟩
  · rw [hx, hy, q2, q3]
    exact ⟨by omega, hv, ho, Rat.le_refl⟩
theorem vdb_nabs {m e : Int} (h : vdb m e = true) : vdb (m.natAbs : Int) e = true := by rw [vdb_iff] at h ⊢; rw [Int.natAbs_natCast]; omega
theorem sw_all {a e b f : Int} (va : vdb a e = true) (vb : vdb b f = true) (c : Nat) (la : L a.natAbs ≤ c) (lb : L b.natAbs ≤ c) (lo hi : Int) (ha : lo ≤ e ∧ e ≤ hi) (hb : lo ≤ f ∧ f ≤ hi) (na : 0 ≤ a) (nb : 0 ≤ b) :
    (vdb (swM a e b f) (swX a e b f) = true ∧ vdb (swN a e b f) (swF a e b f) = true) ∧ dv (swM a e b f) (swX a e b f) ≤ dv (swN a e b f) (swF a e b f) ∧ (L (swM a e b f).natAbs ≤ c ∧ L (swN a e b f).natAbs ≤ c) ∧ (lo ≤ swX a e b f ∧ swX a e b f ≤ hi) ∧ (lo ≤ swF a e b f ∧ swF a e b f ≤ hi) ∧ 0 ≤ swM a e b f ∧ 0 ≤ swN a e b f := by
  rcases sw_facts a e b f with ⟨h, h1, h2, h3, h4, _⟩ | ⟨h, h1, h2, h3, h4, _⟩
  · rw [h1, h2, h3, h4]
    exact ⟨⟨vb, va⟩, Rat.le_of_lt (cmpD_pos.1 h), ⟨lb, la⟩, hb, ha, nb, na⟩
  · rw [h1, h2, h3, h4]
    exact ⟨⟨va, vb⟩, cmpD_le.1 h, ⟨la, lb⟩, ha, hb, na, nb⟩
theorem hi_pos {m e n f : Int} (h : dv m e ≤ dv n f) (hm : 0 < m) : 0 < n := by
  have := (dv_pos (m := m) (e := e)).2 hm
  exact (dv_pos (m := n) (e := f)).1 (by grind)
theorem argS {x e y f a b : Int} (ha : x = a) (hb : y = b) (h : 0 < cmpD x e y f) : vsub (.tup [.agg [.bool (decide (y < 0)), N y.natAbs, .int .i64 f, .bool (decide (x < 0)), N x.natAbs, .int .i64 e], .bool (iGt y.sign 0)])
    (.tup [.agg [.bool (decide (swM a e b f < 0)), N (swM a e b f).natAbs, .int .i64 (swX a e b f), .bool (decide (swN a e b f < 0)), N (swN a e b f).natAbs, .int .i64 (swF a e b f)], .bool (decide (0 < swM a e b f))]) := by
  subst ha; subst hb
  have s := sw_yes h
  rw [← s.1, ← s.2.1, ← s.2.2.1, ← s.2.2.2]
  have g : iGt y.sign 0 = decide (0 < y) := by unfold iGt; exact decide_eq_decide.2 (by have := sign_range y; omega)
  rw [g]; exact vsub_refl _
theorem argN {x e y f a b : Int} (ha : x = a) (hb : y = b) (h : cmpD x e y f ≤ 0) : vsub (.tup [.agg [.bool (decide (x < 0)), N x.natAbs, .int .i64 e, .bool (decide (y < 0)), N y.natAbs, .int .i64 f], .bool (iGt x.sign 0)])
    (.tup [.agg [.bool (decide (swM a e b f < 0)), N (swM a e b f).natAbs, .int .i64 (swX a e b f), .bool (decide (swN a e b f < 0)), N (swN a e b f).natAbs, .int .i64 (swF a e b f)], .bool (decide (0 < swM a e b f))]) := by
  subst ha; subst hb
  have s := sw_no h
  rw [← s.1, ← s.2.1, ← s.2.2.1, ← s.2.2.2]
  have g : iGt x.sign 0 = decide (0 < x) := by unfold iGt; exact decide_eq_decide.2 (by have := sign_range x; omega)
  rw [g]; exact vsub_refl _
end Go.Proofs.YtekcladflnieeaaGreatDoor
