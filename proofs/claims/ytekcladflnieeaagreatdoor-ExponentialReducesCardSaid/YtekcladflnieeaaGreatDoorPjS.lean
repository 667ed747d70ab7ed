/-
  Lower layers: what functions of the program compute, and plain facts. Conditions: as the theorems say.
-/
import Derived.Test.YtekcladflnieeaaGreatDoorChecked
import Derived.Test.YtekcladflnieeaaGreatDoorRows
import Derived.WalkKit
import Derived.ProofKit
import Derived.OpenShut
import Derived.Deep.DeepHandedRow
import Derived.Lib.LaidTab
import Derived.Lib.SmallJoins
import Derived.ChangeSlices
import Derived.Carry
import Derived.Test.YtekcladflnieeaaGreatDoorCards
import Derived.Test.YtekcladflnieeaaGreatDoorTie
import Derived.Test.YtekcladflnieeaaGreatDoorPjR
set_option linter.unusedVariables false
set_option linter.unusedSimpArgs false
namespace Go.Proofs.YtekcladflnieeaaGreatDoor
open Go.RowKit
set_option maxRecDepth 100000
set_option maxHeartbeats 2000000
theorem red_refP (m x w k : Int) (hw : 12 ≤ w ∧ w ≤ 140) (hm : L m.natAbs ≤ 2) (hx : -440 ≤ x ∧ x ≤ 104) (hv : vdb m x = true) (hk : -1000 ≤ k ∧ k ≤ 1000) (hk0 : 0 ≤ k) : ∃ xa xb n1 n2 t1 t2 s1 s2 : Int, (Impl Tryz.prog Amb 46 [(yV m x), (.int .i64 (w + 40))] (.agg [(.bool (decide (xa < 0))), (N xa.natAbs), (.bool (decide (xb < 0))), (N xb.natAbs)]) ∧ Impl Tryz.prog Amb 49 [(.int .i64 (w + 40))] (.agg [(.bool (decide (n1 < 0))), (N n1.natAbs), (.bool (decide (n2 < 0))), (N n2.natAbs)]) ∧ Impl Tryz.prog Amb 48 [(.agg [(.bool (decide (n1 < 0))), (N n1.natAbs), (.bool (decide (n2 < 0))), (N n2.natAbs)]), (.int .i64 k)] (.agg [(.bool (decide (t1 < 0))), (N t1.natAbs), (.bool (decide (t2 < 0))), (N t2.natAbs)]) ∧ Impl Tryz.prog Amb 47 [(.agg [(.bool (decide (xa < 0))), (N xa.natAbs), (.bool (decide (xb < 0))), (N xb.natAbs)]), (.agg [(.bool (decide (t1 < 0))), (N t1.natAbs), (.bool (decide (t2 < 0))), (N t2.natAbs)])] (.agg [(.bool (decide (s1 < 0))), (N s1.natAbs), (.bool (decide (s2 < 0))), (N s2.natAbs)])) ∧ (L s1.natAbs ≤ 100 ∧ L s2.natAbs ≤ 100) ∧ (s1 : Rat) ≤ (dv m x - (k : Rat) * cLn) * ((2 ^ (w + 40).toNat : Int) : Rat) ∧ (dv m x - (k : Rat) * cLn) * ((2 ^ (w + 40).toNat : Int) : Rat) ≤ (s2 : Rat) := by
  obtain ⟨v, vn⟩ : ∃ v : Nat, (v : Int) = w + 40 := ⟨(w + 40).toNat, by omega⟩
  have vn' : (w + 40).toNat = v := by omega
  have hA := r13_At m x (w + 40) oO oO hv oO
  have hLn := r13_Ln2Span (w + 40) oO
  have rl := rln_at (t := v) oO oO
  have rc := rl.1
  have rs := rl.2
  have hLn : Impl Tryz.prog Amb 49 [(.int .i64 (w + 40))] (.agg [(.bool (decide ((rlLo (v : Int)) < 0))), (N ((rlLo (v : Int)).natAbs)), (.bool (decide ((rlHi (v : Int)) < 0))), (N ((rlHi (v : Int)).natAbs))]) := by rw [vn]; exact hLn
  have lf := flr_LD m x (w + 40)
  have sc1 := (flr_sc (dv m x) v).1
  have sc2 := (cei_sc (dv m x) v).1
  rw [vn] at sc1 sc2
  rw [vn']
  generalize flr (dv m x) (w + 40) = xa at *
  generalize cei (dv m x) (w + 40) = xb at *
  generalize rlLo (v : Int) = n1 at *
  generalize rlHi (v : Int) = n2 at *
  clear rl
  have n12 : n1 ≤ n2 := Rat.intCast_le_intCast.1 (Rat.le_trans rc.1 rc.2)
  have pv2 : ((2 ^ v : Nat) : Int) = (2 : Int) ^ v := (pow_cast _).symm
  have ln1 : L n1.natAbs ≤ 70 := abs_big (t := v) (c := 8) oO oO oO
  have ln2 : L n2.natAbs ≤ 70 := abs_big (t := v) (c := 8) oO oO oO
  have te := tm_enc (k := k) rc.1 rc.2
  have q1 := L_abs_mul n1 k
  have q2 := L_abs_mul n2 k
  have lk := L_i64 (n := k) oO
  have hT := r13_Times n1 n2 k oO oO oO
  have hS := r13_Sub xa xb (n1 * k) (n2 * k) oO oO oO oO
  have z1 : -(n2 * k) = -(tmHi n1 n2 k) := by unfold tmHi; rw [if_neg oO]
  have z2 : -(n1 * k) = -(tmLo n1 n2 k) := by unfold tmLo; rw [if_neg oO]
  have g1 := L_abs_add xa (-(n2 * k))
  have g2 := L_abs_add xb (-(n1 * k))
  have g3 := L_abs_neg (n1 * k)
  have g4 := L_abs_neg (n2 * k)
  refine ⟨_, _, _, _, _, _, _, _, ⟨hA, hLn, hT, hS⟩, ⟨by omega, by omega⟩, ?_, ?_⟩
  · rw [z1, Rat.intCast_add, Rat.intCast_neg]; grind
  · rw [z2, Rat.intCast_add, Rat.intCast_neg]; grind
theorem red_refN (m x w k : Int) (hw : 12 ≤ w ∧ w ≤ 140) (hm : L m.natAbs ≤ 2) (hx : -440 ≤ x ∧ x ≤ 104) (hv : vdb m x = true) (hk : -1000 ≤ k ∧ k ≤ 1000) (hk0 : k < 0) : ∃ xa xb n1 n2 t1 t2 s1 s2 : Int, (Impl Tryz.prog Amb 46 [(yV m x), (.int .i64 (w + 40))] (.agg [(.bool (decide (xa < 0))), (N xa.natAbs), (.bool (decide (xb < 0))), (N xb.natAbs)]) ∧ Impl Tryz.prog Amb 49 [(.int .i64 (w + 40))] (.agg [(.bool (decide (n1 < 0))), (N n1.natAbs), (.bool (decide (n2 < 0))), (N n2.natAbs)]) ∧ Impl Tryz.prog Amb 48 [(.agg [(.bool (decide (n1 < 0))), (N n1.natAbs), (.bool (decide (n2 < 0))), (N n2.natAbs)]), (.int .i64 (0 - k))] (.agg [(.bool (decide (t1 < 0))), (N t1.natAbs), (.bool (decide (t2 < 0))), (N t2.natAbs)]) ∧ Impl Tryz.prog Amb 50 [(.agg [(.bool (decide (xa < 0))), (N xa.natAbs), (.bool (decide (xb < 0))), (N xb.natAbs)]), (.agg [(.bool (decide (t1 < 0))), (N t1.natAbs), (.bool (decide (t2 < 0))), (N t2.natAbs)])] (.agg [(.bool (decide (s1 < 0))), (N s1.natAbs), (.bool (decide (s2 < 0))), (N s2.natAbs)])) ∧ (L s1.natAbs ≤ 100 ∧ L s2.natAbs ≤ 100) ∧ (s1 : Rat) ≤ (dv m x - (k : Rat) * cLn) * ((2 ^ (w + 40).toNat : Int) : Rat) ∧ (dv m x - (k : Rat) * cLn) * ((2 ^ (w + 40).toNat : Int) : Rat) ≤ (s2 : Rat) := by
  obtain ⟨v, vn⟩ : ∃ v : Nat, (v : Int) = w + 40 := ⟨(w + 40).toNat, by omega⟩
  have vn' : (w + 40).toNat = v := by omega
  have hA := r13_At m x (w + 40) oO oO hv oO
  have hLn := r13_Ln2Span (w + 40) oO
  have rl := rln_at (t := v) oO oO
  have rc := rl.1
  have rs := rl.2
  have hLn : Impl Tryz.prog Amb 49 [(.int .i64 (w + 40))] (.agg [(.bool (decide ((rlLo (v : Int)) < 0))), (N ((rlLo (v : Int)).natAbs)), (.bool (decide ((rlHi (v : Int)) < 0))), (N ((rlHi (v : Int)).natAbs))]) := by rw [vn]; exact hLn
  have lf := flr_LD m x (w + 40)
  have sc1 := (flr_sc (dv m x) v).1
  have sc2 := (cei_sc (dv m x) v).1
  rw [vn] at sc1 sc2
  rw [vn']
  generalize flr (dv m x) (w + 40) = xa at *
  generalize cei (dv m x) (w + 40) = xb at *
  generalize rlLo (v : Int) = n1 at *
  generalize rlHi (v : Int) = n2 at *
  clear rl
  have n12 : n1 ≤ n2 := Rat.intCast_le_intCast.1 (Rat.le_trans rc.1 rc.2)
  have pv2 : ((2 ^ v : Nat) : Int) = (2 : Int) ^ v := (pow_cast _).symm
  have ln1 : L n1.natAbs ≤ 70 := abs_big (t := v) (c := 8) oO oO oO
  have ln2 : L n2.natAbs ≤ 70 := abs_big (t := v) (c := 8) oO oO oO
  have te := tm_enc (k := k) rc.1 rc.2
  have q1 := L_abs_mul n1 (0 - k)
  have q2 := L_abs_mul n2 (0 - k)
  have lk := L_i64 (n := (0 - k)) oO
  have hT := r13_Times n1 n2 (0 - k) oO oO oO
  have hS := r13_Add xa xb (n1 * (0 - k)) (n2 * (0 - k)) oO oO oO oO
  have z1 : n1 * (0 - k) = -(tmHi n1 n2 k) := by unfold tmHi; rw [if_pos hk0, Int.zero_sub, Int.mul_neg]
  have z2 : n2 * (0 - k) = -(tmLo n1 n2 k) := by unfold tmLo; rw [if_pos hk0, Int.zero_sub, Int.mul_neg]
  have g1 := L_abs_add xa (n1 * (0 - k))
  have g2 := L_abs_add xb (n2 * (0 - k))
  have g3 := L_abs_neg (n1 * (0 - k))
  have g4 := L_abs_neg (n2 * (0 - k))
  refine ⟨_, _, _, _, _, _, _, _, ⟨hA, hLn, hT, hS⟩, ⟨by omega, by omega⟩, ?_, ?_⟩
  · rw [z1, Rat.intCast_add, Rat.intCast_neg]; grind
  · rw [z2, Rat.intCast_add, Rat.intCast_neg]; grind
theorem ivB_of {a b c d : Int} (h1 : vdb a b = true) (h2 : vdb c d = true) (h : dv a b ≤ dv c d) : ivB a b c d = true := by
  unfold ivB
  rw [h1, h2, decide_eq_true (cmpD_le.2 h)]; rfl
theorem meet_const {X : Rat} {A B c d : Int} {s n : Nat} (h1 : (A : Rat) ≤ X * ((2 ^ s : Int) : Rat)) (h2 : X * ((2 ^ s : Int) : Rat) ≤ (B : Rat)) (h3 : (c : Rat) ≤ X * ((2 ^ (s + n) : Int) : Rat)) (h4 : X * ((2 ^ (s + n) : Int) : Rat) ≤ (d : Rat)) : A * 2 ^ n ≤ d ∧ c ≤ B * 2 ^ n :=
  Encl.meet (f := fun _ => X) ⟨0, fun _ _ => ⟨h1, h2⟩⟩ ⟨0, fun _ _ => ⟨h3, h4⟩⟩
theorem red_checks (A B w : Int) (hw : 12 ≤ w ∧ w ≤ 140) (hab : A ≤ B) (h2 : B - A ≤ 2) (hA : 2 * A ≤ 2 ^ w.toNat ∧ -(2 ^ w.toNat) ≤ 2 * A) (hB : 2 * B ≤ 2 ^ w.toNat ∧ -(2 ^ w.toNat) ≤ 2 * B) :
    ∃ a ae b be ha hb fa fb wa wb k1 na nb : Int, (mkM A (-w) = a ∧ mkX A (-w) = ae ∧ mkM B (-w) = b ∧ mkX B (-w) = be) ∧ (Impl Tryz.prog Amb 39 [(wV a ae b be)] (.bool true) ∧ Impl Tryz.prog Amb 40 [(yV a ae), (.int .i64 w)] (.bool true) ∧ Impl Tryz.prog Amb 40 [(yV b be), (.int .i64 w)] (.bool true) ∧ Impl Tryz.prog Amb 41 [(.int .i64 1)] (.tup [(yV ha hb), (.int .i64 0)]) ∧ Impl Tryz.prog Amb 41 [(.int .i64 (w - 2))] (.tup [(yV fa fb), (.int .i64 0)]) ∧ Impl Tryz.prog Amb 42 [(wV a ae b be)] (.tup [(yV wa wb), (.int .i64 0)]) ∧ Impl Tryz.prog Amb 43 [(yV wa wb), (yV fa fb)] (.int .i64 k1) ∧ Impl Tryz.prog Amb 45 [(yV ha hb)] (yV na nb) ∧ Impl Tryz.prog Amb 44 [(wV a ae b be), (wV na nb ha hb)] (.bool true)) ∧ k1 ≤ 0 := by
  have pv2 : ((2 ^ w.toNat : Nat) : Int) = (2 : Int) ^ w.toNat := (pow_cast _).symm
  have lA : L A.natAbs ≤ 70 := abs_big (t := w.toNat) (c := 1) oO oO oO
  have lB : L B.natAbs ≤ 70 := abs_big (t := w.toNat) (c := 1) oO oO oO
  clear pv2
  have fA := mk_fit (m := A) (e := -w) oO oO
  have fB := mk_fit (m := B) (e := -w) oO oO
  have onA := mk_on (p := w) fA.1 oO oO
  have onB' := mk_on (p := w) fB.1 oO oO
  have i1 := iMin_range (-w) 0
  have i2 : iMax (-w) 0 ≤ 0 := by unfold iMax; split <;> omega
  have u1 := mk_unit (p := 1) oO
  have u2 := mk_unit (p := w - 2) oO
  have hU1 := r09_Unit 1 oO
  have hU2 := r09_Unit (w - 2) oO
  rw [u1.2.2.1] at hU1
  rw [u2.2.2.1] at hU2
  have dw : dv (B - A) (-w) = dv B (-w) - dv A (-w) := by
    rw [Int.sub_eq_add_neg, dv_add, dv_neg, Rat.sub_eq_add_neg]
  have d4 : dv (B - A) (-w) ≤ dv 1 (-(w - 2)) := by
    rw [dv_at (m := 1) (e := -(w - 2)) (c := -w) oO, dv_le, show (-(w - 2) - -w).toNat = 2 by omega]
    omega
  have hh : dv 1 (-1) = dv (2 ^ (w - 1).toNat) (-w) := by
    rw [dv_at (m := 1) (e := -1) (c := -w) oO, show (-1 - -w).toNat = (w - 1).toNat by omega, Int.one_mul]
  have pp : (2 : Int) ^ w.toNat = 2 ^ (w - 1).toNat * 2 := by
    rw [show w.toNat = (w - 1).toNat + 1 by omega, Int.pow_succ]
  have b1 : dv A (-w) ≤ dv 1 (-1) := by rw [hh, dv_le]; omega
  have b2 : dv B (-w) ≤ dv 1 (-1) := by rw [hh, dv_le]; omega
  have b3 : -dv 1 (-1) ≤ dv A (-w) := by rw [hh, ← dv_neg, dv_le]; omega
  have b4 : -dv 1 (-1) ≤ dv B (-w) := by rw [hh, ← dv_neg, dv_le]; omega
  have ab : dv A (-w) ≤ dv B (-w) := dv_le.2 hab
  rw [← dv_mk u1.2.2.1] at b1 b2 b3 b4
  rw [← dv_mk u2.2.2.1] at d4
  rw [dw] at d4
  rw [← fA.2.2.2.2.2] at b1 b3 ab d4
  rw [← fB.2.2.2.2.2] at b2 b4 ab d4
  have vA := fA.2.2.2.2.1
  have vB := fB.2.2.2.2.1
  have rA : (-200 ≤ mkX A (-w) ∧ mkX A (-w) ≤ 2240) ∧ L (mkM A (-w)).natAbs ≤ 70 := by omega
  have rB : (-200 ≤ mkX B (-w) ∧ mkX B (-w) ≤ 2240) ∧ L (mkM B (-w)).natAbs ≤ 70 := by omega
  have rU1 : (-200 ≤ mkX 1 (-1) ∧ mkX 1 (-1) ≤ 200) := by omega
  have rU2 : (-200 ≤ mkX 1 (-(w - 2)) ∧ mkX 1 (-(w - 2)) ≤ 200) := by omega
  have lU1 := u1.2.2.2
  have lU2 := u2.2.2.2
  clear fA fB u1 u2 dw hh pp
  have c2 := impl_eq (congrArg V.bool onA) (r09_On (mkM A (-w)) (mkX A (-w)) w oO oO)
  have c3 := impl_eq (congrArg V.bool onB') (r09_On (mkM B (-w)) (mkX B (-w)) w oO oO)
  clear onA onB'
  generalize mkM 1 (-1) = ha at *
  generalize mkX 1 (-1) = hb at *
  generalize mkM 1 (-(w - 2)) = fa at *
  generalize mkX 1 (-(w - 2)) = fb at *
  generalize hga : mkM A (-w) = a at *
  generalize hgae : mkX A (-w) = ae at *
  generalize hgb : mkM B (-w) = b at *
  generalize hgbe : mkX B (-w) = be at *
  have n1 := L_abs_neg a
  have n2 := L_abs_neg ha
  have sl := adS_L (m := b) (e := be) (n := -a) (f := ae) (a := 70) (c := 80) oO oO oO oO
  have j1 := iMin_range be ae
  have sf := mk_fit (m := adS b be (-a) ae) (e := iMin be ae) oO oO
  have j2 := iMin_range (iMin be ae) 0
  have j3 : iMax (iMin be ae) 0 ≤ 2240 := by unfold iMax; split <;> omega
  have hW := r10_Width a ae b be oO oO oO oO
  rw [sf.1] at hW
  have dw2 : dv (mkM (adS b be (-a) ae) (iMin be ae)) (mkX (adS b be (-a) ae) (iMin be ae)) = dv b be - dv a ae := by
    rw [sf.2.2.2.2.2, dv_ad, dv_neg, Rat.sub_eq_add_neg]
  rw [← dw2] at d4
  have hC := r08_Cmp (mkM (adS b be (-a) ae) (iMin be ae)) (mkX (adS b be (-a) ae) (iMin be ae)) fa fb oO oO oO oO
  refine ⟨a, ae, b, be, ha, hb, fa, fb, _, _, _, _, _, ⟨rfl, rfl, rfl, rfl⟩, ⟨?_, c2, c3, hU1, hU2, hW, hC, r08_Neg ha hb oO, ?_⟩, cmpD_le.2 d4⟩
  · exact impl_eq (congrArg V.bool (ivB_of vA vB ab)) (r10_Valid a ae b be oO oO)
  · exact impl_eq (congrArg V.bool (decide_eq_true ⟨cmpD_le.2 (by rw [dv_neg]; exact b3), cmpD_le.2 b2⟩)) (r10_Within a ae b be (-ha) hb ha hb oO oO oO oO oO oO oO oO)
end Go.Proofs.YtekcladflnieeaaGreatDoor




namespace Go.Proofs.YtekcladflnieeaaGreatDoor
open Go.RowKit
set_option maxRecDepth 100000
set_option maxHeartbeats 2000000
theorem mill_DyadicB (b : Bool) (l : List Nat) (e : Int) (n : Int) (k : Int) (c0 : Dig l) (c1 : l.length ≤ 9223372036854775807) (c2 : (-9223372036854775808 : Int) ≤ e ∧ e ≤ 9223372036854775807) (c3 : (0 : Int) ≤ n ∧ n ≤ 90) (c4 : (0 : Int) ≤ k ∧ k ≤ 60000) : Impl Tryz.prog Amb 25 [(.agg [(.bool b), (.sl 1 (U l)), (.int .i64 e)]), (.int .i64 n), (.int .i64 k)] (.tup [(yV (mkM (rawI b l n) (e % (2 * k + 1) - k)) (mkX (rawI b l n) (e % (2 * k + 1) - k))), (.bool (decide ((l.length : Int) ≤ n)))]) := by
  have ej := Int.emod_nonneg e (show (2 * k + 1 : Int) ≠ 0 by omega)
  have ek := Int.emod_lt_of_pos e (show (0 : Int) < 2 * k + 1 by omega)
  exact impl_ob hP hAmb Tryz.func25 (by kernel_rfl) (.lits 2 <| .call (.tup [(zV (rawI b l n)), (.bool (decide ((l.length : Int) ≤ n)))]) <| .lits 2 <| .both (.lits 3 <| .ret) (.lits 3 <| .yes <| .lit <| .yes <| .lit <| .call (.int .i64 (e % (((2 : Int) * k) + 1))) <| .lit <| .yes <| .lit <| .call (mkT (rawI b l n) ((e % (((2 : Int) * k) + 1)) - k)) <| .lits 4 <| .ret))
    (cast_ob (aI True.intro (aI (mill_Int b l n oO oO oO) (have f6 := (rawI_L (b := b) ‹Dig l› (show (0 : Int) ≤ n by omega)); aI (fun (h1 : (!(decide ((l.length : Int) ≤ n))) = true) => have _gh1 := of_decide_eq_false (notb_t h1); (rawd_ret1 oO : vsub (.tup [(.agg [(.bool false), .nil, (.int .i64 0)]), (.bool false)]) (.tup [(yV (mkM (rawI b l n) (e % (2 * k + 1) - k)) (mkX (rawI b l n) (e % (2 * k + 1) - k))), (.bool (decide ((l.length : Int) ≤ n)))]))) (fun (h2 : (!(decide ((l.length : Int) ≤ n))) = false) => have _gh2 := of_decide_eq_true (notb_f h2); aI (fits_i64 oO : (fits .i64 ((2 : Int) * k)) = true) (aI (fits_i64 oO : (fits .i64 (((2 : Int) * k) + 1)) = true) (aI (mill_Mod e (((2 : Int) * k) + 1) oO oO) (have f5 := Int.emod_lt_of_pos e (show (0 : Int) < (((2 : Int) * k) + 1) by omega); have f4 := Int.emod_nonneg e (show ((((2 : Int) * k) + 1) : Int) ≠ 0 by omega); aI (fits_i64 oO : (fits .i64 ((e % (((2 : Int) * k) + 1)) - k)) = true) (aI (r08_Make (rawI b l n) ((e % (((2 : Int) * k) + 1)) - k) oO oO) (have f3 := mk_facts (rawI b l n) ((e % (((2 : Int) * k) + 1)) - k); (vsub_tup2 (vsub_refl _) (vsub_of (congrArg V.bool (rawd_ok (mk_fine3 oO oO) oO))) : vsub (.tup [(yV (mkM (rawI b l n) ((e % (((2 : Int) * k) + 1)) - k)) (mkX (rawI b l n) ((e % (((2 : Int) * k) + 1)) - k))), (.bool (iEq (mkE (rawI b l n) ((e % (((2 : Int) * k) + 1)) - k)) 0))]) (.tup [(yV (mkM (rawI b l n) (e % (2 * k + 1) - k)) (mkX (rawI b l n) (e % (2 * k + 1) - k))), (.bool (decide ((l.length : Int) ≤ n)))]))))))))))) (by kernel_rfl))
theorem mkX_up {m e c : Int} (hc : 0 ≤ c) (h : mkE m e = 0) (he : e ≤ c) : mkX m e ≤ c + 32 * (L m.natAbs : Int) ∧ (e ≤ mkX m e ∨ mkX m e = 0) := by
  have t := tz_L m.natAbs
  rcases mk_cases h with ⟨_, _, h2⟩ | ⟨_, _, h2, _⟩
  · rw [h2]; omega
  · rw [h2]; unfold de; omega
end Go.Proofs.YtekcladflnieeaaGreatDoor

namespace Go.Proofs.YtekcladflnieeaaGreatDoor
open Go.RowKit
set_option maxRecDepth 100000
theorem r13_Touches (m : Int) (e : Int) (n : Int) (f : Int) (p : Int) (g : Int) (q : Int) (h : Int) (c0 : L (m).natAbs ≤ 8192) (c1 : L (n).natAbs ≤ 8192) (c2 : (-65536 : Int) ≤ e ∧ e ≤ 65536) (c3 : (-65536 : Int) ≤ f ∧ f ≤ 65536) (c4 : L (p).natAbs ≤ 8192) (c5 : L (q).natAbs ≤ 8192) (c6 : (-65536 : Int) ≤ g ∧ g ≤ 65536) (c7 : (-65536 : Int) ≤ h ∧ h ≤ 65536) : Impl Tryz.prog Amb 51 [(wV m e n f), (wV p g q h)] (.bool (iEq (ivCmp m e n f p g q h) 0)) := by
  exact impl_ob hP hAmb Tryz.func51 (by kernel_rfl) (.lits 3 <| .call (.int .i64 (ivCmp m e n f p g q h)) <| .lits 2 <| .ret)
    (cast_ob (aI True.intro (aI (r10_Cmp m e n f p g q h oO oO oO oO oO oO oO oO) ((vsub_refl (.bool (iEq (ivCmp m e n f p g q h) 0)))))) (by kernel_rfl))
end Go.Proofs.YtekcladflnieeaaGreatDoor

namespace Go.Proofs.YtekcladflnieeaaGreatDoor
open Go.RowKit
set_option maxRecDepth 100000
set_option maxHeartbeats 2000000
theorem bey_1001 : Impl Tryz.prog Amb 94 [(yV (mkM 1001 0) (mkX 1001 0)), (.int .i64 1000)] (.bool true) := by
  have f := of_fit (n := 1001) oO
  refine impl_eq (congrArg V.bool (decide_eq_true (cmpD_pos.2 ?_))) (ex_beyond (mkM 1001 0) (mkX 1001 0) 1000 oO oO oO)
  rw [f.2.2.2.2.2, (of_fit (n := 1000) oO).2.2.2.2.2]
  exact Rat.intCast_lt_intCast.2 (by decide)
theorem l14_ExponentialReduces (b1 : Bool) (l1 : List Nat) (e1 w : Int) (c0 : Dig l1) (c1 : l1.length ≤ 9223372036854775807) (c2 : (-9223372036854775808 : Int) ≤ e1 ∧ e1 ≤ 9223372036854775807) (c3 : (-9223372036854775808 : Int) ≤ w ∧ w ≤ 9223372036854775807) : Impl Tryz.prog Amb 9 [(.agg [(.bool b1), (.sl 1 (U l1)), (.int .i64 e1)]), .int .i64 w] (.bool true) := by
  have hD := mill_DyadicB b1 l1 e1 2 60 c0 c1 c2 oO oO
  have hr := rawI_L (b := b1) (n := 2) c0 oO
  have ej := Int.emod_nonneg e1 (show (2 * 60 + 1 : Int) ≠ 0 by omega)
  have ek := Int.emod_lt_of_pos e1 (show (0 : Int) < 2 * 60 + 1 by omega)
  have w1 := Int.emod_nonneg w (show (120 : Int) ≠ 0 by omega)
  have w2 := Int.emod_lt_of_pos w (show (0 : Int) < 120 by omega)
  have hE := mk_fine3 (m := (rawI b1 l1 2)) (e := (e1 % (2 * 60 + 1) - 60)) oO oO
  have hf := mk_facts (rawI b1 l1 2) (e1 % (2 * 60 + 1) - 60)
  have hx := mkX_up (c := 60) oO hE oO
  have hv := mk_vdb hE
  generalize (mkM (rawI b1 l1 2) (e1 % (2 * 60 + 1) - 60)) = m at *
  generalize (mkX (rawI b1 l1 2) (e1 % (2 * 60 + 1) - 60)) = ee at *
  have lm : L m.natAbs ≤ 2 := by omega
  have er : -60 ≤ ee ∧ ee ≤ 130 := by omega
  clear hE hx hf hr ej ek
  by_cases hl : (l1.length : Int) ≤ 2
  · rw [decide_eq_true hl] at hD
    obtain ⟨nn, hn, ht⟩ := red_rounds (m := m) (e := ee) lm er
    have hx := shx60_fit (m := m) er (j := nn) hn
    have vx := shx60_v hv er hn
    have tp := (ht nn (Nat.le_refl _)).1 rfl
    have tr := topD_range m (shx m ee nn)
    have x0 : m = 0 → shx m ee nn = 0 := fun h => by unfold shx; rw [if_pos h]
    have dd := dv512 tp
    have hA11 := ex_RedA m (shx m ee nn) 11 oO oO
    have h1001 := r08_Of 1001 oO
    have hL1001 := ex_RedL (mkM 1001 0) (mkX 1001 0) ((12 : Int) + (w % 120)) oO bey_1001
    generalize hxx : shx m ee nn = x at hx vx tp tr dd hA11 x0
    obtain ⟨k, A, B, hR, hk, hw2, ⟨lA, lB⟩, ⟨ab1, ab2⟩, x1, x2⟩ := red_val m x ((12 : Int) + (w % 120)) oO lm oO dd.1 dd.2
    have ab : A ≤ B := Rat.intCast_le_intCast.1 (Rat.le_trans ab1 ab2)
    have pw := Int.le_trans (show (4096 : Int) ≤ 2 ^ 12 by decide) (Int.ofNat_le.2 (Nat.pow_le_pow_right (n := 2) oO (show 12 ≤ ((12 : Int) + (w % 120)).toNat by omega)))
    rw [← pow_cast] at pw
    have sz := red_size rfl pw ab1 ab2 hw2 x1 x2
    obtain ⟨_, _, _, _, ha, hb, fa, fb, wa, wb, k1, na, nb, ⟨rfl, rfl, rfl, rfl⟩, ⟨d1, d2, d3, d4, d5, d6, d7, d8, d9⟩, hk1⟩ := red_checks A B ((12 : Int) + (w % 120)) oO ab hw2 sz.1 sz.2
    subst hxx
    by_cases kp : 0 ≤ k
    · obtain ⟨xa, xb, n1, n2, t1, t2, s1, s2, ⟨g1, g2, g3, g4⟩, ⟨ls1, ls2⟩, se1, se2⟩ := red_refP m (shx m ee nn) ((12 : Int) + (w % 120)) k oO lm oO vx hk oO
      have hOut := r13_Out s1 s2 (((12 : Int) + (w % 120)) + 40) (((12 : Int) + (w % 120)) + 20) oO oO oO
      rw [show ((((12 : Int) + (w % 120)) + 40) - (((12 : Int) + (w % 120)) + 20)).toNat = 20 by omega] at hOut
      have he2 := half_enc (a := s1) (b := s2) (X := dv m (shx m ee nn) - (k : Rat) * cLn) (t := (((12 : Int) + (w % 120)) + 40).toNat) (s := ((12 : Int) + (w % 120)).toNat + 20) (n := 20) oO se1 se2
      have mc := meet_const ab1 ab2 he2.1 he2.2
      have o1 := L_abs_shr s1 20
      have o2 := L_abs_neg s2
      have o3 := L_abs_shr (-s2) 20
      have o4 := L_abs_neg (-s2 / 2 ^ 20)
      generalize s1 / 2 ^ 20 = u1 at hOut mc o1
      generalize -(-s2 / 2 ^ 20) = u2 at hOut mc o4
      have fa := mk_facts A (-((12 : Int) + (w % 120)))
      have fb := mk_facts B (-((12 : Int) + (w % 120)))
      have fc := mk_facts u1 (-(((12 : Int) + (w % 120)) + 20))
      have fd := mk_facts u2 (-(((12 : Int) + (w % 120)) + 20))
      have hTo := r13_Touches (mkM A (-((12 : Int) + (w % 120)))) (mkX A (-((12 : Int) + (w % 120)))) (mkM B (-((12 : Int) + (w % 120)))) (mkX B (-((12 : Int) + (w % 120)))) (mkM u1 (-(((12 : Int) + (w % 120)) + 20))) (mkX u1 (-(((12 : Int) + (w % 120)) + 20))) (mkM u2 (-(((12 : Int) + (w % 120)) + 20))) (mkX u2 (-(((12 : Int) + (w % 120)) + 20))) oO oO oO oO oO oO oO oO
      rw [meets_ok (mk_fine2 oO oO) (mk_fine2 oO oO) (mk_fine2 oO oO) (mk_fine2 oO oO) oO (by rw [show (-((12 : Int) + (w % 120)) - -(((12 : Int) + (w % 120)) + 20)).toNat = 20 by omega]; exact mc.2) (by rw [show (-((12 : Int) + (w % 120)) - -(((12 : Int) + (w % 120)) + 20)).toNat = 20 by omega]; exact mc.1)] at hTo
      exact l14_RedP b1 l1 e1 m ee w k _ _ _ _ _ _ _ _ _ _ _ _ _ _ _ _ _ _ _ _ _ _ _ _ _ _ _ nn l14_awake (by rw [shx_zero hv]; exact hD) c3 oO ht (fun j hj => by have s := shx60_fit (m := m) er (j := j) oO; exact r08_Top m _ oO oO) (fun j hj => shx60_step hv lm er oO) hR d1 d2 d3 d4 d5 d6 d7 d8 d9 g1 g2 g3 g4 hA11 h1001 hL1001 hOut hTo oO oO hk1
    · obtain ⟨xa, xb, n1, n2, t1, t2, s1, s2, ⟨g1, g2, g3, g4⟩, ⟨ls1, ls2⟩, se1, se2⟩ := red_refN m (shx m ee nn) ((12 : Int) + (w % 120)) k oO lm oO vx hk oO
      have hOut := r13_Out s1 s2 (((12 : Int) + (w % 120)) + 40) (((12 : Int) + (w % 120)) + 20) oO oO oO
      rw [show ((((12 : Int) + (w % 120)) + 40) - (((12 : Int) + (w % 120)) + 20)).toNat = 20 by omega] at hOut
      have he2 := half_enc (a := s1) (b := s2) (X := dv m (shx m ee nn) - (k : Rat) * cLn) (t := (((12 : Int) + (w % 120)) + 40).toNat) (s := ((12 : Int) + (w % 120)).toNat + 20) (n := 20) oO se1 se2
      have mc := meet_const ab1 ab2 he2.1 he2.2
      have o1 := L_abs_shr s1 20
      have o2 := L_abs_neg s2
      have o3 := L_abs_shr (-s2) 20
      have o4 := L_abs_neg (-s2 / 2 ^ 20)
      generalize s1 / 2 ^ 20 = u1 at hOut mc o1
      generalize -(-s2 / 2 ^ 20) = u2 at hOut mc o4
      have fa := mk_facts A (-((12 : Int) + (w % 120)))
      have fb := mk_facts B (-((12 : Int) + (w % 120)))
      have fc := mk_facts u1 (-(((12 : Int) + (w % 120)) + 20))
      have fd := mk_facts u2 (-(((12 : Int) + (w % 120)) + 20))
      have hTo := r13_Touches (mkM A (-((12 : Int) + (w % 120)))) (mkX A (-((12 : Int) + (w % 120)))) (mkM B (-((12 : Int) + (w % 120)))) (mkX B (-((12 : Int) + (w % 120)))) (mkM u1 (-(((12 : Int) + (w % 120)) + 20))) (mkX u1 (-(((12 : Int) + (w % 120)) + 20))) (mkM u2 (-(((12 : Int) + (w % 120)) + 20))) (mkX u2 (-(((12 : Int) + (w % 120)) + 20))) oO oO oO oO oO oO oO oO
      rw [meets_ok (mk_fine2 oO oO) (mk_fine2 oO oO) (mk_fine2 oO oO) (mk_fine2 oO oO) oO (by rw [show (-((12 : Int) + (w % 120)) - -(((12 : Int) + (w % 120)) + 20)).toNat = 20 by omega]; exact mc.2) (by rw [show (-((12 : Int) + (w % 120)) - -(((12 : Int) + (w % 120)) + 20)).toNat = 20 by omega]; exact mc.1)] at hTo
      exact l14_RedN b1 l1 e1 m ee w k _ _ _ _ _ _ _ _ _ _ _ _ _ _ _ _ _ _ _ _ _ _ _ _ _ _ _ nn l14_awake (by rw [shx_zero hv]; exact hD) c3 oO ht (fun j hj => by have s := shx60_fit (m := m) er (j := j) oO; exact r08_Top m _ oO oO) (fun j hj => shx60_step hv lm er oO) hR d1 d2 d3 d4 d5 d6 d7 d8 d9 g1 g2 (by rw [Int.zero_sub] at g3 ⊢; exact g3) g4 hA11 h1001 hL1001 hOut hTo oO oO hk1
  · rw [decide_eq_false hl] at hD
    exact l14_RedF b1 l1 e1 w m ee l14_awake hD
end Go.Proofs.YtekcladflnieeaaGreatDoor

namespace Go.Proofs.YtekcladflnieeaaGreatDoor
open Go.ChangeShapes Go.WideShapes Go.ChangeAt Go.RowKit
theorem ownNone : ownKnob Tryz.prog.godebug = none := by kernel_rfl
theorem gTab : Tryz.prog.globalNamed "math/bits.deBruijn32tab" = some 0 := by kernel_rfl
theorem gTabType : (Tryz.prog.globals[0]?).map (·.type) = some 173 := by kernel_rfl
theorem cellsTab : Tryz.prog.cellsOf 173 = 32 := by kernel_rfl
theorem cellsU8 : Tryz.prog.cellsOf 5 = 1 := by kernel_rfl
theorem amb_of {W : World} (h : laidMetH Tryz.prog [("math/bits.deBruijn32tab", Rows.laid_math_bits_deBruijn32tab)] W) : Amb W := by
  have t : Lib.TabIs Tryz.prog W "math/bits.deBruijn32tab" .u8 tab32 := Lib.tabIs_of_head (rest := []) gTab gTabType Tryz.underlying173 Tryz.underlying5 cellsU8 cellsTab h
  intro i v hi
  have hlt : i < tab32.length := by
    rcases Nat.lt_or_ge i tab32.length with q | q
    · exact q
    · rw [List.getElem?_eq_none q] at hi; cases hi
  have h1 := t.cell gTab i hlt
  rw [List.getD_eq_getElem?_getD, hi] at h1
  exact h1
theorem int_wf {n : Int} (h : (Lit.int .i64 n).wf = true) : (-9223372036854775808 : Int) ≤ n ∧ n ≤ 9223372036854775807 := by
  simp only [Lit.wf, Bool.and_eq_true, decide_eq_true_eq] at h
  simp [IntKind.min, IntKind.max, IntKind.signed, IntKind.bits] at h
  omega
noncomputable def laidWorld (os : Os) : World :=
  { World.holding Tryz.prog os ⟨#[], #[], []⟩ with heap := (World.holding Tryz.prog os ⟨#[], #[], []⟩).heap.modify 0 fun
      | .cells _ t frozen => .cells (tab32.map (Value.int .u8)).toArray t frozen
      | o => o }
theorem post_of_below {H : Type} {enc : TypeId × Value → H} {P : Program} {f : Func} {s : ChangeSpec} {apart fresh handsOn again : Bool} {W W' : World} {args : Array Value} {v : Value} {ds gs : List (DataW H)} {before pa pv : List MemPlace}
    (hW : DataW.Whole enc P f.params.toList s.vars apart W args.toList ds gs before)
    (hres : ∀ (b : Nat) (sp : Nat → Bool) (hd : Bool), DataW.TrodAll enc P W' b sp hd f.resultTypes.toList (v.resultList f.resultTypes.size) (s.fn H (ds ++ gs)).results [])
    (hargs : ∀ sp : Nat → Bool, (∀ p ∈ before, sp p.block = true) → DataW.TrodAll enc P W' 0 sp true f.params.toList args.toList (s.fn H (ds ++ gs)).args pa)
    (hvars : ∀ sp : Nat → Bool, (∀ p ∈ before, sp p.block = true) → DataW.TrodVars enc P W' sp s.vars (s.fn H (ds ++ gs)).vars pv)
    (hps : before = pa ++ pv) (hb : Below W.heap.size W W')
    (hok : ∀ (j : Nat) (t : TypeId) (r : Value), f.resultTypes[j]? = some t → (v.resultList f.resultTypes.size)[j]? = some r → Value.okWide P W' .any 0 t r) : s.post enc P f apart fresh handsOn again W args v W' := by
  have lt := hW.lt
  have old : ∀ p ∈ before, (fun b => decide (b < W.heap.size)) p.block = true := fun p hp => decide_eq_true (lt p hp)
  subst hps
  refine ⟨ds, gs, pa ++ pv, [], pa, pv, hW, hres _ _ _, hargs _ old, hvars _ old, hb.frame _, fun _ => ?_⟩
  obtain ⟨_, _, _, _, _, hz, hn⟩ := hW
  have h1 := trodAll_append (hargs (fun _ => true) fun _ _ => rfl) (hres 0 (fun _ => true) true)
  refine ⟨hok, _, _, _, ⟨_, pv, h1, hvars _ fun _ _ => rfl, rfl, fun b off hp => ?_, fun ha => ?_⟩, fun p hp _ => ?_⟩
  · have hp' : MemPlace.cell b off ∈ pa ++ pv := by simpa using hp
    rw [hb.frozen (lt _ hp')]
    exact hz b off hp'
  · simpa using hn ha
  · simpa using hp
end Go.Proofs.YtekcladflnieeaaGreatDoor

namespace Go.Proofs.YtekcladflnieeaaGreatDoor
open Go.ChangeShapes Go.WideShapes Go.ChangeAt Go.RowKit
set_option maxRecDepth 100000
variable {H : Type} {enc : TypeId × Value → H} {W : World} {sp : Nat → Bool} {held : Bool}
theorem laidOut : laidOutB Tryz.prog = true := by kernel_rfl
theorem cellsU32 : Tryz.prog.cellsOf 124 = 1 := by kernel_rfl
theorem cellsSl : Tryz.prog.cellsOf 22 = 1 := by kernel_rfl
theorem cellsBool : Tryz.prog.cellsOf 4 = 1 := by kernel_rfl
theorem cellsInt : Tryz.prog.cellsOf 3 = 1 := by kernel_rfl
theorem cellsZ : Tryz.prog.cellsOf 24 = 2 := by kernel_rfl
theorem cellsY : Tryz.prog.cellsOf 26 = 3 := by kernel_rfl
theorem rdl_U (S : Nat → Prop) : ∀ l : List Nat, RdL W S (l.map fun (d : Nat) => Value.int .u32 (d : Int)) (U l)
  | [] => .nil
  | _ :: l => .cons .int (rdl_U S l)
theorem wf_u32 {n : Int} (h : (Lit.int .u32 n).wf = true) : 0 ≤ n ∧ n < 4294967296 := by
  simp only [Lit.wf, Bool.and_eq_true, decide_eq_true_eq] at h
  simp [IntKind.min, IntKind.max, IntKind.signed, IntKind.bits] at h
  omega
theorem open_slice32 {n : Nat} {c : Value} {x : DataW H × List MemPlace} {b0 : Nat} (h : DataW.trod enc Tryz.prog W 0 sp held n 22 [c] = some x) (hok : Cell.okWide Tryz.prog W .any b0 22 c) :
    ∃ l : List Nat, Dig l ∧ l.length ≤ maxLen ∧ Rd W (fun _ => True) c (.sl 1 (U l)) := by
  rcases open_ints Tryz.underlying22 Tryz.underlying124 cellsU32 h with ⟨hc, _⟩ | ⟨a, len, cap, zs, hc, _, hl, hm, hz, _, hcell, hwf⟩
  · obtain rfl : c = .slice none 0 0 := by simpa using hc
    exact ⟨[], (fun d hd => by cases hd), Nat.zero_le _, .nilsl⟩
  · obtain rfl : c = .slice (some a) len cap := by simpa using hc
    have hlen : len ≤ zs.length := by rw [hz]; split <;> omega
    simp only [Cell.okWide, Cell.ok, Tryz.underlying22, World.has] at hok
    obtain ⟨_, _, _, hs, row, cells, hsh, _⟩ := hok
    obtain ⟨ab, ao, spot⟩ := a
    simp only at hs hsh
    subst hs
    have hb : ab < W.heap.size := by
      unfold World.shape? at hsh
      split at hsh
      · rename_i q; exact (Array.getElem?_eq_some_iff.1 q).1
      · cases hsh
    refine ⟨(zs.take len).map Int.toNat, ?_, ?_, ?_⟩
    · intro d hd
      obtain ⟨z, hz', rfl⟩ := List.mem_map.1 hd
      have := wf_u32 (hwf z (List.mem_of_mem_take hz'))
      show z.toNat < 4294967296
      omega
    · simp; omega
    · refine .sl (vals := ((zs.take len).map Int.toNat).map fun (d : Nat) => Value.int .u32 (d : Int)) trivial hb hl (by simp [U]; omega) (rdl_U _ _) ?_
      intro i v hv
      simp only [List.getElem?_map, Option.map_eq_some_iff] at hv
      obtain ⟨d, ⟨z, hz', rfl⟩, rfl⟩ := hv
      have hi : i < len := by
        rcases Nat.lt_or_ge i len with q | q
        · exact q
        · rw [List.getElem?_eq_none (by simp; omega)] at hz'; cases hz'
      rw [List.getElem?_take, if_pos hi] at hz'
      have h1 := hcell i (by omega)
      rw [List.getD_eq_getElem?_getD, hz'] at h1
      have h2 := wf_u32 (hwf z (List.mem_of_getElem? hz'))
      have h3 : ((z.toNat : Nat) : Int) = z := Int.toNat_of_nonneg h2.1
      simp only [Option.getD_some] at h1
      rw [h3]
      have h4 : (Addr.mk ab ao none).add i = ⟨ab, ao + i, none⟩ := by
        unfold Addr.add; split
        · rename_i q; subst q; rfl
        · rfl
      rw [h4] at h1
      exact h1
theorem open_Z {n : Nat} {c0 c1 : Value} {x : DataW H × List MemPlace} {b0 : Nat} (h : DataW.trod enc Tryz.prog W 0 sp held n 24 [c0, c1] = some x) (hok : Cell.okWide Tryz.prog W .any b0 22 c1) :
    ∃ (b : Bool) (l : List Nat), Dig l ∧ l.length ≤ maxLen ∧ RdL W (fun _ => True) [c0, c1] [.bool b, .sl 1 (U l)] := by
  obtain ⟨y0, y1, m, _, _, h0, h1⟩ := trod_struct2 Tryz.underlying24 h
  have k0 : DataW.trod enc Tryz.prog W 0 sp held m 4 [c0] = some y0 := by simpa [cellsBool] using h0
  have k1 : DataW.trod enc Tryz.prog W 0 sp held m 22 [c1] = some y1 := by simpa [cellsSl] using h1
  obtain ⟨b, hb, _⟩ := DataW.trod_bool Tryz.underlying4 k0
  obtain rfl : c0 = .bool b := by simpa using hb
  obtain ⟨l, d, e, r⟩ := open_slice32 k1 hok
  exact ⟨b, l, d, e, .cons .bool (.cons r .nil)⟩
theorem open_Y {n : Nat} {c0 c1 c2 : Value} {x : DataW H × List MemPlace} {b0 : Nat} (h : DataW.trod enc Tryz.prog W 0 sp held n 26 [c0, c1, c2] = some x) (hok : Cell.okWide Tryz.prog W .any b0 22 c1) :
    ∃ (b : Bool) (l : List Nat) (e : Int), Dig l ∧ l.length ≤ maxLen ∧ ((-9223372036854775808 : Int) ≤ e ∧ e ≤ 9223372036854775807) ∧ RdL W (fun _ => True) [c0, c1, c2] [.bool b, .sl 1 (U l), .int .i64 e] := by
  obtain ⟨y0, y1, m, _, _, h0, h1⟩ := trod_struct2 Tryz.underlying26 h
  have k0 : DataW.trod enc Tryz.prog W 0 sp held m 24 [c0, c1] = some y0 := by simpa [cellsZ] using h0
  have k1 : DataW.trod enc Tryz.prog W 0 sp held m 3 [c2] = some y1 := by simpa [cellsInt] using h1
  obtain ⟨b, l, d, e, r⟩ := open_Z k0 hok
  obtain ⟨z, hz, _, hw⟩ := DataW.trod_int Tryz.underlying3 k1
  obtain rfl : c2 = .int .i64 z := by simpa using hz
  cases r with | cons r0 r => cases r with | cons r1 r => cases r with | nil =>
    exact ⟨b, l, z, d, e, int_wf hw, .cons r0 (.cons r1 (.cons .int .nil))⟩
end Go.Proofs.YtekcladflnieeaaGreatDoor

namespace Go.Proofs.YtekcladflnieeaaGreatDoor
open Go.ChangeShapes Go.WideShapes Go.ChangeAt Go.RowKit
set_option maxRecDepth 100000
variable {H : Type} {enc : TypeId × Value → H} {W : World} {sp : Nat → Bool} {held : Bool}
theorem array3 {α : Type} {cs : Array α} (h : cs.size = 3) : ∃ c0 c1 c2, cs = #[c0, c1, c2] := by
  obtain ⟨l⟩ := cs
  match l, h with
  | [c0, c1, c2], _ => exact ⟨c0, c1, c2, rfl⟩
end Go.Proofs.YtekcladflnieeaaGreatDoor

namespace Go.Proofs.YtekcladflnieeaaGreatDoor
open Go.ChangeShapes Go.WideShapes Go.ChangeAt Go.RowKit
set_option maxRecDepth 100000
variable {H : Type} {enc : TypeId × Value → H} {W : World} {sp : Nat → Bool} {held : Bool}
theorem open_D {v : Value} {d : DataW H} {p : List MemPlace} {b0 : Nat} (hv : Value.okWide Tryz.prog W .any b0 26 v) (h : DataW.Trod enc Tryz.prog W 0 sp held 26 v d p) :
    ∃ (b : Bool) (l : List Nat) (e : Int), (Dig l ∧ l.length ≤ maxLen ∧ ((-9223372036854775808 : Int) ≤ e ∧ e ≤ 9223372036854775807)) ∧ Rd W (fun _ => True) v (.agg [.bool b, .sl 1 (U l), .int .i64 e]) := by
  simp only [Value.okWide, Tryz.underlying26] at hv
  obtain ⟨cs, rfl, hsz, ts, hts, _, hrow⟩ := hv
  have e0 : Tryz.prog.cellTypes Tryz.prog.depth 26 = some [4, 22, 3] := by kernel_rfl
  rw [e0] at hts
  obtain rfl := Option.some.inj hts
  obtain ⟨c0, c1, c2, rfl⟩ := array3 (hsz.trans cellsY)
  obtain ⟨u1, q1, ok1⟩ := hrow 1 c1 rfl
  obtain rfl : 22 = u1 := by simpa using q1
  obtain ⟨n, hn⟩ := h
  have k : DataW.trod enc Tryz.prog W 0 sp held n 26 [c0, c1, c2] = some (d, p) := by simpa [Value.cells] using hn
  obtain ⟨b, l, e, d1, d2, d3, r1⟩ := open_Y k ok1
  exact ⟨b, l, e, ⟨d1, d2, d3⟩, .agg r1⟩
end Go.Proofs.YtekcladflnieeaaGreatDoor

namespace Go.Proofs.YtekcladflnieeaaGreatDoor.exponentialReduces
open Go.ChangeShapes Go.WideShapes Go.ChangeAt Go.RowKit
set_option maxRecDepth 100000 in
theorem contract (H : Type) (enc : TypeId × Value → H) (W : World) (base : Nat) (args : Array Value) (ds gs : List (DataW H)) (before : List MemPlace)
    (hval : ∀ (j : Nat) t v, Tryz.f9.params[j]? = some t → args[j]? = some v → Value.okWide Tryz.prog W .any base t v)
    (hW : DataW.Whole enc Tryz.prog Tryz.f9.params.toList Rows.exponentialReducesSpec.vars false W args.toList ds gs before) (hL : laidMetH Tryz.prog Rows.exponentialReducesRow.laid W) :
    Calls Tryz.prog 9 args W fun e W' => ∃ v, e = .returned v ∧ Rows.exponentialReducesSpec.post enc Tryz.prog Tryz.f9 false true false false W args v W' := by
  have hW' := hW
  obtain ⟨p, q, hA0, hV, rfl, hfz, hnd⟩ := hW
  have hA : DataW.TrodAll enc Tryz.prog W 0 (fun _ => true) true Tryz.f9.params.toList args.toList ds p := hA0
  rw [Tryz.params9] at hA hval
  obtain ⟨v0, vs0, d0, ds0, p0, q0, hargs0, rfl, rfl, h0, r0⟩ := trodAll_cons hA
  obtain ⟨v1, vs1, d1, ds1, p1, q1, hargs1, rfl, rfl, h1, r1⟩ := trodAll_cons r0
  obtain ⟨rfl, rfl, rfl⟩ := trodAll_nil r1
  obtain rfl : args = #[v0, v1] := by cases args; simp_all
  obtain ⟨rfl, rfl⟩ := trodVars_none hV
  obtain ⟨b0, l0, e0, ⟨a0, a0', a0''⟩, t0⟩ := open_D (hval 0 26 v0 rfl rfl) h0
  have m0 : l0.length ≤ 9223372036854775807 := a0'
  have k1 := h1
  obtain ⟨x1, rfl, rfl, rfl, w1⟩ := open_int Tryz.underlying3 (hval 1 3 v1 rfl rfl) h1
  have b1 := int_wf w1
  clear hA0
  have hlt := hW'.lt
  have hI := l14_ExponentialReduces b0 l0 e0 x1 a0 m0 a0'' b1
  have hC := hI.2 W (fun _ => True) [v0, .int .i64 x1] (amb_of hL) (fun _ _ => trivial) (.cons t0 (.cons .int (.nil)))
  refine hC.mono fun e W' hh => ?_
  obtain ⟨v, rfl, hv, hb⟩ := hh
  have hv := hv.bool_inv
  subst hv
  exact ⟨_, rfl, post_of_below (pa := (p0 ++ ([] ++ []))) (pv := []) hW' (fun _ _ _ => trodAll_cons_mk (shut_bool Tryz.underlying4 _) trodAll_mk0) (fun sp hsp => (trodAll_cons_mk (WideElems.Trod_stays laidOut (by kernel_rfl) (of_decide_eq_true (by kernel_rfl)) h0 (fun x hx => hb.same (hlt x (by simp [hx]))) (fun x hx => hsp x (by simp [hx]))) (trodAll_cons_mk (shut_int Tryz.underlying3 w1) trodAll_mk0))) (fun _ _ => rfl) rfl
    hb (ok_one (by kernel_rfl) rfl (okWide_bool_mk Tryz.underlying4 _))⟩
theorem laid_met (os : Os) : laidMet Tryz.prog Rows.exponentialReducesRow.laid ((laidWorld os).forCall (fun _ _ => 0) ⟨#[], #[.agg #[.bool false, .slice none 0 0, .int .i64 0], .int .i64 0], []⟩).memory :=
  laidMet_of_run' 64 (by kernel_rfl) (by kernel_rfl)
theorem reads (os : Os) {H : Type} (enc : TypeId × Value → H) : ∃ places, DataW.whole enc Tryz.prog ((laidWorld os).forCall (fun _ _ => 0) ⟨#[], #[.agg #[.bool false, .slice none 0 0, .int .i64 0], .int .i64 0], []⟩).memory Tryz.f9.params.toList Rows.exponentialReducesSpec.vars false #[Value.agg #[.bool false, .slice none 0 0, .int .i64 0], Value.int .i64 0].toList 64 = some ([.agg [.agg [.lit (.bool false), .nil], .lit (.int .i64 0)], .lit (.int .i64 0)], [], places) :=
  ⟨[], by kernel_rfl⟩
set_option maxRecDepth 100000 in
theorem lifted (os : Os) (started : os.Started) (H : Type) (enc : TypeId × Value → H) (F : Stop.Interp) :
    ReturnsInHanded {} Tryz.checked os 9 .any ((OpenSpec.ofChange Rows.exponentialReducesSpec).preRow enc Tryz.prog Tryz.f9 Rows.exponentialReducesRow.domain false Rows.exponentialReducesRow.laid) (((OpenSpec.ofChange Rows.exponentialReducesSpec).at F).post enc Tryz.prog Tryz.f9 false true false false) := by
  obtain ⟨places, hx⟩ := reads os enc
  refine returnsInHanded_of_row (C := Tryz.checked) (s := OpenSpec.ofChange Rows.exponentialReducesSpec) ownNone started (by kernel_rfl) Tryz.func9
    (witness_row_at (enc := enc) (C := Tryz.checked) false (laidWorld os) #[.agg #[.bool false, .slice none 0 0, .int .i64 0], .int .i64 0] rfl (by kernel_rfl) (by kernel_rfl) (by kernel_rfl)
      (OpenSpec.preRow_of_cond 64 hx (by kernel_rfl) (fun k hk => by cases hk) (by kernel_rfl) (laid_met os))) ?_
  intro W base args ds gs before hval hW _ _ _ hL _ _
  exact contract H enc W base args ds gs before hval hW hL
end Go.Proofs.YtekcladflnieeaaGreatDoor.exponentialReduces
