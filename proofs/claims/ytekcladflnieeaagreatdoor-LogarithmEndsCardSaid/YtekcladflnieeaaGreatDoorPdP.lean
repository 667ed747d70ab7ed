/-
  Lower layers: what functions of the program compute, and plain facts. Conditions: as the theorems say.
-/
import Derived.Test.YtekcladflnieeaaGreatDoorPdO
set_option linter.unusedVariables false
set_option linter.unusedSimpArgs false
namespace Go.Proofs.YtekcladflnieeaaGreatDoor
open Go.RowKit
set_option maxRecDepth 100000
theorem fx_One (s : Int) (c0 : (0 : Int) ≤ s ∧ s ≤ 20000) : Impl Tryz.prog Amb 210 [(.int .i64 s)] (.agg [(.bool (decide (((1 : Int) * 2 ^ (s).toNat) < 0))), (N (((1 : Int) * 2 ^ (s).toNat).natAbs)), (.bool (decide (((1 : Int) * 2 ^ (s).toNat) < 0))), (N (((1 : Int) * 2 ^ (s).toNat).natAbs))]) := by
  exact impl_ob hP hAmb Tryz.func210 (by kernel_rfl) (.lit <| .call (zV (1 : Int)) <| .lit <| .call (zV ((1 : Int) * 2 ^ (s).toNat)) <| .lit <| .call (.agg [(.bool (decide (((1 : Int) * 2 ^ (s).toNat) < 0))), (N (((1 : Int) * 2 ^ (s).toNat).natAbs)), (.bool (decide (((1 : Int) * 2 ^ (s).toNat) < 0))), (N (((1 : Int) * 2 ^ (s).toNat).natAbs))]) <| .lits 2 <| .ret)
    (cast_ob (aI True.intro (aI (int_Of 1 oO) (have f2 := (L_i64 oO : L (1 : Int).natAbs ≤ 2); aI (int_Shl (1 : Int) s oO oO) (have f1 := L_abs_shl (1 : Int) (s).toNat; aI (fx_Exact ((1 : Int) * 2 ^ (s).toNat) oO) ((vsub_refl (.agg [(.bool (decide (((1 : Int) * 2 ^ (s).toNat) < 0))), (N (((1 : Int) * 2 ^ (s).toNat).natAbs)), (.bool (decide (((1 : Int) * 2 ^ (s).toNat) < 0))), (N (((1 : Int) * 2 ^ (s).toNat).natAbs))]))))))) (by kernel_rfl))
theorem fx_Of (m : Int) (e : Int) (s : Int) (c0 : L (m).natAbs ≤ 8192) (c1 : (-200000 : Int) ≤ e ∧ e ≤ 200000) (c2 : (0 : Int) ≤ s ∧ s ≤ 20000) : Impl Tryz.prog Amb 105 [(yV m e), (.int .i64 s)] (.agg [(.bool (decide ((flr (dv m e) s) < 0))), (N ((flr (dv m e) s).natAbs)), (.bool (decide ((cei (dv m e) s) < 0))), (N ((cei (dv m e) s).natAbs))]) := by
  exact impl_ob hP hAmb Tryz.func105 (by kernel_rfl) (.lits 2 <| .yes <| .lit <| .both (.lits 2 <| .call (zV (m * 2 ^ ((e + s)).toNat)) <| .lit <| .call (.agg [(.bool (decide ((m * 2 ^ ((e + s)).toNat) < 0))), (N ((m * 2 ^ ((e + s)).toNat).natAbs)), (.bool (decide ((m * 2 ^ ((e + s)).toNat) < 0))), (N ((m * 2 ^ ((e + s)).toNat).natAbs))]) <| .lits 2 <| .ret) (.lits 2 <| .call (.agg [(.bool (decide (m < 0))), (N m.natAbs), (.bool (decide (m < 0))), (N m.natAbs)]) <| .lit <| .yes <| .lit <| .call (.agg [(.bool (decide ((m / 2 ^ (((0 : Int) - (e + s))).toNat) < 0))), (N ((m / 2 ^ (((0 : Int) - (e + s))).toNat).natAbs)), (.bool (decide ((-(-m / 2 ^ (((0 : Int) - (e + s))).toNat)) < 0))), (N ((-(-m / 2 ^ (((0 : Int) - (e + s))).toNat)).natAbs))]) <| .lits 2 <| .ret))
    (cast_ob (aI True.intro (aI (fits_i64 oO : (fits .i64 (e + s)) = true) (aI (fun (h1 : (iGe (e + s) 0) = true) => have _gh1 := iGe_t h1; aI (int_Shl m (e + s) oO oO) (have f2 := L_abs_shl m ((e + s)).toNat; aI (fx_Exact (m * 2 ^ ((e + s)).toNat) oO) ((by rw [← (of_ge (m := m) (e := e) (s := s) oO).1, ← (of_ge (m := m) (e := e) (s := s) oO).2]; exact vsub_refl _ : vsub (.agg [(.bool (decide ((m * 2 ^ ((e + s)).toNat) < 0))), (N ((m * 2 ^ ((e + s)).toNat).natAbs)), (.bool (decide ((m * 2 ^ ((e + s)).toNat) < 0))), (N ((m * 2 ^ ((e + s)).toNat).natAbs))]) (.agg [(.bool (decide ((flr (dv m e) s) < 0))), (N ((flr (dv m e) s).natAbs)), (.bool (decide ((cei (dv m e) s) < 0))), (N ((cei (dv m e) s).natAbs))]))))) (fun (h3 : (iGe (e + s) 0) = false) => have _gh3 := iGe_f h3; aI (fx_Exact m oO) (aI (fits_i64 oO : (fits .i64 ((0 : Int) - (e + s))) = true) (aI (fx_Half m m ((0 : Int) - (e + s)) oO oO oO) (have f7 := L_abs_neg (-m / 2 ^ (((0 : Int) - (e + s))).toNat); have f6 := L_abs_shr (-m) (((0 : Int) - (e + s))).toNat; have f5 := L_abs_neg m; have f4 := L_abs_shr m (((0 : Int) - (e + s))).toNat; (by rw [← (of_lt (m := m) (e := e) (s := s) oO).1, ← (of_lt (m := m) (e := e) (s := s) oO).2]; exact vsub_refl _ : vsub (.agg [(.bool (decide ((m / 2 ^ (((0 : Int) - (e + s))).toNat) < 0))), (N ((m / 2 ^ (((0 : Int) - (e + s))).toNat).natAbs)), (.bool (decide ((-(-m / 2 ^ (((0 : Int) - (e + s))).toNat)) < 0))), (N ((-(-m / 2 ^ (((0 : Int) - (e + s))).toNat)).natAbs))]) (.agg [(.bool (decide ((flr (dv m e) s) < 0))), (N ((flr (dv m e) s).natAbs)), (.bool (decide ((cei (dv m e) s) < 0))), (N ((cei (dv m e) s).natAbs))]))))))))) (by kernel_rfl))
theorem fx_Twice (a : Int) (b : Int) (n : Int) (c0 : L (a).natAbs ≤ 65536) (c1 : L (b).natAbs ≤ 65536) (c2 : (0 : Int) ≤ n ∧ n ≤ 20000) : Impl Tryz.prog Amb 213 [(.agg [(.bool (decide (a < 0))), (N a.natAbs), (.bool (decide (b < 0))), (N b.natAbs)]), (.int .i64 n)] (.agg [(.bool (decide ((a * 2 ^ (n).toNat) < 0))), (N ((a * 2 ^ (n).toNat).natAbs)), (.bool (decide ((b * 2 ^ (n).toNat) < 0))), (N ((b * 2 ^ (n).toNat).natAbs))]) := by
  exact impl_ob hP hAmb Tryz.func213 (by kernel_rfl) (.lits 2 <| .call (zV (a * 2 ^ (n).toNat)) <| .lits 2 <| .call (zV (b * 2 ^ (n).toNat)) <| .lits 3 <| .ret)
    (cast_ob (aI True.intro (aI (int_Shl a n oO oO) (have f2 := L_abs_shl a (n).toNat; aI (int_Shl b n oO oO) (have f1 := L_abs_shl b (n).toNat; (vsub_refl (.agg [(.bool (decide ((a * 2 ^ (n).toNat) < 0))), (N ((a * 2 ^ (n).toNat).natAbs)), (.bool (decide ((b * 2 ^ (n).toNat) < 0))), (N ((b * 2 ^ (n).toNat).natAbs))])))))) (by kernel_rfl))
theorem fx_Mul (a : Int) (b : Int) (c : Int) (d : Int) (s : Int) (c0 : L (a).natAbs ≤ 8192) (c1 : L (b).natAbs ≤ 8192) (c2 : L (c).natAbs ≤ 8192) (c3 : L (d).natAbs ≤ 8192) (c4 : (0 : Int) ≤ s ∧ s ≤ 20000) : Impl Tryz.prog Amb 239 [(.agg [(.bool (decide (a < 0))), (N a.natAbs), (.bool (decide (b < 0))), (N b.natAbs)]), (.agg [(.bool (decide (c < 0))), (N c.natAbs), (.bool (decide (d < 0))), (N d.natAbs)]), (.int .i64 s)] (.agg [(.bool (decide ((a * c / 2 ^ (s).toNat) < 0))), (N ((a * c / 2 ^ (s).toNat).natAbs)), (.bool (decide ((-(-(b * d) / 2 ^ (s).toNat)) < 0))), (N ((-(-(b * d) / 2 ^ (s).toNat)).natAbs))]) := by
  exact impl_ob hP hAmb Tryz.func239 (by kernel_rfl) (.lits 3 <| .call (zV (a * c)) <| .lit <| .call (zV ((a * c) / 2 ^ (s).toNat)) <| .lits 3 <| .call (zV (b * d)) <| .lit <| .call (zV (-(-(b * d) / 2 ^ (s).toNat))) <| .lits 3 <| .ret)
    (cast_ob (aI True.intro (aI (int_Mul a c oO oO) (have f6 := L_abs_mul a c; aI (int_Shr (a * c) s oO oO) (have f5 := L_abs_shr (a * c) (s).toNat; aI (int_Mul b d oO oO) (have f4 := L_abs_mul b d; aI (fx_up (b * d) s oO oO) (have f3 := L_abs_neg (-(b * d) / 2 ^ (s).toNat); have f2 := L_abs_shr (-(b * d)) (s).toNat; have f1 := L_abs_neg (b * d); (vsub_of (by first | rfl | simp_all) : vsub (.agg [(.bool (decide (((a * c) / 2 ^ (s).toNat) < 0))), (N (((a * c) / 2 ^ (s).toNat).natAbs)), (.bool (decide ((-(-(b * d) / 2 ^ (s).toNat)) < 0))), (N ((-(-(b * d) / 2 ^ (s).toNat)).natAbs))]) (.agg [(.bool (decide ((a * c / 2 ^ (s).toNat) < 0))), (N ((a * c / 2 ^ (s).toNat).natAbs)), (.bool (decide ((-(-(b * d) / 2 ^ (s).toNat)) < 0))), (N ((-(-(b * d) / 2 ^ (s).toNat)).natAbs))])))))))) (by kernel_rfl))
theorem fx_TimesN (a : Int) (b : Int) (n : Int) (c0 : L (a).natAbs ≤ 65536) (c1 : L (b).natAbs ≤ 65536) (c2 : (-9223372036854775808 : Int) ≤ n ∧ n < 0) : Impl Tryz.prog Amb 110 [(.agg [(.bool (decide (a < 0))), (N a.natAbs), (.bool (decide (b < 0))), (N b.natAbs)]), (.int .i64 n)] (.agg [(.bool (decide ((b * n) < 0))), (N ((b * n).natAbs)), (.bool (decide ((a * n) < 0))), (N ((a * n).natAbs))]) := by
  exact impl_ob hP hAmb Tryz.func110 (by kernel_rfl) (.lit <| .call (zV n) <| .lits 2 <| .yes <| .lits 3 <| .call (zV (b * n)) <| .lits 3 <| .call (zV (a * n)) <| .lits 3 <| .ret)
    (cast_ob (aI True.intro (aI (int_Of n oO) (have f3 := (L_i64 oO : L (n : Int).natAbs ≤ 2); aI (iLt_mk oO : (iLt n 0) = true) (aI (int_Mul b n oO oO) (have f2 := L_abs_mul b n; aI (int_Mul a n oO oO) (have f1 := L_abs_mul a n; (vsub_refl (.agg [(.bool (decide ((b * n) < 0))), (N ((b * n).natAbs)), (.bool (decide ((a * n) < 0))), (N ((a * n).natAbs))])))))))) (by kernel_rfl))
theorem fx_TimesA (a b n : Int) (c0 : L (a).natAbs ≤ 65536) (c1 : L (b).natAbs ≤ 65536) (c2 : (-9223372036854775808 : Int) ≤ n ∧ n ≤ 9223372036854775807) : Impl Tryz.prog Amb 110 [(.agg [(.bool (decide (a < 0))), (N a.natAbs), (.bool (decide (b < 0))), (N b.natAbs)]), .int .i64 n] (.agg [(.bool (decide ((tmLo a b n) < 0))), (N ((tmLo a b n).natAbs)), (.bool (decide ((tmHi a b n) < 0))), (N ((tmHi a b n).natAbs))]) := by
  by_cases h : n < 0
  · unfold tmLo tmHi
    rw [if_pos h, if_pos h]
    exact fx_TimesN a b n c0 c1 ⟨by omega, h⟩
  · unfold tmLo tmHi
    rw [if_neg h, if_neg h]
    exact fx_Times a b n c0 c1 ⟨by omega, by omega⟩
theorem fx_Part (a : Int) (b : Int) (d : Int) (c0 : L (a).natAbs ≤ 65536) (c1 : L (b).natAbs ≤ 65536) (c2 : (0 : Int) < d ∧ d < 4294967296) : Impl Tryz.prog Amb 241 [(.agg [(.bool (decide (a < 0))), (N a.natAbs), (.bool (decide (b < 0))), (N b.natAbs)]), (.int .u32 d)] (.agg [(.bool (decide ((ptLo a d) < 0))), (N ((ptLo a d).natAbs)), (.bool (decide ((ptHi b d) < 0))), (N ((ptHi b d).natAbs))]) := by
  have z1 := L_lit 1 (by decide)
  exact impl_ob hP hAmb Tryz.func241 (by kernel_rfl) (.lits 2 <| .call (.tup [(N (a.natAbs / (d).toNat)), (.int .u32 ((a.natAbs % (d).toNat : Nat) : Int)), (.bool true)]) <| .lits 2 <| .call (.tup [(N (b.natAbs / (d).toNat)), (.int .u32 ((b.natAbs % (d).toNat : Nat) : Int)), (.bool true)]) <| .lit <| .both (.lit <| .call (N 1) <| .lit <| .call (N ((b.natAbs / (d).toNat) + 1)) <| .lit <| .call (zV (sgn false (a.natAbs / (d).toNat))) <| .lit <| .call (zV (sgn false ((b.natAbs / (d).toNat) + 1))) <| .lits 3 <| .ret) (.lit <| .call (zV (sgn false (a.natAbs / (d).toNat))) <| .lit <| .call (zV (sgn false (b.natAbs / (d).toNat))) <| .lits 3 <| .ret))
    (cast_ob (aI True.intro (aI (quot_SmallI a.natAbs d oO oO) (have f9 := L_div a.natAbs (d).toNat; aI (quot_SmallI b.natAbs d oO oO) (have f8 := L_div b.natAbs (d).toNat; aI (fun (h1 : (iNe ((b.natAbs % (d).toNat : Nat) : Int) 0) = true) => have _gh1 := iNe_t h1; aI (nat_Of 1 oO) (aI (nat_Add (b.natAbs / (d).toNat) 1 oO oO) (have f4 := L_add (b.natAbs / (d).toNat) 1; aI (int_Nat false (a.natAbs / (d).toNat) oO) (have f3 := L_sgn false (a.natAbs / (d).toNat); aI (int_Nat false ((b.natAbs / (d).toNat) + 1) oO) (have f2 := L_sgn false ((b.natAbs / (d).toNat) + 1); (Sp_of rfl (pt_hi1 oO) : vsub (.agg [(.bool (decide ((sgn false (a.natAbs / (d).toNat)) < 0))), (N ((sgn false (a.natAbs / (d).toNat)).natAbs)), (.bool (decide ((sgn false ((b.natAbs / (d).toNat) + 1)) < 0))), (N ((sgn false ((b.natAbs / (d).toNat) + 1)).natAbs))]) (.agg [(.bool (decide ((ptLo a d) < 0))), (N ((ptLo a d).natAbs)), (.bool (decide ((ptHi b d) < 0))), (N ((ptHi b d).natAbs))]))))))) (fun (h5 : (iNe ((b.natAbs % (d).toNat : Nat) : Int) 0) = false) => have _gh5 := iNe_f h5; aI (int_Nat false (a.natAbs / (d).toNat) oO) (have f7 := L_sgn false (a.natAbs / (d).toNat); aI (int_Nat false (b.natAbs / (d).toNat) oO) (have f6 := L_sgn false (b.natAbs / (d).toNat); (Sp_of rfl (pt_hi2 oO) : vsub (.agg [(.bool (decide ((sgn false (a.natAbs / (d).toNat)) < 0))), (N ((sgn false (a.natAbs / (d).toNat)).natAbs)), (.bool (decide ((sgn false (b.natAbs / (d).toNat)) < 0))), (N ((sgn false (b.natAbs / (d).toNat)).natAbs))]) (.agg [(.bool (decide ((ptLo a d) < 0))), (N ((ptLo a d).natAbs)), (.bool (decide ((ptHi b d) < 0))), (N ((ptHi b d).natAbs))]))))))))) (by kernel_rfl))
theorem fx_Div (a : Int) (b : Int) (c : Int) (d : Int) (s : Int) (c0 : L (a).natAbs ≤ 8192) (c1 : L (b).natAbs ≤ 8192) (c2 : L (c).natAbs ≤ 8192) (c3 : L (d).natAbs ≤ 8192) (c4 : (0 : Int) ≤ s ∧ s ≤ 20000) (c5 : c ≠ 0) (c6 : d ≠ 0) : Impl Tryz.prog Amb 212 [(.agg [(.bool (decide (a < 0))), (N a.natAbs), (.bool (decide (b < 0))), (N b.natAbs)]), (.agg [(.bool (decide (c < 0))), (N c.natAbs), (.bool (decide (d < 0))), (N d.natAbs)]), (.int .i64 s)] (.agg [(.bool (decide ((Int.fdiv (a * 2 ^ (s).toNat) d) < 0))), (N ((Int.fdiv (a * 2 ^ (s).toNat) d).natAbs)), (.bool (decide ((-(Int.fdiv (-(b * 2 ^ (s).toNat)) c)) < 0))), (N ((-(Int.fdiv (-(b * 2 ^ (s).toNat)) c)).natAbs))]) := by
  exact impl_ob hP hAmb Tryz.func212 (by kernel_rfl) (.lits 2 <| .call (zV (a * 2 ^ (s).toNat)) <| .lits 2 <| .call (.tup [(zV (Int.fdiv (a * 2 ^ (s).toNat) d)), (zV ((a * 2 ^ (s).toNat) - (Int.fdiv (a * 2 ^ (s).toNat) d) * d)), (.bool true)]) <| .lits 2 <| .call (zV (b * 2 ^ (s).toNat)) <| .lit <| .call (zV (-(b * 2 ^ (s).toNat))) <| .lits 2 <| .call (.tup [(zV (Int.fdiv (-(b * 2 ^ (s).toNat)) c)), (zV ((-(b * 2 ^ (s).toNat)) - (Int.fdiv (-(b * 2 ^ (s).toNat)) c) * c)), (.bool true)]) <| .lits 3 <| .call (zV (-(Int.fdiv (-(b * 2 ^ (s).toNat)) c))) <| .lits 3 <| .ret)
    (cast_ob (aI True.intro (aI (int_Shl a s oO oO) (have f8 := L_abs_shl a (s).toNat; aI (int_DivMod (a * 2 ^ (s).toNat) d oO oO oO) (have f7 := L_rm (a * 2 ^ (s).toNat) d; have f6 := L_fdiv (a * 2 ^ (s).toNat) d; aI (int_Shl b s oO oO) (have f5 := L_abs_shl b (s).toNat; aI (int_Neg (b * 2 ^ (s).toNat) oO) (have f4 := L_abs_neg (b * 2 ^ (s).toNat); aI (int_DivMod (-(b * 2 ^ (s).toNat)) c oO oO oO) (have f3 := L_rm (-(b * 2 ^ (s).toNat)) c; have f2 := L_fdiv (-(b * 2 ^ (s).toNat)) c; aI (int_Neg (Int.fdiv (-(b * 2 ^ (s).toNat)) c) oO) (have f1 := L_abs_neg (Int.fdiv (-(b * 2 ^ (s).toNat)) c); (vsub_refl (.agg [(.bool (decide ((Int.fdiv (a * 2 ^ (s).toNat) d) < 0))), (N ((Int.fdiv (a * 2 ^ (s).toNat) d).natAbs)), (.bool (decide ((-(Int.fdiv (-(b * 2 ^ (s).toNat)) c)) < 0))), (N ((-(Int.fdiv (-(b * 2 ^ (s).toNat)) c)).natAbs))])))))))))) (by kernel_rfl))
theorem fx_tiny (b : Int) (c0 : L (b).natAbs ≤ 65536) : Impl Tryz.prog Amb 256 [(zV b)] (.bool (decide ((b).natAbs < 8))) := by
  exact impl_ob hP hAmb Tryz.func256 (by kernel_rfl) (.lits 2 <| .call (.int .i64 (nbits b.natAbs : Int)) <| .lits 2 <| .ret)
    (cast_ob (aI True.intro (aI (nat_Bits b.natAbs oO) (have f1 := nbits_L b.natAbs; (vsub_of (congrArg V.bool tiny_8) : vsub (.bool (iLe (nbits b.natAbs : Int) 3)) (.bool (decide ((b).natAbs < 8))))))) (by kernel_rfl))
theorem fx_Tiny (a : Int) (b : Int) (c0 : L (b).natAbs ≤ 65536) : Impl Tryz.prog Amb 240 [(.agg [(.bool (decide (a < 0))), (N a.natAbs), (.bool (decide (b < 0))), (N b.natAbs)])] (.bool (decide ((b).natAbs < 8))) := by
  exact impl_ob hP hAmb Tryz.func240 (by kernel_rfl) (.lits 2 <| .call (.bool (decide ((b).natAbs < 8))) <| .lit <| .ret)
    (cast_ob (aI True.intro (aI (fx_tiny b oO) ((vsub_refl (.bool (decide ((b).natAbs < 8))))))) (by kernel_rfl))
end Go.Proofs.YtekcladflnieeaaGreatDoor

namespace Go.Proofs.YtekcladflnieeaaGreatDoor
open Go.RowKit
set_option maxRecDepth 100000
def ap1 (x1 x2 s : Int) (j : Nat) : Int := (aP (2 ^ s.toNat) x1 x2 j).1
def ap2 (x1 x2 s : Int) (j : Nat) : Int := (aP (2 ^ s.toNat) x1 x2 j).2
def aa1 (x1 x2 s : Int) (j : Nat) : Int := (aA (2 ^ s.toNat) x1 x2 j).1
def aa2 (x1 x2 s : Int) (j : Nat) : Int := (aA (2 ^ s.toNat) x1 x2 j).2
def at1 (x1 x2 s : Int) (j : Nat) : Int := ptLo (ap1 x1 x2 s (j + 1)) (odn (j + 1))
def at2 (x1 x2 s : Int) (j : Nat) : Int := ptHi (ap2 x1 x2 s (j + 1)) (odn (j + 1))
def fx_area_0_mk (_ : Nat) (x1 x2 sc : Int) (x : Nat × Int) : St := ⟨mkS 36 [(1, (.val (.int .i64 sc))), (4, (.own 1 0)), (5, (.own 2 0)), (6, (.own 3 0)), (7, (.own 4 0)), (8, (.val (.int .u32 x.2)))], [⟨true, false, [(V.bool (decide (x1 < 0))), (N x1.natAbs), (V.bool (decide (x2 < 0))), (N x2.natAbs)]⟩, ⟨true, false, [(V.bool false), V.nil, (V.bool false), V.nil]⟩, ⟨true, false, [(V.bool (decide ((x1 * x1 / 2 ^ (sc).toNat) < 0))), (N ((x1 * x1 / 2 ^ (sc).toNat).natAbs)), (V.bool (decide ((-(-(x2 * x2) / 2 ^ (sc).toNat)) < 0))), (N ((-(-(x2 * x2) / 2 ^ (sc).toNat)).natAbs))]⟩, ⟨true, false, [(V.bool (decide ((ap1 x1 x2 sc x.1) < 0))), (N ((ap1 x1 x2 sc x.1).natAbs)), (V.bool (decide ((ap2 x1 x2 sc x.1) < 0))), (N ((ap2 x1 x2 sc x.1).natAbs))]⟩, ⟨true, false, [(V.bool (decide ((aa1 x1 x2 sc x.1) < 0))), (N ((aa1 x1 x2 sc x.1).natAbs)), (V.bool (decide ((aa2 x1 x2 sc x.1) < 0))), (N ((aa2 x1 x2 sc x.1).natAbs))]⟩]⟩
def fx_area_0_I (nn : Nat) (_ _ _ : Int) (x : Nat × Int) : Prop := x.1 ≤ nn ∧ x.2 = 2 * (x.1 : Int) + 3
def fx_area_0_mu (nn : Nat) (_ _ _ : Int) (x : Nat × Int) : Nat := nn - x.1
def fx_area_0_ex (_ : Nat) (x1 x2 sc : Int) (y : Nat) : Ex × St := (.exit 0, ⟨mkS 36 [(4, (.own 1 0)), (6, (.own 3 0)), (7, (.own 4 0))], [⟨true, false, [(V.bool (decide (x1 < 0))), (N x1.natAbs), (V.bool (decide (x2 < 0))), (N x2.natAbs)]⟩, ⟨true, false, [(V.bool false), V.nil, (V.bool false), V.nil]⟩, ⟨true, false, [(V.bool (decide ((x1 * x1 / 2 ^ (sc).toNat) < 0))), (N ((x1 * x1 / 2 ^ (sc).toNat).natAbs)), (V.bool (decide ((-(-(x2 * x2) / 2 ^ (sc).toNat)) < 0))), (N ((-(-(x2 * x2) / 2 ^ (sc).toNat)).natAbs))]⟩, ⟨true, false, [(V.bool (decide ((ap1 x1 x2 sc y) < 0))), (N ((ap1 x1 x2 sc y).natAbs)), (V.bool (decide ((ap2 x1 x2 sc y) < 0))), (N ((ap2 x1 x2 sc y).natAbs))]⟩, ⟨true, false, [(V.bool (decide ((aa1 x1 x2 sc y) < 0))), (N ((aa1 x1 x2 sc y).natAbs)), (V.bool (decide ((aa2 x1 x2 sc y) < 0))), (N ((aa2 x1 x2 sc y).natAbs))]⟩]⟩)
def fx_area_0_J (nn : Nat) (_ _ _ : Int) (y : Nat) : Prop := y = nn
abbrev fx_area_0_N (nn : Nat) (x1 x2 sc : Int) := NX (fx_area_0_mk nn x1 x2 sc) (fx_area_0_I nn x1 x2 sc) (fx_area_0_mu nn x1 x2 sc) (fx_area_0_ex nn x1 x2 sc) (fx_area_0_J nn x1 x2 sc)
theorem fx_area_0 (nn : Nat) (x1 x2 sc : Int) (c0 : nn ≤ 10000)(c1 : ∀ j, j ≤ nn → Impl Tryz.prog Amb 240 [(.agg [(.bool (decide ((ap1 x1 x2 sc j) < 0))), (N ((ap1 x1 x2 sc j).natAbs)), (.bool (decide ((ap2 x1 x2 sc j) < 0))), (N ((ap2 x1 x2 sc j).natAbs))])] (.bool (decide (nn ≤ j))))(c2 : ∀ j, j < nn → Impl Tryz.prog Amb 239 [(.agg [(.bool (decide ((ap1 x1 x2 sc j) < 0))), (N ((ap1 x1 x2 sc j).natAbs)), (.bool (decide ((ap2 x1 x2 sc j) < 0))), (N ((ap2 x1 x2 sc j).natAbs))]), (.agg [(.bool (decide ((x1 * x1 / 2 ^ (sc).toNat) < 0))), (N ((x1 * x1 / 2 ^ (sc).toNat).natAbs)), (.bool (decide ((-(-(x2 * x2) / 2 ^ (sc).toNat)) < 0))), (N ((-(-(x2 * x2) / 2 ^ (sc).toNat)).natAbs))]), (.int .i64 sc)] (.agg [(.bool (decide ((ap1 x1 x2 sc (j + 1)) < 0))), (N ((ap1 x1 x2 sc (j + 1)).natAbs)), (.bool (decide ((ap2 x1 x2 sc (j + 1)) < 0))), (N ((ap2 x1 x2 sc (j + 1)).natAbs))]))(c3 : ∀ (j : Nat) (k : Int), j < nn → k = odn (j + 1) → Impl Tryz.prog Amb 241 [(.agg [(.bool (decide ((ap1 x1 x2 sc (j + 1)) < 0))), (N ((ap1 x1 x2 sc (j + 1)).natAbs)), (.bool (decide ((ap2 x1 x2 sc (j + 1)) < 0))), (N ((ap2 x1 x2 sc (j + 1)).natAbs))]), (.int .u32 k)] (.agg [(.bool (decide ((at1 x1 x2 sc j) < 0))), (N ((at1 x1 x2 sc j).natAbs)), (.bool (decide ((at2 x1 x2 sc j) < 0))), (N ((at2 x1 x2 sc j).natAbs))]))(c4 : ∀ j, j < nn → Impl Tryz.prog Amb 173 [(.agg [(.bool (decide ((aa1 x1 x2 sc j) < 0))), (N ((aa1 x1 x2 sc j).natAbs)), (.bool (decide ((aa2 x1 x2 sc j) < 0))), (N ((aa2 x1 x2 sc j).natAbs))]), (.agg [(.bool (decide ((at1 x1 x2 sc j) < 0))), (N ((at1 x1 x2 sc j).natAbs)), (.bool (decide ((at2 x1 x2 sc j) < 0))), (N ((at2 x1 x2 sc j).natAbs))])] (.agg [(.bool (decide ((aa1 x1 x2 sc (j + 1)) < 0))), (N ((aa1 x1 x2 sc (j + 1)).natAbs)), (.bool (decide ((aa2 x1 x2 sc (j + 1)) < 0))), (N ((aa2 x1 x2 sc (j + 1)).natAbs))]))(c5 : ∀ j, j ≤ nn → L (aa2 x1 x2 sc j).natAbs ≤ 8000 ∧ L (ap2 x1 x2 sc j).natAbs ≤ 8000) (x0 : Nat × Int) (hI : fx_area_0_I nn x1 x2 sc x0) : LoopOk Tryz.prog Amb (loopN Tryz.f211 0) (fx_area_0_mk nn x1 x2 sc x0) (fun e st_ => ∃ y, fx_area_0_J nn x1 x2 sc y ∧ fx_area_0_ex nn x1 x2 sc y = (e, st_)) :=
  loop_ob hP hAmb ⟨[1, 4, 5, 6, 7, 8], 5, []⟩ (fx_area_0_mk nn x1 x2 sc) (fx_area_0_I nn x1 x2 sc) (fx_area_0_mu nn x1 x2 sc) (fx_area_0_ex nn x1 x2 sc) (fx_area_0_J nn x1 x2 sc) x0 hI (fun (j, k) => .lits 2 <| .call (.bool (decide (nn ≤ j))) <| .lit <| .both (.lits 3 <| .call (.agg [(.bool (decide ((ap1 x1 x2 sc (j + 1)) < 0))), (N ((ap1 x1 x2 sc (j + 1)).natAbs)), (.bool (decide ((ap2 x1 x2 sc (j + 1)) < 0))), (N ((ap2 x1 x2 sc (j + 1)).natAbs))]) <| .lits 4 <| .call (.agg [(.bool (decide ((at1 x1 x2 sc j) < 0))), (N ((at1 x1 x2 sc j).natAbs)), (.bool (decide ((at2 x1 x2 sc j) < 0))), (N ((at2 x1 x2 sc j).natAbs))]) <| .lit <| .call (.agg [(.bool (decide ((aa1 x1 x2 sc (j + 1)) < 0))), (N ((aa1 x1 x2 sc (j + 1)).natAbs)), (.bool (decide ((aa2 x1 x2 sc (j + 1)) < 0))), (N ((aa2 x1 x2 sc (j + 1)).natAbs))]) <| .lits 2 <| .yes <| .fin2 ⟨[1, 4, 5, 6, 7, 8], 5, []⟩) (.fin2 ⟨[4, 6, 7], 5, []⟩)) (by
    rintro ⟨j, k⟩ hI
    have hI : j ≤ nn ∧ k = 2 * (j : Int) + 3 := hI
    obtain ⟨h1, h2⟩ := hI
    exact cast_ob (aI True.intro (aI (c1 j h1 ) (aI (fun (h101 : (!(decide (nn ≤ j))) = true) => have _gh101 := of_decide_eq_false (notb_t h101); aI (c2 j oO ) (aI (c3 j k oO (by unfold odn; omega) ) (aI (c4 j oO ) (aI (fits_u32 oO : (fits .u32 (k + 2)) = true) (aI tT ((nx_next ((j + 1), (k + 2)) (show (j + 1) ≤ nn ∧ (k + 2) = 2 * ((j + 1) : Int) + 3 from ⟨by omega, by omega⟩) (show nn - (j + 1) < nn - j by omega) : fx_area_0_N nn x1 x2 sc (j, k) .normal (fx_area_0_mk nn x1 x2 sc ((j + 1), (k + 2)))))))))) (fun (h102 : (!(decide (nn ≤ j))) = false) => have _gh102 := of_decide_eq_true (notb_f h102); aI tT ((nx_exit 0 ((fx_area_0_ex nn x1 x2 sc j).2) j (show j = nn from show j = nn by omega) rfl : fx_area_0_N nn x1 x2 sc (j, k) (.exit 0) ((fx_area_0_ex nn x1 x2 sc j).2))))))) (by kernel_rfl))
theorem fx_area0 (nn : Nat) (x1 : Int) (x2 : Int) (sc : Int) (c0 : nn ≤ 10000) (c1 : ∀ j, j ≤ nn → Impl Tryz.prog Amb 240 [(.agg [(.bool (decide ((ap1 x1 x2 sc j) < 0))), (N ((ap1 x1 x2 sc j).natAbs)), (.bool (decide ((ap2 x1 x2 sc j) < 0))), (N ((ap2 x1 x2 sc j).natAbs))])] (.bool (decide (nn ≤ j)))) (c2 : ∀ j, j < nn → Impl Tryz.prog Amb 239 [(.agg [(.bool (decide ((ap1 x1 x2 sc j) < 0))), (N ((ap1 x1 x2 sc j).natAbs)), (.bool (decide ((ap2 x1 x2 sc j) < 0))), (N ((ap2 x1 x2 sc j).natAbs))]), (.agg [(.bool (decide ((x1 * x1 / 2 ^ (sc).toNat) < 0))), (N ((x1 * x1 / 2 ^ (sc).toNat).natAbs)), (.bool (decide ((-(-(x2 * x2) / 2 ^ (sc).toNat)) < 0))), (N ((-(-(x2 * x2) / 2 ^ (sc).toNat)).natAbs))]), (.int .i64 sc)] (.agg [(.bool (decide ((ap1 x1 x2 sc (j + 1)) < 0))), (N ((ap1 x1 x2 sc (j + 1)).natAbs)), (.bool (decide ((ap2 x1 x2 sc (j + 1)) < 0))), (N ((ap2 x1 x2 sc (j + 1)).natAbs))])) (c3 : ∀ (j : Nat) (k : Int), j < nn → k = odn (j + 1) → Impl Tryz.prog Amb 241 [(.agg [(.bool (decide ((ap1 x1 x2 sc (j + 1)) < 0))), (N ((ap1 x1 x2 sc (j + 1)).natAbs)), (.bool (decide ((ap2 x1 x2 sc (j + 1)) < 0))), (N ((ap2 x1 x2 sc (j + 1)).natAbs))]), (.int .u32 k)] (.agg [(.bool (decide ((at1 x1 x2 sc j) < 0))), (N ((at1 x1 x2 sc j).natAbs)), (.bool (decide ((at2 x1 x2 sc j) < 0))), (N ((at2 x1 x2 sc j).natAbs))])) (c4 : ∀ j, j < nn → Impl Tryz.prog Amb 173 [(.agg [(.bool (decide ((aa1 x1 x2 sc j) < 0))), (N ((aa1 x1 x2 sc j).natAbs)), (.bool (decide ((aa2 x1 x2 sc j) < 0))), (N ((aa2 x1 x2 sc j).natAbs))]), (.agg [(.bool (decide ((at1 x1 x2 sc j) < 0))), (N ((at1 x1 x2 sc j).natAbs)), (.bool (decide ((at2 x1 x2 sc j) < 0))), (N ((at2 x1 x2 sc j).natAbs))])] (.agg [(.bool (decide ((aa1 x1 x2 sc (j + 1)) < 0))), (N ((aa1 x1 x2 sc (j + 1)).natAbs)), (.bool (decide ((aa2 x1 x2 sc (j + 1)) < 0))), (N ((aa2 x1 x2 sc (j + 1)).natAbs))])) (c5 : ∀ j, j ≤ nn → L (aa2 x1 x2 sc j).natAbs ≤ 8000 ∧ L (ap2 x1 x2 sc j).natAbs ≤ 8000) (c6 : L (x1).natAbs ≤ 8000) (c7 : L (x2).natAbs ≤ 8000) (c8 : (0 : Int) ≤ sc ∧ sc ≤ 20000) : Impl Tryz.prog Amb 211 [(.agg [(.bool (decide (x1 < 0))), (N x1.natAbs), (.bool (decide (x2 < 0))), (N x2.natAbs)]), (.int .i64 sc)] (.agg [(.bool (decide ((aa1 x1 x2 sc nn) < 0))), (N ((aa1 x1 x2 sc nn).natAbs)), (.bool (decide (((aa2 x1 x2 sc nn) + (ap2 x1 x2 sc nn)) < 0))), (N (((aa2 x1 x2 sc nn) + (ap2 x1 x2 sc nn)).natAbs))]) := by
  exact impl_ob hP hAmb Tryz.func211 (by kernel_rfl) (.lits 3 <| .call (.agg [(.bool (decide ((x1 * x1 / 2 ^ (sc).toNat) < 0))), (N ((x1 * x1 / 2 ^ (sc).toNat).natAbs)), (.bool (decide ((-(-(x2 * x2) / 2 ^ (sc).toNat)) < 0))), (N ((-(-(x2 * x2) / 2 ^ (sc).toNat)).natAbs))]) <| .lits 3 <| .loop ⟨[1, 4, 5, 6, 7, 8], 5, []⟩ ((fx_area_0_mk nn x1 x2 sc (0, 3))) (Nat) (fx_area_0_ex nn x1 x2 sc) (fx_area_0_J nn x1 x2 sc) (fun y => .lits 3 <| .call (zV ((aa2 x1 x2 sc y) + (ap2 x1 x2 sc y))) <| .lits 4 <| .ret))
    (cast_ob (aI True.intro (aI (fx_Mul x1 x2 x1 x2 sc oS oS oS oS oS) (aI tT (aI (rfl : (fx_area_0_mk nn x1 x2 sc (0, 3)) = (fx_area_0_mk nn x1 x2 sc (0, 3))) (aI (fx_area_0 nn x1 x2 sc c0 c1 c2 c3 c4 c5 (0, 3) (show 0 ≤ nn ∧ 3 = 2 * (0 : Int) + 3 from ⟨by omega, by omega⟩)) (fun y (hJ : fx_area_0_J nn x1 x2 sc y) => have hJ : y = nn := hJ; have b1 := c5 y oO; aI (int_Add (aa2 x1 x2 sc y) (ap2 x1 x2 sc y) oS oS) (have f1 := L_abs_add (aa2 x1 x2 sc y) (ap2 x1 x2 sc y); (by rw [show y = nn from hJ]; exact vsub_refl _ : vsub (.agg [(.bool (decide ((aa1 x1 x2 sc y) < 0))), (N ((aa1 x1 x2 sc y).natAbs)), (.bool (decide (((aa2 x1 x2 sc y) + (ap2 x1 x2 sc y)) < 0))), (N (((aa2 x1 x2 sc y) + (ap2 x1 x2 sc y)).natAbs))]) (.agg [(.bool (decide ((aa1 x1 x2 sc nn) < 0))), (N ((aa1 x1 x2 sc nn).natAbs)), (.bool (decide (((aa2 x1 x2 sc nn) + (ap2 x1 x2 sc nn)) < 0))), (N (((aa2 x1 x2 sc nn) + (ap2 x1 x2 sc nn)).natAbs))]))))))))) (by kernel_rfl))
theorem fx_LnN (m : Int) (e : Int) (k : Int) (s : Int) (xa : Int) (xb : Int) (z1 : Int) (z2 : Int) (y1 : Int) (y2 : Int) (v1 : Int) (v2 : Int) (r1 : Int) (r2 : Int) (c0 : 0 ≤ s ∧ s ≤ 5900) (c1 : Impl Tryz.prog Amb 105 [(yV m e), (.int .i64 (s + 32))] (.agg [(.bool (decide (xa < 0))), (N xa.natAbs), (.bool (decide (xb < 0))), (N xb.natAbs)])) (c2 : Impl Tryz.prog Amb 212 [(.agg [(.bool (decide ((-(xb + (-((1 : Int) * 2 ^ ((s + 32)).toNat)))) < 0))), (N ((-(xb + (-((1 : Int) * 2 ^ ((s + 32)).toNat)))).natAbs)), (.bool (decide ((-(xa + (-((1 : Int) * 2 ^ ((s + 32)).toNat)))) < 0))), (N ((-(xa + (-((1 : Int) * 2 ^ ((s + 32)).toNat)))).natAbs))]), (.agg [(.bool (decide ((xa + ((1 : Int) * 2 ^ ((s + 32)).toNat)) < 0))), (N ((xa + ((1 : Int) * 2 ^ ((s + 32)).toNat)).natAbs)), (.bool (decide ((xb + ((1 : Int) * 2 ^ ((s + 32)).toNat)) < 0))), (N ((xb + ((1 : Int) * 2 ^ ((s + 32)).toNat)).natAbs))]), (.int .i64 (s + 32))] (.agg [(.bool (decide (z1 < 0))), (N z1.natAbs), (.bool (decide (z2 < 0))), (N z2.natAbs)])) (c3 : Impl Tryz.prog Amb 211 [(.agg [(.bool (decide (z1 < 0))), (N z1.natAbs), (.bool (decide (z2 < 0))), (N z2.natAbs)]), (.int .i64 (s + 32))] (.agg [(.bool (decide (y1 < 0))), (N y1.natAbs), (.bool (decide (y2 < 0))), (N y2.natAbs)])) (c4 : Impl Tryz.prog Amb 106 [(.int .i64 (s + 32))] (.agg [(.bool (decide (v1 < 0))), (N v1.natAbs), (.bool (decide (v2 < 0))), (N v2.natAbs)])) (c5 : Impl Tryz.prog Amb 110 [(.agg [(.bool (decide (v1 < 0))), (N v1.natAbs), (.bool (decide (v2 < 0))), (N v2.natAbs)]), (.int .i64 k)] (.agg [(.bool (decide (r1 < 0))), (N r1.natAbs), (.bool (decide (r2 < 0))), (N r2.natAbs)])) (c6 : L (xa).natAbs ≤ 1000) (c7 : L (xb).natAbs ≤ 1000) (c8 : L (y1).natAbs ≤ 20000) (c9 : L (y2).natAbs ≤ 20000) (c10 : L (r1).natAbs ≤ 20000) (c11 : L (r2).natAbs ≤ 20000) (c12 : xb ≤ ((1 : Int) * 2 ^ ((s + 32)).toNat)) (c13 : 0 ≤ (-(xb + (-((1 : Int) * 2 ^ ((s + 32)).toNat))))) : Impl Tryz.prog Amb 147 [(yV m e), (.int .i64 k), (.int .i64 s)] (.agg [(.bool (decide ((((-(y2 * 2 ^ 1)) + r1) / 2 ^ 32) < 0))), (N ((((-(y2 * 2 ^ 1)) + r1) / 2 ^ 32).natAbs)), (.bool (decide ((-(-((-(y1 * 2 ^ 1)) + r2) / 2 ^ 32)) < 0))), (N ((-(-((-(y1 * 2 ^ 1)) + r2) / 2 ^ 32)).natAbs))]) := by
  have lo := L_pow1 ((s + 32)).toNat
  have cr := cmpI_range xb ((1 : Int) * 2 ^ ((s + 32)).toNat)
  have ci := cmpI_le xb ((1 : Int) * 2 ^ ((s + 32)).toNat)
  exact impl_ob hP hAmb Tryz.func147 (by kernel_rfl) (.lit <| .yes <| .lit <| .call (.agg [(.bool (decide (((1 : Int) * 2 ^ ((s + 32)).toNat) < 0))), (N (((1 : Int) * 2 ^ ((s + 32)).toNat).natAbs)), (.bool (decide (((1 : Int) * 2 ^ ((s + 32)).toNat) < 0))), (N (((1 : Int) * 2 ^ ((s + 32)).toNat).natAbs))]) <| .lits 2 <| .call (.agg [(.bool (decide (xa < 0))), (N xa.natAbs), (.bool (decide (xb < 0))), (N xb.natAbs)]) <| .lits 3 <| .call (.agg [(.bool (decide ((xa + (-((1 : Int) * 2 ^ ((s + 32)).toNat))) < 0))), (N ((xa + (-((1 : Int) * 2 ^ ((s + 32)).toNat))).natAbs)), (.bool (decide ((xb + (-((1 : Int) * 2 ^ ((s + 32)).toNat))) < 0))), (N ((xb + (-((1 : Int) * 2 ^ ((s + 32)).toNat))).natAbs))]) <| .lits 4 <| .call (.int .i64 (cmpI xb ((1 : Int) * 2 ^ ((s + 32)).toNat))) <| .lit <| .yes <| .lits 2 <| .call (.agg [(.bool (decide ((-(xb + (-((1 : Int) * 2 ^ ((s + 32)).toNat)))) < 0))), (N ((-(xb + (-((1 : Int) * 2 ^ ((s + 32)).toNat)))).natAbs)), (.bool (decide ((-(xa + (-((1 : Int) * 2 ^ ((s + 32)).toNat)))) < 0))), (N ((-(xa + (-((1 : Int) * 2 ^ ((s + 32)).toNat)))).natAbs))]) <| .lits 2 <| .no <| .lits 4 <| .call (.agg [(.bool (decide ((xa + ((1 : Int) * 2 ^ ((s + 32)).toNat)) < 0))), (N ((xa + ((1 : Int) * 2 ^ ((s + 32)).toNat)).natAbs)), (.bool (decide ((xb + ((1 : Int) * 2 ^ ((s + 32)).toNat)) < 0))), (N ((xb + ((1 : Int) * 2 ^ ((s + 32)).toNat)).natAbs))]) <| .lit <| .call (.agg [(.bool (decide (z1 < 0))), (N z1.natAbs), (.bool (decide (z2 < 0))), (N z2.natAbs)]) <| .lit <| .call (.agg [(.bool (decide (y1 < 0))), (N y1.natAbs), (.bool (decide (y2 < 0))), (N y2.natAbs)]) <| .lit <| .call (.agg [(.bool (decide ((y1 * 2 ^ 1) < 0))), (N ((y1 * 2 ^ 1).natAbs)), (.bool (decide ((y2 * 2 ^ 1) < 0))), (N ((y2 * 2 ^ 1).natAbs))]) <| .lits 3 <| .call (.agg [(.bool (decide ((-(y2 * 2 ^ 1)) < 0))), (N ((-(y2 * 2 ^ 1)).natAbs)), (.bool (decide ((-(y1 * 2 ^ 1)) < 0))), (N ((-(y1 * 2 ^ 1)).natAbs))]) <| .lits 3 <| .call (.agg [(.bool (decide (v1 < 0))), (N v1.natAbs), (.bool (decide (v2 < 0))), (N v2.natAbs)]) <| .lit <| .call (.agg [(.bool (decide (r1 < 0))), (N r1.natAbs), (.bool (decide (r2 < 0))), (N r2.natAbs)]) <| .lit <| .call (.agg [(.bool (decide (((-(y2 * 2 ^ 1)) + r1) < 0))), (N (((-(y2 * 2 ^ 1)) + r1).natAbs)), (.bool (decide (((-(y1 * 2 ^ 1)) + r2) < 0))), (N (((-(y1 * 2 ^ 1)) + r2).natAbs))]) <| .lit <| .yes <| .lit <| .call (.agg [(.bool (decide ((((-(y2 * 2 ^ 1)) + r1) / 2 ^ (((s + 32) - s)).toNat) < 0))), (N ((((-(y2 * 2 ^ 1)) + r1) / 2 ^ (((s + 32) - s)).toNat).natAbs)), (.bool (decide ((-(-((-(y1 * 2 ^ 1)) + r2) / 2 ^ (((s + 32) - s)).toNat)) < 0))), (N ((-(-((-(y1 * 2 ^ 1)) + r2) / 2 ^ (((s + 32) - s)).toNat)).natAbs))]) <| .lits 2 <| .ret)
    (cast_ob (aI True.intro (aI (fits_i64 oS : (fits .i64 (s + 32)) = true) (aI (fx_One (s + 32) oS) (have f20 := L_pow1 ((s + 32)).toNat; aI (c1 ) (aI (fx_Sub xa xb ((1 : Int) * 2 ^ ((s + 32)).toNat) ((1 : Int) * 2 ^ ((s + 32)).toNat) oS oS oS oS) (have f19 := L_abs_neg ((1 : Int) * 2 ^ ((s + 32)).toNat); have f18 := L_abs_neg ((1 : Int) * 2 ^ ((s + 32)).toNat); have f17 := L_abs_add xb (-((1 : Int) * 2 ^ ((s + 32)).toNat)); have f16 := L_abs_add xa (-((1 : Int) * 2 ^ ((s + 32)).toNat)); aI (int_Cmp xb ((1 : Int) * 2 ^ ((s + 32)).toNat) oS oS) (have f15 := cmpI_range xb ((1 : Int) * 2 ^ ((s + 32)).toNat); aI (iLe_mk oO : (iLe (cmpI xb ((1 : Int) * 2 ^ ((s + 32)).toNat)) 0) = true) (aI (fx_Neg (xa + (-((1 : Int) * 2 ^ ((s + 32)).toNat))) (xb + (-((1 : Int) * 2 ^ ((s + 32)).toNat))) oS oS) (have f14 := L_abs_neg (xb + (-((1 : Int) * 2 ^ ((s + 32)).toNat))); have f13 := L_abs_neg (xa + (-((1 : Int) * 2 ^ ((s + 32)).toNat))); aI (decide_eq_false oO : (decide ((-(xb + (-((1 : Int) * 2 ^ ((s + 32)).toNat)))) < 0)) = false) (aI (fx_Add xa xb ((1 : Int) * 2 ^ ((s + 32)).toNat) ((1 : Int) * 2 ^ ((s + 32)).toNat) oS oS oS oS) (have f12 := L_abs_add xb ((1 : Int) * 2 ^ ((s + 32)).toNat); have f11 := L_abs_add xa ((1 : Int) * 2 ^ ((s + 32)).toNat); aI (c2 ) (aI (c3 ) (aI (fx_Twice y1 y2 1 oS oS oS) (have f10 := L_abs_shl y2 1; have f9 := L_abs_shl y1 1; aI (fx_Neg (y1 * 2 ^ 1) (y2 * 2 ^ 1) oS oS) (have f8 := L_abs_neg (y2 * 2 ^ 1); have f7 := L_abs_neg (y1 * 2 ^ 1); aI (c4 ) (aI (c5 ) (aI (fx_Add (-(y2 * 2 ^ 1)) (-(y1 * 2 ^ 1)) r1 r2 oS oS oS oS) (have f6 := L_abs_add (-(y1 * 2 ^ 1)) r2; have f5 := L_abs_add (-(y2 * 2 ^ 1)) r1; aI (fits_i64 oS : (fits .i64 ((s + 32) - s)) = true) (aI (fx_Half ((-(y2 * 2 ^ 1)) + r1) ((-(y1 * 2 ^ 1)) + r2) ((s + 32) - s) oS oS oS) (have f4 := L_abs_neg (-((-(y1 * 2 ^ 1)) + r2) / 2 ^ (((s + 32) - s)).toNat); have f3 := L_abs_shr (-((-(y1 * 2 ^ 1)) + r2)) (((s + 32) - s)).toNat; have f2 := L_abs_neg ((-(y1 * 2 ^ 1)) + r2); have f1 := L_abs_shr ((-(y2 * 2 ^ 1)) + r1) (((s + 32) - s)).toNat; (by rw [show ((s + 32) - s).toNat = 32 by omega]; exact vsub_refl _ : vsub (.agg [(.bool (decide ((((-(y2 * 2 ^ 1)) + r1) / 2 ^ (((s + 32) - s)).toNat) < 0))), (N ((((-(y2 * 2 ^ 1)) + r1) / 2 ^ (((s + 32) - s)).toNat).natAbs)), (.bool (decide ((-(-((-(y1 * 2 ^ 1)) + r2) / 2 ^ (((s + 32) - s)).toNat)) < 0))), (N ((-(-((-(y1 * 2 ^ 1)) + r2) / 2 ^ (((s + 32) - s)).toNat)).natAbs))]) (.agg [(.bool (decide ((((-(y2 * 2 ^ 1)) + r1) / 2 ^ 32) < 0))), (N ((((-(y2 * 2 ^ 1)) + r1) / 2 ^ 32).natAbs)), (.bool (decide ((-(-((-(y1 * 2 ^ 1)) + r2) / 2 ^ 32)) < 0))), (N ((-(-((-(y1 * 2 ^ 1)) + r2) / 2 ^ 32)).natAbs))])))))))))))))))))))))) (by kernel_rfl))
theorem fx_LnP (m : Int) (e : Int) (k : Int) (s : Int) (xa : Int) (xb : Int) (z1 : Int) (z2 : Int) (y1 : Int) (y2 : Int) (v1 : Int) (v2 : Int) (r1 : Int) (r2 : Int) (c0 : 0 ≤ s ∧ s ≤ 5900) (c1 : Impl Tryz.prog Amb 105 [(yV m e), (.int .i64 (s + 32))] (.agg [(.bool (decide (xa < 0))), (N xa.natAbs), (.bool (decide (xb < 0))), (N xb.natAbs)])) (c2 : Impl Tryz.prog Amb 212 [(.agg [(.bool (decide ((xa + (-((1 : Int) * 2 ^ ((s + 32)).toNat))) < 0))), (N ((xa + (-((1 : Int) * 2 ^ ((s + 32)).toNat))).natAbs)), (.bool (decide ((xb + (-((1 : Int) * 2 ^ ((s + 32)).toNat))) < 0))), (N ((xb + (-((1 : Int) * 2 ^ ((s + 32)).toNat))).natAbs))]), (.agg [(.bool (decide ((xa + ((1 : Int) * 2 ^ ((s + 32)).toNat)) < 0))), (N ((xa + ((1 : Int) * 2 ^ ((s + 32)).toNat)).natAbs)), (.bool (decide ((xb + ((1 : Int) * 2 ^ ((s + 32)).toNat)) < 0))), (N ((xb + ((1 : Int) * 2 ^ ((s + 32)).toNat)).natAbs))]), (.int .i64 (s + 32))] (.agg [(.bool (decide (z1 < 0))), (N z1.natAbs), (.bool (decide (z2 < 0))), (N z2.natAbs)])) (c3 : Impl Tryz.prog Amb 211 [(.agg [(.bool (decide (z1 < 0))), (N z1.natAbs), (.bool (decide (z2 < 0))), (N z2.natAbs)]), (.int .i64 (s + 32))] (.agg [(.bool (decide (y1 < 0))), (N y1.natAbs), (.bool (decide (y2 < 0))), (N y2.natAbs)])) (c4 : Impl Tryz.prog Amb 106 [(.int .i64 (s + 32))] (.agg [(.bool (decide (v1 < 0))), (N v1.natAbs), (.bool (decide (v2 < 0))), (N v2.natAbs)])) (c5 : Impl Tryz.prog Amb 110 [(.agg [(.bool (decide (v1 < 0))), (N v1.natAbs), (.bool (decide (v2 < 0))), (N v2.natAbs)]), (.int .i64 k)] (.agg [(.bool (decide (r1 < 0))), (N r1.natAbs), (.bool (decide (r2 < 0))), (N r2.natAbs)])) (c6 : L (xa).natAbs ≤ 1000) (c7 : L (xb).natAbs ≤ 1000) (c8 : L (y1).natAbs ≤ 20000) (c9 : L (y2).natAbs ≤ 20000) (c10 : L (r1).natAbs ≤ 20000) (c11 : L (r2).natAbs ≤ 20000) (c12 : ((1 : Int) * 2 ^ ((s + 32)).toNat) < xb) (c13 : 0 ≤ (xa + (-((1 : Int) * 2 ^ ((s + 32)).toNat)))) : Impl Tryz.prog Amb 147 [(yV m e), (.int .i64 k), (.int .i64 s)] (.agg [(.bool (decide ((((y1 * 2 ^ 1) + r1) / 2 ^ 32) < 0))), (N ((((y1 * 2 ^ 1) + r1) / 2 ^ 32).natAbs)), (.bool (decide ((-(-((y2 * 2 ^ 1) + r2) / 2 ^ 32)) < 0))), (N ((-(-((y2 * 2 ^ 1) + r2) / 2 ^ 32)).natAbs))]) := by
  have lo := L_pow1 ((s + 32)).toNat
  have cr := cmpI_range xb ((1 : Int) * 2 ^ ((s + 32)).toNat)
  have ci := cmpI_le xb ((1 : Int) * 2 ^ ((s + 32)).toNat)
  exact impl_ob hP hAmb Tryz.func147 (by kernel_rfl) (.lit <| .yes <| .lit <| .call (.agg [(.bool (decide (((1 : Int) * 2 ^ ((s + 32)).toNat) < 0))), (N (((1 : Int) * 2 ^ ((s + 32)).toNat).natAbs)), (.bool (decide (((1 : Int) * 2 ^ ((s + 32)).toNat) < 0))), (N (((1 : Int) * 2 ^ ((s + 32)).toNat).natAbs))]) <| .lits 2 <| .call (.agg [(.bool (decide (xa < 0))), (N xa.natAbs), (.bool (decide (xb < 0))), (N xb.natAbs)]) <| .lits 3 <| .call (.agg [(.bool (decide ((xa + (-((1 : Int) * 2 ^ ((s + 32)).toNat))) < 0))), (N ((xa + (-((1 : Int) * 2 ^ ((s + 32)).toNat))).natAbs)), (.bool (decide ((xb + (-((1 : Int) * 2 ^ ((s + 32)).toNat))) < 0))), (N ((xb + (-((1 : Int) * 2 ^ ((s + 32)).toNat))).natAbs))]) <| .lits 4 <| .call (.int .i64 (cmpI xb ((1 : Int) * 2 ^ ((s + 32)).toNat))) <| .lit <| .no <| .lit <| .no <| .lits 4 <| .call (.agg [(.bool (decide ((xa + ((1 : Int) * 2 ^ ((s + 32)).toNat)) < 0))), (N ((xa + ((1 : Int) * 2 ^ ((s + 32)).toNat)).natAbs)), (.bool (decide ((xb + ((1 : Int) * 2 ^ ((s + 32)).toNat)) < 0))), (N ((xb + ((1 : Int) * 2 ^ ((s + 32)).toNat)).natAbs))]) <| .lit <| .call (.agg [(.bool (decide (z1 < 0))), (N z1.natAbs), (.bool (decide (z2 < 0))), (N z2.natAbs)]) <| .lit <| .call (.agg [(.bool (decide (y1 < 0))), (N y1.natAbs), (.bool (decide (y2 < 0))), (N y2.natAbs)]) <| .lit <| .call (.agg [(.bool (decide ((y1 * 2 ^ 1) < 0))), (N ((y1 * 2 ^ 1).natAbs)), (.bool (decide ((y2 * 2 ^ 1) < 0))), (N ((y2 * 2 ^ 1).natAbs))]) <| .lits 3 <| .call (.agg [(.bool (decide (v1 < 0))), (N v1.natAbs), (.bool (decide (v2 < 0))), (N v2.natAbs)]) <| .lit <| .call (.agg [(.bool (decide (r1 < 0))), (N r1.natAbs), (.bool (decide (r2 < 0))), (N r2.natAbs)]) <| .lit <| .call (.agg [(.bool (decide (((y1 * 2 ^ 1) + r1) < 0))), (N (((y1 * 2 ^ 1) + r1).natAbs)), (.bool (decide (((y2 * 2 ^ 1) + r2) < 0))), (N (((y2 * 2 ^ 1) + r2).natAbs))]) <| .lit <| .yes <| .lit <| .call (.agg [(.bool (decide ((((y1 * 2 ^ 1) + r1) / 2 ^ (((s + 32) - s)).toNat) < 0))), (N ((((y1 * 2 ^ 1) + r1) / 2 ^ (((s + 32) - s)).toNat).natAbs)), (.bool (decide ((-(-((y2 * 2 ^ 1) + r2) / 2 ^ (((s + 32) - s)).toNat)) < 0))), (N ((-(-((y2 * 2 ^ 1) + r2) / 2 ^ (((s + 32) - s)).toNat)).natAbs))]) <| .lits 2 <| .ret)
    (cast_ob (aI True.intro (aI (fits_i64 oS : (fits .i64 (s + 32)) = true) (aI (fx_One (s + 32) oS) (have f16 := L_pow1 ((s + 32)).toNat; aI (c1 ) (aI (fx_Sub xa xb ((1 : Int) * 2 ^ ((s + 32)).toNat) ((1 : Int) * 2 ^ ((s + 32)).toNat) oS oS oS oS) (have f15 := L_abs_neg ((1 : Int) * 2 ^ ((s + 32)).toNat); have f14 := L_abs_neg ((1 : Int) * 2 ^ ((s + 32)).toNat); have f13 := L_abs_add xb (-((1 : Int) * 2 ^ ((s + 32)).toNat)); have f12 := L_abs_add xa (-((1 : Int) * 2 ^ ((s + 32)).toNat)); aI (int_Cmp xb ((1 : Int) * 2 ^ ((s + 32)).toNat) oS oS) (have f11 := cmpI_range xb ((1 : Int) * 2 ^ ((s + 32)).toNat); aI (iLe_mkF oO : (iLe (cmpI xb ((1 : Int) * 2 ^ ((s + 32)).toNat)) 0) = false) (aI (decide_eq_false oO : (decide ((xa + (-((1 : Int) * 2 ^ ((s + 32)).toNat))) < 0)) = false) (aI (fx_Add xa xb ((1 : Int) * 2 ^ ((s + 32)).toNat) ((1 : Int) * 2 ^ ((s + 32)).toNat) oS oS oS oS) (have f10 := L_abs_add xb ((1 : Int) * 2 ^ ((s + 32)).toNat); have f9 := L_abs_add xa ((1 : Int) * 2 ^ ((s + 32)).toNat); aI (c2 ) (aI (c3 ) (aI (fx_Twice y1 y2 1 oS oS oS) (have f8 := L_abs_shl y2 1; have f7 := L_abs_shl y1 1; aI (c4 ) (aI (c5 ) (aI (fx_Add (y1 * 2 ^ 1) (y2 * 2 ^ 1) r1 r2 oS oS oS oS) (have f6 := L_abs_add (y2 * 2 ^ 1) r2; have f5 := L_abs_add (y1 * 2 ^ 1) r1; aI (fits_i64 oS : (fits .i64 ((s + 32) - s)) = true) (aI (fx_Half ((y1 * 2 ^ 1) + r1) ((y2 * 2 ^ 1) + r2) ((s + 32) - s) oS oS oS) (have f4 := L_abs_neg (-((y2 * 2 ^ 1) + r2) / 2 ^ (((s + 32) - s)).toNat); have f3 := L_abs_shr (-((y2 * 2 ^ 1) + r2)) (((s + 32) - s)).toNat; have f2 := L_abs_neg ((y2 * 2 ^ 1) + r2); have f1 := L_abs_shr ((y1 * 2 ^ 1) + r1) (((s + 32) - s)).toNat; (by rw [show ((s + 32) - s).toNat = 32 by omega]; exact vsub_refl _ : vsub (.agg [(.bool (decide ((((y1 * 2 ^ 1) + r1) / 2 ^ (((s + 32) - s)).toNat) < 0))), (N ((((y1 * 2 ^ 1) + r1) / 2 ^ (((s + 32) - s)).toNat).natAbs)), (.bool (decide ((-(-((y2 * 2 ^ 1) + r2) / 2 ^ (((s + 32) - s)).toNat)) < 0))), (N ((-(-((y2 * 2 ^ 1) + r2) / 2 ^ (((s + 32) - s)).toNat)).natAbs))]) (.agg [(.bool (decide ((((y1 * 2 ^ 1) + r1) / 2 ^ 32) < 0))), (N ((((y1 * 2 ^ 1) + r1) / 2 ^ 32).natAbs)), (.bool (decide ((-(-((y2 * 2 ^ 1) + r2) / 2 ^ 32)) < 0))), (N ((-(-((y2 * 2 ^ 1) + r2) / 2 ^ 32)).natAbs))])))))))))))))))))))) (by kernel_rfl))
theorem L_T {x : Int} {t : Nat} (h0 : 0 ≤ x) (h : x ≤ 8192 * 2 ^ t) (ht : t ≤ 6000) : L x.natAbs ≤ 200 := by
  refine L_pow2 (n := t + 14) ?_ oO
  have e : (2 : Nat) ^ (t + 14) = 16384 * 2 ^ t := by rw [Nat.pow_add, Nat.mul_comm]
  have p : ((2 ^ t : Nat) : Int) = (2 : Int) ^ t := (pow_cast t).symm
  have := two_pos t
  rw [e]; omega
theorem fx_area (x1 x2 s : Int) (hs : 8 ≤ s ∧ s ≤ 6000) (h : ArH (2 ^ s.toNat) x1 x2) (hd : x2 - x1 ≤ 4) :
    ∃ y1 y2 : Int, Impl Tryz.prog Amb 211 [(.agg [(.bool (decide (x1 < 0))), (N x1.natAbs), (.bool (decide (x2 < 0))), (N x2.natAbs)]), (.int .i64 s)] (.agg [(.bool (decide (y1 < 0))), (N y1.natAbs), (.bool (decide (y2 < 0))), (N y2.natAbs)]) ∧ 0 ≤ y1 ∧ y1 ≤ y2 ∧ y2 - y1 ≤ 100000 ∧ y2 ≤ 8192 * 2 ^ s.toNat ∧
      ∀ X : Rat, (x1 : Rat) ≤ X * ((2 ^ s.toNat : Int) : Rat) → X * ((2 ^ s.toNat : Int) : Rat) ≤ (x2 : Rat) → ∃ N0, ∀ K, N0 ≤ K → (y1 : Rat) ≤ PL X K * ((2 ^ s.toNat : Int) : Rat) ∧ PL X K * ((2 ^ s.toNat : Int) : Rat) ≤ (y2 : Rat) := by
  generalize ht : s.toNat = t at *
  have T0 : (0 : Rat) < ((2 ^ t : Int) : Rat) := Rat.intCast_pos.2 (two_pos t)
  obtain ⟨N, hN, hs8, hl⟩ := aP_small h
  have pf := aP_facts h
  have af := aA_facts h
  have eX : (x1 : Rat) * ((2 ^ t : Int) : Rat)⁻¹ * ((2 ^ t : Int) : Rat) = x1 := by rw [Rat.mul_assoc, Rat.inv_mul_cancel _ (by grind), Rat.mul_one]
  have pe := aP_enc (X := (x1 : Rat) * ((2 ^ t : Int) : Rat)⁻¹) h (by rw [eX]; exact Rat.le_refl) (by rw [eX]; exact Rat.intCast_le_intCast.2 h.h2)
  have ae := aA_enc (X := (x1 : Rat) * ((2 ^ t : Int) : Rat)⁻¹) h (by rw [eX]; exact Rat.le_refl) (by rw [eX]; exact Rat.intCast_le_intCast.2 h.h2)
  have po : ∀ j, (aP (2 ^ t) x1 x2 j).1 ≤ (aP (2 ^ t) x1 x2 j).2 := fun j => Rat.intCast_le_intCast.1 (Rat.le_trans (pe j).1 (pe j).2)
  have ao : ∀ j, (aA (2 ^ t) x1 x2 j).1 ≤ (aA (2 ^ t) x1 x2 j).2 := fun j => Rat.intCast_le_intCast.1 (Rat.le_trans (ae j).1 (ae j).2)
  have t6 : t ≤ 6000 := by omega
  have p1 : ∀ j, L (ap1 x1 x2 s j).natAbs ≤ 200 := fun j => by
    unfold ap1; rw [ht]; have a := pf j; have b := po j
    exact L_T a.1 oO t6
  have p2 : ∀ j, L (ap2 x1 x2 s j).natAbs ≤ 200 := fun j => by
    unfold ap2; rw [ht]; have a := pf j
    exact L_T a.2.1 oO t6
  have am : ∀ j, j ≤ N → (aA (2 ^ t) x1 x2 j).2 ≤ 8000 * 2 ^ t := fun j hj => by
    have a := (af j).2.1
    have m := Int.mul_le_mul_of_nonneg_right (show (j : Int) + 1 ≤ 8000 by omega) (Int.le_of_lt (two_pos t))
    omega
  have a1 : ∀ j, j ≤ N → L (aa1 x1 x2 s j).natAbs ≤ 200 := fun j hj => by
    unfold aa1; rw [ht]; have a := af j; have b := ao j; have c := am j hj
    exact L_T a.1 oO t6
  have a2 : ∀ j, j ≤ N → L (aa2 x1 x2 s j).natAbs ≤ 200 := fun j hj => by
    unfold aa2; rw [ht]; have a := af j; have c := am j hj
    exact L_T a.2.2.2 oO t6
  have q := ar_q (T := 2 ^ t) (two_pos t) h.h1 h.h2 h.h3
  have lq1 : L (x1 * x1 / 2 ^ s.toNat).natAbs ≤ 200 := by rw [ht]; exact L_T q.1 oO t6
  have lq2 : L (-(-(x2 * x2) / 2 ^ s.toNat)).natAbs ≤ 200 := by rw [ht]; exact L_T q.2.2.2.1 (by have := h.hT; omega) t6
  have lx1 : L x1.natAbs ≤ 200 := L_T h.h1 (by have := h.h2; have := h.h3; omega) t6
  have lx2 : L x2.natAbs ≤ 200 := L_T (by have := h.h1; have := h.h2; omega) (by have := h.h3; have := h.h1; have := h.h2; omega) t6
  have lt : ∀ j, L (at1 x1 x2 s j).natAbs ≤ 200 ∧ L (at2 x1 x2 s j).natAbs ≤ 201 := fun j => by
    have b1 := p1 (j + 1)
    have b2 := p2 (j + 1)
    have l1 := L_div (ap1 x1 x2 s (j + 1)).natAbs (odn (j + 1)).toNat
    have l2 := L_div (ap2 x1 x2 s (j + 1)).natAbs (odn (j + 1)).toNat
    have l3 := L_add ((ap2 x1 x2 s (j + 1)).natAbs / (odn (j + 1)).toNat) 1
    have l4 := L_lit 1 (by decide)
    unfold at1 at2 ptLo ptHi
    rw [Int.natAbs_natCast, Int.natAbs_natCast]
    refine ⟨by omega, ?_⟩
    split
    · rw [Nat.add_zero]; omega
    · omega
  refine ⟨_, _, fx_area0 N x1 x2 s oO ?_ ?_ ?_ ?_ ?_ oO oO oO, ?_, ?_, ?_, ?_, ?_⟩
  · intro j hj
    refine impl_eq (congrArg V.bool (decide_eq_decide.2 ?_)) (fx_Tiny (ap1 x1 x2 s j) (ap2 x1 x2 s j) (by have := p2 j; omega))
    unfold ap2
    rw [ht]
    constructor
    · intro hq
      refine Decidable.byContradiction fun hn => hl j oO ?_
      omega
    · intro hq
      rw [show j = N by omega]
      have := (pf N).2.1
      omega
  · intro j hj
    exact fx_Mul (ap1 x1 x2 s j) (ap2 x1 x2 s j) (x1 * x1 / 2 ^ s.toNat) (-(-(x2 * x2) / 2 ^ s.toNat)) s (by have := p1 j; omega) (by have := p2 j; omega) oO oO oO
  · intro j k hj hk
    subst hk
    exact fx_Part (ap1 x1 x2 s (j + 1)) (ap2 x1 x2 s (j + 1)) (odn (j + 1)) (by have := p1 (j + 1); omega) (by have := p2 (j + 1); omega) (by unfold odn; omega)
  · intro j hj
    have b := lt j
    exact fx_Add (aa1 x1 x2 s j) (aa2 x1 x2 s j) (at1 x1 x2 s j) (at2 x1 x2 s j) (by have := a1 j oO; omega) (by have := a2 j oO; omega) oO oO
  · intro j hj
    have := a2 j hj
    have := p2 j
    omega
  · unfold aa1; rw [ht]; exact (af N).1
  · unfold aa1 aa2 ap2; rw [ht]; have := ao N; have := (pf N).2.1; omega
  · unfold aa1 aa2 ap2; rw [ht]
    have a := (af N).2.2.1
    have d0 := h.h2
    have m := Int.mul_le_mul_of_nonneg_left (show (x2 - x1) + 8 ≤ 12 by omega) (show (0 : Int) ≤ (N : Int) by omega)
    omega
  · unfold aa2 ap2; rw [ht]
    have := am N (Nat.le_refl _)
    have := h.hT
    omega
  · intro X e1 e2
    unfold aa1 aa2 ap2; rw [ht]
    exact ⟨N + 1, fun K hK => area_enc h e1 e2 N hK⟩
end Go.Proofs.YtekcladflnieeaaGreatDoor



namespace Go.Proofs.YtekcladflnieeaaGreatDoor
theorem dv_top {m e : Int} (hm : m ≠ 0) : dv (m.natAbs : Int) e < dv 1 (topD m e) ∧ dv 1 (topD m e - 1) ≤ dv (m.natAbs : Int) e := by
  have h1 := nbits_lt m.natAbs
  have h2 := nbits_le (show m.natAbs ≠ 0 by omega)
  have h3 := nbits_pos (show m.natAbs ≠ 0 by omega)
  have ht : topD m e = (nbits m.natAbs : Int) + e := by unfold topD; rw [if_neg hm]
  constructor
  · rw [dv_at (m := 1) (show e ≤ topD m e by omega), dv_lt, Int.one_mul, pow_cast, show (topD m e - e).toNat = nbits m.natAbs by omega]; omega
  · rw [dv_at (m := 1) (show e ≤ topD m e - 1 by omega), dv_le, Int.one_mul, pow_cast, show (topD m e - 1 - e).toNat = nbits m.natAbs - 1 by omega]; omega
end Go.Proofs.YtekcladflnieeaaGreatDoor

namespace Go.Proofs.YtekcladflnieeaaGreatDoor
theorem PL_odd {y z : Rat} (h : y ≤ z) : ∀ k, PL y k ≤ PL z k
  | 0 => Rat.le_refl
  | k + 1 => by
    have i := PL_odd h k
    have p := odd_mono h (k := 2 * k + 1) (by omega)
    have n0 : (0 : Rat) < (odn k : Rat) := Rat.intCast_pos.2 (odn_pos k)
    have d : y ^ (2 * k + 1) / (odn k : Rat) ≤ z ^ (2 * k + 1) / (odn k : Rat) := by
      rw [Rat.div_def, Rat.div_def]
      exact Rat.mul_le_mul_of_nonneg_right p (Rat.le_of_lt (Rat.inv_pos.2 n0))
    show PL y k + y ^ (2 * k + 1) / (odn k : Rat) ≤ PL z k + z ^ (2 * k + 1) / (odn k : Rat)
    grind
theorem PL_cap {z c : Rat} (hz : 0 ≤ z) (h2 : 2 * z ≤ 1) (h : PL z 100 + z ^ 199 ≤ c) (K : Nat) : PL z K ≤ c := by
  have t := (PL_hi hz h2 (j := 99) (K := 100 + K) (by omega)).2
  have m := PL_mono hz (j := K) 100
  rw [Nat.add_comm] at m
  exact Rat.le_trans m (Rat.le_trans t h)
theorem z_mono {M N : Rat} (hM : 0 < M) (h : M ≤ N) : (M - 1) / (M + 1) ≤ (N - 1) / (N + 1) := by
  have a : (0 : Rat) < M + 1 := by grind
  have b : (0 : Rat) < N + 1 := by grind
  have e1 := Rat.div_mul_cancel (a := M - 1) (b := M + 1) (by grind)
  have e2 := Rat.div_mul_cancel (a := N - 1) (b := N + 1) (by grind)
  generalize (M - 1) / (M + 1) = x at *
  generalize (N - 1) / (N + 1) = y at *
  refine Decidable.byContradiction fun hn => ?_
  have hn := Rat.not_le.1 hn
  have m := Rat.mul_lt_mul_of_pos_right hn (Rat.mul_pos a b)
  have a1 : y * ((M + 1) * (N + 1)) = (N - 1) * (M + 1) := by rw [← e2]; grind
  have a2 : x * ((M + 1) * (N + 1)) = (M - 1) * (N + 1) := by rw [← e1]; grind
  rw [a1, a2] at m
  grind
end Go.Proofs.YtekcladflnieeaaGreatDoor

namespace Go.Proofs.YtekcladflnieeaaGreatDoor
def spl (m e : Int) : Int := topD m e - (if cmpD m (e - topD m e) 3 (-2) < 0 then 1 else 0)
theorem sp_y {m e : Int} (h : cmpD m (e - topD m e) 3 (-2) < 0) : topD m e - 1 = spl m e ∧ e - topD m e + 1 = e - spl m e := by
  unfold spl; rw [if_pos h]; omega
theorem sp_n {m e : Int} (h : 0 ≤ cmpD m (e - topD m e) 3 (-2)) : topD m e = spl m e ∧ e - topD m e = e - spl m e := by
  unfold spl; rw [if_neg (by omega)]; omega
theorem dv_exp (m e k : Int) : dv m e = dv m (e - k) * 2 ^ k := by
  unfold dv
  rw [Rat.mul_assoc, ← zp_add, show e - k + k = e by omega]
theorem dv_three : dv 3 (-2) = 3 / 4 := by
  have h : dv 3 (-2) * 2 ^ (2 : Int) = 3 := by
    rw [show dv 3 (-2) * 2 ^ (2 : Int) = dv 3 0 from (dv_exp 3 0 2).symm, dv_int]; rfl
  rw [show (2 : Rat) ^ (2 : Int) = 4 from rfl] at h
  grind
theorem dv_half (m e : Int) : dv m e = 2 * dv m (e - 1) := by
  have := dv_exp m e 1
  rw [show (2 : Rat) ^ (1 : Int) = 2 from rfl] at this
  grind
theorem sp_top {m e : Int} (h : 0 < m) : 1 ≤ 2 * dv m (e - topD m e) ∧ dv m (e - topD m e) < 1 := by
  have t := dv_top (m := m) (e := e) (by omega)
  rw [show (m.natAbs : Int) = m by omega] at t
  have p := zp_pos (topD m e)
  have e1 := dv_exp m e (topD m e)
  have e2 := dv_half 1 (topD m e)
  have e3 : dv 1 (topD m e) = 2 ^ topD m e := by unfold dv; rw [Rat.intCast_one, Rat.one_mul]
  rw [e3] at e2 t
  rw [e1] at t
  constructor
  · refine Rat.le_of_mul_le_mul_right (c := (2 : Rat) ^ topD m e) ?_ p
    grind
  · exact (Rat.mul_lt_mul_right p).1 (by rw [Rat.one_mul]; exact t.1)
theorem sp_facts {m e : Int} (h : 0 < m) : 3 ≤ 4 * dv m (e - spl m e) ∧ 2 * dv m (e - spl m e) < 3 ∧ dv m e = dv m (e - spl m e) * 2 ^ spl m e ∧ e ≤ spl m e ∧ spl m e ≤ 32 * (L m.natAbs : Int) + e := by
  have t := sp_top (e := e) h
  have r := topD_range m e
  have e1 := dv_exp m e (spl m e)
  have three := dv_three
  by_cases c : cmpD m (e - topD m e) 3 (-2) < 0
  · have s := sp_y c
    have l := cmpD_neg.1 c
    have d := dv_half m (e - spl m e)
    rw [show e - spl m e - 1 = e - topD m e by omega] at d
    refine ⟨by grind, by grind, e1, by omega, by omega⟩
  · have s := sp_n (m := m) (e := e) (by omega)
    have l : 3 / 4 ≤ dv m (e - topD m e) := by
      rw [← three]
      exact Rat.not_lt.1 fun q => c (cmpD_neg.2 q)
    rw [← s.2]
    refine ⟨by grind, by grind, by rw [s.2]; exact e1, by omega, by omega⟩
theorem spl_r1 {m z k k' e e' c : Int} (hs : z = m) (h : k = k' ∧ e = e') : vsub (.tup [.int .i64 k, .agg [.bool (decide (z < 0)), N z.natAbs, .int .i64 e], .int .i64 c]) (.tup [.int .i64 k', .agg [.bool (decide (m < 0)), N m.natAbs, .int .i64 e'], .int .i64 c]) := by
  obtain ⟨rfl, rfl⟩ := h
  subst hs
  exact vsub_refl _
end Go.Proofs.YtekcladflnieeaaGreatDoor

namespace Go.Proofs.YtekcladflnieeaaGreatDoor
open Go.RowKit
set_option maxRecDepth 100000
theorem lg_Split (m : Int) (e : Int) (c0 : L (m).natAbs ≤ 4000) (c1 : -65536 ≤ e ∧ e ≤ 65536) (c2 : 0 < m) : Impl Tryz.prog Amb 26 [(yV m e)] (.tup [(.int .i64 (spl m e)), (yV m (e - (spl m e))), (.int .i64 0)]) := by
  have sm := L_sgn false m.natAbs
  have sf : sgn false m.natAbs = m := (sgn_f _).trans (Int.natAbs_of_nonneg oO)
  have tr := topD_range m e
  have l3 := L_lit 3 (by decide)
  have ce : cmpD (sgn false m.natAbs) (e - topD m e) 3 (-2) = cmpD m (e - topD m e) 3 (-2) := by rw [sf]
  exact impl_ob hP hAmb Tryz.func26 (by kernel_rfl) (.lits 2 <| .call (.int .i64 ((m).sign)) <| .lit <| .no <| .lits 2 <| .call (.int .i64 (topD m e)) <| .lits 2 <| .call (zV (sgn false m.natAbs)) <| .lits 2 <| .yes <| .lits 2 <| .call (zV (3 : Int)) <| .lits 5 <| .call (.int .i64 (cmpD (sgn false m.natAbs) (e - (topD m e)) (3 : Int) (-2))) <| .lit <| .both (.lit <| .yes <| .lits 3 <| .yes <| .lits 3 <| .ret) (.lits 3 <| .ret))
    (cast_ob (aI True.intro (aI (dy_Sign m e oO) (have f7 := sign_range m; aI (iLe_mkF oO : (iLe ((m).sign) 0) = false) (aI (dy_Top m e oO oO) (have f6 := topD_range m e; aI (int_Nat false m.natAbs oO) (have f5 := L_sgn false m.natAbs; aI (fits_i64 oO : (fits .i64 (e - (topD m e))) = true) (aI (int_Of 3 oO) (have f4 := (L_i64 oO : L (3 : Int).natAbs ≤ 2); aI (dy_Cmp (sgn false m.natAbs) (e - (topD m e)) (3 : Int) (-2) oO oO oO oO) (have f3 := cmpD_range (sgn false m.natAbs) (e - (topD m e)) (3 : Int) (-2); aI (fun (h1 : (iLt (cmpD (sgn false m.natAbs) (e - (topD m e)) (3 : Int) (-2)) 0) = true) => have _gh1 := iLt_t h1; aI (fits_i64 oO : (fits .i64 ((topD m e) - 1)) = true) (aI (fits_i64 oO : (fits .i64 ((e - (topD m e)) + 1)) = true) ((spl_r1 sf (sp_y oO) : vsub (.tup [(.int .i64 ((topD m e) - 1)), (yV (sgn false m.natAbs) ((e - (topD m e)) + 1)), (.int .i64 0)]) (.tup [(.int .i64 (spl m e)), (yV m (e - (spl m e))), (.int .i64 0)]))))) (fun (h2 : (iLt (cmpD (sgn false m.natAbs) (e - (topD m e)) (3 : Int) (-2)) 0) = false) => have _gh2 := iLt_f h2; (spl_r1 sf (sp_n oO) : vsub (.tup [(.int .i64 (topD m e)), (yV (sgn false m.natAbs) (e - (topD m e))), (.int .i64 0)]) (.tup [(.int .i64 (spl m e)), (yV m (e - (spl m e))), (.int .i64 0)])))))))))))) (by kernel_rfl))
def fx_Settle2_0_mk (fk : Nat) (u1 : V) (u2 : V) (_ _ w : Int) (x : Int) : St := ⟨mkS 27 [(0, (.val (.int .i64 w))), (1, (.val (.clos fk [u1, u2]))), (4, (.own 0 0)), (5, (.val (.int .i64 24)))], [⟨true, false, [(V.bool false), V.nil, (V.bool false), V.nil]⟩]⟩
def fx_Settle2_0_I (_ : Nat) (_ : V) (_ : V) (_ _ _ : Int) (x : Int) : Prop := x = x
def fx_Settle2_0_mu (_ : Nat) (_ : V) (_ : V) (_ _ _ : Int) (x : Int) : Nat := 0
def fx_Settle2_0_ex (_ : Nat) (_ : V) (_ : V) (ka kb _ : Int) (y : Int) : Ex × St := (.ret, ⟨mkS 27 [(4, (.own 0 0))], [⟨true, false, [(V.bool (decide ((ka / 2 ^ 24) < 0))), (N ((ka / 2 ^ 24).natAbs)), (V.bool (decide ((-(-kb / 2 ^ 24)) < 0))), (N ((-(-kb / 2 ^ 24)).natAbs))]⟩]⟩)
def fx_Settle2_0_J (_ : Nat) (_ : V) (_ : V) (_ _ _ : Int) (y : Int) : Prop := y = y
theorem fx_Settle2_0 (fk : Nat) (u1 : V) (u2 : V) (ka kb w : Int) (c0 : Impl Tryz.prog Amb fk [(.int .i64 (w + 24)), u1, u2] (.agg [(.bool (decide (ka < 0))), (N ka.natAbs), (.bool (decide (kb < 0))), (N kb.natAbs)]))(c1 : L ka.natAbs ≤ 8192 ∧ L kb.natAbs ≤ 8192)(c2 : nbits (kb - ka).natAbs ≤ 24)(c3 : (0 : Int) ≤ w ∧ w ≤ 5000) (x0 : Int) (hI : fx_Settle2_0_I fk u1 u2 ka kb w x0) : LoopOk Tryz.prog Amb (loopN Tryz.f107 0) (fx_Settle2_0_mk fk u1 u2 ka kb w x0) (fun e st_ => ∃ y, fx_Settle2_0_J fk u1 u2 ka kb w y ∧ fx_Settle2_0_ex fk u1 u2 ka kb w y = (e, st_)) :=
  loop_ob hP hAmb ⟨[0, 1, 4, 5], 1, []⟩ (fx_Settle2_0_mk fk u1 u2 ka kb w) (fx_Settle2_0_I fk u1 u2 ka kb w) (fx_Settle2_0_mu fk u1 u2 ka kb w) (fx_Settle2_0_ex fk u1 u2 ka kb w) (fx_Settle2_0_J fk u1 u2 ka kb w) x0 hI (fun j => .lit <| .yes <| .lit <| .call (.agg [(.bool (decide (ka < 0))), (N ka.natAbs), (.bool (decide (kb < 0))), (N kb.natAbs)]) <| .lits 3 <| .call (zV (kb - ka)) <| .lits 2 <| .call (.int .i64 (nbits ((kb - ka).natAbs) : Int)) <| .lit <| .yes <| .lits 5 <| .call (.agg [(.bool (decide ((ka / 2 ^ 24) < 0))), (N ((ka / 2 ^ 24).natAbs)), (.bool (decide ((-(-kb / 2 ^ 24)) < 0))), (N ((-(-kb / 2 ^ 24)).natAbs))]) <| .lit <| .fin3 ⟨[4], [0]⟩) (by
    rintro j hI
    have hI : j = j := hI
    have h1 := hI
    exact cast_ob (aI True.intro (aI (fits_i64 oS : (fits .i64 (w + 24)) = true) (aI (c0 ) (aI (fx_Width ka kb oS oS) (have f106 := L_abs_sub kb ka; aI (nat_Bits ((kb - ka).natAbs) oS) (have f105 := nbits_L ((kb - ka).natAbs); aI (iLe_mk oO : (iLe (nbits ((kb - ka).natAbs) : Int) 24) = true) (aI (fx_Half ka kb 24 oS oS oS) (have f104 := L_abs_neg (-kb / 2 ^ 24); have f103 := L_abs_shr (-kb) 24; have f102 := L_abs_neg kb; have f101 := L_abs_shr ka 24; aI tT ((nx_ret ((fx_Settle2_0_ex fk u1 u2 ka kb w j).2) j (show j = j from rfl) rfl : NX (fx_Settle2_0_mk fk u1 u2 ka kb w) (fx_Settle2_0_I fk u1 u2 ka kb w) (fx_Settle2_0_mu fk u1 u2 ka kb w) (fx_Settle2_0_ex fk u1 u2 ka kb w) (fx_Settle2_0_J fk u1 u2 ka kb w) j .ret ((fx_Settle2_0_ex fk u1 u2 ka kb w j).2))))))))))) (by kernel_rfl))
theorem fx_Settle2 (fk : Nat) (u1 : V) (u2 : V) (ka : Int) (kb : Int) (w : Int) (c0 : Impl Tryz.prog Amb fk [(.int .i64 (w + 24)), u1, u2] (.agg [(.bool (decide (ka < 0))), (N ka.natAbs), (.bool (decide (kb < 0))), (N kb.natAbs)])) (c1 : L ka.natAbs ≤ 8192 ∧ L kb.natAbs ≤ 8192) (c2 : nbits (kb - ka).natAbs ≤ 24) (c3 : (0 : Int) ≤ w ∧ w ≤ 5000) : Impl Tryz.prog Amb 107 [(.int .i64 w), (.clos fk [u1, u2])] (.agg [(.bool (decide ((ka / 2 ^ 24) < 0))), (N ((ka / 2 ^ 24).natAbs)), (.bool (decide ((-(-kb / 2 ^ 24)) < 0))), (N ((-(-kb / 2 ^ 24)).natAbs))]) := by
  exact impl_ob hP hAmb Tryz.func107 (by kernel_rfl) (.loop ⟨[0, 1, 4, 5], 1, []⟩ ((fx_Settle2_0_mk fk u1 u2 ka kb w (0 : Int))) (Int) (fx_Settle2_0_ex fk u1 u2 ka kb w) (fx_Settle2_0_J fk u1 u2 ka kb w) (fun y => .lit <| .ret))
    (cast_ob (aI True.intro (aI tT (aI (rfl : (fx_Settle2_0_mk fk u1 u2 ka kb w (0 : Int)) = (fx_Settle2_0_mk fk u1 u2 ka kb w (0 : Int))) (aI (fx_Settle2_0 fk u1 u2 ka kb w c0 c1 c2 c3 (0 : Int) (show (0 : Int) = (0 : Int) from rfl)) (fun y (hJ : fx_Settle2_0_J fk u1 u2 ka kb w y) => have hJ : y = y := hJ; (vsub_refl (.agg [(.bool (decide ((ka / 2 ^ 24) < 0))), (N ((ka / 2 ^ 24).natAbs)), (.bool (decide ((-(-kb / 2 ^ 24)) < 0))), (N ((-(-kb / 2 ^ 24)).natAbs))]))))))) (by kernel_rfl))
end Go.Proofs.YtekcladflnieeaaGreatDoor


namespace Go.Proofs.YtekcladflnieeaaGreatDoor
open Go.RowKit
set_option maxRecDepth 100000
set_option maxHeartbeats 400000
theorem abs_big {x : Int} {t c : Nat} (h : x.natAbs ≤ c * 2 ^ t) (hc : c ≤ 2 ^ 20) (ht : t ≤ 2000) : L x.natAbs ≤ 70 := by
  refine L_pow2 (n := t + 21) ?_ oO
  have e : (2 : Nat) ^ (t + 21) = 2 * (2 ^ 20 * 2 ^ t) := by rw [Nat.pow_add]; omega
  have p := Nat.mul_le_mul_right (2 ^ t) hc
  have := Nat.pow_pos (n := t) (show 0 < 2 by omega)
  omega
end Go.Proofs.YtekcladflnieeaaGreatDoor

namespace Go.Proofs.YtekcladflnieeaaGreatDoor
open Go.RowKit
set_option maxRecDepth 100000
theorem cln_all : (List.range 400).all (fun t => decide (lnLo (t : Int) * 2 ^ (430 - t) ≤ ptLn) && decide (ptLn ≤ lnHi (t : Int) * 2 ^ (430 - t))) = true := by kernel_rfl
theorem cln_at {t : Nat} (ht : t < 400) : ((lnLo (t : Int) : Int) : Rat) ≤ cLn * ((2 ^ t : Int) : Rat) ∧ cLn * ((2 ^ t : Int) : Rat) ≤ ((lnHi (t : Int) : Int) : Rat) := by
  have h := List.all_eq_true.1 cln_all t (List.mem_range.2 ht)
  simp only [Bool.and_eq_true, decide_eq_true_eq] at h
  exact ⟨(cl_sc oO).1 h.1, (cl_sc oO).2 h.2⟩
theorem ln_le (s : Int) : lnLo s ≤ lnHi s := by
  have a := (arcT_pos 26 false s)
  have b := (arcT_pos 4801 false s)
  have c := (arcT_pos 8749 false s)
  unfold lnLo lnHi
  omega
theorem ln_part {t : Nat} {k s d1 d2 xa xb : Int} {M Z : Rat} {g : Bool} (ht : (t : Int) = s + 32) (hs : 0 ≤ s ∧ s ≤ 5900) (hk : -4096 ≤ k ∧ k ≤ 4096) (hM : 0 < M + 1) (h : LnH (2 ^ t) M Z d1 d2 xa xb) (hz : (M - 1) / (M + 1) = if g then -Z else Z) (La : L xa.natAbs ≤ 1000) (Lb : L xb.natAbs ≤ 1000) (Lc : L d1.natAbs ≤ 1002) (Ld : L d2.natAbs ≤ 1002) (xp : 0 ≤ xa) :
    ∃ z1 z2 y1 y2 v1 v2 r1 r2 : Int, Impl Tryz.prog Amb 212 [(.agg [(.bool (decide (d1 < 0))), (N d1.natAbs), (.bool (decide (d2 < 0))), (N d2.natAbs)]), (.agg [(.bool (decide ((xa + (1 : Int) * 2 ^ t) < 0))), (N ((xa + (1 : Int) * 2 ^ t).natAbs)), (.bool (decide ((xb + (1 : Int) * 2 ^ t) < 0))), (N ((xb + (1 : Int) * 2 ^ t).natAbs))]), (.int .i64 (s + 32))] (.agg [(.bool (decide (z1 < 0))), (N z1.natAbs), (.bool (decide (z2 < 0))), (N z2.natAbs)]) ∧ Impl Tryz.prog Amb 211 [(.agg [(.bool (decide (z1 < 0))), (N z1.natAbs), (.bool (decide (z2 < 0))), (N z2.natAbs)]), (.int .i64 (s + 32))] (.agg [(.bool (decide (y1 < 0))), (N y1.natAbs), (.bool (decide (y2 < 0))), (N y2.natAbs)]) ∧
      Impl Tryz.prog Amb 106 [(.int .i64 (s + 32))] (.agg [(.bool (decide (v1 < 0))), (N v1.natAbs), (.bool (decide (v2 < 0))), (N v2.natAbs)]) ∧ Impl Tryz.prog Amb 110 [(.agg [(.bool (decide (v1 < 0))), (N v1.natAbs), (.bool (decide (v2 < 0))), (N v2.natAbs)]), (.int .i64 k)] (.agg [(.bool (decide (r1 < 0))), (N r1.natAbs), (.bool (decide (r2 < 0))), (N r2.natAbs)]) ∧ (L y1.natAbs ≤ 200 ∧ L y2.natAbs ≤ 200 ∧ L r1.natAbs ≤ 6300 ∧ L r2.natAbs ≤ 6300) ∧ y1 ≤ y2 ∧ y2 - y1 ≤ 100000 ∧ r1 ≤ r2 ∧ r2 - r1 ≤ 68719476736 ∧
      (t < 400 → Encl (LnF M k) t ((if g then -(y2 * 2) else y1 * 2) + r1) ((if g then -(y1 * 2) else y2 * 2) + r2)) := by
  have T0 := two_pos t
  have tn : (s + 32).toNat = t := by omega
  have hT := h.hT
  have x2 := h.x2
  have xb0 : 0 ≤ xb := by
    refine Rat.intCast_le_intCast.1 (Rat.le_trans ?_ h.xb1)
    exact Rat.le_trans (Rat.intCast_le_intCast.2 xp) h.xa1
  have n1 : xa + (1 : Int) * 2 ^ t ≠ 0 := by omega
  have n2 : xb + (1 : Int) * 2 ^ t ≠ 0 := by omega
  have l1 := L_pow1 t
  have la := L_abs_add xa ((1 : Int) * 2 ^ t)
  have lb := L_abs_add xb ((1 : Int) * 2 ^ t)
  have hD := fx_Div d1 d2 (xa + (1 : Int) * 2 ^ t) (xb + (1 : Int) * 2 ^ t) (s + 32) oO oO oO oO oO n1 n2
  rw [tn] at hD
  have e1 : Int.fdiv (d1 * 2 ^ t) (xb + (1 : Int) * 2 ^ t) = d1 * 2 ^ t / (xb + 2 ^ t) := by rw [Int.fdiv_eq_ediv_of_nonneg _ oO, Int.one_mul]
  have e2 : -(Int.fdiv (-(d2 * 2 ^ t)) (xa + (1 : Int) * 2 ^ t)) = -(-(d2 * 2 ^ t) / (xa + 2 ^ t)) := by rw [Int.fdiv_eq_ediv_of_nonneg _ oO, Int.one_mul]
  rw [e1, e2] at hD
  obtain ⟨hA, q1, q2, q3⟩ := ln_quo h rfl rfl
  generalize d1 * 2 ^ t / (xb + 2 ^ t) = z1 at *
  generalize -(-(d2 * 2 ^ t) / (xa + 2 ^ t)) = z2 at *
  obtain ⟨y1, y2, a0, a1, a2, a3, a4, a5⟩ := fx_area z1 z2 (s + 32) oO (by rw [tn]; exact hA) q3
  rw [tn] at a4 a5
  have b := ln_ok (s := s + 32) oO
  have bl := ln_le (s + 32)
  have bw : lnHi (s + 32) - lnLo (s + 32) < 16777216 := by
    have := nbits_lt (lnHi (s + 32) - lnLo (s + 32)).natAbs
    have p := Nat.pow_le_pow_right (n := 2) oO b.2.2
    omega
  have m1 := L_abs_mul (lnLo (s + 32)) k
  have m2 := L_abs_mul (lnHi (s + 32)) k
  have lk := L_i64 (n := k) oO
  refine ⟨z1, z2, y1, y2, lnLo (s + 32), lnHi (s + 32), tmLo (lnLo (s + 32)) (lnHi (s + 32)) k, tmHi (lnLo (s + 32)) (lnHi (s + 32)) k, hD, a0, fx_Ln2 (s + 32) oO, fx_TimesA _ _ k oO oO oO, ⟨L_T (t := t) a1 oO oO, L_T (t := t) oO a4 oO, ?_, ?_⟩, a2, a3, ?_, tm_w (W := 4096) bl oO bw, fun h4 => ?_⟩
  · unfold tmLo; split <;> omega
  · unfold tmHi; split <;> omega
  · unfold tmLo tmHi
    split
    · have := Int.mul_le_mul_of_nonneg_right bl (show 0 ≤ -k by omega)
      rw [Int.mul_neg, Int.mul_neg] at this
      omega
    · exact Int.mul_le_mul_of_nonneg_right bl oO
  · obtain ⟨N0, hK⟩ := a5 Z q1 q2
    have c := cln_at h4
    rw [ht] at c
    exact ln_add hz hK c.1 c.2
theorem fx_LnE (m e k s : Int) (hs : 0 ≤ s ∧ s ≤ 5900) (hk : -4096 ≤ k ∧ k ≤ 4096) (hm : L (m).natAbs ≤ 300) (he : -20000 ≤ e ∧ e ≤ 100) (h1 : 3 ≤ 4 * dv m e) (h2 : 2 * dv m e < 3) :
    ∃ lo hi : Int, Impl Tryz.prog Amb 147 [(yV m e), (.int .i64 k), (.int .i64 s)] (.agg [(.bool (decide (lo < 0))), (N lo.natAbs), (.bool (decide (hi < 0))), (N hi.natAbs)]) ∧ lo ≤ hi ∧ hi - lo < 16777216 ∧ L lo.natAbs ≤ 6310 ∧ L hi.natAbs ≤ 6310 ∧ (s + 32 < 400 → Encl (LnF (dv m e) k) s.toNat lo hi) := by
  obtain ⟨t, ht⟩ : ∃ t : Nat, (t : Int) = s + 32 := ⟨(s + 32).toNat, by omega⟩
  have tn : (s + 32).toNat = t := by omega
  have ts : t = s.toNat + 32 := by omega
  have hO := fx_Of m e (s + 32) oO oO oO
  have lf := flr_LD m e (s + 32)
  have sc1 := flr_sc (dv m e) t
  have sc2 := cei_sc (dv m e) t
  have fc := flr_cei1 (dv m e) t
  rw [ht] at sc1 sc2 fc
  have T0 : (0 : Rat) < ((2 ^ t : Int) : Rat) := Rat.intCast_pos.2 (two_pos t)
  have T1 := two_pos t
  have hT : (256 : Int) ≤ 2 ^ t := by
    have : (2 : Int) ^ t = 2 ^ 8 * 2 ^ (t - 8) := by rw [← Int.pow_add]; congr 1; omega
    have := two_pos (t - 8)
    omega
  generalize hxa : flr (dv m e) (s + 32) = xa at *
  generalize hxb : cei (dv m e) (s + 32) = xb at *
  clear hxa hxb
  have l1 := L_pow1 t
  have l2 := L_abs_add xa (-((1 : Int) * 2 ^ t))
  have l3 := L_abs_add xb (-((1 : Int) * 2 ^ t))
  have l4 := L_abs_neg ((1 : Int) * 2 ^ t)
  have l5 := L_abs_neg (xa + (-((1 : Int) * 2 ^ t)))
  have l6 := L_abs_neg (xb + (-((1 : Int) * 2 ^ t)))
  have xp : 0 ≤ xa := by
    have b3 : (3 : Rat) * ((2 ^ t : Int) : Rat) ≤ 4 * ((xa : Rat) + 1) := by
      have := Rat.mul_le_mul_of_nonneg_right h1 (Rat.le_of_lt T0)
      grind
    have c : ((3 * 2 ^ t : Int) : Rat) ≤ ((4 * (xa + 1) : Int) : Rat) := by
      rw [Rat.intCast_mul, Rat.intCast_mul, Rat.intCast_add, Rat.intCast_one]
      exact b3
    have := Rat.intCast_le_intCast.1 c
    omega
  have mp : (0 : Rat) < dv m e + 1 := by grind
  have dm := Rat.div_mul_cancel (a := dv m e - 1) (b := dv m e + 1) (by grind)
  by_cases hn : xb ≤ (1 : Int) * 2 ^ t
  · have H : LnH (2 ^ t) (dv m e) (-((dv m e - 1) / (dv m e + 1))) (-(xb + (-((1 : Int) * 2 ^ t)))) (-(xa + (-((1 : Int) * 2 ^ t)))) xa xb := by
      have hb : (xb : Rat) ≤ ((2 ^ t : Int) : Rat) := Rat.intCast_le_intCast.2 oO
      have M1 : dv m e ≤ 1 := Rat.le_of_mul_le_mul_right (c := ((2 ^ t : Int) : Rat)) (by grind) T0
      have eq : -((dv m e - 1) / (dv m e + 1)) * (dv m e + 1) = 1 - dv m e := by grind
      refine ⟨hT, h1, Rat.le_of_lt h2, sc1.1, sc2.1, by omega, by omega, by omega, ?_, by rw [eq]; grind, ?_, ?_⟩
      · refine Rat.le_of_mul_le_mul_right (c := dv m e + 1) ?_ mp
        rw [eq]; grind
      · rw [eq, Rat.intCast_neg, Rat.intCast_add, Rat.intCast_neg, Int.one_mul]; grind
      · rw [eq, Rat.intCast_neg, Rat.intCast_add, Rat.intCast_neg, Int.one_mul]; grind
    obtain ⟨z1, z2, y1, y2, v1, v2, r1, r2, p1, p2, p3, p4, p5, p6, p7, p8, p9, p10⟩ := ln_part (g := true) (k := k) ht hs hk mp H (by simp only [if_true]; grind) oO oO oO oO xp
    have res := fx_LnN m e k s xa xb z1 z2 y1 y2 v1 v2 r1 r2 hs hO (by rw [tn]; exact p1) p2 p3 p4 oO oO oO oO oO oO (by rw [tn]; exact hn) (by rw [tn]; omega)
    rw [show (2 : Int) ^ 1 = 2 from rfl] at res
    have o1 := L_abs_mul y1 2
    have o2 := L_abs_mul y2 2
    have o3 := L_lit (2 : Int).natAbs (by decide)
    have o4 := L_abs_neg (y1 * 2)
    have o5 := L_abs_neg (y2 * 2)
    have o6 := L_abs_add (-(y2 * 2)) r1
    have o7 := L_abs_add (-(y1 * 2)) r2
    have o8 := L_abs_shr (-(y2 * 2) + r1) 32
    have o9 := L_abs_neg (-(y1 * 2) + r2)
    have o10 := L_abs_shr (-(-(y1 * 2) + r2)) 32
    have o11 := L_abs_neg (-(-(y1 * 2) + r2) / 2 ^ 32)
    have hw := half_w (a := -(y2 * 2) + r1) (b := -(y1 * 2) + r2) (W := 100) (n := 32) oO
    refine ⟨_, _, res, ?_, by omega, by omega, by omega, fun h4 => ?_⟩
    · omega
    · exact (p10 oO).half ts
  · have H : LnH (2 ^ t) (dv m e) ((dv m e - 1) / (dv m e + 1)) (xa + (-((1 : Int) * 2 ^ t))) (xb + (-((1 : Int) * 2 ^ t))) xa xb := by
      have ha : (((2 ^ t : Int)) : Rat) ≤ (xa : Rat) := Rat.intCast_le_intCast.2 oO
      have M1 : 1 ≤ dv m e := Rat.le_of_mul_le_mul_right (c := ((2 ^ t : Int) : Rat)) (by grind) T0
      refine ⟨hT, h1, Rat.le_of_lt h2, sc1.1, sc2.1, by omega, by omega, by omega, ?_, by rw [dm]; grind, ?_, ?_⟩
      · refine Rat.le_of_mul_le_mul_right (c := dv m e + 1) ?_ mp
        rw [dm]; grind
      · rw [dm, Rat.intCast_add, Rat.intCast_neg, Int.one_mul]; grind
      · rw [dm, Rat.intCast_add, Rat.intCast_neg, Int.one_mul]; grind
    obtain ⟨z1, z2, y1, y2, v1, v2, r1, r2, p1, p2, p3, p4, p5, p6, p7, p8, p9, p10⟩ := ln_part (g := false) (k := k) ht hs hk mp H (by simp) oO oO oO oO xp
    have res := fx_LnP m e k s xa xb z1 z2 y1 y2 v1 v2 r1 r2 hs hO (by rw [tn]; exact p1) p2 p3 p4 oO oO oO oO oO oO (by rw [tn]; omega) (by rw [tn]; omega)
    rw [show (2 : Int) ^ 1 = 2 from rfl] at res
    have o1 := L_abs_mul y1 2
    have o2 := L_abs_mul y2 2
    have o3 := L_lit (2 : Int).natAbs (by decide)
    have o6 := L_abs_add (y1 * 2) r1
    have o7 := L_abs_add (y2 * 2) r2
    have o8 := L_abs_shr (y1 * 2 + r1) 32
    have o9 := L_abs_neg (y2 * 2 + r2)
    have o10 := L_abs_shr (-(y2 * 2 + r2)) 32
    have o11 := L_abs_neg (-(y2 * 2 + r2) / 2 ^ 32)
    have hw := half_w (a := y1 * 2 + r1) (b := y2 * 2 + r2) (W := 100) (n := 32) oO
    refine ⟨_, _, res, ?_, by omega, by omega, by omega, fun h4 => ?_⟩
    · omega
    · have q := (p10 oO)
      simp only [Bool.false_eq_true, if_false] at q
      exact q.half ts
end Go.Proofs.YtekcladflnieeaaGreatDoor

namespace Go.Proofs.YtekcladflnieeaaGreatDoor
open Go.RowKit
set_option maxRecDepth 100000
theorem lg_clo (m : Int) (ek : Int) (k : Int) (ss : Int) (lo : Int) (hi : Int) (c0 : Impl Tryz.prog Amb 147 [(yV m ek), (.int .i64 k), (.int .i64 ss)] (.agg [(.bool (decide (lo < 0))), (N lo.natAbs), (.bool (decide (hi < 0))), (N hi.natAbs)])) : Impl Tryz.prog Amb 146 [(.int .i64 ss), (.pt [(V.bool (decide (m < 0))), (N m.natAbs), (V.int .i64 ek)] 0), (.pt [(V.int .i64 k)] 0)] (.agg [(.bool (decide (lo < 0))), (N lo.natAbs), (.bool (decide (hi < 0))), (N hi.natAbs)]) := by
  exact impl_ob hP hAmb Tryz.func146 (by kernel_rfl) (.lits 3 <| .call (.agg [(.bool (decide (lo < 0))), (N lo.natAbs), (.bool (decide (hi < 0))), (N hi.natAbs)]) <| .lits 2 <| .ret)
    (cast_ob (aI True.intro (aI (c0 ) ((vsub_refl (.agg [(.bool (decide (lo < 0))), (N lo.natAbs), (.bool (decide (hi < 0))), (N hi.natAbs)]))))) (by kernel_rfl))
theorem lg_value0 (m : Int) (e : Int) (w : Int) (k : Int) (ek : Int) (lo : Int) (hi : Int) (er : Int) (c0 : Impl Tryz.prog Amb 26 [(yV m e)] (.tup [(.int .i64 k), (yV m ek), (.int .i64 er)])) (c1 : Impl Tryz.prog Amb 107 [(.int .i64 w), (.clos 146 [(.pt [(V.bool (decide (m < 0))), (N m.natAbs), (V.int .i64 ek)] 0), (.pt [(V.int .i64 k)] 0)])] (.agg [(.bool (decide (lo < 0))), (N lo.natAbs), (.bool (decide (hi < 0))), (N hi.natAbs)])) : Impl Tryz.prog Amb 79 [(yV m e), (.int .i64 w)] (.agg [(.bool (decide (lo < 0))), (N lo.natAbs), (.bool (decide (hi < 0))), (N hi.natAbs)]) := by
  exact impl_ob hP hAmb Tryz.func79 (by kernel_rfl) (.lits 2 <| .call (.tup [(.int .i64 k), (yV m ek), (.int .i64 er)]) <| .lits 3 <| .call (.agg [(.bool (decide (lo < 0))), (N lo.natAbs), (.bool (decide (hi < 0))), (N hi.natAbs)]) <| .lits 2 <| .ret)
    (cast_ob (aI True.intro (aI (c0 ) (aI (c1 ) ((vsub_refl (.agg [(.bool (decide (lo < 0))), (N lo.natAbs), (.bool (decide (hi < 0))), (N hi.natAbs)])))))) (by kernel_rfl))
theorem lg_Ln0 (m : Int) (e : Int) (n : Int) (f : Int) (w : Int) (l1 : Int) (h1 : Int) (l2 : Int) (h2 : Int) (a1 : Int) (a2 : Int) (b1 : Int) (b2 : Int) (c0 : 0 ≤ w ∧ w ≤ 4096) (c1 : 0 < m ∧ 0 < n) (c2 : L (m).natAbs ≤ 1000 ∧ L (n).natAbs ≤ 1000) (c3 : Impl Tryz.prog Amb 79 [(yV m e), (.int .i64 w)] (.agg [(.bool (decide (l1 < 0))), (N l1.natAbs), (.bool (decide (h1 < 0))), (N h1.natAbs)])) (c4 : Impl Tryz.prog Amb 79 [(yV n f), (.int .i64 w)] (.agg [(.bool (decide (l2 < 0))), (N l2.natAbs), (.bool (decide (h2 < 0))), (N h2.natAbs)])) (c5 : Impl Tryz.prog Amb 78 [(zV l1), (.int .i64 ((0 : Int) - w))] (.tup [(yV a1 a2), (.int .i64 0)])) (c6 : Impl Tryz.prog Amb 78 [(zV h2), (.int .i64 ((0 : Int) - w))] (.tup [(yV b1 b2), (.int .i64 0)])) : Impl Tryz.prog Amb 19 [(wV m e n f), (.int .i64 w)] (.tup [(wV a1 a2 b1 b2), (.int .i64 0)]) := by
  have sm := sign_range m
  have sn := sign_range n
  exact impl_ob hP hAmb Tryz.func19 (by kernel_rfl) (.lit <| .no <| .lits 3 <| .no <| .lits 2 <| .call (.int .i64 ((n).sign)) <| .lit <| .no <| .lits 2 <| .call (.int .i64 ((m).sign)) <| .lit <| .no <| .lits 2 <| .call (.agg [(.bool (decide (l1 < 0))), (N l1.natAbs), (.bool (decide (h1 < 0))), (N h1.natAbs)]) <| .lits 2 <| .yes <| .lit <| .call (.tup [(yV a1 a2), (.int .i64 0)]) <| .lits 3 <| .call (.agg [(.bool (decide (l2 < 0))), (N l2.natAbs), (.bool (decide (h2 < 0))), (N h2.natAbs)]) <| .lits 2 <| .yes <| .lit <| .call (.tup [(yV b1 b2), (.int .i64 0)]) <| .lits 12 <| .ret)
    (cast_ob (aI True.intro (aI (iLt_mkF oS : (iLt w 0) = false) (aI (iGt_mkF oS : (iGt w 4096) = false) (aI (dy_Sign n f oS) (have f2 := sign_range n; aI (iLe_mkF oS : (iLe ((n).sign) 0) = false) (aI (dy_Sign m e oS) (have f1 := sign_range m; aI (iLe_mkF oS : (iLe ((m).sign) 0) = false) (aI (c3 ) (aI (fits_i64 oS : (fits .i64 ((0 : Int) - w)) = true) (aI (c5 ) (aI (c4 ) (aI (fits_i64 oS : (fits .i64 ((0 : Int) - w)) = true) (aI (c6 ) ((vsub_refl (.tup [(wV a1 a2 b1 b2), (.int .i64 0)])))))))))))))))) (by kernel_rfl))
theorem lg_LnL (m : Int) (e : Int) (n : Int) (f : Int) (w : Int) (l1 : Int) (h1 : Int) (l2 : Int) (h2 : Int) (a1 : Int) (a2 : Int) (b1 : Int) (b2 : Int) (p : Int) (q : Int) (c0 : 0 ≤ w ∧ w ≤ 4096) (c1 : 0 < m ∧ 0 < n) (c2 : L (m).natAbs ≤ 1000 ∧ L (n).natAbs ≤ 1000) (c3 : Impl Tryz.prog Amb 79 [(yV m e), (.int .i64 w)] (.agg [(.bool (decide (l1 < 0))), (N l1.natAbs), (.bool (decide (h1 < 0))), (N h1.natAbs)])) (c4 : Impl Tryz.prog Amb 79 [(yV n f), (.int .i64 w)] (.agg [(.bool (decide (l2 < 0))), (N l2.natAbs), (.bool (decide (h2 < 0))), (N h2.natAbs)])) (c5 : Impl Tryz.prog Amb 78 [(zV l1), (.int .i64 ((0 : Int) - w))] (.tup [(yV a1 a2), (.int .i64 p)])) (c6 : Impl Tryz.prog Amb 78 [(zV h2), (.int .i64 ((0 : Int) - w))] (.tup [(yV b1 b2), (.int .i64 q)])) (c7 : ¬ (p = 0 ∧ q = 0)) : Impl Tryz.prog Amb 19 [(wV m e n f), (.int .i64 w)] (e0T 3) := by
  have sm := sign_range m
  have sn := sign_range n
  exact impl_ob hP hAmb Tryz.func19 (by kernel_rfl) (.lit <| .no <| .lits 3 <| .no <| .lits 2 <| .call (.int .i64 ((n).sign)) <| .lit <| .no <| .lits 2 <| .call (.int .i64 ((m).sign)) <| .lit <| .no <| .lits 2 <| .call (.agg [(.bool (decide (l1 < 0))), (N l1.natAbs), (.bool (decide (h1 < 0))), (N h1.natAbs)]) <| .lits 2 <| .yes <| .lit <| .call (.tup [(yV a1 a2), (.int .i64 p)]) <| .lits 3 <| .call (.agg [(.bool (decide (l2 < 0))), (N l2.natAbs), (.bool (decide (h2 < 0))), (N h2.natAbs)]) <| .lits 2 <| .yes <| .lit <| .call (.tup [(yV b1 b2), (.int .i64 q)]) <| .lits 2 <| .both (.lits 6 <| .ret) (.lits 3 <| .both (.lits 3 <| .ret) (.lits 5 <| .ret)))
    (cast_ob (aI True.intro (aI (iLt_mkF oS : (iLt w 0) = false) (aI (iGt_mkF oS : (iGt w 4096) = false) (aI (dy_Sign n f oS) (have f6 := sign_range n; aI (iLe_mkF oS : (iLe ((n).sign) 0) = false) (aI (dy_Sign m e oS) (have f5 := sign_range m; aI (iLe_mkF oS : (iLe ((m).sign) 0) = false) (aI (c3 ) (aI (fits_i64 oS : (fits .i64 ((0 : Int) - w)) = true) (aI (c5 ) (aI (c4 ) (aI (fits_i64 oS : (fits .i64 ((0 : Int) - w)) = true) (aI (c6 ) (aI (fun (h1 : (iNe p 0) = true) => have _gh1 := iNe_t h1; (vsub_refl (e0T 3))) (fun (h2 : (iNe p 0) = false) => have _gh2 := iNe_f h2; aI (fun (h3 : (iNe q 0) = true) => have _gh3 := iNe_t h3; (vsub_refl (e0T 3))) (fun (h4 : (iNe q 0) = false) => have _gh4 := iNe_f h4; (False.elim oO : vsub (.tup [(wV a1 a2 b1 b2), (.int .i64 0)]) (e0T 3)))))))))))))))))) (by kernel_rfl))
theorem lg_LnA (m : Int) (e : Int) (n : Int) (f : Int) (w : Int) (c0 : L (m).natAbs ≤ 1000) (c1 : L (n).natAbs ≤ 1000) (c2 : (-9223372036854775808 : Int) ≤ w ∧ w ≤ 9223372036854775807) (c3 : w < 0 ∨ 4096 < w) : Impl Tryz.prog Amb 19 [(wV m e n f), (.int .i64 w)] (e0T 1) := by
  exact impl_ob hP hAmb Tryz.func19 (by kernel_rfl) (.lit <| .both (.lits 6 <| .ret) (.lits 3 <| .yes <| .lits 3 <| .ret))
    (cast_ob (aI True.intro (aI (fun (h1 : (iLt w 0) = true) => have _gh1 := iLt_t h1; (vsub_refl (e0T 1))) (fun (h2 : (iLt w 0) = false) => have _gh2 := iLt_f h2; aI (iGt_mk oO : (iGt w 4096) = true) ((vsub_refl (e0T 1)))))) (by kernel_rfl))
theorem lg_LnD (m : Int) (e : Int) (n : Int) (f : Int) (w : Int) (c0 : L (m).natAbs ≤ 1000) (c1 : L (n).natAbs ≤ 1000) (c2 : (-9223372036854775808 : Int) ≤ w ∧ w ≤ 9223372036854775807) (c3 : 0 ≤ w ∧ w ≤ 4096) (c4 : n ≤ 0) : Impl Tryz.prog Amb 19 [(wV m e n f), (.int .i64 w)] (e0T 4) := by
  have sn := sign_range n
  exact impl_ob hP hAmb Tryz.func19 (by kernel_rfl) (.lit <| .no <| .lits 3 <| .no <| .lits 2 <| .call (.int .i64 ((n).sign)) <| .lit <| .yes <| .lits 3 <| .ret)
    (cast_ob (aI True.intro (aI (iLt_mkF oO : (iLt w 0) = false) (aI (iGt_mkF oO : (iGt w 4096) = false) (aI (dy_Sign n f oO) (have f1 := sign_range n; aI (iLe_mk oO : (iLe ((n).sign) 0) = true) ((vsub_refl (e0T 4)))))))) (by kernel_rfl))
theorem lg_LnU (m : Int) (e : Int) (n : Int) (f : Int) (w : Int) (c0 : L (m).natAbs ≤ 1000) (c1 : L (n).natAbs ≤ 1000) (c2 : (-9223372036854775808 : Int) ≤ w ∧ w ≤ 9223372036854775807) (c3 : 0 ≤ w ∧ w ≤ 4096) (c4 : 0 < n) (c5 : m ≤ 0) : Impl Tryz.prog Amb 19 [(wV m e n f), (.int .i64 w)] (e0T 5) := by
  have sm := sign_range m
  have sn := sign_range n
  exact impl_ob hP hAmb Tryz.func19 (by kernel_rfl) (.lit <| .no <| .lits 3 <| .no <| .lits 2 <| .call (.int .i64 ((n).sign)) <| .lit <| .no <| .lits 2 <| .call (.int .i64 ((m).sign)) <| .lit <| .yes <| .lits 3 <| .ret)
    (cast_ob (aI True.intro (aI (iLt_mkF oO : (iLt w 0) = false) (aI (iGt_mkF oO : (iGt w 4096) = false) (aI (dy_Sign n f oO) (have f2 := sign_range n; aI (iLe_mkF oO : (iLe ((n).sign) 0) = false) (aI (dy_Sign m e oO) (have f1 := sign_range m; aI (iLe_mk oO : (iLe ((m).sign) 0) = true) ((vsub_refl (e0T 5)))))))))) (by kernel_rfl))
theorem l15_of (a : Int) (b : Int) (c0 : (-9223372036854775808 : Int) ≤ a ∧ a ≤ 9223372036854775807) (c1 : (-9223372036854775808 : Int) ≤ b ∧ b ≤ 9223372036854775807) : Impl Tryz.prog Amb 75 [(.int .i64 a), (.int .i64 b)] (wV (mkM a 0) (mkX a 0) (mkM b 0) (mkX b 0)) := by
  exact impl_ob hP hAmb Tryz.func75 (by kernel_rfl) (.lit <| .call (yV (mkM a 0) (mkX a 0)) <| .lit <| .call (yV (mkM b 0) (mkX b 0)) <| .lits 3 <| .ret)
    (cast_ob (aI True.intro (aI (r08_Of a oO) (have f14 := (of_fit (n := a) oO).2.2.2.2.1; have f13 := (of_fit (n := a) oO).2.2.2.1; have f12 := (of_fit (n := a) oO).2.2.1; have f11 := (of_fit (n := a) oO).2.1; have f10 := (of_fit (n := a) oO).1; have f9 := (L_i64 oO : L (a : Int).natAbs ≤ 2); have f8 := mk_facts a 0; aI (r08_Of b oO) (have f7 := (of_fit (n := b) oO).2.2.2.2.1; have f6 := (of_fit (n := b) oO).2.2.2.1; have f5 := (of_fit (n := b) oO).2.2.1; have f4 := (of_fit (n := b) oO).2.1; have f3 := (of_fit (n := b) oO).1; have f2 := (L_i64 oO : L (b : Int).natAbs ≤ 2); have f1 := mk_facts b 0; (vsub_refl (wV (mkM a 0) (mkX a 0) (mkM b 0) (mkX b 0))))))) (by kernel_rfl))
theorem l15_awake : Impl Tryz.prog Amb 15 [] (.bool true) := by
  have z0 : mkM 0 0 = 0 := by kernel_rfl
  have z1 : mkM 1 0 = 1 := by kernel_rfl
  have z2 : mkM (-1) 0 = -1 := by kernel_rfl
  have z4 : mkM 4 0 = 1 := by kernel_rfl
  have z5 : mkX 4 0 = 2 := by kernel_rfl
  have z6 : spl (mkM 4 0) (mkX 4 0) = 2 := by kernel_rfl
  have l1 := L_lit 1 (by decide)
  have y1 := of_fit (n := 1) oO
  have y4 := of_fit (n := 4) oO
  exact impl_ob hP hAmb Tryz.func15 (by kernel_rfl) (.lit <| .call (wV (mkM 0 0) (mkX 0 0) (mkM 1 0) (mkX 1 0)) <| .lit <| .call (e0T 5) <| .lits 2 <| .call (wV (mkM (-1) 0) (mkX (-1) 0) (mkM 0 0) (mkX 0 0)) <| .lit <| .call (e0T 4) <| .lits 2 <| .call (yV (mkM 4 0) (mkX 4 0)) <| .lit <| .call (.tup [(.int .i64 (spl (mkM 4 0) (mkX 4 0))), (yV (mkM 4 0) ((mkX 4 0) - (spl (mkM 4 0) (mkX 4 0)))), (.int .i64 0)]) <| .lits 10 <| .yes <| .lits 7 <| .call (yV (mkM 1 0) (mkX 1 0)) <| .lits 2 <| .call (.bool (decide (((mkX 4 0) - (spl (mkM 4 0) (mkX 4 0))) = (mkX 1 0) ∧ (mkM 4 0) = (mkM 1 0)))) <| .lits 2 <| .ret)
    (cast_ob (aI True.intro (aI (l15_of 0 1 oO oO) (have f18 := (of_fit (n := 1) oO).2.1; have f17 := (of_fit (n := 0) oO).2.1; aI (lg_LnU (mkM 0 0) (mkX 0 0) (mkM 1 0) (mkX 1 0) 5 oO oO oO oO oO oO) (aI (l15_of (-1) 0 oO oO) (have f16 := (of_fit (n := 0) oO).2.1; have f15 := (of_fit (n := -1) oO).2.1; aI (lg_LnD (mkM (-1) 0) (mkX (-1) 0) (mkM 0 0) (mkX 0 0) 5 oO oO oO oO oO) (aI (r08_Of 4 oO) (have f14 := (of_fit (n := 4) oO).2.2.2.2.1; have f13 := (of_fit (n := 4) oO).2.2.2.1; have f12 := (of_fit (n := 4) oO).2.2.1; have f11 := (of_fit (n := 4) oO).2.1; have f10 := (of_fit (n := 4) oO).1; have f9 := (L_i64 oO : L (4 : Int).natAbs ≤ 2); have f8 := mk_facts 4 0; aI (lg_Split (mkM 4 0) (mkX 4 0) oO oO oO) (aI (iEq_mk oO : (iEq (spl (mkM 4 0) (mkX 4 0)) 2) = true) (aI (r08_Of 1 oO) (have f7 := (of_fit (n := 1) oO).2.2.2.2.1; have f6 := (of_fit (n := 1) oO).2.2.2.1; have f5 := (of_fit (n := 1) oO).2.2.1; have f4 := (of_fit (n := 1) oO).2.1; have f3 := (of_fit (n := 1) oO).1; have f2 := (L_i64 oO : L (1 : Int).natAbs ≤ 2); have f1 := mk_facts 1 0; aI (r08_Same (mkM 4 0) ((mkX 4 0) - (spl (mkM 4 0) (mkX 4 0))) (mkM 1 0) (mkX 1 0) oO oO) ((vsub_of (congrArg V.bool (by kernel_rfl)) : vsub (.bool (decide (((mkX 4 0) - (spl (mkM 4 0) (mkX 4 0))) = (mkX 1 0) ∧ (mkM 4 0) = (mkM 1 0)))) (.bool true))))))))))))) (by kernel_rfl))
end Go.Proofs.YtekcladflnieeaaGreatDoor

namespace Go.Proofs.YtekcladflnieeaaGreatDoor
open Go.RowKit
set_option maxRecDepth 100000
set_option maxHeartbeats 2000000
theorem implw {P : Program} {C : World → Prop} {f : FuncId} {ds : List V} {r r' : V} (h : vsub r r') (k : Impl P C f ds r) : Impl P C f ds r' :=
  ⟨k.1, fun w S args hC hS hr => (k.2 w S args hC hS hr).mono fun _ _ hh => by
    obtain ⟨v, a, b, c⟩ := hh
    exact ⟨v, a, h _ _ _ b, c⟩⟩
theorem PL_one : (PL (1 / 5) 100 + (1 / 5) ^ 199 ≤ 1 ∧ PL (1 / 7) 100 + (1 / 7) ^ 199 ≤ 1) ∧ (0 ≤ cLn ∧ cLn ≤ 1) := ⟨⟨of_decide_eq_true (by kernel_rfl), of_decide_eq_true (by kernel_rfl)⟩, ⟨of_decide_eq_true (by kernel_rfl), of_decide_eq_true (by kernel_rfl)⟩⟩
theorem LnF_abs {M : Rat} {k : Int} (hM : 3 ≤ 4 * M) (hM2 : 2 * M < 3) (hk : -4096 ≤ k ∧ k ≤ 4096) (K : Nat) : -8192 ≤ LnF M k K ∧ LnF M k K ≤ 8192 := by
  have z1 := z_mono (M := M) (N := 3 / 2) (by grind) (by grind)
  have z2 := z_mono (M := 3 / 4) (N := M) (by grind) (by grind)
  rw [show ((3 : Rat) / 2 - 1) / (3 / 2 + 1) = 1 / 5 by grind] at z1
  rw [show ((3 : Rat) / 4 - 1) / (3 / 4 + 1) = -(1 / 7) by grind] at z2
  have q1 := PL_odd z1 K
  have q2 := PL_odd z2 K
  rw [PL_neg] at q2
  have c1 := PL_cap (z := 1 / 5) (by grind) (by grind) PL_one.1.1 K
  have c2 := PL_cap (z := 1 / 7) (by grind) (by grind) PL_one.1.2 K
  have c0 := PL_one.2
  have k1 : ((-4096 : Int) : Rat) ≤ (k : Rat) := Rat.intCast_le_intCast.2 hk.1
  have k2 : (k : Rat) ≤ ((4096 : Int) : Rat) := Rat.intCast_le_intCast.2 hk.2
  rw [show ((-4096 : Int) : Rat) = -4096 from rfl] at k1
  rw [show ((4096 : Int) : Rat) = 4096 from rfl] at k2
  have m1 := Rat.mul_le_mul_of_nonneg_right k1 c0.1
  have m2 := Rat.mul_le_mul_of_nonneg_right k2 c0.1
  unfold LnF
  constructor <;> grind
theorem ln_size {M : Rat} {k a b : Int} {s : Nat} (hM : 3 ≤ 4 * M) (hM2 : 2 * M < 3) (hk : -4096 ≤ k ∧ k ≤ 4096) (h : Encl (LnF M k) s a b) (hw : b - a ≤ 2) (hs : s ≤ 400) : L a.natAbs ≤ 70 ∧ L b.natAbs ≤ 70 := by
  obtain ⟨A, h⟩ := h
  have h := h A (Nat.le_refl _)
  have B := LnF_abs hM hM2 hk A
  have T0 : (0 : Rat) < ((2 ^ s : Int) : Rat) := Rat.intCast_pos.2 (two_pos s)
  have m1 := Rat.mul_le_mul_of_nonneg_right B.1 (Rat.le_of_lt T0)
  have m2 := Rat.mul_le_mul_of_nonneg_right B.2 (Rat.le_of_lt T0)
  have a1 : a ≤ 8192 * 2 ^ s := by
    refine Rat.intCast_le_intCast.1 ?_
    rw [Rat.intCast_mul]
    exact Rat.le_trans h.1 m2
  have b1 : -8192 * 2 ^ s ≤ b := by
    refine Rat.intCast_le_intCast.1 ?_
    rw [Rat.intCast_mul]
    exact Rat.le_trans m1 h.2
  have ab : a ≤ b := Rat.intCast_le_intCast.1 (Rat.le_trans h.1 h.2)
  have pv2 : ((2 ^ s : Nat) : Int) = (2 : Int) ^ s := (pow_cast _).symm
  have := Nat.pow_pos (n := s) (show 0 < 2 by omega)
  exact ⟨abs_big (t := s) (c := 8194) oO oO oO, abs_big (t := s) (c := 8194) oO oO oO⟩
theorem lg_valueE (m e w : Int) (h : (0 < m) ∧ L m.natAbs ≤ 300 ∧ (-5000 ≤ e ∧ e ≤ 5000) ∧ vdb m e = true ∧ -4096 ≤ spl m e ∧ spl m e ≤ 4096) (hw : 0 ≤ w ∧ w ≤ 4096) :
    ∃ lo hi : Int, Impl Tryz.prog Amb 79 [(yV m e), (.int .i64 w)] (.agg [(.bool (decide (lo < 0))), (N lo.natAbs), (.bool (decide (hi < 0))), (N hi.natAbs)]) ∧ hi - lo ≤ 2 ∧ L lo.natAbs ≤ 6310 ∧ L hi.natAbs ≤ 6310 ∧ (w ≤ 340 → Encl (LnF (dv m (e - spl m e)) (spl m e)) w.toNat lo hi) := by
  obtain ⟨hm, hL, he, hv, hk⟩ := h
  obtain ⟨s1, s2, _, s4, s5⟩ := sp_facts (e := e) hm
  have hS := lg_Split m e oO oO hm
  generalize spl m e = k at *
  obtain ⟨lo, hi, hI, h1, h2, h3, h4, h5⟩ := fx_LnE m (e - k) k (w + 24) oO hk hL oO s1 s2
  have hC := lg_clo m (e - k) k (w + 24) lo hi hI
  have hT := fx_Settle2 146 _ _ lo hi w hC oO (nbits_of_lt oO) oO
  have o8 := L_abs_shr lo 24
  have o9 := L_abs_neg hi
  have o10 := L_abs_shr (-hi) 24
  have o11 := L_abs_neg (-hi / 2 ^ 24)
  have hw2 := half_w (a := lo) (b := hi) (W := 1) (n := 24) oO
  refine ⟨_, _, lg_value0 m e w k (e - k) _ _ 0 hS hT, hw2, by omega, by omega, fun h6 => ?_⟩
  exact (h5 oO).half oO
theorem lg_LnE (m e n f w : Int) (h : (0 < m) ∧ L m.natAbs ≤ 300 ∧ (-5000 ≤ e ∧ e ≤ 5000) ∧ vdb m e = true ∧ -4096 ≤ spl m e ∧ spl m e ≤ 4096) (h' : (0 < n) ∧ L n.natAbs ≤ 300 ∧ (-5000 ≤ f ∧ f ≤ 5000) ∧ vdb n f = true ∧ -4096 ≤ spl n f ∧ spl n f ≤ 4096) (hw : 0 ≤ w ∧ w ≤ 330) :
    ∃ l1 h1 l2 h2 : Int, Impl Tryz.prog Amb 19 [(wV m e n f), (.int .i64 w)] (.tup [(wV (mkM l1 (-w)) (mkX l1 (-w)) (mkM h2 (-w)) (mkX h2 (-w))), (.int .i64 0)]) ∧ h1 - l1 ≤ 2 ∧ h2 - l2 ≤ 2 ∧ (L l1.natAbs ≤ 70 ∧ L h2.natAbs ≤ 70) ∧ Encl (LnF (dv m (e - spl m e)) (spl m e)) w.toNat l1 h1 ∧ Encl (LnF (dv n (f - spl n f)) (spl n f)) w.toNat l2 h2 := by
  obtain ⟨l1, h1, hA, wA, _, _, eA⟩ := lg_valueE m e w h oO
  obtain ⟨l2, h2, hB, wB, _, _, eB⟩ := lg_valueE n f w h' oO
  have sA := sp_facts (e := e) h.1
  have sB := sp_facts (e := f) h'.1
  have eA := eA oO
  have eB := eB oO
  have zA := (ln_size sA.1 sA.2.1 oO eA wA oO).1
  have zB := (ln_size sB.1 sB.2.1 oO eB wB oO).2
  have mA := dy_Make l1 (0 - w) oO oO
  have mB := dy_Make h2 (0 - w) oO oO
  rw [Int.zero_sub, mk_fine2 (m := l1) (e := -w) oO oO] at mA
  rw [Int.zero_sub, mk_fine2 (m := h2) (e := -w) oO oO] at mB
  exact ⟨l1, h1, l2, h2, lg_Ln0 m e n f w l1 h1 l2 h2 _ _ _ _ oO ⟨h.1, h'.1⟩ ⟨by omega, by omega⟩ hA hB (by rw [Int.zero_sub]; exact mA) (by rw [Int.zero_sub]; exact mB), wA, wB, ⟨zA, zB⟩, eA, eB⟩
theorem lg_LnT (m e n f w : Int) (h : (0 < m) ∧ L m.natAbs ≤ 300 ∧ (-5000 ≤ e ∧ e ≤ 5000) ∧ vdb m e = true ∧ -4096 ≤ spl m e ∧ spl m e ≤ 4096) (h' : (0 < n) ∧ L n.natAbs ≤ 300 ∧ (-5000 ≤ f ∧ f ≤ 5000) ∧ vdb n f = true ∧ -4096 ≤ spl n f ∧ spl n f ≤ 4096) (hw : 0 ≤ w ∧ w ≤ 4096) : ∃ a b c d er : Int, Impl Tryz.prog Amb 19 [(wV m e n f), (.int .i64 w)] (.tup [(wV a b c d), (.int .i64 er)]) ∧ (w ≤ 200 → er = 0) := by
  by_cases h3 : w ≤ 330
  · obtain ⟨l1, h1, l2, h2, hA, _⟩ := lg_LnE m e n f w h h' oO
    exact ⟨_, _, _, _, 0, hA, fun _ => rfl⟩
  · obtain ⟨l1, h1, hA, wA, zA, _, eA⟩ := lg_valueE m e w h oO
    obtain ⟨l2, h2, hB, wB, _, zB, eB⟩ := lg_valueE n f w h' oO
    have mA := dy_Make l1 (0 - w) oO oO
    have mB := dy_Make h2 (0 - w) oO oO
    by_cases q : mkE l1 (0 - w) = 0 ∧ mkE h2 (0 - w) = 0
    · rw [q.1] at mA
      rw [q.2] at mB
      exact ⟨_, _, _, _, 0, lg_Ln0 m e n f w l1 h1 l2 h2 _ _ _ _ oO ⟨h.1, h'.1⟩ ⟨by omega, by omega⟩ hA hB mA mB, fun _ => rfl⟩
    · exact ⟨0, 0, 0, 0, 3, implw (vsub_w0 3) (lg_LnL m e n f w l1 h1 l2 h2 _ _ _ _ _ _ oO ⟨h.1, h'.1⟩ ⟨by omega, by omega⟩ hA hB mA mB oO), fun hq => by omega⟩
end Go.Proofs.YtekcladflnieeaaGreatDoor

namespace Go.Proofs.YtekcladflnieeaaGreatDoor
open Go.RowKit
set_option maxRecDepth 100000
def ivM (b : Bool) (l : List Nat) (e : Int) (c : Bool) (r : List Nat) (f n k : Int) : Int := (swM (mkM (rawI b l n) (e % (2 * k + 1) - k)) (mkX (rawI b l n) (e % (2 * k + 1) - k)) (mkM (rawI c r n) (f % (2 * k + 1) - k)) (mkX (rawI c r n) (f % (2 * k + 1) - k)))
def ivX (b : Bool) (l : List Nat) (e : Int) (c : Bool) (r : List Nat) (f n k : Int) : Int := (swX (mkM (rawI b l n) (e % (2 * k + 1) - k)) (mkX (rawI b l n) (e % (2 * k + 1) - k)) (mkM (rawI c r n) (f % (2 * k + 1) - k)) (mkX (rawI c r n) (f % (2 * k + 1) - k)))
def ivN (b : Bool) (l : List Nat) (e : Int) (c : Bool) (r : List Nat) (f n k : Int) : Int := (swN (mkM (rawI b l n) (e % (2 * k + 1) - k)) (mkX (rawI b l n) (e % (2 * k + 1) - k)) (mkM (rawI c r n) (f % (2 * k + 1) - k)) (mkX (rawI c r n) (f % (2 * k + 1) - k)))
def ivF (b : Bool) (l : List Nat) (e : Int) (c : Bool) (r : List Nat) (f n k : Int) : Int := (swF (mkM (rawI b l n) (e % (2 * k + 1) - k)) (mkX (rawI b l n) (e % (2 * k + 1) - k)) (mkM (rawI c r n) (f % (2 * k + 1) - k)) (mkX (rawI c r n) (f % (2 * k + 1) - k)))
theorem iv_fit {b : Bool} {l : List Nat} {e : Int} {c : Bool} {r : List Nat} {f n k : Int} (hl : Dig l) (hr : Dig r) (hn : 0 ≤ n ∧ n ≤ 800) (hk : 0 ≤ k ∧ k ≤ 20000) : ((L (ivM b l e c r f n k).natAbs ≤ n ∧ -k ≤ (ivX b l e c r f n k) ∧ (ivX b l e c r f n k) ≤ k + 32 * n) ∧ (L (ivN b l e c r f n k).natAbs ≤ n ∧ -k ≤ (ivF b l e c r f n k) ∧ (ivF b l e c r f n k) ≤ k + 32 * n)) ∧ vdb (ivM b l e c r f n k) (ivX b l e c r f n k) = true ∧ vdb (ivN b l e c r f n k) (ivF b l e c r f n k) = true ∧ dv (ivM b l e c r f n k) (ivX b l e c r f n k) ≤ dv (ivN b l e c r f n k) (ivF b l e c r f n k) := by
  have h := rawI_fit (b := b) (c := c) (e := e) (f := f) hl hr hn hk rfl rfl rfl rfl
  exact ⟨⟨h.1, h.2.1⟩, h.2.2⟩
theorem mill_Iv (b : Bool) (l : List Nat) (e : Int) (c : Bool) (r : List Nat) (f n k : Int) (c0 : Dig l) (c1 : l.length ≤ 9223372036854775807) (c2 : Dig r) (c3 : r.length ≤ 9223372036854775807) (c4 : (-9223372036854775808 : Int) ≤ e ∧ e ≤ 9223372036854775807) (c5 : (-9223372036854775808 : Int) ≤ f ∧ f ≤ 9223372036854775807) (c6 : (0 : Int) ≤ n ∧ n ≤ 800) (c7 : (0 : Int) ≤ k ∧ k ≤ 20000) : Impl Tryz.prog Amb 23 [(.agg [(.bool b), (.sl 1 (U l)), (.int .i64 e), (.bool c), (.sl 1 (U r)), (.int .i64 f)]), (.int .i64 n), (.int .i64 k)] (.tup [(wV (ivM b l e c r f n k) (ivX b l e c r f n k) (ivN b l e c r f n k) (ivF b l e c r f n k)), (.bool (decide ((l.length : Int) ≤ n ∧ (r.length : Int) ≤ n)))]) :=
  mill_Interval b l e c r f n k c0 c1 c2 c3 c4 c5 c6 c7
end Go.Proofs.YtekcladflnieeaaGreatDoor

