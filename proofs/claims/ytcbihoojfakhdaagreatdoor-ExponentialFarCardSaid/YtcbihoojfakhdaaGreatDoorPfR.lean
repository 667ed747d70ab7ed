/-
  Lower layers: what functions of the program compute, and zxa facts. Conditions: as the theorems say.
-/
import Derived.Test.YtcbihoojfakhdaaGreatDoorPfQ
set_option linter.unusedVariables false
set_option linter.unusedSimpArgs false
namespace Go.Proofs.YtcbihoojfakhdaaGreatDoor
open Go.RowKit
set_option maxRecDepth 100000
theorem zqg (s : Int) (c0 : (0 : Int) ≤ s ∧ s ≤ 20000) : Impl Tryz.prog Amb 213 [(.int .i64 s)] (.agg [(.bool (decide (((1 : Int) * 2 ^ (s).toNat) < 0))), (N (((1 : Int) * 2 ^ (s).toNat).natAbs)), (.bool (decide (((1 : Int) * 2 ^ (s).toNat) < 0))), (N (((1 : Int) * 2 ^ (s).toNat).natAbs))]) := by
 exact z6u hP hAmb Tryz.func213 (by kernel_rfl) (.lit <| .call (zV (1 : Int)) <| .lit <| .call (zV ((1 : Int) * 2 ^ (s).toNat)) <| .lit <| .call (.agg [(.bool (decide (((1 : Int) * 2 ^ (s).toNat) < 0))), (N (((1 : Int) * 2 ^ (s).toNat).natAbs)), (.bool (decide (((1 : Int) * 2 ^ (s).toNat) < 0))), (N (((1 : Int) * 2 ^ (s).toNat).natAbs))]) <| .lits 2 <| .ret)
  (z6t (aI True.intro (aI (zdw 1 oO) (have f2 := (zh8 oO : L (1 : Int).natAbs ≤ 2); aI (ze4 (1 : Int) s oO oO) (have f1 := zhe (1 : Int) (s).toNat; aI (zkw ((1 : Int) * 2 ^ (s).toNat) oO) ((z6b (.agg [(.bool (decide (((1 : Int) * 2 ^ (s).toNat) < 0))), (N (((1 : Int) * 2 ^ (s).toNat).natAbs)), (.bool (decide (((1 : Int) * 2 ^ (s).toNat) < 0))), (N (((1 : Int) * 2 ^ (s).toNat).natAbs))]))))))) (by kernel_rfl))
theorem zqh (m : Int) (e : Int) (s : Int) (c0 : L (m).natAbs ≤ 8192) (c1 : (-200000 : Int) ≤ e ∧ e ≤ 200000) (c2 : (0 : Int) ≤ s ∧ s ≤ 20000) : Impl Tryz.prog Amb 161 [(yV m e), (.int .i64 s)] (.agg [(.bool (decide ((flr (dv m e) s) < 0))), (N ((flr (dv m e) s).natAbs)), (.bool (decide ((cei (dv m e) s) < 0))), (N ((cei (dv m e) s).natAbs))]) := by
 exact z6u hP hAmb Tryz.func161 (by kernel_rfl) (.lits 2 <| .yes <| .lit <| .both (.lits 2 <| .call (zV (m * 2 ^ ((e + s)).toNat)) <| .lit <| .call (.agg [(.bool (decide ((m * 2 ^ ((e + s)).toNat) < 0))), (N ((m * 2 ^ ((e + s)).toNat).natAbs)), (.bool (decide ((m * 2 ^ ((e + s)).toNat) < 0))), (N ((m * 2 ^ ((e + s)).toNat).natAbs))]) <| .lits 2 <| .ret) (.lits 2 <| .call (.agg [(.bool (decide (m < 0))), (N m.natAbs), (.bool (decide (m < 0))), (N m.natAbs)]) <| .lit <| .yes <| .lit <| .call (.agg [(.bool (decide ((m / 2 ^ (((0 : Int) - (e + s))).toNat) < 0))), (N ((m / 2 ^ (((0 : Int) - (e + s))).toNat).natAbs)), (.bool (decide ((-(-m / 2 ^ (((0 : Int) - (e + s))).toNat)) < 0))), (N ((-(-m / 2 ^ (((0 : Int) - (e + s))).toNat)).natAbs))]) <| .lits 2 <| .ret))
  (z6t (aI True.intro (aI (z89 oO : (fits .i64 (e + s)) = true) (aI (fun (h1 : (iGe (e + s) 0) = true) => have _gh1 := z7q h1; aI (ze4 m (e + s) oO oO) (have f2 := zhe m ((e + s)).toNat; aI (zkw (m * 2 ^ ((e + s)).toNat) oO) ((by rw [← (zq5 (m := m) (e := e) (s := s) oO).1, ← (zq5 (m := m) (e := e) (s := s) oO).2]; exact z6b _ : vsub (.agg [(.bool (decide ((m * 2 ^ ((e + s)).toNat) < 0))), (N ((m * 2 ^ ((e + s)).toNat).natAbs)), (.bool (decide ((m * 2 ^ ((e + s)).toNat) < 0))), (N ((m * 2 ^ ((e + s)).toNat).natAbs))]) (.agg [(.bool (decide ((flr (dv m e) s) < 0))), (N ((flr (dv m e) s).natAbs)), (.bool (decide ((cei (dv m e) s) < 0))), (N ((cei (dv m e) s).natAbs))]))))) (fun (h3 : (iGe (e + s) 0) = false) => have _gh3 := z7r h3; aI (zkw m oO) (aI (z89 oO : (fits .i64 ((0 : Int) - (e + s))) = true) (aI (zky m m ((0 : Int) - (e + s)) oO oO oO) (have f7 := zdh (-m / 2 ^ (((0 : Int) - (e + s))).toNat); have f6 := zhg (-m) (((0 : Int) - (e + s))).toNat; have f5 := zdh m; have f4 := zhg m (((0 : Int) - (e + s))).toNat; (by rw [← (zq6 (m := m) (e := e) (s := s) oO).1, ← (zq6 (m := m) (e := e) (s := s) oO).2]; exact z6b _ : vsub (.agg [(.bool (decide ((m / 2 ^ (((0 : Int) - (e + s))).toNat) < 0))), (N ((m / 2 ^ (((0 : Int) - (e + s))).toNat).natAbs)), (.bool (decide ((-(-m / 2 ^ (((0 : Int) - (e + s))).toNat)) < 0))), (N ((-(-m / 2 ^ (((0 : Int) - (e + s))).toNat)).natAbs))]) (.agg [(.bool (decide ((flr (dv m e) s) < 0))), (N ((flr (dv m e) s).natAbs)), (.bool (decide ((cei (dv m e) s) < 0))), (N ((cei (dv m e) s).natAbs))]))))))))) (by kernel_rfl))
theorem zqi (a : Int) (b : Int) (n : Int) (c0 : L (a).natAbs ≤ 65536) (c1 : L (b).natAbs ≤ 65536) (c2 : (0 : Int) ≤ n ∧ n ≤ 20000) : Impl Tryz.prog Amb 216 [(.agg [(.bool (decide (a < 0))), (N a.natAbs), (.bool (decide (b < 0))), (N b.natAbs)]), (.int .i64 n)] (.agg [(.bool (decide ((a * 2 ^ (n).toNat) < 0))), (N ((a * 2 ^ (n).toNat).natAbs)), (.bool (decide ((b * 2 ^ (n).toNat) < 0))), (N ((b * 2 ^ (n).toNat).natAbs))]) := by
 exact z6u hP hAmb Tryz.func216 (by kernel_rfl) (.lits 2 <| .call (zV (a * 2 ^ (n).toNat)) <| .lits 2 <| .call (zV (b * 2 ^ (n).toNat)) <| .lits 3 <| .ret)
  (z6t (aI True.intro (aI (ze4 a n oO oO) (have f2 := zhe a (n).toNat; aI (ze4 b n oO oO) (have f1 := zhe b (n).toNat; (z6b (.agg [(.bool (decide ((a * 2 ^ (n).toNat) < 0))), (N ((a * 2 ^ (n).toNat).natAbs)), (.bool (decide ((b * 2 ^ (n).toNat) < 0))), (N ((b * 2 ^ (n).toNat).natAbs))])))))) (by kernel_rfl))
theorem zqj (a : Int) (b : Int) (c : Int) (d : Int) (s : Int) (c0 : L (a).natAbs ≤ 8192) (c1 : L (b).natAbs ≤ 8192) (c2 : L (c).natAbs ≤ 8192) (c3 : L (d).natAbs ≤ 8192) (c4 : (0 : Int) ≤ s ∧ s ≤ 20000) : Impl Tryz.prog Amb 236 [(.agg [(.bool (decide (a < 0))), (N a.natAbs), (.bool (decide (b < 0))), (N b.natAbs)]), (.agg [(.bool (decide (c < 0))), (N c.natAbs), (.bool (decide (d < 0))), (N d.natAbs)]), (.int .i64 s)] (.agg [(.bool (decide ((a * c / 2 ^ (s).toNat) < 0))), (N ((a * c / 2 ^ (s).toNat).natAbs)), (.bool (decide ((-(-(b * d) / 2 ^ (s).toNat)) < 0))), (N ((-(-(b * d) / 2 ^ (s).toNat)).natAbs))]) := by
 exact z6u hP hAmb Tryz.func236 (by kernel_rfl) (.lits 3 <| .call (zV (a * c)) <| .lit <| .call (zV ((a * c) / 2 ^ (s).toNat)) <| .lits 3 <| .call (zV (b * d)) <| .lit <| .call (zV (-(-(b * d) / 2 ^ (s).toNat))) <| .lits 3 <| .ret)
  (z6t (aI True.intro (aI (ze3 a c oO oO) (have f6 := zdg a c; aI (ze5 (a * c) s oO oO) (have f5 := zhg (a * c) (s).toNat; aI (ze3 b d oO oO) (have f4 := zdg b d; aI (zkx (b * d) s oO oO) (have f3 := zdh (-(b * d) / 2 ^ (s).toNat); have f2 := zhg (-(b * d)) (s).toNat; have f1 := zdh (b * d); (z6c (by first | rfl | simp_all) : vsub (.agg [(.bool (decide (((a * c) / 2 ^ (s).toNat) < 0))), (N (((a * c) / 2 ^ (s).toNat).natAbs)), (.bool (decide ((-(-(b * d) / 2 ^ (s).toNat)) < 0))), (N ((-(-(b * d) / 2 ^ (s).toNat)).natAbs))]) (.agg [(.bool (decide ((a * c / 2 ^ (s).toNat) < 0))), (N ((a * c / 2 ^ (s).toNat).natAbs)), (.bool (decide ((-(-(b * d) / 2 ^ (s).toNat)) < 0))), (N ((-(-(b * d) / 2 ^ (s).toNat)).natAbs))])))))))) (by kernel_rfl))
theorem zqk (a : Int) (b : Int) (n : Int) (c0 : L (a).natAbs ≤ 65536) (c1 : L (b).natAbs ≤ 65536) (c2 : (-9223372036854775808 : Int) ≤ n ∧ n < 0) : Impl Tryz.prog Amb 165 [(.agg [(.bool (decide (a < 0))), (N a.natAbs), (.bool (decide (b < 0))), (N b.natAbs)]), (.int .i64 n)] (.agg [(.bool (decide ((b * n) < 0))), (N ((b * n).natAbs)), (.bool (decide ((a * n) < 0))), (N ((a * n).natAbs))]) := by
 exact z6u hP hAmb Tryz.func165 (by kernel_rfl) (.lit <| .call (zV n) <| .lits 2 <| .yes <| .lits 3 <| .call (zV (b * n)) <| .lits 3 <| .call (zV (a * n)) <| .lits 3 <| .ret)
  (z6t (aI True.intro (aI (zdw n oO) (have f3 := (zh8 oO : L (n : Int).natAbs ≤ 2); aI (z7w oO : (iLt n 0) = true) (aI (ze3 b n oO oO) (have f2 := zdg b n; aI (ze3 a n oO oO) (have f1 := zdg a n; (z6b (.agg [(.bool (decide ((b * n) < 0))), (N ((b * n).natAbs)), (.bool (decide ((a * n) < 0))), (N ((a * n).natAbs))])))))))) (by kernel_rfl))
theorem zql (a b n : Int) (c0 : L (a).natAbs ≤ 65536) (c1 : L (b).natAbs ≤ 65536) (c2 : (-9223372036854775808 : Int) ≤ n ∧ n ≤ 9223372036854775807) : Impl Tryz.prog Amb 165 [(.agg [(.bool (decide (a < 0))), (N a.natAbs), (.bool (decide (b < 0))), (N b.natAbs)]), .int .i64 n] (.agg [(.bool (decide ((tmLo a b n) < 0))), (N ((tmLo a b n).natAbs)), (.bool (decide ((tmHi a b n) < 0))), (N ((tmHi a b n).natAbs))]) := by
 by_cases h : n < 0
 ·unfold tmLo tmHi
  rw [if_pos h, if_pos h]
  exact zqk a b n c0 c1 ⟨by omega, h⟩
 ·unfold tmLo tmHi
  rw [if_neg h, if_neg h]
  exact zl3 a b n c0 c1 ⟨by omega, by omega⟩
theorem zqm (a : Int) (b : Int) (d : Int) (c0 : L (a).natAbs ≤ 65536) (c1 : L (b).natAbs ≤ 65536) (c2 : (0 : Int) < d ∧ d < 4294967296) : Impl Tryz.prog Amb 242 [(.agg [(.bool (decide (a < 0))), (N a.natAbs), (.bool (decide (b < 0))), (N b.natAbs)]), (.int .u32 d)] (.agg [(.bool (decide ((ptLo a d) < 0))), (N ((ptLo a d).natAbs)), (.bool (decide ((ptHi b d) < 0))), (N ((ptHi b d).natAbs))]) := by
 have z1 := zk6 1 (by decide)
 exact z6u hP hAmb Tryz.func242 (by kernel_rfl) (.lits 2 <| .call (.tup [(N (a.natAbs / (d).toNat)), (.int .u32 ((a.natAbs % (d).toNat : Nat) : Int)), (.bool true)]) <| .lits 2 <| .call (.tup [(N (b.natAbs / (d).toNat)), (.int .u32 ((b.natAbs % (d).toNat : Nat) : Int)), (.bool true)]) <| .lit <| .both (.lit <| .call (N 1) <| .lit <| .call (N ((b.natAbs / (d).toNat) + 1)) <| .lit <| .call (zV (sgn false (a.natAbs / (d).toNat))) <| .lit <| .call (zV (sgn false ((b.natAbs / (d).toNat) + 1))) <| .lits 3 <| .ret) (.lit <| .call (zV (sgn false (a.natAbs / (d).toNat))) <| .lit <| .call (zV (sgn false (b.natAbs / (d).toNat))) <| .lits 3 <| .ret))
  (z6t (aI True.intro (aI (zd5 a.natAbs d oO oO) (have f9 := z96 a.natAbs (d).toNat; aI (zd5 b.natAbs d oO oO) (have f8 := z96 b.natAbs (d).toNat; aI (fun (h1 : (iNe ((b.natAbs % (d).toNat : Nat) : Int) 0) = true) => have _gh1 := z7u h1; aI (zao 1 oO) (aI (zav (b.natAbs / (d).toNat) 1 oO oO) (have f4 := z93 (b.natAbs / (d).toNat) 1; aI (zdv false (a.natAbs / (d).toNat) oO) (have f3 := zh6 false (a.natAbs / (d).toNat); aI (zdv false ((b.natAbs / (d).toNat) + 1) oO) (have f2 := zh6 false ((b.natAbs / (d).toNat) + 1); (zqb rfl (zqc oO) : vsub (.agg [(.bool (decide ((sgn false (a.natAbs / (d).toNat)) < 0))), (N ((sgn false (a.natAbs / (d).toNat)).natAbs)), (.bool (decide ((sgn false ((b.natAbs / (d).toNat) + 1)) < 0))), (N ((sgn false ((b.natAbs / (d).toNat) + 1)).natAbs))]) (.agg [(.bool (decide ((ptLo a d) < 0))), (N ((ptLo a d).natAbs)), (.bool (decide ((ptHi b d) < 0))), (N ((ptHi b d).natAbs))]))))))) (fun (h5 : (iNe ((b.natAbs % (d).toNat : Nat) : Int) 0) = false) => have _gh5 := z7v h5; aI (zdv false (a.natAbs / (d).toNat) oO) (have f7 := zh6 false (a.natAbs / (d).toNat); aI (zdv false (b.natAbs / (d).toNat) oO) (have f6 := zh6 false (b.natAbs / (d).toNat); (zqb rfl (zqd oO) : vsub (.agg [(.bool (decide ((sgn false (a.natAbs / (d).toNat)) < 0))), (N ((sgn false (a.natAbs / (d).toNat)).natAbs)), (.bool (decide ((sgn false (b.natAbs / (d).toNat)) < 0))), (N ((sgn false (b.natAbs / (d).toNat)).natAbs))]) (.agg [(.bool (decide ((ptLo a d) < 0))), (N ((ptLo a d).natAbs)), (.bool (decide ((ptHi b d) < 0))), (N ((ptHi b d).natAbs))]))))))))) (by kernel_rfl))
theorem zqn (b : Int) (c0 : L (b).natAbs ≤ 65536) : Impl Tryz.prog Amb 249 [(zV b)] (.bool (decide ((b).natAbs < 8))) := by
 exact z6u hP hAmb Tryz.func249 (by kernel_rfl) (.lits 2 <| .call (.int .i64 (nbits b.natAbs : Int)) <| .lits 2 <| .ret)
  (z6t (aI True.intro (aI (zcm b.natAbs oO) (have f1 := zfd b.natAbs; (z6c (congrArg V.bool zqe) : vsub (.bool (iLe (nbits b.natAbs : Int) 3)) (.bool (decide ((b).natAbs < 8))))))) (by kernel_rfl))
theorem zqo (a : Int) (b : Int) (c0 : L (b).natAbs ≤ 65536) : Impl Tryz.prog Amb 241 [(.agg [(.bool (decide (a < 0))), (N a.natAbs), (.bool (decide (b < 0))), (N b.natAbs)])] (.bool (decide ((b).natAbs < 8))) := by
 exact z6u hP hAmb Tryz.func241 (by kernel_rfl) (.lits 2 <| .call (.bool (decide ((b).natAbs < 8))) <| .lit <| .ret)
  (z6t (aI True.intro (aI (zqn b oO) ((z6b (.bool (decide ((b).natAbs < 8))))))) (by kernel_rfl))
end Go.Proofs.YtcbihoojfakhdaaGreatDoor


namespace Go.Proofs.YtcbihoojfakhdaaGreatDoor
theorem zqp {m e n f : Int} : cmpD m e n f ≤ 0 ↔ dv m e ≤ dv n f := by rw [znb, zpl]
theorem zqq {a b : Int} {w n : Nat} : dv a (-(w : Int)) ≤ dv b (-((w : Int) + (n : Int))) ↔ a * 2 ^ n ≤ b := by
 rw [zn3 (m := a) (e := -(w : Int)) (c := -((w : Int) + (n : Int))) (by omega), show (-(w : Int) - -((w : Int) + (n : Int))).toNat = n by omega, zn5]
theorem zqr {a b : Int} {w n : Nat} : dv b (-((w : Int) + (n : Int))) ≤ dv a (-(w : Int)) ↔ b ≤ a * 2 ^ n := by
 rw [zn3 (m := a) (e := -(w : Int)) (c := -((w : Int) + (n : Int))) (by omega), show (-(w : Int) - -((w : Int) + (n : Int))).toNat = n by omega, zn5]
end Go.Proofs.YtcbihoojfakhdaaGreatDoor

namespace Go.Proofs.YtcbihoojfakhdaaGreatDoor
open Go.RowKit
set_option maxRecDepth 100000
set_option maxHeartbeats 8000000
theorem zqs (m : Int) (e : Int) (v : Int) (c0 : L (m).natAbs ≤ 4000) (c1 : (-65536 : Int) ≤ e ∧ e ≤ 65536) (c2 : vdb m e = true) (c3 : (0 : Int) ≤ v ∧ v ≤ 1500) : Impl Tryz.prog Amb 45 [(yV m e), (.int .i64 v)] (.agg [(.bool (decide ((flr (dv m e) v) < 0))), (N ((flr (dv m e) v).natAbs)), (.bool (decide ((cei (dv m e) v) < 0))), (N ((cei (dv m e) v).natAbs))]) := by
 have lm := zdh m
 have q1 := dv_L c2 oO
 have q3 : vdb (-m) e = true := by rw [zol]; exact c2
 have q2 := dv_L q3 oO
 exact z6u hP hAmb Tryz.func45 (by kernel_rfl) (.lits 2 <| .call (.agg [(.bool (decide ((dv m e).num < 0))), (N (((dv m e).num).natAbs)), (N ((dv m e).den))]) <| .lits 3 <| .call (zV (flr (dv m e) v)) <| .lits 4 <| .call (yV (-m) e) <| .lit <| .call (.agg [(.bool (decide ((dv (-m) e).num < 0))), (N (((dv (-m) e).num).natAbs)), (N ((dv (-m) e).den))]) <| .lit <| .call (zV (flr (dv (-m) e) v)) <| .lit <| .call (zV (-(flr (dv (-m) e) v))) <| .lits 3 <| .ret)
  (z6t (aI True.intro (aI (zp8 m e oU oU oU) (have f6 := (dv_L ‹vdb m e = true› oU : L (dv m e).num.natAbs ≤ L (m).natAbs + 2050 ∧ L (dv m e).den ≤ 2050); aI (zp9 (dv m e) v oU oU oU) (have f5 := zou (dv m e) v; aI (zjh m e oU) (have f4 := zdh m; aI (zp8 (-m) e oU oU oU) (have f3 := (dv_L ‹vdb (-m) e = true› oU : L (dv (-m) e).num.natAbs ≤ L ((-m)).natAbs + 2050 ∧ L (dv (-m) e).den ≤ 2050); aI (zp9 (dv (-m) e) v oU oU oU) (have f2 := zou (dv (-m) e) v; aI (zhy (flr (dv (-m) e) v) oU) (have f1 := zdh (flr (dv (-m) e) v); (zqb rfl (by unfold cei; rw [zn8]) : vsub (.agg [(.bool (decide ((flr (dv m e) v) < 0))), (N ((flr (dv m e) v).natAbs)), (.bool (decide ((-(flr (dv (-m) e) v)) < 0))), (N ((-(flr (dv (-m) e) v)).natAbs))]) (.agg [(.bool (decide ((flr (dv m e) v) < 0))), (N ((flr (dv m e) v).natAbs)), (.bool (decide ((cei (dv m e) v) < 0))), (N ((cei (dv m e) v).natAbs))])))))))))) (by kernel_rfl))
theorem zqt (a : Int) (b : Int) (c : Int) (d : Int) (v : Int) (c0 : L (a).natAbs ≤ 4000) (c1 : L (b).natAbs ≤ 4000) (c2 : L (c).natAbs ≤ 4000) (c3 : L (d).natAbs ≤ 4000) (c4 : (0 : Int) ≤ v ∧ v ≤ 1500) : Impl Tryz.prog Amb 75 [(.agg [(.bool (decide (a < 0))), (N a.natAbs), (.bool (decide (b < 0))), (N b.natAbs)]), (.agg [(.bool (decide (c < 0))), (N c.natAbs), (.bool (decide (d < 0))), (N d.natAbs)]), (.int .i64 v)] (.agg [(.bool (decide ((rm1 a b c d (2 ^ (v).toNat)) < 0))), (N ((rm1 a b c d (2 ^ (v).toNat)).natAbs)), (.bool (decide ((rm2 a b c d (2 ^ (v).toNat)) < 0))), (N ((rm2 a b c d (2 ^ (v).toNat)).natAbs))]) := by
 have l0 := zdg a c
 have l1 := zdg a d
 have l2 := zdg b c
 have l3 := zdg b d
 exact z6u hP hAmb Tryz.func75 (by kernel_rfl) (.lits 3 <| .call (zV (a * c)) <| .lits 3 <| .call (zV (a * d)) <| .lits 3 <| .call (zV (b * c)) <| .lits 3 <| .call (zV (b * d)) <| .lit <| .call (zV (1 : Int)) <| .lit <| .call (.agg [(.bool (decide ((Int.fdiv (min (min (min (a * c) (a * d)) (b * c)) (b * d)) (1 : Int)) < 0))), (N ((Int.fdiv (min (min (min (a * c) (a * d)) (b * c)) (b * d)) (1 : Int)).natAbs)), (.bool (decide ((-(Int.fdiv (-(max (max (max (a * c) (a * d)) (b * c)) (b * d))) (1 : Int))) < 0))), (N ((-(Int.fdiv (-(max (max (max (a * c) (a * d)) (b * c)) (b * d))) (1 : Int))).natAbs))]) <| .lits 2 <| .call (zV ((Int.fdiv (min (min (min (a * c) (a * d)) (b * c)) (b * d)) (1 : Int)) / 2 ^ (v).toNat)) <| .lits 2 <| .call (zV (-(-(Int.fdiv (-(max (max (max (a * c) (a * d)) (b * c)) (b * d))) (1 : Int))))) <| .lit <| .call (zV ((-(-(Int.fdiv (-(max (max (max (a * c) (a * d)) (b * c)) (b * d))) (1 : Int)))) / 2 ^ (v).toNat)) <| .lit <| .call (zV (-((-(-(Int.fdiv (-(max (max (max (a * c) (a * d)) (b * c)) (b * d))) (1 : Int)))) / 2 ^ (v).toNat))) <| .lits 3 <| .ret)
  (z6t (aI True.intro (aI (zi1 a c oO oO) (have f19 := zdg a c; aI (zi1 a d oO oO) (have f18 := zdg a d; aI (zi1 b c oO oO) (have f17 := zdg b c; aI (zi1 b d oO oO) (have f16 := zdg b d; aI (zhv 1 oO) (have f15 := (zh8 oO : L (1 : Int).natAbs ≤ 2); aI (zkc (a * c) (a * d) (b * c) (b * d) (1 : Int) oO oO oO oO oO oO) (have f14 := zdh (Int.fdiv (-(max (max (max (a * c) (a * d)) (b * c)) (b * d))) (1 : Int)); have f13 := zdh (max (max (max (a * c) (a * d)) (b * c)) (b * d)); have f12 := zho (-(max (max (max (a * c) (a * d)) (b * c)) (b * d))) (1 : Int); have f11 := zho (min (min (min (a * c) (a * d)) (b * c)) (b * d)) (1 : Int); have f10 := zk2 (max (max (a * c) (a * d)) (b * c)) (b * d); have f9 := zk2 (max (a * c) (a * d)) (b * c); have f8 := zk2 (a * c) (a * d); have f7 := zk1 (min (min (a * c) (a * d)) (b * c)) (b * d); have f6 := zk1 (min (a * c) (a * d)) (b * c); have f5 := zk1 (a * c) (a * d); aI (zi4 (Int.fdiv (min (min (min (a * c) (a * d)) (b * c)) (b * d)) (1 : Int)) v oO oO) (have f4 := zhg (Int.fdiv (min (min (min (a * c) (a * d)) (b * c)) (b * d)) (1 : Int)) (v).toNat; aI (zhy (-(Int.fdiv (-(max (max (max (a * c) (a * d)) (b * c)) (b * d))) (1 : Int))) oO) (have f3 := zdh (-(Int.fdiv (-(max (max (max (a * c) (a * d)) (b * c)) (b * d))) (1 : Int))); aI (zi4 (-(-(Int.fdiv (-(max (max (max (a * c) (a * d)) (b * c)) (b * d))) (1 : Int)))) v oO oO) (have f2 := zhg (-(-(Int.fdiv (-(max (max (max (a * c) (a * d)) (b * c)) (b * d))) (1 : Int)))) (v).toNat; aI (zhy ((-(-(Int.fdiv (-(max (max (max (a * c) (a * d)) (b * c)) (b * d))) (1 : Int)))) / 2 ^ (v).toNat) oO) (have f1 := zdh ((-(-(Int.fdiv (-(max (max (max (a * c) (a * d)) (b * c)) (b * d))) (1 : Int)))) / 2 ^ (v).toNat); (zqb (by simp only [Int.fdiv_one]; rfl) (by simp only [Int.fdiv_one, Int.neg_neg]; rfl) : vsub (.agg [(.bool (decide (((Int.fdiv (min (min (min (a * c) (a * d)) (b * c)) (b * d)) (1 : Int)) / 2 ^ (v).toNat) < 0))), (N (((Int.fdiv (min (min (min (a * c) (a * d)) (b * c)) (b * d)) (1 : Int)) / 2 ^ (v).toNat).natAbs)), (.bool (decide ((-((-(-(Int.fdiv (-(max (max (max (a * c) (a * d)) (b * c)) (b * d))) (1 : Int)))) / 2 ^ (v).toNat)) < 0))), (N ((-((-(-(Int.fdiv (-(max (max (max (a * c) (a * d)) (b * c)) (b * d))) (1 : Int)))) / 2 ^ (v).toNat)).natAbs))]) (.agg [(.bool (decide ((rm1 a b c d (2 ^ (v).toNat)) < 0))), (N ((rm1 a b c d (2 ^ (v).toNat)).natAbs)), (.bool (decide ((rm2 a b c d (2 ^ (v).toNat)) < 0))), (N ((rm2 a b c d (2 ^ (v).toNat)).natAbs))])))))))))))))) (by kernel_rfl))
theorem zqu (m : Int) (e : Int) (n : Int) (f : Int) (l1 : Int) (l2 : Int) (l3 : Int) (l4 : Int) (g1 : Int) (g2 : Int) (g3 : Int) (g4 : Int) (w : Int) (b1 : Int) (b2 : Int) (d1 : Int) (d2 : Int) (u1 : Int) (u2 : Int) (k1 : Int) (k2 : Int) (k3 : Int) (k4 : Int) (c0 : (0 : Int) ≤ w ∧ w ≤ 4096) (c1 : Impl Tryz.prog Amb 40 [(wV m e n f)] (.bool true)) (c2 : Impl Tryz.prog Amb 41 [(yV m e), (.int .i64 w)] (.bool true)) (c3 : Impl Tryz.prog Amb 41 [(yV n f), (.int .i64 w)] (.bool true)) (c4 : Impl Tryz.prog Amb 32 [(.int .i64 (w - 1))] (.tup [(yV u1 u2), (.int .i64 0)])) (c5 : Impl Tryz.prog Amb 19 [(yV l1 l2), (yV u1 u2)] (.tup [(yV b1 b2), (.int .i64 0)])) (c6 : Impl Tryz.prog Amb 33 [(yV g3 g4), (yV u1 u2)] (.tup [(yV d1 d2), (.int .i64 0)])) (c7 : Impl Tryz.prog Amb 44 [(yV m e), (yV l3 l4)] (.int .i64 k1)) (c8 : Impl Tryz.prog Amb 44 [(yV b1 b2), (yV m e)] (.int .i64 k2)) (c9 : Impl Tryz.prog Amb 44 [(yV g1 g2), (yV n f)] (.int .i64 k3)) (c10 : Impl Tryz.prog Amb 44 [(yV n f), (yV d1 d2)] (.int .i64 k4)) (c11 : k1 ≤ 0 ∧ k2 ≤ 0 ∧ k3 ≤ 0 ∧ k4 ≤ 0) : Impl Tryz.prog Amb 22 [(wV m e n f), (wV l1 l2 l3 l4), (wV g1 g2 g3 g4), (.int .i64 w)] (.bool true) := by
 exact z6u hP hAmb Tryz.func22 (by kernel_rfl) (.lits 2 <| .call (.bool true) <| .lits 7 <| .call (.bool true) <| .lits 9 <| .call (.bool true) <| .lits 5 <| .yes <| .lit <| .call (.tup [(yV u1 u2), (.int .i64 0)]) <| .lits 4 <| .call (.tup [(yV b1 b2), (.int .i64 0)]) <| .lits 4 <| .call (.tup [(yV d1 d2), (.int .i64 0)]) <| .lits 14 <| .call (.int .i64 k1) <| .lits 3 <| .yes <| .lits 6 <| .call (.int .i64 k2) <| .lits 3 <| .yes <| .lits 7 <| .call (.int .i64 k3) <| .lits 3 <| .yes <| .lits 6 <| .call (.int .i64 k4) <| .lits 4 <| .ret)
  (z6t (aI True.intro (aI (c1 ) (aI (c2 ) (aI (c3 ) (aI (z89 oS : (fits .i64 (w - 1)) = true) (aI (c4 ) (aI (c5 ) (aI (c6 ) (aI (c7 ) (aI (z7x oS : (iLe k1 0) = true) (aI (c8 ) (aI (z7x oS : (iLe k2 0) = true) (aI (c9 ) (aI (z7x oS : (iLe k3 0) = true) (aI (c10 ) ((z6c (congrArg V.bool (z7x oO)) : vsub (.bool (iLe k4 0)) (.bool true)))))))))))))))))) (by kernel_rfl))
theorem zqv (lo hi a1 b1 a2 b2 w : Int) (hw : 0 ≤ w ∧ w ≤ 1500) (L1 : L lo.natAbs ≤ 300) (L2 : L hi.natAbs ≤ 300) (L3 : L a1.natAbs ≤ 300) (L4 : L b1.natAbs ≤ 300) (L5 : L a2.natAbs ≤ 300) (L6 : L b2.natAbs ≤ 300)
  (o : lo ≤ hi) (h1 : lo * 2 ^ 16 ≤ b1) (h2 : a1 ≤ (lo + 2) * 2 ^ 16) (h3 : a2 ≤ hi * 2 ^ 16) (h4 : (hi - 2) * 2 ^ 16 ≤ b2) :
  Impl Tryz.prog Amb 22 [(wV (mkM lo (-w)) (mkX lo (-w)) (mkM hi (-w)) (mkX hi (-w))), (wV (mkM a1 (-(w + 16))) (mkX a1 (-(w + 16))) (mkM b1 (-(w + 16))) (mkX b1 (-(w + 16)))), (wV (mkM a2 (-(w + 16))) (mkX a2 (-(w + 16))) (mkM b2 (-(w + 16))) (mkX b2 (-(w + 16)))), .int .i64 w] (.bool true) := by
 have f1 := zpj (m := lo) (e := -w) oO oO
 have f2 := zpj (m := hi) (e := -w) oO oO
 have f3 := zpj (m := a1) (e := -(w + 16)) oO oO
 have f4 := zpj (m := b1) (e := -(w + 16)) oO oO
 have f5 := zpj (m := a2) (e := -(w + 16)) oO oO
 have f6 := zpj (m := b2) (e := -(w + 16)) oO oO
 have ev : ivB (mkM lo (-w)) (mkX lo (-w)) (mkM hi (-w)) (mkX hi (-w)) = true := by
  unfold ivB
  rw [f1.2.2.2.2.1, f2.2.2.2.2.1, decide_eq_true (zqp.2 (by rw [f1.2.2.2.2.2, f2.2.2.2.2.2]; exact zn5.2 o))]; rfl
 have n1 := zob (p := w) f1.1 oO oO
 have n2 := zob (p := w) f2.1 oO oO
 have u := zjw (p := w - 1) oO
 have hU := zjz (w - 1) oO
 rw [u.1, u.2.1, u.2.2.1] at hU
 have i1 := zia (-w) 0
 have i2 : iMax (-w) 0 ≤ 0 := by unfold iMax; split <;> omega
 have i3 := zia (-(w + 16)) 0
 have i4 : iMax (-(w + 16)) 0 ≤ 0 := by unfold iMax; split <;> omega
 have z1 := zk6 1 (by decide)
 have du : dv 1 (-(w - 1)) = dv 2 (-w) := by
  have := zn2 1 (-w) 1
  rw [show (1 : Int) * 2 ^ 1 = 2 from rfl, show -w + ((1 : Nat) : Int) = -(w - 1) by omega] at this
  exact this.symm
 have xw : ((w.toNat : Nat) : Int) = w := Int.toNat_of_nonneg hw.1
 have dn : ∀ {a b : Int} {n : Nat}, a * 2 ^ n ≤ b → dv a (-w) ≤ dv b (-(w + (n : Int))) := fun h => by
  have := (zqq (w := w.toNat)).2 h
  rwa [xw] at this
 have dm2 : ∀ {a b : Int} {n : Nat}, b ≤ a * 2 ^ n → dv b (-(w + (n : Int))) ≤ dv a (-w) := fun h => by
  have := (zqr (w := w.toNat)).2 h
  rwa [xw] at this
 have sb := zjn (mkM a1 (-(w + 16))) (mkX a1 (-(w + 16))) 1 (-(w - 1)) oO (by show L 1 ≤ 8192; omega) oO oO
 have ab := zjm (mkM b2 (-(w + 16))) (mkX b2 (-(w + 16))) 1 (-(w - 1)) oO (by show L 1 ≤ 8192; omega) oO oO
 have m1 := zia (mkX a1 (-(w + 16))) (-(w - 1))
 have m2 := zia (mkX b2 (-(w + 16))) (-(w - 1))
 have ln1 : L (-1 : Int).natAbs ≤ 300 := by show L 1 ≤ 300; omega
 have s1 := zpn (m := mkM a1 (-(w + 16))) (e := mkX a1 (-(w + 16))) (n := -1) (f := -(w - 1)) (a := 300) (c := 400) oO ln1 oO oO
 have s2 := zpn (m := mkM b2 (-(w + 16))) (e := mkX b2 (-(w + 16))) (n := 1) (f := -(w - 1)) (a := 300) (c := 400) oO (by show L 1 ≤ 300; omega) oO oO
 have e1 := zpj (m := adS (mkM a1 (-(w + 16))) (mkX a1 (-(w + 16))) (-1) (-(w - 1))) (e := iMin (mkX a1 (-(w + 16))) (-(w - 1))) oO oO
 have e2 := zpj (m := adS (mkM b2 (-(w + 16))) (mkX b2 (-(w + 16))) 1 (-(w - 1))) (e := iMin (mkX b2 (-(w + 16))) (-(w - 1))) oO oO
 have j1 := zia (iMin (mkX a1 (-(w + 16))) (-(w - 1))) 0
 have j2 : iMax (iMin (mkX a1 (-(w + 16))) (-(w - 1))) 0 ≤ 20000 := by unfold iMax; split <;> omega
 have j3 := zia (iMin (mkX b2 (-(w + 16))) (-(w - 1))) 0
 have j4 : iMax (iMin (mkX b2 (-(w + 16))) (-(w - 1))) 0 ≤ 20000 := by unfold iMax; split <;> omega
 rw [e1.1] at sb
 rw [e2.1] at ab
 have hd1 := e1.2.2.2.2.2
 have hd2 := e2.2.2.2.2.2
 rw [zna, f3.2.2.2.2.2, zn8, du] at hd1
 rw [zna, f6.2.2.2.2.2, du] at hd2
 refine zqu _ _ _ _ _ _ _ _ _ _ _ _ w _ _ _ _ 1 (-(w - 1)) _ _ _ _ oO ?_ ?_ ?_ hU sb ab (zjl _ _ _ _ oO oO oO oO) (zjl _ _ _ _ oO oO oO oO) (zjl _ _ _ _ oO oO oO oO) (zjl _ _ _ _ oO oO oO oO) ⟨?_, ?_, ?_, ?_⟩
 ·exact zpe (congrArg V.bool ev) (zk0 _ _ _ _ oO oO)
 ·exact zpe (congrArg V.bool n1) (zjy _ _ w oO oO)
 ·exact zpe (congrArg V.bool n2) (zjy _ _ w oO oO)
 ·rw [zqp, f1.2.2.2.2.2, f4.2.2.2.2.2]
  exact dn h1
 ·rw [zqp, hd1, f1.2.2.2.2.2]
  have := dm2 h2
  rw [zn9] at this
  grind
 ·rw [zqp, f5.2.2.2.2.2, f2.2.2.2.2.2]
  exact dm2 h3
 ·rw [zqp, hd2, f2.2.2.2.2.2]
  have := dn h4
  rw [Int.sub_eq_add_neg, zn9, zn8] at this
  grind
end Go.Proofs.YtcbihoojfakhdaaGreatDoor

namespace Go.Proofs.YtcbihoojfakhdaaGreatDoor
theorem zqw {m e : Int} : 0 ≤ dv m e ↔ 0 ≤ m := by rw [← zn6 e, zn5]
theorem zqx {m e : Int} (hm : m ≠ 0) : dv (m.natAbs : Int) e < dv 1 (topD m e) ∧ dv 1 (topD m e - 1) ≤ dv (m.natAbs : Int) e := by
 have h1 := zbs m.natAbs
 have h2 := zbt (show m.natAbs ≠ 0 by omega)
 have h3 := zbv (show m.natAbs ≠ 0 by omega)
 have ht : topD m e = (nbits m.natAbs : Int) + e := by unfold topD; rw [if_neg hm]
 constructor
 ·rw [zn3 (m := 1) (show e ≤ topD m e by omega), zn4, Int.one_mul, zb2, show (topD m e - e).toNat = nbits m.natAbs by omega]; omega
 ·rw [zn3 (m := 1) (show e ≤ topD m e - 1 by omega), zn5, Int.one_mul, zb2, show (topD m e - 1 - e).toNat = nbits m.natAbs - 1 by omega]; omega
theorem zqy {a b : Int} (h : a ≤ b) : dv 1 a ≤ dv 1 b := by
 rw [zn3 h, zn5, Int.one_mul, zb2]
 have := Nat.pow_pos (n := (b - a).toNat) (show 0 < 2 by omega); omega
end Go.Proofs.YtcbihoojfakhdaaGreatDoor


namespace Go.Proofs.YtcbihoojfakhdaaGreatDoor
theorem zqz (m e k : Int) : dv m e = dv m (e - k) * 2 ^ k := by
 unfold dv
 rw [Rat.mul_assoc, ← zmw, show e - k + k = e by omega]
end Go.Proofs.YtcbihoojfakhdaaGreatDoor


namespace Go.Proofs.YtcbihoojfakhdaaGreatDoor
open Go.RowKit
set_option maxRecDepth 100000
set_option maxHeartbeats 2000000
def saS (p : Nat → Int) : Nat → Int
 | 0 => p 0
 | j + 1 => saS p j + p (j + 1)
def sqS (a b T : Int) : Nat → Int × Int
 | 0 => (a, b)
 | i + 1 => ((sqS a b T i).1 * (sqS a b T i).1 / T, -(-((sqS a b T i).2 * (sqS a b T i).2) / T))
def fx_exp_0_mk (x1 x2 sc _ : Int) (x : Int) : St := ⟨mkS 63 [(1, (.val (.int .i64 sc))), (2, (.own 0 0)), (4, (.own 1 0)), (5, (.val (.int .i64 x)))], [⟨true, false, [(V.bool (decide (x1 < 0))), (N x1.natAbs), (V.bool (decide (x2 < 0))), (N x2.natAbs)]⟩, ⟨true, false, [(V.bool false), V.nil, (V.bool false), V.nil]⟩]⟩
def fx_exp_0_I (_ _ _ hh : Int) (x : Int) : Prop := 4 ≤ x ∧ x ≤ hh
def fx_exp_0_mu (_ _ _ hh : Int) (x : Int) : Nat := (hh - x).toNat
def fx_exp_0_ex (x1 x2 sc _ : Int) (y : Int) : Ex × St := (.exit 0, ⟨mkS 63 [(1, (.val (.int .i64 sc))), (2, (.own 0 0)), (4, (.own 1 0)), (5, (.val (.int .i64 y)))], [⟨true, false, [(V.bool (decide (x1 < 0))), (N x1.natAbs), (V.bool (decide (x2 < 0))), (N x2.natAbs)]⟩, ⟨true, false, [(V.bool false), V.nil, (V.bool false), V.nil]⟩]⟩)
def fx_exp_0_J (_ _ _ hh : Int) (y : Int) : Prop := y = hh
abbrev fx_exp_0_N (x1 x2 sc hh : Int) := NX (fx_exp_0_mk x1 x2 sc hh) (fx_exp_0_I x1 x2 sc hh) (fx_exp_0_mu x1 x2 sc hh) (fx_exp_0_ex x1 x2 sc hh) (fx_exp_0_J x1 x2 sc hh)
theorem zr0 (x1 x2 sc hh : Int) (c0 : 0 ≤ sc ∧ sc ≤ 20000)(c1 : 4 ≤ hh ∧ hh ≤ 200)(c2 : ∀ i : Int, 4 ≤ i → i < hh → i * i < sc)(c3 : sc ≤ hh * hh) (x0 : Int) (hI : fx_exp_0_I x1 x2 sc hh x0) : LoopOk Tryz.prog Amb (loopN Tryz.f232 0) (fx_exp_0_mk x1 x2 sc hh x0) (fun e st_ => ∃ y, fx_exp_0_J x1 x2 sc hh y ∧ fx_exp_0_ex x1 x2 sc hh y = (e, st_)) :=
 z72 hP hAmb ⟨[1, 2, 4, 5], 2, []⟩ (fx_exp_0_mk x1 x2 sc hh) (fx_exp_0_I x1 x2 sc hh) (fx_exp_0_mu x1 x2 sc hh) (fx_exp_0_ex x1 x2 sc hh) (fx_exp_0_J x1 x2 sc hh) x0 hI (fun i => .lit <| .yes <| .lit <| .both (.lit <| .yes <| .fin2 ⟨[1, 2, 4, 5], 2, []⟩) (.fin2 ⟨[1, 2, 4, 5], 2, []⟩)) (by
  rintro i hI
  have hI : 4 ≤ i ∧ i ≤ hh := hI
  obtain ⟨h1, h2⟩ := hI
  have hq : i < hh → i * i < sc := fun q => c2 i h1 q
  have hm : i * i ≤ 9000000000000 := Int.le_trans (Int.mul_le_mul_of_nonneg_left (show i ≤ 3000000 by omega) oO) oO
  have hm0 : 0 ≤ i * i := Int.mul_nonneg oO oO
  have he : i = hh → sc ≤ i * i := fun q => by rw [q]; exact c3
  exact z6t (aI True.intro (aI (z89 oO : (fits .i64 (i * i)) = true) (aI (fun (h101 : (iLt (i * i) sc) = true) => have _gh101 := z7k h101; aI (z89 oO : (fits .i64 (i + 1)) = true) (aI tT ((z6z (i + 1) (show 4 ≤ (i + 1) ∧ (i + 1) ≤ hh from ⟨by omega, by omega⟩) (show (hh - (i + 1)).toNat < (hh - i).toNat by omega) : fx_exp_0_N x1 x2 sc hh i .normal (fx_exp_0_mk x1 x2 sc hh (i + 1)))))) (fun (h102 : (iLt (i * i) sc) = false) => have _gh102 := z7l h102; aI tT ((z70 0 ((fx_exp_0_ex x1 x2 sc hh i).2) i (show i = hh from show i = hh by omega) rfl : fx_exp_0_N x1 x2 sc hh i (.exit 0) ((fx_exp_0_ex x1 x2 sc hh i).2))))))) (by kernel_rfl))
def fx_exp_1_mk (sc hh v1 v2 : Int) (_ : Nat) (pp1 pp2 _ _ : Nat → Int) (x : Nat × Int) : St := ⟨mkS 63 [(1, (.val (.int .i64 sc))), (2, (.own 0 0)), (4, (.own 1 0)), (5, (.val (.int .i64 hh))), (6, (.val (.int .i64 ((sc + hh) + 24)))), (7, (.own 2 0)), (8, (.own 3 0)), (9, (.val (.int .u32 x.2)))], [⟨true, false, [(V.bool (decide (v1 < 0))), (N v1.natAbs), (V.bool (decide (v2 < 0))), (N v2.natAbs)]⟩, ⟨true, false, [(V.bool false), V.nil, (V.bool false), V.nil]⟩, ⟨true, false, [(V.bool (decide ((pp1 x.1) < 0))), (N ((pp1 x.1).natAbs)), (V.bool (decide ((pp2 x.1) < 0))), (N ((pp2 x.1).natAbs))]⟩, ⟨true, false, [(V.bool (decide ((saS pp1 x.1) < 0))), (N ((saS pp1 x.1).natAbs)), (V.bool (decide ((saS pp2 x.1) < 0))), (N ((saS pp2 x.1).natAbs))]⟩]⟩
def fx_exp_1_I (_ _ _ _ : Int) (nn : Nat) (_ _ _ _ : Nat → Int) (x : Nat × Int) : Prop := x.1 < nn ∧ x.2 = (x.1 : Int) + 1
def fx_exp_1_mu (_ _ _ _ : Int) (nn : Nat) (_ _ _ _ : Nat → Int) (x : Nat × Int) : Nat := nn - x.1
def fx_exp_1_ex (sc hh v1 v2 : Int) (_ : Nat) (pp1 pp2 _ _ : Nat → Int) (y : Nat) : Ex × St := (.exit 2, ⟨mkS 63 [(1, (.val (.int .i64 sc))), (4, (.own 1 0)), (5, (.val (.int .i64 hh))), (6, (.val (.int .i64 ((sc + hh) + 24)))), (8, (.own 3 0))], [⟨true, false, [(V.bool (decide (v1 < 0))), (N v1.natAbs), (V.bool (decide (v2 < 0))), (N v2.natAbs)]⟩, ⟨true, false, [(V.bool false), V.nil, (V.bool false), V.nil]⟩, ⟨true, false, [(V.bool (decide ((pp1 y) < 0))), (N ((pp1 y).natAbs)), (V.bool (decide ((pp2 y) < 0))), (N ((pp2 y).natAbs))]⟩, ⟨true, false, [(V.bool (decide ((saS pp1 y) < 0))), (N ((saS pp1 y).natAbs)), (V.bool (decide (((saS pp2 y) + (pp2 y)) < 0))), (N (((saS pp2 y) + (pp2 y)).natAbs))]⟩]⟩)
def fx_exp_1_J (_ _ _ _ : Int) (nn : Nat) (_ _ _ _ : Nat → Int) (y : Nat) : Prop := y = nn
abbrev fx_exp_1_N (sc hh v1 v2 : Int) (nn : Nat) (pp1 pp2 mm1 mm2 : Nat → Int) := NX (fx_exp_1_mk sc hh v1 v2 nn pp1 pp2 mm1 mm2) (fx_exp_1_I sc hh v1 v2 nn pp1 pp2 mm1 mm2) (fx_exp_1_mu sc hh v1 v2 nn pp1 pp2 mm1 mm2) (fx_exp_1_ex sc hh v1 v2 nn pp1 pp2 mm1 mm2) (fx_exp_1_J sc hh v1 v2 nn pp1 pp2 mm1 mm2)
theorem zr1 (sc hh v1 v2 : Int) (nn : Nat) (pp1 pp2 mm1 mm2 : Nat → Int) (c0 : ∀ j, j < nn → Impl Tryz.prog Amb 236 [(.agg [(.bool (decide ((pp1 j) < 0))), (N ((pp1 j).natAbs)), (.bool (decide ((pp2 j) < 0))), (N ((pp2 j).natAbs))]), (.agg [(.bool (decide (v1 < 0))), (N v1.natAbs), (.bool (decide (v2 < 0))), (N v2.natAbs)]), (.int .i64 ((sc + hh) + 24))] (.agg [(.bool (decide ((mm1 j) < 0))), (N ((mm1 j).natAbs)), (.bool (decide ((mm2 j) < 0))), (N ((mm2 j).natAbs))]))(c1 : ∀ (j : Nat) (kk : Int), j < nn → kk = (j : Int) + 1 → Impl Tryz.prog Amb 242 [(.agg [(.bool (decide ((mm1 j) < 0))), (N ((mm1 j).natAbs)), (.bool (decide ((mm2 j) < 0))), (N ((mm2 j).natAbs))]), (.int .u32 kk)] (.agg [(.bool (decide ((pp1 (j + 1)) < 0))), (N ((pp1 (j + 1)).natAbs)), (.bool (decide ((pp2 (j + 1)) < 0))), (N ((pp2 (j + 1)).natAbs))]))(c2 : ∀ j, j < nn → Impl Tryz.prog Amb 179 [(.agg [(.bool (decide ((saS pp1 j) < 0))), (N ((saS pp1 j).natAbs)), (.bool (decide ((saS pp2 j) < 0))), (N ((saS pp2 j).natAbs))]), (.agg [(.bool (decide ((pp1 (j + 1)) < 0))), (N ((pp1 (j + 1)).natAbs)), (.bool (decide ((pp2 (j + 1)) < 0))), (N ((pp2 (j + 1)).natAbs))])] (.agg [(.bool (decide ((saS pp1 (j + 1)) < 0))), (N ((saS pp1 (j + 1)).natAbs)), (.bool (decide ((saS pp2 (j + 1)) < 0))), (N ((saS pp2 (j + 1)).natAbs))]))(c3 : ∀ j, j < nn → Impl Tryz.prog Amb 241 [(.agg [(.bool (decide ((pp1 (j + 1)) < 0))), (N ((pp1 (j + 1)).natAbs)), (.bool (decide ((pp2 (j + 1)) < 0))), (N ((pp2 (j + 1)).natAbs))])] (.bool (decide (nn ≤ j + 1))))(c4 : L (saS pp2 nn).natAbs ≤ 20000 ∧ L (pp2 nn).natAbs ≤ 20000)(c5 : 1 ≤ nn ∧ nn ≤ 10000) (x0 : Nat × Int) (hI : fx_exp_1_I sc hh v1 v2 nn pp1 pp2 mm1 mm2 x0) : LoopOk Tryz.prog Amb (loopN Tryz.f232 1) (fx_exp_1_mk sc hh v1 v2 nn pp1 pp2 mm1 mm2 x0) (fun e st_ => ∃ y, fx_exp_1_J sc hh v1 v2 nn pp1 pp2 mm1 mm2 y ∧ fx_exp_1_ex sc hh v1 v2 nn pp1 pp2 mm1 mm2 y = (e, st_)) :=
 z72 hP hAmb ⟨[1, 2, 4, 5, 6, 7, 8, 9], 4, []⟩ (fx_exp_1_mk sc hh v1 v2 nn pp1 pp2 mm1 mm2) (fx_exp_1_I sc hh v1 v2 nn pp1 pp2 mm1 mm2) (fx_exp_1_mu sc hh v1 v2 nn pp1 pp2 mm1 mm2) (fx_exp_1_ex sc hh v1 v2 nn pp1 pp2 mm1 mm2) (fx_exp_1_J sc hh v1 v2 nn pp1 pp2 mm1 mm2) x0 hI (fun (j, kk) => .lits 3 <| .call (.agg [(.bool (decide ((mm1 j) < 0))), (N ((mm1 j).natAbs)), (.bool (decide ((mm2 j) < 0))), (N ((mm2 j).natAbs))]) <| .lit <| .call (.agg [(.bool (decide ((pp1 (j + 1)) < 0))), (N ((pp1 (j + 1)).natAbs)), (.bool (decide ((pp2 (j + 1)) < 0))), (N ((pp2 (j + 1)).natAbs))]) <| .lits 4 <| .call (.agg [(.bool (decide ((saS pp1 (j + 1)) < 0))), (N ((saS pp1 (j + 1)).natAbs)), (.bool (decide ((saS pp2 (j + 1)) < 0))), (N ((saS pp2 (j + 1)).natAbs))]) <| .lits 3 <| .call (.bool (decide (nn ≤ j + 1))) <| .both (.lits 3 <| .call (zV ((saS pp2 (j + 1)) + (pp2 (j + 1)))) <| .lit <| .fin2 ⟨[1, 4, 5, 6, 8], 4, []⟩) (.lit <| .yes <| .fin2 ⟨[1, 2, 4, 5, 6, 7, 8, 9], 4, []⟩)) (by
  rintro ⟨j, kk⟩ hI
  have hI : j < nn ∧ kk = (j : Int) + 1 := hI
  obtain ⟨h1, h2⟩ := hI
  have c5 := fun (q : nn = j + 1) => (show L (saS pp2 (j + 1)).natAbs ≤ 20000 ∧ L (pp2 (j + 1)).natAbs ≤ 20000 from q ▸ c4)
  exact z6t (aI True.intro (aI (c0 j h1 ) (aI (c1 j kk h1 h2 ) (aI (c2 j h1 ) (aI (c3 j h1 ) (aI (fun (h101 : (decide (nn ≤ j + 1)) = true) => have _gh101 := of_decide_eq_true h101; aI (ze1 (saS pp2 (j + 1)) (pp2 (j + 1)) (by first | omega | (have := c5 oO; omega)) (by first | omega | (have := c5 oO; omega))) (have f102 := zdf (saS pp2 (j + 1)) (pp2 (j + 1)); aI tT ((z70 2 ((fx_exp_1_ex sc hh v1 v2 nn pp1 pp2 mm1 mm2 (j + 1)).2) (j + 1) (show (j + 1) = nn from show j + 1 = nn by omega) rfl : fx_exp_1_N sc hh v1 v2 nn pp1 pp2 mm1 mm2 (j, kk) (.exit 2) ((fx_exp_1_ex sc hh v1 v2 nn pp1 pp2 mm1 mm2 (j + 1)).2))))) (fun (h103 : (decide (nn ≤ j + 1)) = false) => have _gh103 := of_decide_eq_false h103; aI (z8b (by first | omega | (have := c5 oO; omega)) : (fits .u32 (kk + 1)) = true) (aI tT ((z6z ((j + 1), (kk + 1)) (show (j + 1) < nn ∧ (kk + 1) = ((j + 1) : Int) + 1 from ⟨by omega, by omega⟩) (show nn - (j + 1) < nn - j by omega) : fx_exp_1_N sc hh v1 v2 nn pp1 pp2 mm1 mm2 (j, kk) .normal (fx_exp_1_mk sc hh v1 v2 nn pp1 pp2 mm1 mm2 ((j + 1), (kk + 1))))))))))))) (by kernel_rfl))
def fx_exp_2_mk (sc hh v1 v2 q1 q2 fa fb : Int) (x : Nat × Int) : St := ⟨mkS 63 [(1, (.val (.int .i64 sc))), (4, (.own 1 0)), (6, (.val (.int .i64 ((sc + hh) + 24)))), (8, (.own 3 0)), (50, (.val (.int .i64 hh))), (51, (.val (.int .i64 x.2)))], [⟨true, false, [(V.bool (decide (v1 < 0))), (N v1.natAbs), (V.bool (decide (v2 < 0))), (N v2.natAbs)]⟩, ⟨true, false, [(V.bool false), V.nil, (V.bool false), V.nil]⟩, ⟨true, false, [(V.bool (decide (q1 < 0))), (N q1.natAbs), (V.bool (decide (q2 < 0))), (N q2.natAbs)]⟩, ⟨true, false, [(V.bool (decide ((sqS fa fb (2 ^ (((sc + hh) + 24)).toNat) x.1).1 < 0))), (N (((sqS fa fb (2 ^ (((sc + hh) + 24)).toNat) x.1).1).natAbs)), (V.bool (decide ((sqS fa fb (2 ^ (((sc + hh) + 24)).toNat) x.1).2 < 0))), (N (((sqS fa fb (2 ^ (((sc + hh) + 24)).toNat) x.1).2).natAbs))]⟩]⟩
def fx_exp_2_I (_ hh _ _ _ _ _ _ : Int) (x : Nat × Int) : Prop := x.2 = (x.1 : Int) ∧ (x.1 : Int) ≤ hh
def fx_exp_2_mu (_ hh _ _ _ _ _ _ : Int) (x : Nat × Int) : Nat := (hh - x.1).toNat
def fx_exp_2_ex (sc hh v1 v2 q1 q2 fa fb : Int) (y : Nat) : Ex × St := (.exit 4, ⟨mkS 63 [(1, (.val (.int .i64 sc))), (4, (.own 1 0)), (6, (.val (.int .i64 ((sc + hh) + 24)))), (8, (.own 3 0))], [⟨true, false, [(V.bool (decide (v1 < 0))), (N v1.natAbs), (V.bool (decide (v2 < 0))), (N v2.natAbs)]⟩, ⟨true, false, [(V.bool false), V.nil, (V.bool false), V.nil]⟩, ⟨true, false, [(V.bool (decide (q1 < 0))), (N q1.natAbs), (V.bool (decide (q2 < 0))), (N q2.natAbs)]⟩, ⟨true, false, [(V.bool (decide ((sqS fa fb (2 ^ (((sc + hh) + 24)).toNat) y).1 < 0))), (N (((sqS fa fb (2 ^ (((sc + hh) + 24)).toNat) y).1).natAbs)), (V.bool (decide ((sqS fa fb (2 ^ (((sc + hh) + 24)).toNat) y).2 < 0))), (N (((sqS fa fb (2 ^ (((sc + hh) + 24)).toNat) y).2).natAbs))]⟩]⟩)
def fx_exp_2_J (_ hh _ _ _ _ _ _ : Int) (y : Nat) : Prop := (y : Int) = hh
abbrev fx_exp_2_N (sc hh v1 v2 q1 q2 fa fb : Int) := NX (fx_exp_2_mk sc hh v1 v2 q1 q2 fa fb) (fx_exp_2_I sc hh v1 v2 q1 q2 fa fb) (fx_exp_2_mu sc hh v1 v2 q1 q2 fa fb) (fx_exp_2_ex sc hh v1 v2 q1 q2 fa fb) (fx_exp_2_J sc hh v1 v2 q1 q2 fa fb)
theorem zr2 (sc hh v1 v2 q1 q2 fa fb : Int) (c0 : ∀ i : Nat, (i : Int) < hh → Impl Tryz.prog Amb 236 [(.agg [(.bool (decide ((sqS fa fb (2 ^ (((sc + hh) + 24)).toNat) i).1 < 0))), (N (((sqS fa fb (2 ^ (((sc + hh) + 24)).toNat) i).1).natAbs)), (.bool (decide ((sqS fa fb (2 ^ (((sc + hh) + 24)).toNat) i).2 < 0))), (N (((sqS fa fb (2 ^ (((sc + hh) + 24)).toNat) i).2).natAbs))]), (.agg [(.bool (decide ((sqS fa fb (2 ^ (((sc + hh) + 24)).toNat) i).1 < 0))), (N (((sqS fa fb (2 ^ (((sc + hh) + 24)).toNat) i).1).natAbs)), (.bool (decide ((sqS fa fb (2 ^ (((sc + hh) + 24)).toNat) i).2 < 0))), (N (((sqS fa fb (2 ^ (((sc + hh) + 24)).toNat) i).2).natAbs))]), (.int .i64 ((sc + hh) + 24))] (.agg [(.bool (decide ((sqS fa fb (2 ^ (((sc + hh) + 24)).toNat) (i + 1)).1 < 0))), (N (((sqS fa fb (2 ^ (((sc + hh) + 24)).toNat) (i + 1)).1).natAbs)), (.bool (decide ((sqS fa fb (2 ^ (((sc + hh) + 24)).toNat) (i + 1)).2 < 0))), (N (((sqS fa fb (2 ^ (((sc + hh) + 24)).toNat) (i + 1)).2).natAbs))]))(c1 : 4 ≤ hh ∧ hh ≤ 200) (x0 : Nat × Int) (hI : fx_exp_2_I sc hh v1 v2 q1 q2 fa fb x0) : LoopOk Tryz.prog Amb (loopN Tryz.f232 2) (fx_exp_2_mk sc hh v1 v2 q1 q2 fa fb x0) (fun e st_ => ∃ y, fx_exp_2_J sc hh v1 v2 q1 q2 fa fb y ∧ fx_exp_2_ex sc hh v1 v2 q1 q2 fa fb y = (e, st_)) :=
 z72 hP hAmb ⟨[1, 4, 6, 8, 50, 51], 4, []⟩ (fx_exp_2_mk sc hh v1 v2 q1 q2 fa fb) (fx_exp_2_I sc hh v1 v2 q1 q2 fa fb) (fx_exp_2_mu sc hh v1 v2 q1 q2 fa fb) (fx_exp_2_ex sc hh v1 v2 q1 q2 fa fb) (fx_exp_2_J sc hh v1 v2 q1 q2 fa fb) x0 hI (fun (i, ii) => .lit <| .both (.lits 3 <| .call (.agg [(.bool (decide ((sqS fa fb (2 ^ (((sc + hh) + 24)).toNat) (i + 1)).1 < 0))), (N (((sqS fa fb (2 ^ (((sc + hh) + 24)).toNat) (i + 1)).1).natAbs)), (.bool (decide ((sqS fa fb (2 ^ (((sc + hh) + 24)).toNat) (i + 1)).2 < 0))), (N (((sqS fa fb (2 ^ (((sc + hh) + 24)).toNat) (i + 1)).2).natAbs))]) <| .lits 2 <| .yes <| .fin2 ⟨[1, 4, 6, 8, 50, 51], 4, []⟩) (.fin2 ⟨[1, 4, 6, 8], 4, []⟩)) (by
  rintro ⟨i, ii⟩ hI
  have hI : ii = (i : Int) ∧ (i : Int) ≤ hh := hI
  obtain ⟨h1, h2⟩ := hI
  exact z6t (aI True.intro (aI (fun (h101 : (iLt ii hh) = true) => have _gh101 := z7k h101; aI (c0 i oO ) (aI (z89 oO : (fits .i64 (ii + 1)) = true) (aI tT ((z6z ((i + 1), (ii + 1)) (show (ii + 1) = ((i + 1) : Int) ∧ ((i + 1) : Int) ≤ hh from ⟨by omega, by omega⟩) (show (hh - ((i + 1 : Nat) : Int)).toNat < (hh - i).toNat by omega) : fx_exp_2_N sc hh v1 v2 q1 q2 fa fb (i, ii) .normal (fx_exp_2_mk sc hh v1 v2 q1 q2 fa fb ((i + 1), (ii + 1)))))))) (fun (h102 : (iLt ii hh) = false) => have _gh102 := z7l h102; aI tT ((z70 4 ((fx_exp_2_ex sc hh v1 v2 q1 q2 fa fb i).2) i (show (i : Int) = hh from show (i : Int) = hh by omega) rfl : fx_exp_2_N sc hh v1 v2 q1 q2 fa fb (i, ii) (.exit 4) ((fx_exp_2_ex sc hh v1 v2 q1 q2 fa fb i).2)))))) (by kernel_rfl))
theorem zr3 (x1 : Int) (x2 : Int) (sc : Int) (hh : Int) (w1 : Int) (w2 : Int) (v1 : Int) (v2 : Int) (r1 : Int) (r2 : Int) (nn : Nat) (pp1 : Nat → Int) (pp2 : Nat → Int) (mm1 : Nat → Int) (mm2 : Nat → Int) (c0 : 0 ≤ sc ∧ sc ≤ 20000) (c1 : 4 ≤ hh ∧ hh ≤ 200) (c2 : ∀ i : Int, 4 ≤ i → i < hh → i * i < sc) (c3 : sc ≤ hh * hh) (c4 : Impl Tryz.prog Amb 216 [(.agg [(.bool (decide (x1 < 0))), (N x1.natAbs), (.bool (decide (x2 < 0))), (N x2.natAbs)]), (.int .i64 (((sc + hh) + 24) - sc))] (.agg [(.bool (decide (w1 < 0))), (N w1.natAbs), (.bool (decide (w2 < 0))), (N w2.natAbs)])) (c5 : Impl Tryz.prog Amb 162 [(.agg [(.bool (decide (w1 < 0))), (N w1.natAbs), (.bool (decide (w2 < 0))), (N w2.natAbs)]), (.int .i64 hh)] (.agg [(.bool (decide (v1 < 0))), (N v1.natAbs), (.bool (decide (v2 < 0))), (N v2.natAbs)])) (c6 : Impl Tryz.prog Amb 213 [(.int .i64 ((sc + hh) + 24))] (.agg [(.bool (decide ((pp1 0) < 0))), (N ((pp1 0).natAbs)), (.bool (decide ((pp2 0) < 0))), (N ((pp2 0).natAbs))])) (c7 : ∀ j, j < nn → Impl Tryz.prog Amb 236 [(.agg [(.bool (decide ((pp1 j) < 0))), (N ((pp1 j).natAbs)), (.bool (decide ((pp2 j) < 0))), (N ((pp2 j).natAbs))]), (.agg [(.bool (decide (v1 < 0))), (N v1.natAbs), (.bool (decide (v2 < 0))), (N v2.natAbs)]), (.int .i64 ((sc + hh) + 24))] (.agg [(.bool (decide ((mm1 j) < 0))), (N ((mm1 j).natAbs)), (.bool (decide ((mm2 j) < 0))), (N ((mm2 j).natAbs))])) (c8 : ∀ (j : Nat) (kk : Int), j < nn → kk = (j : Int) + 1 → Impl Tryz.prog Amb 242 [(.agg [(.bool (decide ((mm1 j) < 0))), (N ((mm1 j).natAbs)), (.bool (decide ((mm2 j) < 0))), (N ((mm2 j).natAbs))]), (.int .u32 kk)] (.agg [(.bool (decide ((pp1 (j + 1)) < 0))), (N ((pp1 (j + 1)).natAbs)), (.bool (decide ((pp2 (j + 1)) < 0))), (N ((pp2 (j + 1)).natAbs))])) (c9 : ∀ j, j < nn → Impl Tryz.prog Amb 179 [(.agg [(.bool (decide ((saS pp1 j) < 0))), (N ((saS pp1 j).natAbs)), (.bool (decide ((saS pp2 j) < 0))), (N ((saS pp2 j).natAbs))]), (.agg [(.bool (decide ((pp1 (j + 1)) < 0))), (N ((pp1 (j + 1)).natAbs)), (.bool (decide ((pp2 (j + 1)) < 0))), (N ((pp2 (j + 1)).natAbs))])] (.agg [(.bool (decide ((saS pp1 (j + 1)) < 0))), (N ((saS pp1 (j + 1)).natAbs)), (.bool (decide ((saS pp2 (j + 1)) < 0))), (N ((saS pp2 (j + 1)).natAbs))])) (c10 : ∀ j, j < nn → Impl Tryz.prog Amb 241 [(.agg [(.bool (decide ((pp1 (j + 1)) < 0))), (N ((pp1 (j + 1)).natAbs)), (.bool (decide ((pp2 (j + 1)) < 0))), (N ((pp2 (j + 1)).natAbs))])] (.bool (decide (nn ≤ j + 1)))) (c11 : L (saS pp2 nn).natAbs ≤ 20000 ∧ L (pp2 nn).natAbs ≤ 20000) (c12 : 1 ≤ nn ∧ nn ≤ 10000) (c13 : ∀ i : Nat, (i : Int) < hh → Impl Tryz.prog Amb 236 [(.agg [(.bool (decide ((sqS (saS pp1 nn) ((saS pp2 nn) + (pp2 nn)) (2 ^ (((sc + hh) + 24)).toNat) i).1 < 0))), (N (((sqS (saS pp1 nn) ((saS pp2 nn) + (pp2 nn)) (2 ^ (((sc + hh) + 24)).toNat) i).1).natAbs)), (.bool (decide ((sqS (saS pp1 nn) ((saS pp2 nn) + (pp2 nn)) (2 ^ (((sc + hh) + 24)).toNat) i).2 < 0))), (N (((sqS (saS pp1 nn) ((saS pp2 nn) + (pp2 nn)) (2 ^ (((sc + hh) + 24)).toNat) i).2).natAbs))]), (.agg [(.bool (decide ((sqS (saS pp1 nn) ((saS pp2 nn) + (pp2 nn)) (2 ^ (((sc + hh) + 24)).toNat) i).1 < 0))), (N (((sqS (saS pp1 nn) ((saS pp2 nn) + (pp2 nn)) (2 ^ (((sc + hh) + 24)).toNat) i).1).natAbs)), (.bool (decide ((sqS (saS pp1 nn) ((saS pp2 nn) + (pp2 nn)) (2 ^ (((sc + hh) + 24)).toNat) i).2 < 0))), (N (((sqS (saS pp1 nn) ((saS pp2 nn) + (pp2 nn)) (2 ^ (((sc + hh) + 24)).toNat) i).2).natAbs))]), (.int .i64 ((sc + hh) + 24))] (.agg [(.bool (decide ((sqS (saS pp1 nn) ((saS pp2 nn) + (pp2 nn)) (2 ^ (((sc + hh) + 24)).toNat) (i + 1)).1 < 0))), (N (((sqS (saS pp1 nn) ((saS pp2 nn) + (pp2 nn)) (2 ^ (((sc + hh) + 24)).toNat) (i + 1)).1).natAbs)), (.bool (decide ((sqS (saS pp1 nn) ((saS pp2 nn) + (pp2 nn)) (2 ^ (((sc + hh) + 24)).toNat) (i + 1)).2 < 0))), (N (((sqS (saS pp1 nn) ((saS pp2 nn) + (pp2 nn)) (2 ^ (((sc + hh) + 24)).toNat) (i + 1)).2).natAbs))])) (c14 : ∀ i : Nat, (i : Int) = hh → Impl Tryz.prog Amb 162 [(.agg [(.bool (decide ((sqS (saS pp1 nn) ((saS pp2 nn) + (pp2 nn)) (2 ^ (((sc + hh) + 24)).toNat) i).1 < 0))), (N (((sqS (saS pp1 nn) ((saS pp2 nn) + (pp2 nn)) (2 ^ (((sc + hh) + 24)).toNat) i).1).natAbs)), (.bool (decide ((sqS (saS pp1 nn) ((saS pp2 nn) + (pp2 nn)) (2 ^ (((sc + hh) + 24)).toNat) i).2 < 0))), (N (((sqS (saS pp1 nn) ((saS pp2 nn) + (pp2 nn)) (2 ^ (((sc + hh) + 24)).toNat) i).2).natAbs))]), (.int .i64 (((sc + hh) + 24) - sc))] (.agg [(.bool (decide (r1 < 0))), (N r1.natAbs), (.bool (decide (r2 < 0))), (N r2.natAbs)])) : Impl Tryz.prog Amb 232 [(.agg [(.bool (decide (x1 < 0))), (N x1.natAbs), (.bool (decide (x2 < 0))), (N x2.natAbs)]), (.int .i64 sc)] (.agg [(.bool (decide (r1 < 0))), (N r1.natAbs), (.bool (decide (r2 < 0))), (N r2.natAbs)]) := by
 exact z6u hP hAmb Tryz.func232 (by kernel_rfl) (.loop ⟨[1, 2, 4, 5], 2, []⟩ ((fx_exp_0_mk x1 x2 sc hh 4)) (Int) (fx_exp_0_ex x1 x2 sc hh) (fx_exp_0_J x1 x2 sc hh) (fun y => .lit <| .yes <| .lit <| .yes <| .lits 2 <| .yes <| .lit <| .call (.agg [(.bool (decide (w1 < 0))), (N w1.natAbs), (.bool (decide (w2 < 0))), (N w2.natAbs)]) <| .lit <| .call (.agg [(.bool (decide (v1 < 0))), (N v1.natAbs), (.bool (decide (v2 < 0))), (N v2.natAbs)]) <| .lits 2 <| .call (.agg [(.bool (decide ((pp1 0) < 0))), (N ((pp1 0).natAbs)), (.bool (decide ((pp2 0) < 0))), (N ((pp2 0).natAbs))]) <| .lits 3 <| .loop ⟨[1, 2, 4, 5, 6, 7, 8, 9], 4, []⟩ ((fx_exp_1_mk sc y v1 v2 nn pp1 pp2 mm1 mm2 (0, 1))) (Nat) (fx_exp_1_ex sc y v1 v2 nn pp1 pp2 mm1 mm2) (fx_exp_1_J sc y v1 v2 nn pp1 pp2 mm1 mm2) (fun z => .loop ⟨[1, 4, 6, 8, 50, 51], 4, []⟩ ((fx_exp_2_mk sc y v1 v2 (pp1 z) (pp2 z) (saS pp1 z) ((saS pp2 z) + (pp2 z)) (0, 0))) (Nat) (fx_exp_2_ex sc y v1 v2 (pp1 z) (pp2 z) (saS pp1 z) ((saS pp2 z) + (pp2 z))) (fx_exp_2_J sc y v1 v2 (pp1 z) (pp2 z) (saS pp1 z) ((saS pp2 z) + (pp2 z))) (fun u => .lits 2 <| .yes <| .lit <| .call (.agg [(.bool (decide (r1 < 0))), (N r1.natAbs), (.bool (decide (r2 < 0))), (N r2.natAbs)]) <| .lits 2 <| .ret))))
  (z6t (aI True.intro (aI tT (aI (rfl : (fx_exp_0_mk x1 x2 sc hh 4) = (fx_exp_0_mk x1 x2 sc hh 4)) (aI (zr0 x1 x2 sc hh c0 c1 c2 c3 4 (show 4 ≤ 4 ∧ 4 ≤ hh from ⟨by omega, by omega⟩)) (fun y (hJ : fx_exp_0_J x1 x2 sc hh y) => have hJ : y = hh := hJ; have hY := hJ; aI (z89 oS : (fits .i64 (sc + y)) = true) (aI (z89 oS : (fits .i64 ((sc + y) + 24)) = true) (aI (z89 oS : (fits .i64 (((sc + y) + 24) - sc)) = true) (aI ((hY ▸ c4) ) (aI ((hY ▸ c5) ) (aI ((hY ▸ c6) ) (aI tT (aI (rfl : (fx_exp_1_mk sc y v1 v2 nn pp1 pp2 mm1 mm2 (0, 1)) = (fx_exp_1_mk sc y v1 v2 nn pp1 pp2 mm1 mm2 (0, 1))) (aI (zr1 sc y v1 v2 nn pp1 pp2 mm1 mm2 (hY ▸ c7) c8 c9 c10 c11 c12 (0, 1) (show 0 < nn ∧ 1 = (0 : Int) + 1 from ⟨by omega, by omega⟩)) (fun z (hJ : fx_exp_1_J sc y v1 v2 nn pp1 pp2 mm1 mm2 z) => have hJ : z = nn := hJ; have hZ := hJ; aI tT (aI (rfl : (fx_exp_2_mk sc y v1 v2 (pp1 z) (pp2 z) (saS pp1 z) ((saS pp2 z) + (pp2 z)) (0, 0)) = (fx_exp_2_mk sc y v1 v2 (pp1 z) (pp2 z) (saS pp1 z) ((saS pp2 z) + (pp2 z)) (0, 0))) (aI (zr2 sc y v1 v2 (pp1 z) (pp2 z) (saS pp1 z) ((saS pp2 z) + (pp2 z)) (hZ ▸ hY ▸ c13) (hY ▸ c1) (0, 0) (show 0 = (0 : Int) ∧ (0 : Int) ≤ y from ⟨by omega, by omega⟩)) (fun u (hJ : fx_exp_2_J sc y v1 v2 (pp1 z) (pp2 z) (saS pp1 z) ((saS pp2 z) + (pp2 z)) u) => have hJ : (u : Int) = y := hJ; have hV := hJ; aI (z89 oS : (fits .i64 (((sc + y) + 24) - sc)) = true) (aI ((hZ ▸ (show _ from (hY ▸ (c14 u oO)))) ) ((z6b (.agg [(.bool (decide (r1 < 0))), (N r1.natAbs), (.bool (decide (r2 < 0))), (N r2.natAbs)]))))))))))))))))))))) (by kernel_rfl))
end Go.Proofs.YtcbihoojfakhdaaGreatDoor

namespace Go.Proofs.YtcbihoojfakhdaaGreatDoor
open Go.RowKit
set_option maxRecDepth 100000
theorem zr4 {x : Int} (h : x < 0) (k : -4294967295 ≤ x) : IntKind.wrap .i64 (IntKind.wrap .u64 ((0 : Int) - (x.natAbs : Int))) = x := by
 rw [z8d]
 have e : ((0 : Int) - (x.natAbs : Int)) % 18446744073709551616 = 18446744073709551616 + x := by omega
 rw [e]
 simp [IntKind.wrap, IntKind.bits, IntKind.signed]
 omega
theorem zr5 (a : Nat) (c0 : a < 4294967296) : Impl Tryz.prog Amb 238 [(N a)] (.tup [(.int .u64 (a : Int)), (.bool true)]) := by
 have l1 := L_le (n := a) (k := 1) (by rw [Nat.pow_one]; exact c0)
 have e0 := z8x a
 have g0 := z8q (limbs a) 0
 have g1 := z8r (z7f a) 0
 exact z6u hP hAmb Tryz.func238 (by kernel_rfl) (.lit <| .call (.int .i64 (L a : Int)) <| .lit <| .both (.lit <| .ret) (.lit <| .both (.yes <| .yes <| .lit <| .yes <| .lit <| .ret) (.lit <| .both (.yes <| .yes <| .lit <| .yes <| .lit <| .yes <| .yes <| .yes <| .lit <| .yes <| .lits 2 <| .ret) (.lit <| .ret))))
  (z6t (aI True.intro (aI (zai a oO) (aI (fun (h1 : (iEq (L a : Int) 0) = true) => have _gh1 := z7s h1; (z6c (by rw [show a = 0 from Decidable.byContradiction fun h => by have := z90 h; omega]; rfl) : vsub (.tup [(.int .u64 0), (.bool true)]) (.tup [(.int .u64 (a : Int)), (.bool true)]))) (fun (h2 : (iEq (L a : Int) 0) = false) => have _gh2 := z7t h2; aI (fun (h3 : (iEq (L a : Int) 1) = true) => have _gh3 := z7s h3; aI (z85 oO : (inB (0 : Int) ((lim a).length)) = true) (aI (ld_L oO : (Nat.blt 0 (lim a).length && isIntK .u32 (nth (lim a) 0 .unk)) = true) (aI (z8a oO : (fits .u64 (gi (limbs a) 0)) = true) ((z6c (by rw [zmg (show L a = 1 by omega)]) : vsub (.tup [(.int .u64 (gi (limbs a) 0)), (.bool true)]) (.tup [(.int .u64 (a : Int)), (.bool true)])))))) (fun (h4 : (iEq (L a : Int) 1) = false) => have _gh4 := z7t h4; aI (fun (h5 : (iEq (L a : Int) 2) = true) => have _gh5 := z7s h5; aI (z85 oO : (inB (1 : Int) ((lim a).length)) = true) (aI (ld_L oO : (Nat.blt 1 (lim a).length && isIntK .u32 (nth (lim a) 1 .unk)) = true) (aI (z8a oO : (fits .u64 (gi (limbs a) 1)) = true) (aI (z8a oO : (fits .u64 ((gi (limbs a) 1) * 2 ^ 32)) = true) (aI (z85 oO : (inB (0 : Int) ((lim a).length)) = true) (aI (ld_L oO : (Nat.blt 0 (lim a).length && isIntK .u32 (nth (lim a) 0 .unk)) = true) (aI (z8a oO : (fits .u64 (gi (limbs a) 0)) = true) ((False.elim oO : vsub (.tup [(.int .u64 (wOr .u64 ((gi (limbs a) 1) * 2 ^ 32) (gi (limbs a) 0))), (.bool true)]) (.tup [(.int .u64 (a : Int)), (.bool true)])))))))))) (fun (h6 : (iEq (L a : Int) 2) = false) => have _gh6 := z7t h6; (False.elim oO : vsub (.tup [(.int .u64 0), (.bool false)]) (.tup [(.int .u64 (a : Int)), (.bool true)])))))))) (by kernel_rfl))
theorem zr6 (x : Int) (c0 : -4294967295 ≤ x ∧ x ≤ 4294967295) : Impl Tryz.prog Amb 211 [(zV x)] (.tup [(.int .i64 x), (.bool true)]) := by
 have wz := zr4 (x := x)
 exact z6u hP hAmb Tryz.func211 (by kernel_rfl) (.lits 2 <| .call (.tup [(.int .u64 (x.natAbs : Int)), (.bool true)]) <| .lits 4 <| .both (.lits 3 <| .yes <| .lit <| .yes <| .lit <| .ret) (.lits 4 <| .both (.lits 3 <| .yes <| .lit <| .no <| .lit <| .no <| .lit <| .ret) (.lits 4 <| .ret)))
  (z6t (aI True.intro (aI (zr5 x.natAbs oO) (aI (fun (h1 : (!(decide (x < 0))) = true) => have _gh1 := of_decide_eq_false (z86 h1); aI (z7w oO : (iLt (x.natAbs : Int) 9223372036854775808) = true) (aI (z89 oO : (fits .i64 (x.natAbs : Int)) = true) ((z6c (by rw [show (x.natAbs : Int) = x by omega]) : vsub (.tup [(.int .i64 (x.natAbs : Int)), (.bool true)]) (.tup [(.int .i64 x), (.bool true)]))))) (fun (h2 : (!(decide (x < 0))) = false) => have _gh2 := of_decide_eq_true (z87 h2); aI (fun (h3 : (decide (x < 0)) = true) => have _gh3 := of_decide_eq_true h3; aI (z7x oO : (iLe (x.natAbs : Int) 9223372036854775808) = true) ((z6c (by rw [wz oO oO]) : vsub (.tup [(.int .i64 (IntKind.wrap .i64 (IntKind.wrap .u64 ((0 : Int) - (x.natAbs : Int))))), (.bool true)]) (.tup [(.int .i64 x), (.bool true)])))) (fun (h4 : (decide (x < 0)) = false) => have _gh4 := of_decide_eq_false h4; (False.elim oO : vsub (.tup [(.int .i64 0), (.bool false)]) (.tup [(.int .i64 x), (.bool true)]))))))) (by kernel_rfl))
theorem zr7 (a : Int) (b : Int) (c : Int) (d : Int) (c0 : L (a).natAbs ≤ 3000) (c1 : L (b).natAbs ≤ 3000) (c2 : L (c).natAbs ≤ 3000) (c3 : L (d).natAbs ≤ 3000) (c4 : 0 < c + d) (c5 : -4294967295 ≤ (Int.fdiv (((a + b) * 2 ^ 1) + (c + d)) ((c + d) * 2 ^ 1)) ∧ (Int.fdiv (((a + b) * 2 ^ 1) + (c + d)) ((c + d) * 2 ^ 1)) ≤ 4294967295) : Impl Tryz.prog Amb 163 [(.agg [(.bool (decide (a < 0))), (N a.natAbs), (.bool (decide (b < 0))), (N b.natAbs)]), (.agg [(.bool (decide (c < 0))), (N c.natAbs), (.bool (decide (d < 0))), (N d.natAbs)])] (.int .i64 (Int.fdiv (((a + b) * 2 ^ 1) + (c + d)) ((c + d) * 2 ^ 1))) := by
 exact z6u hP hAmb Tryz.func163 (by kernel_rfl) (.lits 3 <| .call (zV (a + b)) <| .lits 3 <| .call (zV (c + d)) <| .lits 2 <| .call (zV ((a + b) * 2 ^ 1)) <| .lits 2 <| .call (zV (((a + b) * 2 ^ 1) + (c + d))) <| .lits 2 <| .call (zV ((c + d) * 2 ^ 1)) <| .lit <| .call (.tup [(zV (Int.fdiv (((a + b) * 2 ^ 1) + (c + d)) ((c + d) * 2 ^ 1))), (zV ((((a + b) * 2 ^ 1) + (c + d)) - (Int.fdiv (((a + b) * 2 ^ 1) + (c + d)) ((c + d) * 2 ^ 1)) * ((c + d) * 2 ^ 1))), (.bool true)]) <| .lits 2 <| .call (.tup [(.int .i64 (Int.fdiv (((a + b) * 2 ^ 1) + (c + d)) ((c + d) * 2 ^ 1))), (.bool true)]) <| .lit <| .ret)
  (z6t (aI True.intro (aI (ze1 a b oO oO) (have f7 := zdf a b; aI (ze1 c d oO oO) (have f6 := zdf c d; aI (ze4 (a + b) 1 oO oO) (have f5 := zhe (a + b) 1; aI (ze1 ((a + b) * 2 ^ 1) (c + d) oO oO) (have f4 := zdf ((a + b) * 2 ^ 1) (c + d); aI (ze4 (c + d) 1 oO oO) (have f3 := zhe (c + d) 1; aI (zmu (((a + b) * 2 ^ 1) + (c + d)) ((c + d) * 2 ^ 1) oO oO oO) (have f2 := L_rm (((a + b) * 2 ^ 1) + (c + d)) ((c + d) * 2 ^ 1); have f1 := zho (((a + b) * 2 ^ 1) + (c + d)) ((c + d) * 2 ^ 1); aI (zr6 (Int.fdiv (((a + b) * 2 ^ 1) + (c + d)) ((c + d) * 2 ^ 1)) oO) ((z6b (.int .i64 (Int.fdiv (((a + b) * 2 ^ 1) + (c + d)) ((c + d) * 2 ^ 1))))))))))))) (by kernel_rfl))
end Go.Proofs.YtcbihoojfakhdaaGreatDoor

namespace Go.Proofs.YtcbihoojfakhdaaGreatDoor
open Go.RowKit
set_option maxRecDepth 100000
theorem zr8 (x : Int) : iGt x 0 = decide (0 < x) := rfl
theorem zr9 (q1 : Int) (q2 : Int) (u1 : Int) (u2 : Int) (t1 : Int) (t2 : Int) (s1 : Int) (s2 : Int) (x1 : Int) (x2 : Int) (y1 : Int) (y2 : Int) (r1 : Int) (r2 : Int) (c0 : Impl Tryz.prog Amb 161 [(yV (0 : Int) 0), (.int .i64 32)] (.agg [(.bool (decide ((0 : Int) < 0))), (N ((0 : Int).natAbs)), (.bool (decide ((0 : Int) < 0))), (N ((0 : Int).natAbs))])) (c1 : Impl Tryz.prog Amb 112 [(.int .i64 32)] (.agg [(.bool (decide (q1 < 0))), (N q1.natAbs), (.bool (decide (q2 < 0))), (N q2.natAbs)])) (c2 : Impl Tryz.prog Amb 163 [(.agg [(.bool (decide ((0 : Int) < 0))), (N ((0 : Int).natAbs)), (.bool (decide ((0 : Int) < 0))), (N ((0 : Int).natAbs))]), (.agg [(.bool (decide (q1 < 0))), (N q1.natAbs), (.bool (decide (q2 < 0))), (N q2.natAbs)])] (.int .i64 0)) (c3 : Impl Tryz.prog Amb 161 [(yV (0 : Int) 0), (.int .i64 67)] (.agg [(.bool (decide ((0 : Int) < 0))), (N ((0 : Int).natAbs)), (.bool (decide ((0 : Int) < 0))), (N ((0 : Int).natAbs))])) (c4 : Impl Tryz.prog Amb 112 [(.int .i64 67)] (.agg [(.bool (decide (u1 < 0))), (N u1.natAbs), (.bool (decide (u2 < 0))), (N u2.natAbs)])) (c5 : Impl Tryz.prog Amb 165 [(.agg [(.bool (decide (u1 < 0))), (N u1.natAbs), (.bool (decide (u2 < 0))), (N u2.natAbs)]), (.int .i64 (-1))] (.agg [(.bool (decide (t1 < 0))), (N t1.natAbs), (.bool (decide (t2 < 0))), (N t2.natAbs)])) (c6 : Impl Tryz.prog Amb 164 [(.agg [(.bool (decide ((0 : Int) < 0))), (N ((0 : Int).natAbs)), (.bool (decide ((0 : Int) < 0))), (N ((0 : Int).natAbs))]), (.agg [(.bool (decide (t1 < 0))), (N t1.natAbs), (.bool (decide (t2 < 0))), (N t2.natAbs)])] (.agg [(.bool (decide (s1 < 0))), (N s1.natAbs), (.bool (decide (s2 < 0))), (N s2.natAbs)])) (c7 : Impl Tryz.prog Amb 162 [(.agg [(.bool (decide (s1 < 0))), (N s1.natAbs), (.bool (decide (s2 < 0))), (N s2.natAbs)]), (.int .i64 16)] (.agg [(.bool (decide (x1 < 0))), (N x1.natAbs), (.bool (decide (x2 < 0))), (N x2.natAbs)])) (c8 : Impl Tryz.prog Amb 232 [(.agg [(.bool (decide (x1 < 0))), (N x1.natAbs), (.bool (decide (x2 < 0))), (N x2.natAbs)]), (.int .i64 51)] (.agg [(.bool (decide (y1 < 0))), (N y1.natAbs), (.bool (decide (y2 < 0))), (N y2.natAbs)])) (c9 : Impl Tryz.prog Amb 162 [(.agg [(.bool (decide (y1 < 0))), (N y1.natAbs), (.bool (decide (y2 < 0))), (N y2.natAbs)]), (.int .i64 25)] (.agg [(.bool (decide (r1 < 0))), (N r1.natAbs), (.bool (decide (r2 < 0))), (N r2.natAbs)])) : Impl Tryz.prog Amb 194 [(yV (0 : Int) 0), (.int .i64 27)] (.agg [(.bool (decide (r1 < 0))), (N r1.natAbs), (.bool (decide (r2 < 0))), (N r2.natAbs)]) := by
 exact z6u hP hAmb Tryz.func194 (by kernel_rfl) (.lits 2 <| .call (.agg [(.bool (decide ((0 : Int) < 0))), (N ((0 : Int).natAbs)), (.bool (decide ((0 : Int) < 0))), (N ((0 : Int).natAbs))]) <| .lit <| .call (.agg [(.bool (decide (q1 < 0))), (N q1.natAbs), (.bool (decide (q2 < 0))), (N q2.natAbs)]) <| .lit <| .call (.int .i64 0) <| .lit <| .yes <| .lits 2 <| .yes <| .lit <| .yes <| .lits 2 <| .yes <| .lit <| .call (.agg [(.bool (decide ((0 : Int) < 0))), (N ((0 : Int).natAbs)), (.bool (decide ((0 : Int) < 0))), (N ((0 : Int).natAbs))]) <| .lit <| .yes <| .lit <| .call (.agg [(.bool (decide (u1 < 0))), (N u1.natAbs), (.bool (decide (u2 < 0))), (N u2.natAbs)]) <| .lit <| .call (.agg [(.bool (decide (t1 < 0))), (N t1.natAbs), (.bool (decide (t2 < 0))), (N t2.natAbs)]) <| .lit <| .call (.agg [(.bool (decide (s1 < 0))), (N s1.natAbs), (.bool (decide (s2 < 0))), (N s2.natAbs)]) <| .lit <| .call (.agg [(.bool (decide (x1 < 0))), (N x1.natAbs), (.bool (decide (x2 < 0))), (N x2.natAbs)]) <| .lits 3 <| .call (.agg [(.bool (decide (y1 < 0))), (N y1.natAbs), (.bool (decide (y2 < 0))), (N y2.natAbs)]) <| .lits 3 <| .yes <| .lit <| .yes <| .lit <| .call (.agg [(.bool (decide (r1 < 0))), (N r1.natAbs), (.bool (decide (r2 < 0))), (N r2.natAbs)]) <| .lits 2 <| .ret)
  (z6t (aI True.intro (aI (c0 ) (aI (c1 ) (aI (c2 ) (aI tT (aI tT (aI tT (aI tT (aI (c3 ) (aI tT (aI (c4 ) (aI (c5 ) (aI (c6 ) (aI (c7 ) (aI (c8 ) (aI tT (aI tT (aI (c9 ) ((z6b (.agg [(.bool (decide (r1 < 0))), (N r1.natAbs), (.bool (decide (r2 < 0))), (N r2.natAbs)]))))))))))))))))))))) (by kernel_rfl))
theorem zra (m : Int) (ee : Int) (ss : Int) (lo : Int) (hi : Int) (c0 : Impl Tryz.prog Amb 194 [(yV m ee), (.int .i64 ss)] (.agg [(.bool (decide (lo < 0))), (N lo.natAbs), (.bool (decide (hi < 0))), (N hi.natAbs)])) : Impl Tryz.prog Amb 134 [(yV m ee), (.int .i64 ss)] (.agg [(.bool (decide (lo < 0))), (N lo.natAbs), (.bool (decide (hi < 0))), (N hi.natAbs)]) := by
 exact z6u hP hAmb Tryz.func134 (by kernel_rfl) (.lits 2 <| .call (.agg [(.bool (decide (lo < 0))), (N lo.natAbs), (.bool (decide (hi < 0))), (N hi.natAbs)]) <| .lits 2 <| .ret)
  (z6t (aI True.intro (aI (c0 ) ((z6b (.agg [(.bool (decide (lo < 0))), (N lo.natAbs), (.bool (decide (hi < 0))), (N hi.natAbs)]))))) (by kernel_rfl))
theorem zrb (m : Int) (ee : Int) (n : Int) (c0 : L (m).natAbs ≤ 8000) (c1 : -65536 ≤ ee ∧ ee ≤ 65536) (c2 : -9223372036854775808 ≤ n ∧ n ≤ 9223372036854775807) : Impl Tryz.prog Amb 69 [(yV m ee), (.int .i64 n)] (.bool (decide (0 < (cmpD m ee (mkM n 0) (mkX n 0))))) := by
 have of1 := zpk (n := n) oO
 exact z6u hP hAmb Tryz.func69 (by kernel_rfl) (.lits 2 <| .call (yV (mkM n 0) (mkX n 0)) <| .lit <| .call (.int .i64 (cmpD m ee (mkM n 0) (mkX n 0))) <| .lits 2 <| .ret)
  (z6t (aI True.intro (aI (zjo n oO) (have f3 := (zh8 oO : L (n : Int).natAbs ≤ 2); have f2 := zih n 0; aI (zjk m ee (mkM n 0) (mkX n 0) oO oO oO oO) (have f1 := zit m ee (mkM n 0) (mkX n 0); (z6c (congrArg V.bool (zr8 _)) : vsub (.bool (iGt (cmpD m ee (mkM n 0) (mkX n 0)) 0)) (.bool (decide (0 < (cmpD m ee (mkM n 0) (mkX n 0)))))))))) (by kernel_rfl))
def exM (o v1 v2 T : Int) : Nat → Int × Int
 | 0 => (o, o)
 | j + 1 => (ptLo ((exM o v1 v2 T j).1 * v1 / T) ((j : Int) + 1), ptHi (-(-((exM o v1 v2 T j).2 * v2) / T)) ((j : Int) + 1))
def exOk (o v1 v2 T : Int) (nn : Nat) : Bool := (List.range (nn + 1)).all fun j =>
 decide ((exM o v1 v2 T j).1.natAbs < 2 ^ 500) && decide ((exM o v1 v2 T j).2.natAbs < 2 ^ 500) && decide ((saS (fun i => (exM o v1 v2 T i).1) j).natAbs < 2 ^ 500) && decide ((saS (fun i => (exM o v1 v2 T i).2) j).natAbs < 2 ^ 500) &&
 decide (((exM o v1 v2 T j).1 * v1 / T).natAbs < 2 ^ 500) && decide ((-(-((exM o v1 v2 T j).2 * v2) / T)).natAbs < 2 ^ 500) && (decide (j = 0) || (decide ((exM o v1 v2 T j).2.natAbs < 8) == decide (nn ≤ j)))
def sqOk (a b T : Int) (h : Nat) : Bool := (List.range (h + 1)).all fun i => decide ((sqS a b T i).1.natAbs < 2 ^ 500) && decide ((sqS a b T i).2.natAbs < 2 ^ 500)
theorem L500 {x : Int} (h : x.natAbs < 2 ^ 500) : L x.natAbs ≤ 16 := zju h oO
theorem zrc (x1 x2 sc hh w1 w2 v1 v2 fa fb : Int) (nn : Nat) (h0 : 0 ≤ sc ∧ sc ≤ 10000) (h1 : 4 ≤ hh ∧ hh ≤ 200) (h2 : ∀ i : Int, 4 ≤ i → i < hh → i * i < sc) (h3 : sc ≤ hh * hh) (hn : 1 ≤ nn ∧ nn ≤ 10000)
  (lx1 : L x1.natAbs ≤ 2000) (lx2 : L x2.natAbs ≤ 2000) (ew1 : w1 = x1 * 2 ^ (((sc + hh) + 24) - sc).toNat) (ew2 : w2 = x2 * 2 ^ (((sc + hh) + 24) - sc).toNat) (ev1 : v1 = w1 / 2 ^ hh.toNat) (ev2 : v2 = -(-w2 / 2 ^ hh.toNat)) (lv1 : L v1.natAbs ≤ 2000) (lv2 : L v2.natAbs ≤ 2000)
  (ok : exOk ((1 : Int) * 2 ^ ((sc + hh) + 24).toNat) v1 v2 (2 ^ ((sc + hh) + 24).toNat) nn = true) (efa : fa = saS (fun i => (exM ((1 : Int) * 2 ^ ((sc + hh) + 24).toNat) v1 v2 (2 ^ ((sc + hh) + 24).toNat) i).1) nn) (efb : fb = saS (fun i => (exM ((1 : Int) * 2 ^ ((sc + hh) + 24).toNat) v1 v2 (2 ^ ((sc + hh) + 24).toNat) i).2) nn + (exM ((1 : Int) * 2 ^ ((sc + hh) + 24).toNat) v1 v2 (2 ^ ((sc + hh) + 24).toNat) nn).2)
  (sq : sqOk fa fb (2 ^ ((sc + hh) + 24).toNat) hh.toNat = true) :
  Impl Tryz.prog Amb 232 [(.agg [(.bool (decide (x1 < 0))), (N x1.natAbs), (.bool (decide (x2 < 0))), (N x2.natAbs)]), (.int .i64 sc)] (.agg [(.bool (decide (((sqS fa fb (2 ^ ((sc + hh) + 24).toNat) hh.toNat).1 / 2 ^ (((sc + hh) + 24) - sc).toNat) < 0))), (N (((sqS fa fb (2 ^ ((sc + hh) + 24).toNat) hh.toNat).1 / 2 ^ (((sc + hh) + 24) - sc).toNat).natAbs)), (.bool (decide ((-(-(sqS fa fb (2 ^ ((sc + hh) + 24).toNat) hh.toNat).2 / 2 ^ (((sc + hh) + 24) - sc).toNat)) < 0))), (N ((-(-(sqS fa fb (2 ^ ((sc + hh) + 24).toNat) hh.toNat).2 / 2 ^ (((sc + hh) + 24) - sc).toNat)).natAbs))]) := by
 have ok := List.all_eq_true.1 ok
 have sq := List.all_eq_true.1 sq
 have ok : ∀ j, j ≤ nn → _ := fun j hj => ok j (List.mem_range.2 oO)
 have sq : ∀ j, j ≤ hh.toNat → _ := fun j hj => sq j (List.mem_range.2 oO)
 simp only [Bool.and_eq_true, Bool.or_eq_true, decide_eq_true_eq, beq_iff_eq] at ok sq
 have lw1 := zhe x1 (((sc + hh) + 24) - sc).toNat
 have lw2 := zhe x2 (((sc + hh) + 24) - sc).toNat
 have hT := zqi x1 x2 (((sc + hh) + 24) - sc) oO oO oO
 rw [← ew1] at hT lw1
 rw [← ew2] at hT lw2
 have hH := zky w1 w2 hh oO oO oO
 rw [← ev1, ← ev2] at hH
 have hO := zqg ((sc + hh) + 24) oO
 have pN := (ok nn (Nat.le_refl _))
 have l2 := L500 pN.1.1.1.2
 have l3 := L500 pN.1.1.1.1.1.2
 subst efa; subst efb
 refine zr3 x1 x2 sc hh w1 w2 v1 v2 _ _ nn (fun i => (exM ((1 : Int) * 2 ^ ((sc + hh) + 24).toNat) v1 v2 (2 ^ ((sc + hh) + 24).toNat) i).1) (fun i => (exM ((1 : Int) * 2 ^ ((sc + hh) + 24).toNat) v1 v2 (2 ^ ((sc + hh) + 24).toNat) i).2) (fun i => (exM ((1 : Int) * 2 ^ ((sc + hh) + 24).toNat) v1 v2 (2 ^ ((sc + hh) + 24).toNat) i).1 * v1 / (2 ^ ((sc + hh) + 24).toNat)) (fun i => -(-((exM ((1 : Int) * 2 ^ ((sc + hh) + 24).toNat) v1 v2 (2 ^ ((sc + hh) + 24).toNat) i).2 * v2) / (2 ^ ((sc + hh) + 24).toNat))) oO h1 h2 h3 hT hH hO ?_ ?_ ?_ ?_ ⟨by omega, by omega⟩ hn ?_ ?_
 ·intro j hj
  have a := ok j oO
  exact zqj _ _ v1 v2 ((sc + hh) + 24) (Nat.le_trans (L500 a.1.1.1.1.1.1) oO) (Nat.le_trans (L500 a.1.1.1.1.1.2) oO) oO oO oO
 ·intro j kk hj hk
  subst hk
  have a := ok j oO
  exact zqm _ _ ((j : Int) + 1) (Nat.le_trans (L500 a.1.1.2) oO) (Nat.le_trans (L500 a.1.2) oO) oO
 ·intro j hj
  have a := ok j oO
  have b := ok (j + 1) oO
  exact zl0 _ _ _ _ (Nat.le_trans (L500 a.1.1.1.1.2) oO) (Nat.le_trans (L500 a.1.1.1.2) oO) (Nat.le_trans (L500 b.1.1.1.1.1.1) oO) (Nat.le_trans (L500 b.1.1.1.1.1.2) oO)
 ·intro j hj
  have b := ok (j + 1) oO
  have c := b.2.resolve_left oO
  exact zpe (congrArg V.bool c) (zqo _ _ (Nat.le_trans (L500 b.1.1.1.1.1.2) oO))
 ·intro i hi
  have a := sq i oO
  exact zqj _ _ _ _ ((sc + hh) + 24) (Nat.le_trans (L500 a.1) oO) (Nat.le_trans (L500 a.2) oO) (Nat.le_trans (L500 a.1) oO) (Nat.le_trans (L500 a.2) oO) oO
 ·intro i hi
  have e : i = hh.toNat := by omega
  subst e
  have a := sq hh.toNat (Nat.le_refl _)
  exact zky _ _ (((sc + hh) + 24) - sc) (Nat.le_trans (L500 a.1) oO) (Nat.le_trans (L500 a.2) oO) oO
end Go.Proofs.YtcbihoojfakhdaaGreatDoor

namespace Go.Proofs.YtcbihoojfakhdaaGreatDoor
def Sm (f : Nat → Rat) : Nat → Rat
 | 0 => 0
 | n + 1 => Sm f n + f n
theorem zrd {f g : Nat → Rat} : ∀ {n : Nat}, (∀ i, i < n → f i = g i) → Sm f n = Sm g n
 | 0, _ => rfl
 | n + 1, h => by
  show Sm f n + f n = Sm g n + g n
  rw [zrd (n := n) (fun i hi => h i (by omega)), h n (by omega)]
theorem zre (f g : Nat → Rat) : ∀ n, Sm (fun i => f i + g i) n = Sm f n + Sm g n
 | 0 => by show (0 : Rat) = 0 + 0; grind
 | n + 1 => by
  show Sm (fun i => f i + g i) n + (f n + g n) = Sm f n + f n + (Sm g n + g n)
  rw [zre f g n]; grind
theorem zrf (f : Nat → Rat) (c : Rat) : ∀ n, Sm f n * c = Sm (fun i => f i * c) n
 | 0 => by show (0 : Rat) * c = 0; grind
 | n + 1 => by
  show (Sm f n + f n) * c = Sm (fun i => f i * c) n + f n * c
  rw [← zrf f c n]; grind
theorem zrg (f : Nat → Rat) : ∀ n, Sm f (n + 1) = f 0 + Sm (fun i => f (i + 1)) n
 | 0 => by show (0 : Rat) + f 0 = f 0 + 0; grind
 | n + 1 => by
  show Sm f (n + 1) + f (n + 1) = f 0 + (Sm (fun i => f (i + 1)) n + f (n + 1))
  rw [zrg f n]; grind
theorem zrh {f g : Nat → Rat} : ∀ {n : Nat}, (∀ i, i < n → f i ≤ g i) → Sm f n ≤ Sm g n
 | 0, _ => Rat.le_refl
 | n + 1, h => by
  have a := zrh (n := n) (fun i hi => h i (by omega))
  have b := h n (by omega)
  show Sm f n + f n ≤ Sm g n + g n
  grind
theorem zri {f : Nat → Rat} (h : ∀ i, 0 ≤ f i) : ∀ n, 0 ≤ Sm f n
 | 0 => Rat.le_refl
 | n + 1 => Rat.add_nonneg (zri h n) (h n)
theorem zrj {f : Nat → Rat} (h : ∀ i, 0 ≤ f i) {n m : Nat} (hn : n ≤ m) : Sm f n ≤ Sm f m := by
 obtain ⟨k, rfl⟩ : ∃ k, m = n + k := ⟨m - n, by omega⟩
 induction k with
 | zero => exact Rat.le_refl
 | succ k ih =>
  have a := ih (by omega)
  have b := h (n + k)
  show Sm f n ≤ Sm f (n + k) + f (n + k)
  grind
theorem zrk (f : Nat → Nat → Rat) : ∀ K, Sm (fun n => Sm (fun i => f i (n - i)) (n + 1)) K = Sm (fun i => Sm (f i) (K - i)) K
 | 0 => rfl
 | K + 1 => by
  have h := zrk f K
  have e : Sm (fun i => Sm (f i) (K + 1 - i)) (K + 1) = Sm (fun i => Sm (f i) (K - i) + f i (K - i)) (K + 1) := zrd fun i hi => by
   rw [show K + 1 - i = (K - i) + 1 by omega]; rfl
  rw [e, zre]
  show Sm (fun n => Sm (fun i => f i (n - i)) (n + 1)) K + Sm (fun i => f i (K - i)) (K + 1) = Sm (fun i => Sm (f i) (K - i)) K + Sm (f K) (K - K) + Sm (fun i => f i (K - i)) (K + 1)
  rw [h, Nat.sub_self]
  show _ = _ + 0 + _
  grind
theorem zrl (f g : Nat → Rat) (K : Nat) : ∀ n, Sm f n * Sm g K = Sm (fun i => Sm (fun j => f i * g j) K) n
 | 0 => by show (0 : Rat) * _ = 0; grind
 | n + 1 => by
  have h := zrl f g K n
  have e : f n * Sm g K = Sm (fun j => f n * g j) K := by
   rw [Rat.mul_comm, zrf]
   exact zrd fun i _ => Rat.mul_comm _ _
  show (Sm f n + f n) * Sm g K = Sm (fun i => Sm (fun j => f i * g j) K) n + Sm (fun j => f n * g j) K
  rw [← h, ← e]; grind
def nx (n : Nat) : Int := (n : Int) + 1
theorem zrm (n : Nat) : (0 : Rat) < (nx n : Rat) := Rat.intCast_pos.2 (by unfold nx; omega)
def tE (x : Rat) : Nat → Rat
 | 0 => 1
 | n + 1 => tE x n * x / (nx n : Rat)
theorem zrn (x : Rat) (n : Nat) : tE x n * x = (nx n : Rat) * tE x (n + 1) := by
 show tE x n * x = (nx n : Rat) * (tE x n * x / (nx n : Rat))
 have := zrm n
 rw [Rat.mul_comm (nx n : Rat), Rat.div_mul_cancel (by grind)]
theorem zro {x : Rat} (h : 0 ≤ x) : ∀ n, 0 ≤ tE x n
 | 0 => by show (0 : Rat) ≤ 1; decide
 | n + 1 => by
  show 0 ≤ tE x n * x / (nx n : Rat)
  rw [Rat.div_def]
  exact Rat.mul_nonneg (Rat.mul_nonneg (zro h n) h) (Rat.le_of_lt (Rat.inv_pos.2 (zrm n)))
def EP (x : Rat) (K : Nat) : Rat := Sm (tE x) K
theorem zrp (x y : Rat) : ∀ n, tE (x + y) n = Sm (fun i => tE x i * tE y (n - i)) (n + 1)
 | 0 => by show (1 : Rat) = 0 + 1 * 1; grind
 | n + 1 => by
  have h := zrp x y n
  have np := zrm n
  have key : Sm (fun i => tE x i * tE y (n - i)) (n + 1) * (x + y) = (nx n : Rat) * Sm (fun i => tE x i * tE y (n + 1 - i)) (n + 2) := by
   have ex : Sm (fun i => tE x i * tE y (n - i)) (n + 1) * x = Sm (fun i => (i : Rat) * (tE x i * tE y (n + 1 - i))) (n + 2) := by
    rw [zrf, zrg (fun i => (i : Rat) * (tE x i * tE y (n + 1 - i))) (n + 1)]
    have z : (((0 : Nat) : Nat) : Rat) * (tE x 0 * tE y (n + 1 - 0)) = 0 := by
     rw [show ((0 : Nat) : Rat) = 0 from rfl]; grind
    rw [z, Rat.zero_add]
    refine zrd fun i hi => ?_
    rw [show n + 1 - (i + 1) = n - i by omega]
    have t := zrn x i
    have c : ((i + 1 : Nat) : Rat) = (nx i : Rat) := rfl
    show tE x i * tE y (n - i) * x = ((i + 1 : Nat) : Rat) * (tE x (i + 1) * tE y (n - i))
    rw [c]
    grind
   have ey : Sm (fun i => tE x i * tE y (n - i)) (n + 1) * y = Sm (fun i => ((nx n : Rat) - (i : Rat)) * (tE x i * tE y (n + 1 - i))) (n + 2) := by
    rw [zrf]
    show _ = Sm (fun i => ((nx n : Rat) - (i : Rat)) * (tE x i * tE y (n + 1 - i))) (n + 1) + ((nx n : Rat) - ((n + 1 : Nat) : Rat)) * (tE x (n + 1) * tE y (n + 1 - (n + 1)))
    have c : ((n + 1 : Nat) : Rat) = (nx n : Rat) := rfl
    rw [c]
    have z : ((nx n : Rat) - (nx n : Rat)) * (tE x (n + 1) * tE y (n + 1 - (n + 1))) = 0 := by grind
    rw [z, Rat.add_zero]
    refine zrd fun i hi => ?_
    have t := zrn y (n - i)
    rw [show n + 1 - i = (n - i) + 1 by omega]
    have d : (nx (n - i) : Rat) = (nx n : Rat) - (i : Rat) := by
     have e : nx (n - i) = nx n - (i : Int) := by unfold nx; omega
     rw [e, Rat.intCast_sub]; rfl
    rw [← d]
    grind
   rw [show Sm (fun i => tE x i * tE y (n - i)) (n + 1) * (x + y) = Sm (fun i => tE x i * tE y (n - i)) (n + 1) * x + Sm (fun i => tE x i * tE y (n - i)) (n + 1) * y by grind, ex, ey, ← zre, Rat.mul_comm (nx n : Rat), zrf]
   exact zrd fun i _ => by grind
  show tE (x + y) n * (x + y) / (nx n : Rat) = _
  rw [h, key, Rat.mul_comm, Rat.mul_div_cancel (by grind)]
theorem zrq (x y : Rat) (K : Nat) : EP (x + y) K = Sm (fun i => Sm (fun j => tE x i * tE y j) (K - i)) K := by
 unfold EP
 rw [← zrk (fun i j => tE x i * tE y j) K]
 exact zrd fun n _ => zrp x y n
theorem zrr {x y : Rat} (hx : 0 ≤ x) (hy : 0 ≤ y) (K : Nat) : EP (x + y) K ≤ EP x K * EP y K ∧ EP x K * EP y K ≤ EP (x + y) (2 * K) := by
 have nn : ∀ i j, 0 ≤ tE x i * tE y j := fun i j => Rat.mul_nonneg (zro hx i) (zro hy j)
 have p : EP x K * EP y K = Sm (fun i => Sm (fun j => tE x i * tE y j) K) K := zrl _ _ K K
 rw [p, zrq, zrq]
 constructor
 ·exact zrh fun i _ => zrj (nn i) (by omega)
 ·refine Rat.le_trans (zrh (g := fun i => Sm (fun j => tE x i * tE y j) (2 * K - i)) fun i hi => zrj (nn i) (by omega)) (zrj (fun i => zri (nn i) _) (by omega))
theorem zrs {x : Rat} (h : 0 ≤ x) (K : Nat) : 0 ≤ EP x K := zri (zro h) K
theorem zrt {x : Rat} (h : 0 ≤ x) {n m : Nat} (hn : n ≤ m) : EP x n ≤ EP x m := zrj (zro h) hn
end Go.Proofs.YtcbihoojfakhdaaGreatDoor

namespace Go.Proofs.YtcbihoojfakhdaaGreatDoor
theorem zru {x : Rat} (h0 : 0 ≤ x) {m : Nat} (h : 2 * x ≤ (nx m : Rat)) : 2 * tE x (m + 1) ≤ tE x m := by
 have np := zrm m
 have t := zrn x m
 have p := zro h0 m
 refine Rat.le_of_mul_le_mul_right (c := (nx m : Rat)) ?_ np
 have e : 2 * tE x (m + 1) * (nx m : Rat) = tE x m * (2 * x) := by grind
 rw [e]
 exact Rat.mul_le_mul_of_nonneg_left h p
theorem zrv {a b : Nat} (h : a ≤ b) : (nx a : Rat) ≤ (nx b : Rat) := Rat.intCast_le_intCast.2 (by unfold nx; omega)
theorem zrw {x : Rat} (h0 : 0 ≤ x) {n : Nat} (h : 2 * x ≤ (nx n : Rat)) (K : Nat) : EP x K ≤ EP x (n + 1) + tE x n := by
 have key : ∀ k, EP x (n + 1 + k) + tE x (n + k) ≤ EP x (n + 1) + tE x n := by
  intro k
  induction k with
  | zero => exact Rat.le_refl
  | succ k ih =>
   have a := zru h0 (m := n + k) (Rat.le_trans h (zrv (by omega)))
   have e : EP x (n + 1 + (k + 1)) = EP x (n + 1 + k) + tE x (n + k + 1) := by
    show Sm (tE x) (n + 1 + k) + tE x (n + 1 + k) = _
    rw [show n + 1 + k = n + k + 1 by omega]; rfl
   rw [e]
   show EP x (n + 1 + k) + tE x (n + k + 1) + tE x (n + k + 1) ≤ _
   grind
 have a := key K
 have b := zrt h0 (show K ≤ n + 1 + K by omega)
 have c := zro h0 (n + K)
 grind
theorem zrx {x : Rat} (h0 : 0 ≤ x) (h1 : 10 * x ≤ 11) (K : Nat) : EP x K ≤ 4 := by
 have t := zrw h0 (n := 2) (by show 2 * x ≤ (3 : Rat); grind) K
 have e : EP x 3 + tE x 2 = 1 + x + x * x := by
  have a := zrn x 0
  have b := zrn x 1
  have a' : tE x 0 * x = 1 * tE x 1 := a
  have b' : tE x 1 * x = 2 * tE x 2 := b
  have z : tE x 0 = 1 := rfl
  show 0 + tE x 0 + tE x 1 + tE x 2 + tE x 2 = _
  rw [z] at a' ⊢
  have c : tE x 1 = x := by grind
  rw [c] at b' ⊢
  grind
 have m := Rat.mul_le_mul_of_nonneg_left (c := x) (show x ≤ 11 / 10 by grind) h0
 grind
theorem lowT {p : Nat → Int} {T v1 v : Rat} {n : Nat} (hT : 0 < T) (h0 : (p 0 : Rat) ≤ T) (hv : 0 ≤ v1) (h1 : v1 ≤ v * T) (hp : 0 ≤ v) (hs : ∀ j, j < n → (p (j + 1) : Rat) * (T * (nx j : Rat)) ≤ (p j : Rat) * v1) : ∀ j, j ≤ n → (p j : Rat) ≤ tE v j * T := by
 intro j
 induction j with
 | zero => intro _; show (p 0 : Rat) ≤ 1 * T; grind
 | succ j ih =>
  intro hj
  have a := ih (by omega)
  have b := hs j (by omega)
  have t := zrn v j
  have m1 := Rat.mul_le_mul_of_nonneg_right a hv
  have m2 := Rat.mul_le_mul_of_nonneg_left h1 (Rat.mul_nonneg (zro hp j) (Rat.le_of_lt hT))
  refine Rat.le_of_mul_le_mul_right (c := T * (nx j : Rat)) ?_ (Rat.mul_pos hT (zrm j))
  have e : tE v (j + 1) * T * (T * (nx j : Rat)) = tE v j * T * (v * T) := by grind
  rw [e]
  exact Rat.le_trans b (Rat.le_trans m1 m2)
theorem zry {p : Nat → Int} {T v2 v : Rat} {n : Nat} (hT : 0 < T) (h0 : T ≤ (p 0 : Rat)) (h1 : v * T ≤ v2) (hp : 0 ≤ v) (hs : ∀ j, j < n → (p j : Rat) * v2 ≤ (p (j + 1) : Rat) * (T * (nx j : Rat))) : ∀ j, j ≤ n → tE v j * T ≤ (p j : Rat) := by
 intro j
 induction j with
 | zero => intro _; show 1 * T ≤ (p 0 : Rat); grind
 | succ j ih =>
  intro hj
  have a := ih (by omega)
  have b := hs j (by omega)
  have t := zrn v j
  have tn := Rat.mul_nonneg (zro hp j) (Rat.le_of_lt hT)
  have m1 := Rat.mul_le_mul_of_nonneg_right a (Rat.mul_nonneg hp (Rat.le_of_lt hT))
  have m2 := Rat.mul_le_mul_of_nonneg_left h1 (Rat.le_trans tn a)
  refine Rat.le_of_mul_le_mul_right (c := T * (nx j : Rat)) ?_ (Rat.mul_pos hT (zrm j))
  have e : tE v (j + 1) * T * (T * (nx j : Rat)) = tE v j * T * (v * T) := by grind
  rw [e]
  exact Rat.le_trans m1 (Rat.le_trans m2 b)
theorem zrz {p s : Nat → Int} {T v : Rat} {n : Nat} (hs0 : s 0 = p 0) (hs : ∀ j, j < n → s (j + 1) = s j + p (j + 1)) (h : ∀ j, j ≤ n → (p j : Rat) ≤ tE v j * T) : ∀ j, j ≤ n → (s j : Rat) ≤ EP v (j + 1) * T := by
 intro j
 induction j with
 | zero =>
  intro _
  have a := h 0 (by omega)
  rw [hs0]
  show _ ≤ (0 + tE v 0) * T
  grind
 | succ j ih =>
  intro hj
  have a := ih (by omega)
  have b := h (j + 1) hj
  rw [hs j (by omega), Rat.intCast_add]
  show _ ≤ (EP v (j + 1) + tE v (j + 1)) * T
  grind
theorem zs0 {p s : Nat → Int} {T v : Rat} {n : Nat} (hs0 : s 0 = p 0) (hs : ∀ j, j < n → s (j + 1) = s j + p (j + 1)) (h : ∀ j, j ≤ n → tE v j * T ≤ (p j : Rat)) : ∀ j, j ≤ n → EP v (j + 1) * T ≤ (s j : Rat) := by
 intro j
 induction j with
 | zero =>
  intro _
  have a := h 0 (by omega)
  rw [hs0]
  show (0 + tE v 0) * T ≤ _
  grind
 | succ j ih =>
  intro hj
  have a := ih (by omega)
  have b := h (j + 1) hj
  rw [hs j (by omega), Rat.intCast_add]
  show (EP v (j + 1) + tE v (j + 1)) * T ≤ _
  grind
def dbl (v : Rat) : Nat → Rat
 | 0 => v
 | i + 1 => dbl v i + dbl v i
theorem zs1 {v : Rat} (h : 0 ≤ v) : ∀ i, 0 ≤ dbl v i
 | 0 => h
 | i + 1 => Rat.add_nonneg (zs1 h i) (zs1 h i)
theorem zs2 (v : Rat) : ∀ i, dbl v i = v * ((2 ^ i : Int) : Rat)
 | 0 => by show v = v * ((1 : Int) : Rat); rw [show ((1 : Int) : Rat) = 1 from rfl]; grind
 | i + 1 => by
  show dbl v i + dbl v i = _
  rw [zs2 v i, Int.pow_succ, Rat.intCast_mul, show ((2 : Int) : Rat) = 2 from rfl]; grind
theorem zs3 {a : Nat → Int} {T v : Rat} {K h : Nat} (hT : 0 < T) (hp : 0 ≤ v) (pos : ∀ i, i ≤ h → (0 : Rat) ≤ (a i : Rat)) (h0 : (a 0 : Rat) ≤ EP v K * T) (hs : ∀ i, i < h → (a (i + 1) : Rat) * T ≤ (a i : Rat) * (a i : Rat)) : ∀ i, i ≤ h → (a i : Rat) ≤ EP (dbl v i) (2 ^ i * K) * T := by
 intro i
 induction i with
 | zero => intro _; rw [Nat.pow_zero, Nat.one_mul]; exact h0
 | succ i ih =>
  intro hi
  have x := ih (by omega)
  have y := hs i (by omega)
  have p := pos i (by omega)
  have d := zs1 hp i
  have m := (zrr d d (2 ^ i * K)).2
  have en := zrs d (2 ^ i * K)
  have m1 := Rat.mul_le_mul_of_nonneg_left x p
  have m2 := Rat.mul_le_mul_of_nonneg_right x (Rat.mul_nonneg en (Rat.le_of_lt hT))
  have m3 := Rat.mul_le_mul_of_nonneg_right m (Rat.le_of_lt (Rat.mul_pos hT hT))
  refine Rat.le_of_mul_le_mul_right (c := T) ?_ hT
  rw [show 2 ^ (i + 1) * K = 2 * (2 ^ i * K) by rw [Nat.pow_succ]; grind]
  show _ ≤ EP (dbl v i + dbl v i) (2 * (2 ^ i * K)) * T * T
  generalize EP (dbl v i + dbl v i) (2 * (2 ^ i * K)) = E2 at *
  generalize EP (dbl v i) (2 ^ i * K) = E1 at *
  grind
theorem zs4 {b : Nat → Int} {T v : Rat} {h : Nat} (hT : 0 < T) (hp : 0 ≤ v) (h0 : ∀ K, EP v K * T ≤ (b 0 : Rat)) (hs : ∀ i, i < h → (b i : Rat) * (b i : Rat) ≤ (b (i + 1) : Rat) * T) : ∀ i, i ≤ h → ∀ K, EP (dbl v i) K * T ≤ (b i : Rat) := by
 intro i
 induction i with
 | zero => intro _ K; exact h0 K
 | succ i ih =>
  intro hi K
  have x := ih (by omega) K
  have y := hs i (by omega)
  have d := zs1 hp i
  have m := (zrr d d K).1
  have en := Rat.mul_nonneg (zrs d K) (Rat.le_of_lt hT)
  have m1 := Rat.mul_le_mul_of_nonneg_left x en
  have m2 := Rat.mul_le_mul_of_nonneg_right x (Rat.le_trans en x)
  have m3 := Rat.mul_le_mul_of_nonneg_right m (Rat.le_of_lt (Rat.mul_pos hT hT))
  refine Rat.le_of_mul_le_mul_right (c := T) ?_ hT
  show EP (dbl v i + dbl v i) K * T * T ≤ _
  generalize EP (dbl v i + dbl v i) K = E2 at *
  generalize EP (dbl v i) K = E1 at *
  grind
theorem zs5 {q : Rat} (h : 1 ≤ q) : ∀ n : Nat, 1 ≤ q ^ n
 | 0 => by rw [Rat.pow_zero]; exact Rat.le_refl
 | n + 1 => by
  have a := zs5 h n
  have m := Rat.mul_le_mul_of_nonneg_left h (show (0 : Rat) ≤ q ^ n by grind)
  rw [Rat.pow_succ]; grind
theorem bern {y : Rat} (h : 0 ≤ y) : ∀ n : Nat, (1 + y) ^ n * (1 - (n : Rat) * y) ≤ 1
 | 0 => by rw [Rat.pow_zero, show ((0 : Nat) : Rat) = 0 from rfl]; grind
 | n + 1 => by
  have a := bern h n
  have p : 0 ≤ (1 + y) ^ n := by have := zs5 (q := 1 + y) (by grind) n; grind
  have c : ((n + 1 : Nat) : Rat) = (n : Rat) + 1 := by rw [Rat.natCast_add]; rfl
  have n0 : (0 : Rat) ≤ (n : Rat) := Rat.natCast_nonneg
  have q : (1 + y) * (1 - ((n : Rat) + 1) * y) ≤ 1 - (n : Rat) * y := by
   have := Rat.mul_nonneg (Rat.mul_nonneg h h) (show (0 : Rat) ≤ (n : Rat) + 1 by grind)
   grind
  have m := Rat.mul_le_mul_of_nonneg_left q p
  rw [Rat.pow_succ, c]
  grind
theorem zs6 {y : Rat} {n : Nat} (h : 0 ≤ y) (h2 : 2 * ((n : Rat) * y) ≤ 1) : (1 + y) ^ n ≤ 1 + 2 * ((n : Rat) * y) := by
 have b := bern h n
 have n0 : (0 : Rat) ≤ (n : Rat) * y := Rat.mul_nonneg Rat.natCast_nonneg h
 have p : 0 < 1 - (n : Rat) * y := by grind
 refine Rat.le_of_mul_le_mul_right (c := 1 - (n : Rat) * y) ?_ p
 have m := Rat.mul_le_mul_of_nonneg_left (c := (n : Rat) * y) (show 2 * ((n : Rat) * y) ≤ 1 from h2) n0
 grind
end Go.Proofs.YtcbihoojfakhdaaGreatDoor

namespace Go.Proofs.YtcbihoojfakhdaaGreatDoor
theorem zs7 (q : Rat) (m : Nat) : ∀ n : Nat, q ^ (m + n) = q ^ m * q ^ n
 | 0 => by rw [Nat.add_zero, Rat.pow_zero, Rat.mul_one]
 | n + 1 => by rw [← Nat.add_assoc, Rat.pow_succ, Rat.pow_succ, zs7 q m n, Rat.mul_assoc]
theorem zs8 {u : Rat} (h0 : 0 < u) (h3 : 3 * u ≤ 1) : 1 + u ≤ (1 - u) * (1 + 3 * u) := by
 have := Rat.mul_le_mul_of_nonneg_left h3 (Rat.le_of_lt h0)
 grind
theorem zs9 {a b T u K : Rat} (hu0 : 0 < u) (hu : u * T = 1) (a0 : T ≤ a) (k0 : 0 ≤ K) (kT : K ≤ T) (hk : b ≤ a + K) : b * (1 + 3 * u) ≤ a * (1 + (K + 10) * u) := by
 have m1 := Rat.mul_le_mul_of_nonneg_right hk (show 0 ≤ 1 + 3 * u by grind)
 have m2 := Rat.mul_le_mul_of_nonneg_right a0 (Rat.mul_nonneg (Rat.le_of_lt hu0) k0)
 have m3 := Rat.mul_le_mul_of_nonneg_right (Rat.le_trans kT a0) (Rat.le_of_lt hu0)
 have m4 := Rat.mul_le_mul_of_nonneg_right a0 (Rat.le_of_lt hu0)
 have e : T * (u * K) = K := by rw [← Rat.mul_assoc, Rat.mul_comm T u, hu, Rat.one_mul]
 rw [e] at m2
 have f : a * (1 + (K + 10) * u) = a + a * (u * K) + 10 * (a * u) := by grind
 have g : (a + K) * (1 + 3 * u) = a + K + 3 * (a * u) + 3 * (K * u) := by grind
 rw [f]; rw [g] at m1
 have h : T * u = 1 := by rw [Rat.mul_comm]; exact hu
 rw [h] at m4
 generalize a * (u * K) = x1 at *
 generalize a * u = x2 at *
 generalize K * u = x3 at *
 grind
theorem zsa (q : Rat) (i : Nat) : q ^ (2 ^ (i + 1)) = q ^ (2 ^ i) * q ^ (2 ^ i) := by
 rw [Nat.pow_succ, Nat.mul_two, zs7]
theorem zsb {A B A' B' T u c Q : Rat} (hT : 3 ≤ T) (hu0 : 0 < u) (hu : u * T = 1) (hc : c = 1 + 3 * u) (hA : T ≤ A) (hB : T ≤ B) (hQ : 0 ≤ Q)
  (h1 : A * A ≤ (A' + 1) * T) (h2 : (B' - 1) * T ≤ B * B) (h3 : B * c ≤ A * Q) : B' * c ≤ A' * (Q * Q) := by
 have u3 : 3 * u ≤ 1 := by have := Rat.mul_le_mul_of_nonneg_left hT (Rat.le_of_lt hu0); grind
 have au : 1 ≤ A * u := by have := Rat.mul_le_mul_of_nonneg_right hA (Rat.le_of_lt hu0); grind
 have bu : 1 ≤ B * u := by have := Rat.mul_le_mul_of_nonneg_right hB (Rat.le_of_lt hu0); grind
 have a2 : 1 ≤ (A * u) * (A * u) := by have := Rat.mul_le_mul_of_nonneg_left au (show 0 ≤ A * u by grind); grind
 have b2 : 1 ≤ (B * u) * (B * u) := by have := Rat.mul_le_mul_of_nonneg_left bu (show 0 ≤ B * u by grind); grind
 have e1 := Rat.mul_le_mul_of_nonneg_right h1 (Rat.le_of_lt hu0)
 have e2 := Rat.mul_le_mul_of_nonneg_right h2 (Rat.le_of_lt hu0)
 have f1 : A * A * u * (1 - u) ≤ A' := by
  have : (A' + 1) * T * u = A' + 1 := by grind
  grind
 have f2 : B' ≤ B * B * u * (1 + u) := by
  have : (B' - 1) * T * u = B' - 1 := by grind
  grind
 have B0 : 0 ≤ B := by grind
 have c0 : 0 ≤ c := by grind
 have BBu : 0 ≤ B * B * u := Rat.mul_nonneg (Rat.mul_nonneg B0 B0) (Rat.le_of_lt hu0)
 have k : 1 + u ≤ (1 - u) * c := by rw [hc]; exact zs8 hu0 u3
 have g1 := Rat.mul_le_mul_of_nonneg_right f2 c0
 have g2 := Rat.mul_le_mul_of_nonneg_left k (Rat.mul_nonneg BBu c0)
 have s1 := Rat.mul_le_mul_of_nonneg_left h3 (Rat.mul_nonneg B0 c0)
 have s2 := Rat.mul_le_mul_of_nonneg_right h3 (Rat.mul_nonneg (show 0 ≤ A by grind) hQ)
 have s3 : B * c * (B * c) ≤ A * Q * (A * Q) := Rat.le_trans s1 s2
 have g3 := Rat.mul_le_mul_of_nonneg_right s3 (Rat.mul_nonneg (Rat.le_of_lt hu0) (show 0 ≤ 1 - u by grind))
 have g4 := Rat.mul_le_mul_of_nonneg_right f1 (Rat.mul_nonneg hQ hQ)
 grind
theorem zsc {a b : Nat → Int} {T u c q : Rat} {h : Nat} (hT : 3 ≤ T) (hu0 : 0 < u) (hu : u * T = 1) (hc : c = 1 + 3 * u) (hq : 0 ≤ q) (ha : ∀ i, i ≤ h → T ≤ (a i : Rat)) (hb : ∀ i, i ≤ h → T ≤ (b i : Rat))
  (h1 : ∀ i, i < h → (a i : Rat) * (a i : Rat) ≤ ((a (i + 1) : Rat) + 1) * T) (h2 : ∀ i, i < h → ((b (i + 1) : Rat) - 1) * T ≤ (b i : Rat) * (b i : Rat)) (h0 : (b 0 : Rat) * c ≤ (a 0 : Rat) * q) :
  ∀ i, i ≤ h → (b i : Rat) * c ≤ (a i : Rat) * q ^ (2 ^ i) := by
 intro i
 induction i with
 | zero => intro _; rw [Nat.pow_zero, Rat.pow_succ, Rat.pow_zero, Rat.one_mul]; exact h0
 | succ i ih =>
  intro hi
  rw [zsa]
  exact zsb hT hu0 hu hc (ha i (by omega)) (hb i (by omega)) (Rat.pow_nonneg hq) (h1 i (by omega)) (h2 i (by omega)) (ih (by omega))
theorem zsd {a b : Nat → Int} {T u K0 : Rat} {h : Nat} (hT : 3 ≤ T) (hu0 : 0 < u) (hu : u * T = 1) (ha : ∀ i, i ≤ h → T ≤ (a i : Rat)) (hb : ∀ i, i ≤ h → T ≤ (b i : Rat))
  (h1 : ∀ i, i < h → (a i : Rat) * (a i : Rat) ≤ ((a (i + 1) : Rat) + 1) * T) (h2 : ∀ i, i < h → ((b (i + 1) : Rat) - 1) * T ≤ (b i : Rat) * (b i : Rat)) (k0 : 0 ≤ K0) (kT : K0 ≤ T) (hk : (b 0 : Rat) ≤ (a 0 : Rat) + K0)
  (hm : 2 * (((2 ^ h : Nat) : Rat) * ((K0 + 10) * u)) ≤ 1) : (b h : Rat) ≤ (a h : Rat) * (1 + 2 * (((2 ^ h : Nat) : Rat) * ((K0 + 10) * u))) := by
 have y0 : 0 ≤ (K0 + 10) * u := Rat.mul_nonneg (by grind) (Rat.le_of_lt hu0)
 have a0 := ha 0 (by omega)
 have ah := ha h (Nat.le_refl _)
 have bh := hb h (Nat.le_refl _)
 have st := zs9 hu0 hu a0 k0 kT hk
 have r := zsc hT hu0 hu rfl (show 0 ≤ 1 + (K0 + 10) * u by grind) ha hb h1 h2 st h (Nat.le_refl _)
 have p := zs6 y0 hm
 have m := Rat.mul_le_mul_of_nonneg_left p (show 0 ≤ (a h : Rat) by grind)
 have n := Rat.mul_nonneg (show 0 ≤ (b h : Rat) by grind) (show 0 ≤ 3 * u by grind)
 grind
theorem zse {p q p' q' v1 v2 T x t : Rat} (hT : 0 < T) (hx : 1 ≤ x) (h8 : 8 * v2 ≤ T) (hv : v1 ≤ v2) (h1 : p * v1 ≤ (p' + 2) * (T * x)) (h2 : (q' - 2) * (T * x) ≤ q * v2) (hpq : p ≤ q) (ht0 : 0 ≤ t) (ht : p ≤ t * T) : 8 * (q' - p') ≤ (q - p) + 8 * (t * (v2 - v1)) + 32 := by
 have Tx : 0 < T * x := Rat.mul_pos hT (by grind)
 have m1 := Rat.mul_le_mul_of_nonneg_left h8 (show 0 ≤ q - p by grind)
 have m2 := Rat.mul_le_mul_of_nonneg_right ht (show 0 ≤ v2 - v1 by grind)
 have tD : 0 ≤ t * (v2 - v1) := Rat.mul_nonneg ht0 (by grind)
 have z : 0 ≤ (q - p) + 8 * (t * (v2 - v1)) := by grind
 have m3 := Rat.mul_le_mul_of_nonneg_left hx (Rat.mul_nonneg z (Rat.le_of_lt hT))
 refine Rat.le_of_mul_le_mul_right (c := T * x) ?_ Tx
 grind
theorem zsf {p q s r : Nat → Int} {T v1 v2 v : Rat} {n : Nat} (hT : 0 < T) (h8 : 8 * v2 ≤ T) (hv : v1 ≤ v2) (hp : 0 ≤ v) (hs0 : s 0 = p 0) (hs : ∀ j, j < n → s (j + 1) = s j + p (j + 1)) (hr0 : r 0 = q 0) (hr : ∀ j, j < n → r (j + 1) = r j + q (j + 1))
  (h0 : p 0 = q 0) (hpl : ∀ j, j ≤ n → (p j : Rat) ≤ tE v j * T) (hqh : ∀ j, j ≤ n → tE v j * T ≤ (q j : Rat)) (h1 : ∀ j, j < n → (p j : Rat) * v1 ≤ ((p (j + 1) : Rat) + 2) * (T * (nx j : Rat))) (h2 : ∀ j, j < n → ((q (j + 1) : Rat) - 2) * (T * (nx j : Rat)) ≤ (q j : Rat) * v2) :
  ∀ j, j ≤ n → 7 * ((r j : Rat) - (s j : Rat)) + ((q j : Rat) - (p j : Rat)) ≤ 8 * (EP v j * (v2 - v1)) + 32 * (j : Rat) := by
 intro j
 induction j with
 | zero =>
  intro _
  rw [hs0, hr0, h0, show ((0 : Nat) : Rat) = 0 from rfl]
  show _ ≤ 8 * ((0 : Rat) * (v2 - v1)) + 32 * 0
  grind
 | succ j ih =>
  intro hj
  have a := ih (by omega)
  have l := hpl j (by omega)
  have st := zse hT (show (1 : Rat) ≤ (nx j : Rat) from zrv (a := 0) (by omega)) h8 hv (h1 j (by omega)) (h2 j (by omega)) (Rat.le_trans l (hqh j (by omega))) (zro hp j) l
  rw [hs j (by omega), hr j (by omega), Rat.intCast_add, Rat.intCast_add, show ((j + 1 : Nat) : Rat) = (j : Rat) + 1 by rw [Rat.natCast_add]; rfl]
  show _ ≤ 8 * ((EP v j + tE v j) * (v2 - v1)) + 32 * ((j : Rat) + 1)
  grind
theorem zsg {q : Nat → Int} {t : Nat} (h3 : 3 ≤ t) (h0 : q 0 = 2 ^ t) (hs : ∀ j, 8 ≤ q j → 8 * q (j + 1) ≤ q j + 16) : ∃ nn, 1 ≤ nn ∧ nn ≤ t ∧ ∀ j, j < nn → (q (j + 1) < 8 ↔ nn ≤ j + 1) := by
 have ex : ∃ j, j < t ∧ q (j + 1) < 8 := by
  refine Decidable.byContradiction fun hn => ?_
  have big : ∀ j, j ≤ t → 8 ≤ q j := by
   intro j hj
   cases j with
   | zero =>
    rw [h0]
    have := Int.ofNat_le.2 (Nat.pow_le_pow_right (n := 2) (by omega) h3)
    rw [← zb2, ← zb2] at this
    omega
   | succ j => exact Decidable.byContradiction fun h => hn ⟨j, by omega, by omega⟩
  have dec : ∀ j, j ≤ t → q j * 2 ^ j ≤ 2 ^ t := by
   intro j
   induction j with
   | zero => intro _; rw [h0]; omega
   | succ j ih =>
    intro hj
    have a := ih (by omega)
    have b := big j (by omega)
    have c := hs j b
    have p := zip j
    have m : q (j + 1) * 2 ^ j * 2 ≤ q j * 2 ^ j := by
     have := Int.mul_le_mul_of_nonneg_right (show q (j + 1) * 2 ≤ q j by omega) (Int.le_of_lt p)
     rw [Int.mul_right_comm] at this
     exact this
    rw [Int.pow_succ, ← Int.mul_assoc]
    omega
  have a := dec t (Nat.le_refl _)
  have b := big t (Nat.le_refl _)
  have p := zip t
  have m := Int.mul_le_mul_of_nonneg_right b (Int.le_of_lt p)
  omega
 obtain ⟨j0, hj0, hq0⟩ := ex
 obtain ⟨m, m1, m2, m3⟩ := zpq (P := fun j => q (j + 1) < 8) (n := j0) hq0
 refine ⟨m + 1, by omega, by omega, fun j hj => ⟨fun h => ?_, fun h => ?_⟩⟩
 ·exact Decidable.byContradiction fun hn => m3 j (by omega) h
 ·rw [show j = m by omega]; exact m2
end Go.Proofs.YtcbihoojfakhdaaGreatDoor

namespace Go.Proofs.YtcbihoojfakhdaaGreatDoor
open Go.RowKit
set_option maxRecDepth 100000
set_option maxHeartbeats 2000000
theorem fl2 {A T n : Int} (hT : 0 < T) (hn : 0 < n) : A / T / n * (T * n) ≤ A ∧ A ≤ (A / T / n + 1) * (T * n) := by
 rw [Int.ediv_ediv_of_nonneg (Int.le_of_lt hT)]
 have p := Int.mul_pos hT hn
 exact ⟨Int.ediv_mul_le _ oO, Int.le_of_lt (Int.lt_ediv_add_one_mul_self _ p)⟩
theorem ce2 {B T n : Int} (hT : 0 < T) (hn : 0 < n) : B ≤ -(-(-(-B / T)) / n) * (T * n) ∧ (-(-(-(-B / T)) / n) - 1) * (T * n) ≤ B := by
 have f := fl2 (A := -B) hT hn
 rw [Int.neg_neg]
 generalize -B / T / n = g at *
 have e1 : -g * (T * n) = -(g * (T * n)) := Int.neg_mul _ _
 have e2 : (-g - 1) * (T * n) = -((g + 1) * (T * n)) := by rw [← Int.neg_mul]; congr 1; omega
 omega
theorem zsh {x : Int} {t : Nat} (h : x.natAbs < 2 ^ (t + 20)) (ht : t ≤ 20000) : L x.natAbs ≤ 700 := zju h oO
theorem zsi {T v1 v2 : Int} (hT : 16 ≤ T) (h1 : 0 ≤ v1) (h12 : v1 ≤ v2) (h8 : 8 * v2 ≤ T) (j : Nat) :
  (0 ≤ (exM T v1 v2 T j).1 ∧ (exM T v1 v2 T j).1 ≤ T ∧ 0 ≤ (exM T v1 v2 T j).2 ∧ (exM T v1 v2 T j).2 ≤ T) := by
 induction j with
 | zero => show 0 ≤ T ∧ T ≤ T ∧ 0 ≤ T ∧ T ≤ T; omega
 | succ j ih =>
  obtain ⟨a1, a2, b1, b2⟩ := ih
  show 0 ≤ ptLo ((exM T v1 v2 T j).1 * v1 / T) ((j : Int) + 1) ∧ ptLo ((exM T v1 v2 T j).1 * v1 / T) ((j : Int) + 1) ≤ T ∧ 0 ≤ ptHi (-(-((exM T v1 v2 T j).2 * v2) / T)) ((j : Int) + 1) ∧ ptHi (-(-((exM T v1 v2 T j).2 * v2) / T)) ((j : Int) + 1) ≤ T
  generalize (exM T v1 v2 T j).1 = p at *
  generalize (exM T v1 v2 T j).2 = q at *
  have T0 : 0 < T := by omega
  have n0 : (0 : Int) < (j : Int) + 1 := by omega
  have pv := Int.mul_nonneg a1 h1
  have qv := Int.mul_nonneg b1 (Int.le_trans h1 h12)
  have f0 := Int.ediv_nonneg pv (Int.le_of_lt T0)
  have c0 : 0 ≤ -(-(q * v2) / T) := by have := Int.ediv_le_ediv T0 (show -(q * v2) ≤ 0 by omega); rw [Int.zero_ediv] at this; omega
  rw [zpr f0 n0, zps c0 n0]
  have f := fl2 (A := p * v1) T0 n0
  have c := ce2 (B := q * v2) T0 n0
  have g0 : 0 ≤ p * v1 / T / ((j : Int) + 1) := Int.ediv_nonneg f0 (Int.le_of_lt n0)
  have d0 : 0 ≤ -(-(-(-(q * v2) / T)) / ((j : Int) + 1)) := by have := Int.ediv_le_ediv n0 (show -(-(-(q * v2) / T)) ≤ 0 by omega); rw [Int.zero_ediv] at this; omega
  have Tn : T ≤ T * ((j : Int) + 1) := by have := Int.mul_le_mul_of_nonneg_left (show (1 : Int) ≤ (j : Int) + 1 by omega) (Int.le_of_lt T0); omega
  have k1 : p * v1 ≤ T * v1 := Int.mul_le_mul_of_nonneg_right a2 h1
  have k2 : q * v2 ≤ T * v2 := Int.mul_le_mul_of_nonneg_right b2 (Int.le_trans h1 h12)
  generalize p * v1 / T / ((j : Int) + 1) = g at *
  generalize -(-(-(-(q * v2) / T)) / ((j : Int) + 1)) = d at *
  generalize T * ((j : Int) + 1) = X at *
  have up : ∀ z w : Int, 0 ≤ z → z * X ≤ w → w ≤ T * v2 → z ≤ T := by
   intro z w z0 zw wv
   refine Decidable.byContradiction fun hn => ?_
   have m1 := Int.mul_le_mul_of_nonneg_right (show T + 1 ≤ z by omega) (show 0 ≤ X by omega)
   have m2 := Int.mul_le_mul_of_nonneg_left Tn (show 0 ≤ T + 1 by omega)
   have m3 := Int.mul_le_mul_of_nonneg_left (show v2 ≤ T by omega) (Int.le_of_lt T0)
   rw [Int.add_mul] at m2
   omega
  refine ⟨g0, up g (p * v1) g0 f.1 (Int.le_trans k1 (Int.mul_le_mul_of_nonneg_left h12 (Int.le_of_lt T0))), d0, ?_⟩
  by_cases hd : d = 0
  ·omega
  ·refine Decidable.byContradiction fun hn => ?_
   have m1 := Int.mul_le_mul_of_nonneg_right (show T ≤ d - 1 by omega) (show 0 ≤ X by omega)
   have m2 := Int.mul_le_mul_of_nonneg_left Tn (Int.le_of_lt T0)
   have m3 := Int.mul_le_mul_of_nonneg_left h8 (Int.le_of_lt T0)
   have m4 := Int.mul_pos T0 T0
   rw [← Int.mul_assoc, Int.mul_comm T 8, Int.mul_assoc] at m3
   omega
theorem zsj {T v1 v2 : Int} (hT : 16 ≤ T) (h1 : 0 ≤ v1) (h12 : v1 ≤ v2) (h8 : 8 * v2 ≤ T) (j : Nat) :
  ((exM T v1 v2 T (j + 1)).1 * (T * nx j) ≤ (exM T v1 v2 T j).1 * v1 ∧ (exM T v1 v2 T j).1 * v1 ≤ ((exM T v1 v2 T (j + 1)).1 + 2) * (T * nx j)) ∧
  ((exM T v1 v2 T j).2 * v2 ≤ (exM T v1 v2 T (j + 1)).2 * (T * nx j) ∧ ((exM T v1 v2 T (j + 1)).2 - 2) * (T * nx j) ≤ (exM T v1 v2 T j).2 * v2) ∧ 8 * (exM T v1 v2 T (j + 1)).2 ≤ (exM T v1 v2 T j).2 + 16 ∧
  ((0 ≤ (exM T v1 v2 T j).1 * v1 / T ∧ (exM T v1 v2 T j).1 * v1 / T ≤ T) ∧ 0 ≤ -(-((exM T v1 v2 T j).2 * v2) / T) ∧ -(-((exM T v1 v2 T j).2 * v2) / T) ≤ T + 1) := by
 obtain ⟨a1, a2, b1, b2⟩ := zsi hT h1 h12 h8 j
 show (ptLo ((exM T v1 v2 T j).1 * v1 / T) ((j : Int) + 1) * (T * ((j : Int) + 1)) ≤ _ ∧ _ ≤ (ptLo ((exM T v1 v2 T j).1 * v1 / T) ((j : Int) + 1) + 2) * (T * ((j : Int) + 1))) ∧ (_ ≤ ptHi (-(-((exM T v1 v2 T j).2 * v2) / T)) ((j : Int) + 1) * (T * ((j : Int) + 1)) ∧ (ptHi (-(-((exM T v1 v2 T j).2 * v2) / T)) ((j : Int) + 1) - 2) * (T * ((j : Int) + 1)) ≤ _) ∧ 8 * ptHi (-(-((exM T v1 v2 T j).2 * v2) / T)) ((j : Int) + 1) ≤ _ ∧ _
 generalize (exM T v1 v2 T j).1 = p at *
 generalize (exM T v1 v2 T j).2 = q at *
 have T0 : 0 < T := by omega
 have n0 : (0 : Int) < (j : Int) + 1 := by omega
 have pv := Int.mul_nonneg a1 h1
 have qv := Int.mul_nonneg b1 (Int.le_trans h1 h12)
 have f0 := Int.ediv_nonneg pv (Int.le_of_lt T0)
 have c0 : 0 ≤ -(-(q * v2) / T) := by have := Int.ediv_le_ediv T0 (show -(q * v2) ≤ 0 by omega); rw [Int.zero_ediv] at this; omega
 rw [zpr f0 n0, zps c0 n0]
 have f := fl2 (A := p * v1) T0 n0
 have c := ce2 (B := q * v2) T0 n0
 have d0 : 0 ≤ -(-(-(-(q * v2) / T)) / ((j : Int) + 1)) := by have := Int.ediv_le_ediv n0 (show -(-(-(q * v2) / T)) ≤ 0 by omega); rw [Int.zero_ediv] at this; omega
 have Tn : T ≤ T * ((j : Int) + 1) := by have := Int.mul_le_mul_of_nonneg_left (show (1 : Int) ≤ (j : Int) + 1 by omega) (Int.le_of_lt T0); omega
 have k1 : p * v1 ≤ T * v1 := Int.mul_le_mul_of_nonneg_right a2 h1
 have k2 : q * v2 ≤ T * v2 := Int.mul_le_mul_of_nonneg_right b2 (Int.le_trans h1 h12)
 have k3 : q * (8 * v2) ≤ q * T := Int.mul_le_mul_of_nonneg_left h8 b1
 have e1 : p * v1 / T ≤ T := by
  have a := Int.ediv_mul_le (p * v1) (show T ≠ 0 by omega)
  refine Decidable.byContradiction fun hn => ?_
  have m := Int.mul_le_mul_of_nonneg_right (show T + 1 ≤ p * v1 / T by omega) (Int.le_of_lt T0)
  have m3 := Int.mul_le_mul_of_nonneg_left (show v1 ≤ T by omega) (Int.le_of_lt T0)
  rw [Int.add_mul] at m
  omega
 have e2 : -(-(q * v2) / T) ≤ T + 1 := by
  have a := Int.lt_ediv_add_one_mul_self (-(q * v2)) T0
  refine Decidable.byContradiction fun hn => ?_
  have m := Int.mul_le_mul_of_nonneg_right (show -(q * v2) / T + 1 ≤ -T by omega) (Int.le_of_lt T0)
  have m3 := Int.mul_le_mul_of_nonneg_left (show v2 ≤ T by omega) (Int.le_of_lt T0)
  rw [Int.neg_mul] at m
  omega
 have nxe : nx j = (j : Int) + 1 := rfl
 generalize -(-(-(-(q * v2) / T)) / ((j : Int) + 1)) = d at *
 generalize p * v1 / T / ((j : Int) + 1) = g at *
 generalize hX : T * ((j : Int) + 1) = X at *
 have X0 : 0 ≤ X := by omega
 have s1 : (g + 2) * X = (g + 1) * X + X := by rw [show g + 2 = g + 1 + 1 by omega, Int.add_mul, Int.one_mul]
 have s2 : (d - 2) * X = (d - 1) * X - X := by rw [show d - 2 = d - 1 - 1 by omega, Int.sub_mul, Int.one_mul]
 refine ⟨⟨f.1, by omega⟩, ⟨c.1, by omega⟩, ?_, ⟨⟨f0, e1⟩, c0, e2⟩⟩
 by_cases hd : d = 0
 ·omega
 ·have m1 := Int.mul_le_mul_of_nonneg_left Tn (show 0 ≤ d - 1 by omega)
  refine Decidable.byContradiction fun hn => ?_
  have m2 := Int.mul_le_mul_of_nonneg_right (show q + 9 ≤ 8 * d by omega) (Int.le_of_lt T0)
  rw [← Int.mul_assoc, Int.mul_comm q 8, Int.mul_assoc] at k3
  rw [Int.add_mul, Int.mul_assoc] at m2
  rw [Int.sub_mul, Int.one_mul] at m1
  omega
end Go.Proofs.YtcbihoojfakhdaaGreatDoor

namespace Go.Proofs.YtcbihoojfakhdaaGreatDoor
open Go.RowKit
set_option maxRecDepth 100000
set_option maxHeartbeats 2000000
theorem zsk {a b T : Int} (hT : 0 < T) (i : Nat) : (sqS a b T (i + 1)).1 * T ≤ (sqS a b T i).1 * (sqS a b T i).1 ∧ (sqS a b T i).1 * (sqS a b T i).1 < ((sqS a b T (i + 1)).1 + 1) * T ∧
  (sqS a b T i).2 * (sqS a b T i).2 ≤ (sqS a b T (i + 1)).2 * T ∧ ((sqS a b T (i + 1)).2 - 1) * T ≤ (sqS a b T i).2 * (sqS a b T i).2 := by
 show (sqS a b T i).1 * (sqS a b T i).1 / T * T ≤ _ ∧ _ < ((sqS a b T i).1 * (sqS a b T i).1 / T + 1) * T ∧ _ ≤ -(-((sqS a b T i).2 * (sqS a b T i).2) / T) * T ∧ (-(-((sqS a b T i).2 * (sqS a b T i).2) / T) - 1) * T ≤ _
 generalize (sqS a b T i).1 * (sqS a b T i).1 = A
 generalize (sqS a b T i).2 * (sqS a b T i).2 = B
 have f1 := Int.ediv_mul_le A (show T ≠ 0 by omega)
 have f2 := Int.lt_ediv_add_one_mul_self A hT
 have g1 := Int.ediv_mul_le (-B) (show T ≠ 0 by omega)
 have g2 := Int.lt_ediv_add_one_mul_self (-B) hT
 generalize -B / T = z at *
 have e1 : -z * T = -(z * T) := Int.neg_mul _ _
 have e2 : (-z - 1) * T = -((z + 1) * T) := by rw [← Int.neg_mul]; congr 1; omega
 omega
theorem zsl {a b T : Int} (hT : 0 < T) (ha : T ≤ a) (hb : T ≤ b) : ∀ i, T ≤ (sqS a b T i).1 ∧ T ≤ (sqS a b T i).2
 | 0 => ⟨ha, hb⟩
 | i + 1 => by
  obtain ⟨x, y⟩ := zsl hT ha hb i
  have f := zsk (a := a) (b := b) hT i
  have m1 := Int.mul_le_mul x x (Int.le_of_lt hT) oO
  have m2 := Int.mul_le_mul y y (Int.le_of_lt hT) oO
  generalize (sqS a b T i).1 * (sqS a b T i).1 = A at *
  generalize (sqS a b T i).2 * (sqS a b T i).2 = B at *
  constructor
  ·refine Decidable.byContradiction fun hn => ?_
   have m := Int.mul_le_mul_of_nonneg_right (show (sqS a b T (i + 1)).1 + 1 ≤ T by omega) (Int.le_of_lt hT)
   omega
  ·refine Decidable.byContradiction fun hn => ?_
   have m3 := Int.mul_le_mul_of_nonneg_right (show (sqS a b T (i + 1)).2 ≤ T - 1 by omega) (Int.le_of_lt hT)
   rw [Int.sub_mul] at m3
   omega
theorem zsm {p : Nat → Int} {T : Int} (h : ∀ j, 0 ≤ p j ∧ p j ≤ T) : ∀ j : Nat, 0 ≤ saS p j ∧ saS p j ≤ ((j : Int) + 1) * T ∧ p 0 ≤ saS p j
 | 0 => by have := h 0; show 0 ≤ p 0 ∧ p 0 ≤ ((0 : Int) + 1) * T ∧ p 0 ≤ p 0; omega
 | j + 1 => by
  have a := zsm h j
  have b := h (j + 1)
  show 0 ≤ saS p j + p (j + 1) ∧ saS p j + p (j + 1) ≤ (((j + 1 : Nat) : Int) + 1) * T ∧ p 0 ≤ saS p j + p (j + 1)
  have e : (((j + 1 : Nat) : Int) + 1) * T = ((j : Int) + 1) * T + T := by
   rw [show ((j + 1 : Nat) : Int) = (j : Int) + 1 from rfl, Int.add_mul _ 1 T, Int.one_mul]
  omega
end Go.Proofs.YtcbihoojfakhdaaGreatDoor
