/-
  Lower layers: what functions of the program compute, and plain facts. Conditions: as the theorems say.
-/
import Derived.Test.YtmbpoibhamlkbaaGreatDoorPcF
set_option linter.unusedVariables false
set_option linter.unusedSimpArgs false
namespace Go.Proofs.YtmbpoibhamlkbaaGreatDoor
open Go.RowKit
set_option maxRecDepth 100000

theorem gr_permitted (p : Int) (c0 : (-9223372036854775808 : Int) ≤ p ∧ p ≤ 9223372036854775807) : Impl Tryz.prog Amb 191 [(.int .i64 p)] (.bool (decide ((-2048 : Int) ≤ p ∧ p ≤ 8192))) := by
  exact impl_ob hP hAmb Tryz.func191 (by kernel_rfl) (.lit <| .both (.lits 4 <| .ret) (.lits 3 <| .ret))
    (cast_ob (And.intro True.intro (And.intro (fun (h1 : (iGe p (-2048)) = true) => have _gh1 := iGe_t h1; (vsub_of (congrArg V.bool (perm_1 (by omega))) : vsub (.bool (iLe p 8192)) (.bool (decide ((-2048 : Int) ≤ p ∧ p ≤ 8192))))) (fun (h2 : (iGe p (-2048)) = false) => have _gh2 := iGe_f h2; (vsub_of (congrArg V.bool (decide_eq_false (by omega)).symm) : vsub (.bool false) (.bool (decide ((-2048 : Int) ≤ p ∧ p ≤ 8192))))))) (by kernel_rfl))

theorem gr_On (m : Int) (e : Int) (p : Int) (c0 : L (m).natAbs ≤ 16777216) (c1 : (-9223372036854775808 : Int) ≤ p ∧ p ≤ 9223372036854775807) : Impl Tryz.prog Amb 172 [(.agg [(.bool (decide (m < 0))), (N m.natAbs), (.int .i64 e)]), (.int .i64 p)] (.bool (decide (((-2048 : Int) ≤ p ∧ p ≤ 8192) ∧ (m = 0 ∨ -p ≤ e)))) := by
  have e0 := L_len m.natAbs
  have e1 := L_pos_iff m.natAbs
  have s0 := sign_range m
  exact impl_ob hP hAmb Tryz.func172 (by kernel_rfl) (.lit <| .call (.bool (decide ((-2048 : Int) ≤ p ∧ p ≤ 8192))) <| .both (.lits 3 <| .call (.int .i64 ((m).sign)) <| .lits 3 <| .both (.lits 8 <| .ret) (.lits 5 <| .yes <| .lits 6 <| .ret)) (.lits 6 <| .ret))
    (cast_ob (And.intro True.intro (And.intro (gr_permitted p (by first | omega | (simp <;> omega))) (And.intro (fun (h1 : (decide ((-2048 : Int) ≤ p ∧ p ≤ 8192)) = true) => have _gh1 := of_decide_eq_true h1; And.intro (dy_Sign m e (by first | omega | (simp <;> omega))) (have f4 := sign_range m; And.intro (fun (h2 : (iEq ((m).sign) 0) = true) => have _gh2 := iEq_t h2; (vsub_of (congrArg V.bool ((decide_eq_true (by omega)).symm)) : vsub (.bool true) (.bool (decide (((-2048 : Int) ≤ p ∧ p ≤ 8192) ∧ (m = 0 ∨ -p ≤ e)))))) (fun (h3 : (iEq ((m).sign) 0) = false) => have _gh3 := iEq_f h3; And.intro (fits_i64 (by first | omega | (simp <;> omega)) : (fits .i64 ((0 : Int) - p)) = true) ((vsub_of (congrArg V.bool (on_3 (by omega) (by omega))) : vsub (.bool (iGe e ((0 : Int) - p))) (.bool (decide (((-2048 : Int) ≤ p ∧ p ≤ 8192) ∧ (m = 0 ∨ -p ≤ e))))))))) (fun (h5 : (decide ((-2048 : Int) ≤ p ∧ p ≤ 8192)) = false) => have _gh5 := of_decide_eq_false h5; (vsub_of (congrArg V.bool ((decide_eq_false (by omega)).symm)) : vsub (.bool false) (.bool (decide (((-2048 : Int) ≤ p ∧ p ≤ 8192) ∧ (m = 0 ∨ -p ≤ e))))))))) (by kernel_rfl))

theorem r09_permitted (p : Int) (c0 : (-9223372036854775808 : Int) ≤ p ∧ p ≤ 9223372036854775807) : Impl Tryz.prog Amb 105 [(.int .i64 p)] (.bool (decide ((-2048 : Int) ≤ p ∧ p ≤ 8192))) := by
  exact impl_ob hP hAmb Tryz.func105 (by kernel_rfl) (.lit <| .both (.lits 4 <| .ret) (.lits 3 <| .ret))
    (cast_ob (And.intro True.intro (And.intro (fun (h1 : (iGe p (-2048)) = true) => have _gh1 := iGe_t h1; (vsub_of (congrArg V.bool (perm_1 (by omega))) : vsub (.bool (iLe p 8192)) (.bool (decide ((-2048 : Int) ≤ p ∧ p ≤ 8192))))) (fun (h2 : (iGe p (-2048)) = false) => have _gh2 := iGe_f h2; (vsub_of (congrArg V.bool (decide_eq_false (by omega)).symm) : vsub (.bool false) (.bool (decide ((-2048 : Int) ≤ p ∧ p ≤ 8192))))))) (by kernel_rfl))

theorem r09_On (m : Int) (e : Int) (p : Int) (c0 : L (m).natAbs ≤ 16777216) (c1 : (-9223372036854775808 : Int) ≤ p ∧ p ≤ 9223372036854775807) : Impl Tryz.prog Amb 43 [(.agg [(.bool (decide (m < 0))), (N m.natAbs), (.int .i64 e)]), (.int .i64 p)] (.bool (decide (((-2048 : Int) ≤ p ∧ p ≤ 8192) ∧ (m = 0 ∨ -p ≤ e)))) := by
  have e0 := L_len m.natAbs
  have e1 := L_pos_iff m.natAbs
  have s0 := sign_range m
  exact impl_ob hP hAmb Tryz.func43 (by kernel_rfl) (.lit <| .call (.bool (decide ((-2048 : Int) ≤ p ∧ p ≤ 8192))) <| .both (.lits 7 <| .both (.lits 8 <| .ret) (.lits 5 <| .yes <| .lits 6 <| .ret)) (.lits 8 <| .ret))
    (cast_ob (And.intro True.intro (And.intro (r09_permitted p (by first | omega | (simp <;> omega))) (And.intro (fun (h1 : (decide ((-2048 : Int) ≤ p ∧ p ≤ 8192)) = true) => have _gh1 := of_decide_eq_true h1; And.intro (fun (h2 : (iEq ((lim m.natAbs).length : Int) 0) = true) => have _gh2 := iEq_t h2; (vsub_of (congrArg V.bool ((decide_eq_true (by omega)).symm)) : vsub (.bool true) (.bool (decide (((-2048 : Int) ≤ p ∧ p ≤ 8192) ∧ (m = 0 ∨ -p ≤ e)))))) (fun (h3 : (iEq ((lim m.natAbs).length : Int) 0) = false) => have _gh3 := iEq_f h3; And.intro (fits_i64 (by first | omega | (simp <;> omega)) : (fits .i64 ((0 : Int) - p)) = true) ((vsub_of (congrArg V.bool (on_3 (by omega) (by omega))) : vsub (.bool (iGe e ((0 : Int) - p))) (.bool (decide (((-2048 : Int) ≤ p ∧ p ≤ 8192) ∧ (m = 0 ∨ -p ≤ e)))))))) (fun (h4 : (decide ((-2048 : Int) ≤ p ∧ p ≤ 8192)) = false) => have _gh4 := of_decide_eq_false h4; (vsub_of (congrArg V.bool ((decide_eq_false (by omega)).symm)) : vsub (.bool false) (.bool (decide (((-2048 : Int) ≤ p ∧ p ≤ 8192) ∧ (m = 0 ∨ -p ≤ e))))))))) (by kernel_rfl))

theorem iv_Valid (m : Int) (e : Int) (n : Int) (f : Int) (c0 : L (m).natAbs ≤ 8192) (c1 : L (n).natAbs ≤ 8192) : Impl Tryz.prog Amb 121 [(.agg [(.bool (decide (m < 0))), (N m.natAbs), (.int .i64 e), (.bool (decide (n < 0))), (N n.natAbs), (.int .i64 f)])] (.bool (ivB m e n f)) := by
  have v0 := vdb_range m e
  have v1 := vdb_range n f
  exact impl_ob hP hAmb Tryz.func121 (by kernel_rfl) (.lits 2 <| .call (.bool (vdb m e)) <| .both (.lits 4 <| .call (.bool (vdb n f)) <| .lit <| .both (.lits 7 <| .call (.int .i64 (cmpD m e n f)) <| .lits 4 <| .ret) (.lits 7 <| .ret)) (.lits 11 <| .ret))
    (cast_ob (And.intro True.intro (And.intro (dy_Valid m e (by first | omega | (have := v0 (by assumption); have := v1 (by assumption); omega))) (And.intro (fun (h1 : (vdb m e) = true) => And.intro (dy_Valid n f (by first | omega | (have := v0 (by assumption); have := v1 (by assumption); omega))) (And.intro (fun (h2 : (vdb n f) = true) => And.intro (dy_Cmp m e n f (by first | omega | (have := v0 (by assumption); have := v1 (by assumption); omega)) (by first | omega | (have := v0 (by assumption); have := v1 (by assumption); omega)) (by first | omega | (have := v0 (by assumption); have := v1 (by assumption); omega)) (by first | omega | (have := v0 (by assumption); have := v1 (by assumption); omega))) (have f3 := cmpD_range m e n f; (vsub_of (congrArg V.bool (iv_1 (by assumption) (by assumption))) : vsub (.bool (iLe (cmpD m e n f) 0)) (.bool (ivB m e n f))))) (fun (h4 : (vdb n f) = false) => (vsub_of (congrArg V.bool (iv_3 (by assumption))) : vsub (.bool false) (.bool (ivB m e n f)))))) (fun (h5 : (vdb m e) = false) => (vsub_of (congrArg V.bool (iv_2 (by assumption))) : vsub (.bool false) (.bool (ivB m e n f))))))) (by kernel_rfl))

theorem r10_Valid (m : Int) (e : Int) (n : Int) (f : Int) (c0 : L (m).natAbs ≤ 8192) (c1 : L (n).natAbs ≤ 8192) : Impl Tryz.prog Amb 59 [(.agg [(.bool (decide (m < 0))), (N m.natAbs), (.int .i64 e), (.bool (decide (n < 0))), (N n.natAbs), (.int .i64 f)])] (.bool (ivB m e n f)) := by
  have v0 := vdb_range m e
  have v1 := vdb_range n f
  exact impl_ob hP hAmb Tryz.func59 (by kernel_rfl) (.lits 2 <| .call (.bool (vdb m e)) <| .both (.lits 4 <| .call (.bool (vdb n f)) <| .lit <| .both (.lits 7 <| .call (.int .i64 (cmpD m e n f)) <| .lits 4 <| .ret) (.lits 7 <| .ret)) (.lits 11 <| .ret))
    (cast_ob (And.intro True.intro (And.intro (r08_Valid m e (by first | omega | (have := v0 (by assumption); have := v1 (by assumption); omega))) (And.intro (fun (h1 : (vdb m e) = true) => And.intro (r08_Valid n f (by first | omega | (have := v0 (by assumption); have := v1 (by assumption); omega))) (And.intro (fun (h2 : (vdb n f) = true) => And.intro (r08_Cmp m e n f (by first | omega | (have := v0 (by assumption); have := v1 (by assumption); omega)) (by first | omega | (have := v0 (by assumption); have := v1 (by assumption); omega)) (by first | omega | (have := v0 (by assumption); have := v1 (by assumption); omega)) (by first | omega | (have := v0 (by assumption); have := v1 (by assumption); omega))) (have f3 := cmpD_range m e n f; (vsub_of (congrArg V.bool (iv_1 (by assumption) (by assumption))) : vsub (.bool (iLe (cmpD m e n f) 0)) (.bool (ivB m e n f))))) (fun (h4 : (vdb n f) = false) => (vsub_of (congrArg V.bool (iv_3 (by assumption))) : vsub (.bool false) (.bool (ivB m e n f)))))) (fun (h5 : (vdb m e) = false) => (vsub_of (congrArg V.bool (iv_2 (by assumption))) : vsub (.bool false) (.bool (ivB m e n f))))))) (by kernel_rfl))

theorem r08_Same (m : Int) (e : Int) (n : Int) (f : Int) (c0 : L (m).natAbs ≤ 16777216) (c1 : L (n).natAbs ≤ 16777216) : Impl Tryz.prog Amb 38 [(.agg [(.bool (decide (m < 0))), (N m.natAbs), (.int .i64 e)]), (.agg [(.bool (decide (n < 0))), (N n.natAbs), (.int .i64 f)])] (.bool (decide (e = f ∧ m = n))) := by
  exact impl_ob hP hAmb Tryz.func38 (by kernel_rfl) (.lits 3 <| .both (.lits 7 <| .call (.bool (decide (m = n))) <| .lits 2 <| .ret) (.lits 6 <| .ret))
    (cast_ob (And.intro True.intro (And.intro (fun (h1 : (iEq e f) = true) => have _gh1 := iEq_t h1; And.intro (r05_Same m n (by first | omega | (simp <;> omega)) (by first | omega | (simp <;> omega))) ((vsub_of (congrArg V.bool (sm_1 (by omega))) : vsub (.bool (decide (m = n))) (.bool (decide (e = f ∧ m = n)))))) (fun (h2 : (iEq e f) = false) => have _gh2 := iEq_f h2; (vsub_of (congrArg V.bool ((decide_eq_false (by omega)).symm)) : vsub (.bool false) (.bool (decide (e = f ∧ m = n))))))) (by kernel_rfl))

theorem r10_Same (m : Int) (e : Int) (n : Int) (f : Int) (p : Int) (g : Int) (q : Int) (h : Int) (c0 : L (m).natAbs ≤ 16777216) (c1 : L (n).natAbs ≤ 16777216) (c2 : L (p).natAbs ≤ 16777216) (c3 : L (q).natAbs ≤ 16777216) : Impl Tryz.prog Amb 22 [(.agg [(.bool (decide (m < 0))), (N m.natAbs), (.int .i64 e), (.bool (decide (n < 0))), (N n.natAbs), (.int .i64 f)]), (.agg [(.bool (decide (p < 0))), (N p.natAbs), (.int .i64 g), (.bool (decide (q < 0))), (N q.natAbs), (.int .i64 h)])] (.bool (decide ((e = g ∧ m = p) ∧ (f = h ∧ n = q)))) := by
  exact impl_ob hP hAmb Tryz.func22 (by kernel_rfl) (.lits 3 <| .call (.bool (decide (e = g ∧ m = p))) <| .both (.lits 7 <| .call (.bool (decide (f = h ∧ n = q))) <| .lits 2 <| .ret) (.lits 6 <| .ret))
    (cast_ob (And.intro True.intro (And.intro (r08_Same m e p g (by first | omega | (simp <;> omega)) (by first | omega | (simp <;> omega))) (And.intro (fun (h1 : (decide (e = g ∧ m = p)) = true) => have _gh1 := of_decide_eq_true h1; And.intro (r08_Same n f q h (by first | omega | (simp <;> omega)) (by first | omega | (simp <;> omega))) ((vsub_of (congrArg V.bool (sm_2 (by omega))) : vsub (.bool (decide (f = h ∧ n = q))) (.bool (decide ((e = g ∧ m = p) ∧ (f = h ∧ n = q))))))) (fun (h2 : (decide (e = g ∧ m = p)) = false) => have _gh2 := of_decide_eq_false h2; (vsub_of (congrArg V.bool ((decide_eq_false (by omega)).symm)) : vsub (.bool false) (.bool (decide ((e = g ∧ m = p) ∧ (f = h ∧ n = q))))))))) (by kernel_rfl))

end Go.Proofs.YtmbpoibhamlkbaaGreatDoor

namespace Go.Proofs.YtmbpoibhamlkbaaGreatDoor

/-- the highest digits bound the quotient -/
theorem kn_key {X D P t u2 v1 v2 W V : Nat} (hX : X = W + P * (u2 + 4294967296 * t)) (hW : W < P) (hD : D = V + P * (v2 + 4294967296 * v1)) :
    X / D * v2 + 4294967296 * (X / D * v1) ≤ u2 + 4294967296 * t := by
  generalize hq : X / D = q
  have h1 : q * D ≤ X := by rw [← hq]; exact Nat.div_mul_le_self X D
  have h2 : q * (P * (v2 + 4294967296 * v1)) ≤ q * D := Nat.mul_le_mul_left _ (by omega)
  have h3 : P * (q * (v2 + 4294967296 * v1)) < P * (u2 + 4294967296 * t + 1) := by
    rw [Nat.mul_left_comm P q, Nat.mul_add P _ 1]; omega
  have h4 := Nat.lt_of_mul_lt_mul_left h3
  rw [Nat.mul_add, Nat.mul_left_comm] at h4
  omega
theorem kn_lt {X D : Nat} (h : X < D * 4294967296) : X / D < 4294967296 := by
  rcases Nat.eq_zero_or_pos D with h0 | h0
  · subst h0; omega
  · exact Nat.div_lt_of_lt_mul h
theorem kn_first {X D P t u2 v1 v2 W V : Nat} (hX : X = W + P * (u2 + 4294967296 * t)) (hW : W < P) (hD : D = V + P * (v2 + 4294967296 * v1)) (hu : u2 < 4294967296) (hv : 0 < v1) :
    X / D ≤ t / v1 := by
  have h := kn_key hX hW hD
  rw [Nat.le_div_iff_mul_le hv]
  generalize X / D * v2 = a at h
  generalize X / D * v1 = b at *
  omega
theorem kn_last {X D P t u2 v1 v2 W V g : Nat} (hX : X = W + P * (u2 + 4294967296 * t)) (hD : D = V + P * (v2 + 4294967296 * v1)) (hV : V < P) (hv : 0 < v1)
    (hg : g < 4294967296) (h : g * v2 + 4294967296 * (g * v1) ≤ u2 + 4294967296 * t) : g ≤ X / D + 1 := by
  rcases Nat.eq_zero_or_pos g with h0 | h0
  · rw [h0]; exact Nat.zero_le _
  have h1 : P * (g * (v2 + 4294967296 * v1)) ≤ P * (u2 + 4294967296 * t) := Nat.mul_le_mul_left _ (by rw [Nat.mul_add, Nat.mul_left_comm]; omega)
  have h2 : g * D = g * V + P * (g * (v2 + 4294967296 * v1)) := by rw [hD, Nat.mul_add, Nat.mul_left_comm g P]
  have h3 : g * V ≤ 4294967296 * P := Nat.mul_le_mul (by omega) (by omega)
  have h4 : P * 4294967296 ≤ P * (v2 + 4294967296 * v1) := Nat.mul_le_mul_left _ (by omega)
  have h5 : (g - 1) * D = g * D - D := by rw [Nat.sub_mul, Nat.one_mul]
  have h6 : (g - 1) * D ≤ X := by omega
  have h7 : 0 < P := by omega
  have h8 : 0 < D := by
    have := Nat.mul_le_mul_right 4294967296 h7
    omega
  have h9 := (Nat.le_div_iff_mul_le h8).2 h6
  generalize X / D = q at *
  omega
/-! ### digits in place -/
theorem pow_B (n : Nat) : 0 < 4294967296 ^ n := Nat.pow_pos (by omega)
theorem val_inj : ∀ {l m : List Nat}, Dig l → Dig m → l.length = m.length → val l = val m → l = m
  | [], [], _, _, _, _ => rfl
  | [], _ :: _, _, _, h, _ => by simp at h
  | _ :: _, [], _, _, h, _ => by simp at h
  | a :: l, b :: m, hl, hm, h, hv => by
    have ha := hl a (by simp)
    have hb := hm b (by simp)
    rw [val, val] at hv
    have h1 : a = b := by omega
    have h2 : val l = val m := by omega
    rw [h1, val_inj (fun d hd => hl d (by simp [hd])) (fun d hd => hm d (by simp [hd])) (by simpa using h) h2]
def padN (n x : Nat) : List Nat := limbs x ++ List.replicate (n - L x) 0
theorem padN_val (n x : Nat) : val (padN n x) = x := by unfold padN; rw [val_append, val_limbs, val_rep]; omega
theorem padN_dig (n x : Nat) : Dig (padN n x) := dig_append (dig_limbs x) (dig_rep _)
theorem padN_len {n x : Nat} (h : x < 4294967296 ^ n) : (padN n x).length = n := by
  have := L_le h
  unfold padN
  rw [List.length_append, List.length_replicate]
  show L x + _ = n
  omega
/-- a list whose lower part has the value x, and that is l above -/
def lowL (l : List Nat) (n x : Nat) : List Nat := padN n x ++ l.drop n
theorem lowL_eq {l m : List Nat} {n x : Nat} (hn : n ≤ l.length) (hl : m.length = l.length) (hD : Dig m) (hv : val (m.take n) = x) (ho : ∀ j, n ≤ j → m.getD j 0 = l.getD j 0) : m = lowL l n x := by
  have hx : x < 4294967296 ^ n := by
    rw [← hv]
    have := val_lt (dig_take hD n)
    rwa [List.length_take, Nat.min_eq_left (by omega)] at this
  unfold lowL
  rw [← List.take_append_drop n m]
  congr 1
  · refine val_inj (dig_take hD n) (padN_dig n x) ?_ ?_
    · rw [padN_len hx, List.length_take, Nat.min_eq_left (by omega)]
    · rw [hv, padN_val]
  · apply List.ext_getElem?
    intro i
    rw [List.getElem?_drop, List.getElem?_drop]
    have := ho (n + i) (by omega)
    rw [List.getD_eq_getElem?_getD, List.getD_eq_getElem?_getD] at this
    by_cases h : n + i < l.length
    · rw [List.getElem?_eq_getElem h, List.getElem?_eq_getElem (by omega)] at this ⊢
      simpa using this
    · rw [List.getElem?_eq_none (by omega), List.getElem?_eq_none (by omega)]
theorem lowL_len {l : List Nat} {n x : Nat} (hn : n ≤ l.length) (hx : x < 4294967296 ^ n) : (lowL l n x).length = l.length := by
  unfold lowL; rw [List.length_append, padN_len hx, List.length_drop]; omega
theorem lowL_dig {l : List Nat} {n x : Nat} (h : Dig l) : Dig (lowL l n x) := dig_append (padN_dig _ _) (dig_drop h _)
theorem lowL_take {l : List Nat} {n x : Nat} (hx : x < 4294967296 ^ n) : val ((lowL l n x).take n) = x := by
  unfold lowL
  rw [List.take_append_of_le_length (by rw [padN_len hx]; exact Nat.le_refl _), List.take_of_length_le (by rw [padN_len hx]; exact Nat.le_refl _), padN_val]

/-! ### the guess -/
/-- the dividend of a step: the lower k + n + 1 digits -/
def Xd (l : List Nat) (k n : Nat) : Nat := val (l.take (k + n + 1))
structure Kn (l : List Nat) (k : Nat) (V : Nat) : Prop where
  dig : Dig l
  two : 2 ≤ L V
  len : k + L V + 1 ≤ l.length
  top : 2147483648 ≤ (limbs V).getD (L V - 1) 0
  small : Xd l k (L V) < 4294967296 ^ k * V * 4294967296
def kq (l : List Nat) (k V : Nat) : Nat := Xd l k (L V) / (4294967296 ^ k * V)
theorem Kn.X {l k V} (h : Kn l k V) : Xd l k (L V) = val (l.take (k + L V - 2)) + 4294967296 ^ (k + L V - 2) * (l.getD (k + L V - 2) 0 + 4294967296 * (l.getD (k + L V - 1) 0 + 4294967296 * l.getD (k + L V) 0)) := by
  have h2 := h.two
  unfold Xd
  have e1 := take_succ_val l (k + L V)
  have e2 := take_succ_val l (k + L V - 1)
  have e3 := take_succ_val l (k + L V - 2)
  rw [show k + L V - 1 + 1 = k + L V by omega] at e2
  rw [show k + L V - 2 + 1 = k + L V - 1 by omega] at e3
  rw [e1, e2, e3]
  have p1 : 4294967296 ^ (k + L V - 1) = 4294967296 ^ (k + L V - 2) * 4294967296 := by rw [← Nat.pow_succ]; congr 1; omega
  have p2 : 4294967296 ^ (k + L V) = 4294967296 ^ (k + L V - 2) * 4294967296 * 4294967296 := by rw [← Nat.pow_succ, ← Nat.pow_succ]; congr 1; omega
  rw [p1, p2]
  generalize 4294967296 ^ (k + L V - 2) = P
  simp only [Nat.mul_add, Nat.mul_assoc, Nat.add_assoc]
theorem Kn.V {l k V} (h : Kn l k V) : 4294967296 ^ k * V = 4294967296 ^ k * val ((limbs V).take (L V - 2)) + 4294967296 ^ (k + L V - 2) * ((limbs V).getD (L V - 2) 0 + 4294967296 * (limbs V).getD (L V - 1) 0) := by
  have h2 := h.two
  have e2 := take_succ_val (limbs V) (L V - 1)
  have e3 := take_succ_val (limbs V) (L V - 2)
  rw [show L V - 1 + 1 = L V by omega, val_lim V (Nat.le_refl _)] at e2
  rw [show L V - 2 + 1 = L V - 1 by omega] at e3
  have p1 : 4294967296 ^ (L V - 1) = 4294967296 ^ (L V - 2) * 4294967296 := by rw [← Nat.pow_succ]; congr 1; omega
  have p2 : 4294967296 ^ (k + L V - 2) = 4294967296 ^ k * 4294967296 ^ (L V - 2) := by rw [← Nat.pow_add]; congr 1; omega
  rw [e3, p1] at e2
  rw [p2]
  generalize (limbs V).getD (L V - 1) 0 = a at *
  generalize (limbs V).getD (L V - 2) 0 = b at *
  generalize val ((limbs V).take (L V - 2)) = c at *
  generalize 4294967296 ^ (L V - 2) = P at *
  conv => lhs; rw [e2]
  simp only [Nat.mul_add, Nat.mul_assoc, Nat.add_assoc]
theorem Kn.W {l k V} (h : Kn l k V) : val (l.take (k + L V - 2)) < 4294967296 ^ (k + L V - 2) := by
  have h2 := h.two
  have h3 := h.len
  have := val_lt (dig_take h.dig (k + L V - 2))
  rwa [List.length_take, Nat.min_eq_left (by omega)] at this
theorem Kn.V2 {l k V} (h : Kn l k V) : 4294967296 ^ k * val ((limbs V).take (L V - 2)) < 4294967296 ^ (k + L V - 2) := by
  have h2 := h.two
  have := val_lt (dig_take (dig_limbs V) (L V - 2))
  rw [List.length_take, Nat.min_eq_left (show L V - 2 ≤ (limbs V).length from Nat.sub_le _ _)] at this
  rw [show k + L V - 2 = k + (L V - 2) by omega, Nat.pow_add]
  exact (Nat.mul_lt_mul_left (pow_B k)).2 this
/-- the highest digit of the dividend is at most that of the divisor -/
theorem Kn.u0 {l k V} (h : Kn l k V) : l.getD (k + L V) 0 ≤ (limbs V).getD (L V - 1) 0 := by
  have h1 := h.small
  rw [h.X, h.V] at h1
  have h2 := h.V2
  have h3 := dig_get (dig_limbs V) (L V - 2)
  generalize 4294967296 ^ k * val ((limbs V).take (L V - 2)) = c at *
  generalize val (l.take (k + L V - 2)) = w at *
  generalize (limbs V).getD (L V - 1) 0 = a at *
  generalize (limbs V).getD (L V - 2) 0 = b at *
  generalize l.getD (k + L V) 0 = d at *
  generalize l.getD (k + L V - 1) 0 = e at *
  generalize l.getD (k + L V - 2) 0 = f at *
  generalize 4294967296 ^ (k + L V - 2) = P at *
  have h4 : P * (f + 4294967296 * (e + 4294967296 * d)) < P * ((b + 4294967296 * a + 1) * 4294967296) := by
    have : P * ((b + 4294967296 * a + 1) * 4294967296) = (P + P * (b + 4294967296 * a)) * 4294967296 := by
      rw [← Nat.mul_assoc, Nat.mul_add P _ 1]; omega
    rw [this]
    omega
  have h5 := Nat.lt_of_mul_lt_mul_left h4
  omega
theorem Kn.qlt {l k V} (h : Kn l k V) : kq l k V < 4294967296 := kn_lt h.small

/-- at the head of the correction: guess g, rest r -/
def GIn (l : List Nat) (k V : Nat) (g r : Int) : Prop :=
  0 ≤ g ∧ 0 ≤ r ∧ r < 4294967296 ∧ g * gi (limbs V) (L V - 1) + r = gi l (k + L V) * 4294967296 + gi l (k + L V - 1) ∧ ((kq l k V : Nat) : Int) ≤ g ∧ g ≤ 4294967297
def GOut (l : List Nat) (k V : Nat) (g : Int) : Prop := 0 ≤ g ∧ g < 4294967296 ∧ ((kq l k V : Nat) : Int) ≤ g ∧ g ≤ (kq l k V : Nat) + 1
theorem gin_init {l k V} (h : Kn l k V) {t : Int} (ht : t = gi l (k + L V) * 4294967296 + gi l (k + L V - 1)) :
    GIn l k V (t / gi (limbs V) (L V - 1)) (t % gi (limbs V) (L V - 1)) := by
  have h1 := kn_first h.X h.W h.V (dig_get h.dig _) (by have := h.top; omega)
  have h2 := h.top
  have h3 := dig_get (dig_limbs V) (L V - 1)
  have h4 := h.u0
  have h5 := dig_get h.dig (k + L V - 1)
  unfold GIn kq
  rw [gi_eq, gi_eq] at ht
  rw [gi_eq, gi_eq, gi_eq]
  generalize (limbs V).getD (L V - 1) 0 = v at *
  generalize l.getD (k + L V) 0 = a at *
  generalize l.getD (k + L V - 1) 0 = b at *
  generalize Xd l k (L V) / (4294967296 ^ k * V) = q at *
  have ht' : t = ((b + 4294967296 * a : Nat) : Int) := by omega
  have hv : (0 : Int) < v := by omega
  have e1 := Int.emod_nonneg t (show (v : Int) ≠ 0 by omega)
  have e2 := Int.emod_lt_of_pos t hv
  have e3 := Int.mul_ediv_add_emod t v
  have e4 : 0 ≤ t / v := Int.ediv_nonneg (by omega) (by omega)
  refine ⟨e4, e1, by omega, by rw [Int.mul_comm]; omega, ?_, ?_⟩
  · rw [ht', ← Int.natCast_ediv]; omega
  · refine Decidable.byContradiction fun hn => ?_
    have : (4294967298 : Int) ≤ t / v := by omega
    have := (Int.le_ediv_iff_mul_le hv).1 this
    omega
theorem g_prod {g v : Int} (hg : 0 ≤ g ∧ g < 4294967296) (hv : 0 ≤ v ∧ v < 4294967296) : 0 ≤ g * v ∧ g * v ≤ 18446744065119617025 := by
  have h1 : 0 ≤ g * v := Int.mul_nonneg hg.1 hv.1
  have h2 : g * v ≤ 4294967295 * 4294967295 := Int.mul_le_mul (by omega) (by omega) hv.1 (by omega)
  omega
/-- too great a guess is lowered -/
theorem gin_down {l k V} (h : Kn l k V) {g r : Int} (hi : GIn l k V g r) (hc : 4294967296 ≤ g ∨ r * 4294967296 + gi l (k + L V - 2) < g * gi (limbs V) (L V - 2)) : ((kq l k V : Nat) : Int) ≤ g - 1 := by
  obtain ⟨h1, h2, h3, h4, h5, h6⟩ := hi
  rcases hc with hc | hc
  · have := h.qlt; omega
  · refine Decidable.byContradiction fun hn => ?_
    have hg : g = ((kq l k V : Nat) : Int) := by omega
    have hk := kn_key h.X h.W h.V
    rw [gi_eq, gi_eq] at hc
    rw [gi_eq, gi_eq, gi_eq] at h4
    subst hg
    unfold kq at *
    generalize (limbs V).getD (L V - 1) 0 = v at *
    generalize (limbs V).getD (L V - 2) 0 = v2 at *
    generalize l.getD (k + L V) 0 = a at *
    generalize l.getD (k + L V - 1) 0 = b at *
    generalize l.getD (k + L V - 2) 0 = c at *
    generalize Xd l k (L V) / (4294967296 ^ k * V) = q at *
    rw [← Int.natCast_mul] at hc h4
    generalize q * v2 = x at *
    generalize q * v = y at *
    omega
theorem gin_next {l k V} (h : Kn l k V) {g r : Int} (hi : GIn l k V g r) (hc : 4294967296 ≤ g ∨ r * 4294967296 + gi l (k + L V - 2) < g * gi (limbs V) (L V - 2)) (hr : r + gi (limbs V) (L V - 1) < 4294967296) :
    GIn l k V (g - 1) (r + gi (limbs V) (L V - 1)) := by
  have hd := gin_down h hi hc
  obtain ⟨h1, h2, h3, h4, h5, h6⟩ := hi
  have hv := gi_nonneg (limbs V) (L V - 1)
  refine ⟨by omega, by omega, hr, ?_, hd, by omega⟩
  rw [Int.sub_mul]; omega
theorem gout_of {l k V} (h : Kn l k V) {g : Int} (h0 : 0 ≤ g) (hg : g < 4294967296) (hq : ((kq l k V : Nat) : Int) ≤ g) (hk : g * gi (limbs V) (L V - 2) + 4294967296 * (g * gi (limbs V) (L V - 1)) ≤
    gi l (k + L V - 2) + 4294967296 * (gi l (k + L V) * 4294967296 + gi l (k + L V - 1))) : GOut l k V g := by
  refine ⟨h0, hg, hq, ?_⟩
  obtain ⟨g, rfl⟩ := Int.eq_ofNat_of_zero_le h0
  have := kn_last (g := g) h.X h.V h.V2 (by have := h.top; omega) (by omega) (by
    rw [gi_eq, gi_eq, gi_eq, gi_eq, gi_eq] at hk
    rw [← Int.natCast_mul, ← Int.natCast_mul] at hk
    omega)
  unfold kq
  omega
theorem gin_stop {l k V} (h : Kn l k V) {g r : Int} (hi : GIn l k V g r) (h1 : g < 4294967296) (h2 : g * gi (limbs V) (L V - 2) ≤ r * 4294967296 + gi l (k + L V - 2)) : GOut l k V g := by
  obtain ⟨g1, g2, g3, g4, g5, g6⟩ := hi
  exact gout_of h g1 h1 g5 (by omega)
theorem gin_break {l k V} (h : Kn l k V) {g r : Int} (hi : GIn l k V g r) (hc : 4294967296 ≤ g ∨ r * 4294967296 + gi l (k + L V - 2) < g * gi (limbs V) (L V - 2)) (hr : 4294967296 ≤ r + gi (limbs V) (L V - 1)) :
    GOut l k V (g - 1) := by
  have hd := gin_down h hi hc
  obtain ⟨g1, g2, g3, g4, g5, g6⟩ := hi
  have hv := gi_lt (dig_limbs V) (L V - 1)
  have hv0 := gi_nonneg (limbs V) (L V - 1)
  have hw := gi_lt (dig_limbs V) (L V - 2)
  have hw0 := gi_nonneg (limbs V) (L V - 2)
  have hb := gi_lt h.dig (k + L V - 1)
  have hc0 := gi_nonneg l (k + L V - 2)
  have hu : gi l (k + L V) ≤ gi (limbs V) (L V - 1) := by have := h.u0; rw [gi_eq, gi_eq]; omega
  have hv1 : 2147483648 ≤ gi (limbs V) (L V - 1) := by have := h.top; rw [gi_eq]; omega
  have hlt : g - 1 < 4294967296 := by
    refine Decidable.byContradiction fun hn => ?_
    have : 4294967296 * gi (limbs V) (L V - 1) ≤ (g - 1) * gi (limbs V) (L V - 1) := Int.mul_le_mul_of_nonneg_right (by omega) hv0
    rw [Int.sub_mul] at this
    omega
  have hp := g_prod (g := g - 1) (v := gi (limbs V) (L V - 2)) ⟨by omega, hlt⟩ ⟨hw0, hw⟩
  refine gout_of h (by omega) hlt hd ?_
  have : (g - 1) * gi (limbs V) (L V - 1) = g * gi (limbs V) (L V - 1) - gi (limbs V) (L V - 1) := by rw [Int.sub_mul]; omega
  omega

/-! ### the multiple is taken away -/
def MsIn (l : List Nat) (k V : Nat) (g : Int) (i c b : Int) (m : List Nat) : Prop :=
  0 ≤ i ∧ i ≤ L V ∧ 0 ≤ c ∧ c < 4294967296 ∧ 0 ≤ b ∧ b ≤ 1 ∧ m.length = l.length ∧ Dig m ∧ (∀ j, k + i.toNat ≤ j → m.getD j 0 = l.getD j 0) ∧
  val (m.take (k + i.toNat)) + 4294967296 ^ k * (g.toNat * val ((limbs V).take i.toNat)) = val (l.take (k + i.toNat)) + 4294967296 ^ (k + i.toNat) * (c.toNat + b.toNat)
theorem ms_init {l : List Nat} {k V : Nat} (g : Int) (h : Dig l) : MsIn l k V g 0 0 0 l := ⟨by omega, by omega, by omega, by omega, by omega, by omega, rfl, h, fun _ _ => rfl, by simp [val]⟩
theorem ms_next {l : List Nat} {k V : Nat} {g i c b s : Int} {m : List Nat} (h : MsIn l k V g i c b m) (hi : i < L V) (hlen : k + L V + 1 ≤ l.length) (hg : 0 ≤ g) (hs : s = c + g * gi (limbs V) i.toNat) (hsb : s / 4294967296 < 4294967296) :
    MsIn l k V g (i + 1) (s / 4294967296) (if gi m (k + i.toNat) < s % 4294967296 + b then 1 else 0) (m.set (k + i.toNat) ((gi m (k + i.toNat) - s % 4294967296 - b) % 4294967296).toNat) := by
  obtain ⟨h0, h1, h2, h3, h4, h5, h6, h7, h8, h9⟩ := h
  have hl := h8 (k + i.toNat) (Nat.le_refl _)
  have hy := dig_get h7 (k + i.toNat)
  have hx := gi_nonneg (limbs V) i.toNat
  have hb1 := take_succ_val (limbs V) i.toNat
  have hb2 := take_succ_val l (k + i.toNat)
  rw [gi_eq] at hs hx
  rw [gi_eq]
  rw [← hl] at hb2
  generalize (limbs V).getD i.toNat 0 = x at *
  generalize m.getD (k + i.toNat) 0 = y at *
  obtain ⟨g, rfl⟩ := Int.eq_ofNat_of_zero_le hg
  have hs0 : 0 ≤ s := by rw [hs]; have := Int.mul_nonneg hg hx; omega
  refine ⟨by omega, by omega, by omega, hsb, by split <;> omega, by split <;> omega, by simpa using h6, dig_set h7 (by omega) _, ?_, ?_⟩
  · intro j hj
    rw [set_getD_ne _ _ (by omega)]
    exact h8 j (by omega)
  · rw [show k + (i + 1).toNat = k + i.toNat + 1 by omega, set_val _ _ (by omega), hb2, show (i + 1).toNat = i.toNat + 1 by omega, hb1]
    simp only [Int.toNat_natCast] at h9 ⊢
    generalize hk : (if (y : Int) < s % 4294967296 + b then (1 : Int) else 0) = b'
    obtain ⟨c, rfl⟩ := Int.eq_ofNat_of_zero_le h2
    have hsN : s = ((c + g * x : Nat) : Int) := by rw [hs]; simp
    have e : (((y : Int) - s % 4294967296 - b) % 4294967296).toNat + c + b.toNat + g * x = y + 4294967296 * ((s / 4294967296).toNat + b'.toNat) := by
      generalize g * x = z at *
      subst hk; split <;> omega
    generalize (((y : Int) - s % 4294967296 - b) % 4294967296).toNat = d at *
    generalize (s / 4294967296).toNat = c' at *
    rw [Nat.pow_succ, Int.toNat_natCast] at *
    have e2 : 4294967296 ^ k * (g * (val ((limbs V).take i.toNat) + 4294967296 ^ i.toNat * x)) = 4294967296 ^ k * (g * val ((limbs V).take i.toNat)) + 4294967296 ^ (k + i.toNat) * (g * x) := by
      rw [Nat.pow_add, Nat.mul_add, Nat.mul_add, Nat.mul_left_comm g, Nat.mul_assoc]
    rw [e2]
    generalize 4294967296 ^ k * (g * val ((limbs V).take i.toNat)) = A at *
    generalize 4294967296 ^ (k + i.toNat) = P at *
    have e3 : P * d + P * (c + b.toNat) + P * (g * x) = P * y + P * 4294967296 * (c' + b'.toNat) := by
      rw [Nat.mul_assoc, ← Nat.mul_add, ← Nat.mul_add, ← Nat.mul_add]
      congr 1
      omega
    omega
theorem ms_end {l : List Nat} {k V : Nat} {g c b : Int} {m : List Nat} (h : MsIn l k V g (L V : Int) c b m) (hlen : k + L V + 1 ≤ l.length) :
    (m.set (k + L V) ((gi m (k + L V) - c - b) % 4294967296).toNat).length = l.length ∧ Dig (m.set (k + L V) ((gi m (k + L V) - c - b) % 4294967296).toNat) ∧
    (∀ j, k + L V + 1 ≤ j → (m.set (k + L V) ((gi m (k + L V) - c - b) % 4294967296).toNat).getD j 0 = l.getD j 0) ∧
    val ((m.set (k + L V) ((gi m (k + L V) - c - b) % 4294967296).toNat).take (k + L V + 1)) + g.toNat * (4294967296 ^ k * V) = Xd l k (L V) + 4294967296 ^ (k + L V + 1) * (if gi m (k + L V) < c + b then 1 else 0) := by
  obtain ⟨h0, h1, h2, h3, h4, h5, h6, h7, h8, h9⟩ := h
  rw [Int.toNat_natCast, val_lim V (Nat.le_refl _)] at h9
  rw [Int.toNat_natCast] at h8
  have hl := h8 (k + L V) (Nat.le_refl _)
  have hy := dig_get h7 (k + L V)
  have hb2 := take_succ_val l (k + L V)
  rw [← hl] at hb2
  unfold Xd
  rw [gi_eq, hb2]
  refine ⟨by simpa using h6, dig_set h7 (by omega) _, fun j hj => ?_, ?_⟩
  · rw [set_getD_ne _ _ (by omega)]; exact h8 j (by omega)
  rw [set_val _ _ (by omega)]
  generalize m.getD (k + L V) 0 = y at *
  have e : (((y : Int) - c - b) % 4294967296).toNat + (c.toNat + b.toNat) = y + 4294967296 * (if (y : Int) < c + b then 1 else 0) := by split <;> omega
  generalize (((y : Int) - c - b) % 4294967296).toNat = d at *
  generalize (if (y : Int) < c + b then 1 else 0) = z at *
  rw [Nat.pow_succ, Nat.mul_left_comm g.toNat]
  generalize 4294967296 ^ (k + L V) = P at *
  generalize 4294967296 ^ k * (g.toNat * V) = A at *
  have e3 : P * d + P * (c.toNat + b.toNat) = P * y + P * 4294967296 * z := by
    rw [Nat.mul_assoc, ← Nat.mul_add, ← Nat.mul_add, e]
  omega

/-! ### one multiple is given back -/
def AbIn (m0 : List Nat) (k V : Nat) (i a : Int) (m : List Nat) : Prop :=
  0 ≤ i ∧ i ≤ L V ∧ 0 ≤ a ∧ a ≤ 1 ∧ m.length = m0.length ∧ Dig m ∧ (∀ j, k + i.toNat ≤ j → m.getD j 0 = m0.getD j 0) ∧
  val (m.take (k + i.toNat)) + 4294967296 ^ (k + i.toNat) * a.toNat = val (m0.take (k + i.toNat)) + 4294967296 ^ k * val ((limbs V).take i.toNat)
theorem ab_init {m0 : List Nat} {k V : Nat} (h : Dig m0) : AbIn m0 k V 0 0 m0 := ⟨by omega, by omega, by omega, by omega, rfl, h, fun _ _ => rfl, by simp [val]⟩
theorem ab_next {m0 : List Nat} {k V : Nat} {i a s : Int} {m : List Nat} (h : AbIn m0 k V i a m) (hi : i < L V) (hlen : k + L V + 1 ≤ m0.length) (hs : s = gi m (k + i.toNat) + gi (limbs V) i.toNat + a) :
    AbIn m0 k V (i + 1) (s / 4294967296) (m.set (k + i.toNat) (s % 4294967296).toNat) := by
  obtain ⟨h0, h1, h2, h3, h4, h5, h6, h7⟩ := h
  have hl := h6 (k + i.toNat) (Nat.le_refl _)
  have hy := dig_get h5 (k + i.toNat)
  have hx := dig_get (dig_limbs V) i.toNat
  have hb1 := take_succ_val (limbs V) i.toNat
  have hb2 := take_succ_val m0 (k + i.toNat)
  rw [gi_eq, gi_eq] at hs
  rw [← hl] at hb2
  generalize (limbs V).getD i.toNat 0 = x at *
  generalize m.getD (k + i.toNat) 0 = y at *
  refine ⟨by omega, by omega, by omega, by omega, by simpa using h4, dig_set h5 (by omega) _, ?_, ?_⟩
  · intro j hj
    rw [set_getD_ne _ _ (by omega)]
    exact h6 j (by omega)
  · rw [show k + (i + 1).toNat = k + i.toNat + 1 by omega, set_val _ _ (by omega), hb2, show (i + 1).toNat = i.toNat + 1 by omega, hb1]
    have e : (s % 4294967296).toNat + 4294967296 * (s / 4294967296).toNat = y + x + a.toNat := by omega
    generalize (s % 4294967296).toNat = d at *
    generalize (s / 4294967296).toNat = c' at *
    rw [Nat.pow_succ]
    have e2 : 4294967296 ^ k * (val ((limbs V).take i.toNat) + 4294967296 ^ i.toNat * x) = 4294967296 ^ k * val ((limbs V).take i.toNat) + 4294967296 ^ (k + i.toNat) * x := by
      rw [Nat.pow_add, Nat.mul_add, Nat.mul_assoc]
    rw [e2]
    generalize 4294967296 ^ k * val ((limbs V).take i.toNat) = A at *
    generalize 4294967296 ^ (k + i.toNat) = P at *
    have e3 : P * d + P * 4294967296 * c' = P * y + P * x + P * a.toNat := by
      rw [Nat.mul_assoc, ← Nat.mul_add, ← Nat.mul_add, ← Nat.mul_add, e]
    omega
/-- no borrow: the guess was right -/
theorem kn_right {l : List Nat} {k V : Nat} {g : Int} {m : List Nat} (h : Kn l k V) (hg : GOut l k V g) (hm : m.length = l.length) (hD : Dig m) (ho : ∀ j, k + L V + 1 ≤ j → m.getD j 0 = l.getD j 0)
    (hv : val (m.take (k + L V + 1)) + g.toNat * (4294967296 ^ k * V) = Xd l k (L V)) : g = ((kq l k V : Nat) : Int) ∧ m = lowL l (k + L V + 1) (Xd l k (L V) % (4294967296 ^ k * V)) := by
  obtain ⟨g0, g1, g2, g3⟩ := hg
  have hpos : 0 < 4294967296 ^ k * V := by
    refine Nat.mul_pos (pow_B k) ?_
    rcases Nat.eq_zero_or_pos V with q | q
    · have := h.two; rw [q, L_zero] at this; omega
    · exact q
  have h1 : g.toNat ≤ kq l k V := by unfold kq; rw [Nat.le_div_iff_mul_le hpos]; omega
  have h2 : g.toNat = kq l k V := by omega
  refine ⟨by omega, lowL_eq h.len hm hD ?_ ho⟩
  have h3 := Nat.div_add_mod (Xd l k (L V)) (4294967296 ^ k * V)
  rw [h2] at hv
  unfold kq at hv
  rw [Nat.mul_comm] at hv
  omega
theorem kn_dig {y : Nat} {a : Int} (hy : y < 4294967296) (a0 : 0 ≤ a) (a1 : a ≤ 1) : ∃ z, z ≤ 1 ∧ (((y : Int) + a) % 4294967296).toNat + 4294967296 * z = y + a.toNat := ⟨(((y : Int) + a) / 4294967296).toNat, by omega, by omega⟩
theorem kn_fin {X D P W W0 q y aN d R : Nat} (h1 : W0 + P * y + (q + 1) * D = X + P * 4294967296) (h2 : W + P * aN = W0 + D) (h3 : ∃ z, z ≤ 1 ∧ d + 4294967296 * z = y + aN)
    (h5 : D * q + R = X) (h6 : R < D) (h7 : D < P) (h4 : W + P * d < P * 4294967296) : W + P * d = R := by
  obtain ⟨z, hz, h3⟩ := h3
  have e3 : P * d + P * (4294967296 * z) = P * y + P * aN := by rw [← Nat.mul_add, ← Nat.mul_add, h3]
  have e4 : (q + 1) * D = D * q + D := by rw [Nat.add_mul, Nat.one_mul, Nat.mul_comm]
  rcases (show z = 0 ∨ z = 1 by omega) with rfl | rfl
  · simp only [Nat.mul_zero, Nat.add_zero] at e3; omega
  · simp only [Nat.mul_one] at e3; omega
theorem kn_less {l : List Nat} {k V : Nat} {g : Int} {m0 : List Nat} (h : Kn l k V) (hg : GOut l k V g) (hm : m0.length = l.length) (hD : Dig m0)
    (hv : val (m0.take (k + L V + 1)) + g.toNat * (4294967296 ^ k * V) = Xd l k (L V) + 4294967296 ^ (k + L V + 1)) : ((kq l k V : Nat) : Int) < g := by
  obtain ⟨g0, g1, g2, g3⟩ := hg
  have hlen := h.len
  have hpos : 0 < 4294967296 ^ k * V := by
    refine Nat.mul_pos (pow_B k) ?_
    rcases Nat.eq_zero_or_pos V with q | q
    · have := h.two; rw [q, L_zero] at this; omega
    · exact q
  have hlt := val_lt (dig_take hD (k + L V + 1))
  rw [List.length_take, Nat.min_eq_left (by omega)] at hlt
  have h1 : kq l k V < g.toNat := by
    unfold kq
    rw [Nat.div_lt_iff_lt_mul hpos]
    generalize 4294967296 ^ (k + L V + 1) = PB at *
    generalize g.toNat * (4294967296 ^ k * V) = gD at *
    omega
  clear hv hlt
  omega
/-- a borrow: the guess was one too great; the sum with the divisor, without the carry, is the remainder -/
theorem kn_back {l : List Nat} {k V : Nat} {g a : Int} {m0 m : List Nat} (h : Kn l k V) (hg : GOut l k V g) (hm : m0.length = l.length) (hD : Dig m0) (ho : ∀ j, k + L V + 1 ≤ j → m0.getD j 0 = l.getD j 0)
    (hv : val (m0.take (k + L V + 1)) + g.toNat * (4294967296 ^ k * V) = Xd l k (L V) + 4294967296 ^ (k + L V + 1)) (ha : AbIn m0 k V (L V : Int) a m) :
    g - 1 = ((kq l k V : Nat) : Int) ∧ m.set (k + L V) ((gi m (k + L V) + a) % 4294967296).toNat = lowL l (k + L V + 1) (Xd l k (L V) % (4294967296 ^ k * V)) := by
  obtain ⟨g0, g1, g2, g3⟩ := hg
  obtain ⟨a0, a1, a2, a3, a4, a5, a6, a7⟩ := ha
  rw [Int.toNat_natCast, val_lim V (Nat.le_refl _)] at a7
  rw [Int.toNat_natCast] at a6
  have hlen := h.len
  have hpos : 0 < 4294967296 ^ k * V := by
    refine Nat.mul_pos (pow_B k) ?_
    rcases Nat.eq_zero_or_pos V with q | q
    · have := h.two; rw [q, L_zero] at this; omega
    · exact q
  have hlt := val_lt (dig_take hD (k + L V + 1))
  rw [List.length_take, Nat.min_eq_left (by omega)] at hlt
  have h1 : kq l k V < g.toNat := by
    unfold kq
    rw [Nat.div_lt_iff_lt_mul hpos]
    clear a7
    generalize 4294967296 ^ (k + L V + 1) = PB at *
    generalize g.toNat * (4294967296 ^ k * V) = gD at *
    omega
  have h2 : g.toNat = kq l k V + 1 := by clear hv hlt a7; omega
  have hl := a6 (k + L V) (Nat.le_refl _)
  have hb := take_succ_val m0 (k + L V)
  have hy := dig_get a5 (k + L V)
  have hDm : Dig (m.set (k + L V) ((gi m (k + L V) + a) % 4294967296).toNat) := dig_set a5 (by omega) _
  have hset : k + L V < m.length := by rw [a4, hm]; exact hlen
  have hlm : (m.set (k + L V) ((gi m (k + L V) + a) % 4294967296).toNat).length = l.length := by rw [List.length_set, a4, hm]
  refine ⟨by clear hv hlt a7; omega, lowL_eq h.len hlm hDm ?_ ?_⟩
  · have hlt2 := val_lt (dig_take hDm (k + L V + 1))
    rw [List.length_take, Nat.min_eq_left (by rw [hlm]; exact hlen)] at hlt2
    rw [set_val _ _ hset] at hlt2 ⊢
    have hVl : 4294967296 ^ k * V < 4294967296 ^ (k + L V) := by rw [Nat.pow_add]; exact (Nat.mul_lt_mul_left (pow_B k)).2 (L_lt V)
    rw [hb, hl.symm, h2] at hv
    have h3 := Nat.div_add_mod (Xd l k (L V)) (4294967296 ^ k * V)
    have h4 := Nat.mod_lt (Xd l k (L V)) hpos
    rw [gi_eq] at hlt2 ⊢
    rw [Nat.pow_succ] at hv hlt2
    exact kn_fin hv a7 (kn_dig hy a2 a3) h3 h4 hVl hlt2
  · intro j hj
    rw [set_getD_ne _ _ (by omega), a6 j (by omega)]
    exact ho j hj
/-! ### for the walk -/
theorem U_split {l : List Nat} {x : Nat} (h : Dig l) (hv : val l = x) : ∃ rest, U l = lim x ++ rest := by
  subst hv
  refine ⟨U (l.drop (limbs (val l)).length), ?_⟩
  have h1 := take_limbs h
  unfold lim
  rw [U_append]
  congr 1
  conv => lhs; rw [← List.take_append_drop (limbs (val l)).length l]
  rw [h1]
theorem wOr_q {r x : Int} (hr : 0 ≤ r ∧ r < 4294967296) (hx : 0 ≤ x ∧ x < 4294967296) : wOr .u64 (r * 2 ^ 32) x = r * 4294967296 + x := by
  obtain ⟨n, rfl⟩ := Int.eq_ofNat_of_zero_le hx.1
  exact wOr_lo hr (by omega)
theorem gi_b {l : List Nat} (h : Dig l) (i : Nat) : 0 ≤ gi l i ∧ gi l i < 4294967296 := ⟨gi_nonneg l i, gi_lt h i⟩
theorem tdiv_pos' {a b : Int} (h : 0 ≤ a) : Int.tdiv a b = a / b := Int.tdiv_eq_ediv_of_nonneg h
theorem wRem_pos {a b : Int} (h : 0 ≤ a) : wRem a b = a % b := Int.tmod_eq_emod_of_nonneg h
theorem bitLen_le {x : Nat} (h : x < 4294967296) : Lib.bitLen x ≤ 32 := by
  rw [bitLen_eq h]
  rcases Nat.eq_zero_or_pos x with h0 | h0
  · rw [h0]; decide
  · refine Decidable.byContradiction fun hn => ?_
    have h1 := nbits_le (show x ≠ 0 by omega)
    have : 2 ^ 32 ≤ 2 ^ (nbits x - 1) := Nat.pow_le_pow_right (by omega) (by omega)
    omega
theorem kn_norm {b s : Nat} (hb : b ≠ 0) (hs : nbits b + s = 32 * L b) : L (b * 2 ^ s) = L b ∧ 2147483648 ≤ (limbs (b * 2 ^ s)).getD (L b - 1) 0 := by
  have h1 := nbits_le hb
  have h2 := nbits_lt b
  have h3 := nbits_pos hb
  have h4 := L_pos hb
  have hB : ∀ k, 4294967296 ^ k = 2 ^ (32 * k) := fun k => by rw [Nat.pow_mul]
  have u : b * 2 ^ s < 4294967296 ^ L b := by
    rw [hB, ← hs, Nat.pow_add]; exact (Nat.mul_lt_mul_right (Nat.pow_pos (by omega))).2 h2
  have d : 2 ^ (32 * L b - 1) ≤ b * 2 ^ s := by
    rw [show 32 * L b - 1 = (nbits b - 1) + s by omega, Nat.pow_add]
    exact Nat.mul_le_mul_right _ h1
  have hl := L_le u
  have hg : L b ≤ L (b * 2 ^ s) := L_mono (by have := Nat.mul_le_mul_left b (Nat.pow_pos (n := s) (show 0 < 2 by omega)); omega)
  have he : L (b * 2 ^ s) = L b := by omega
  refine ⟨he, ?_⟩
  refine Decidable.byContradiction fun hn => ?_
  have e1 := take_succ_val (limbs (b * 2 ^ s)) (L b - 1)
  rw [show L b - 1 + 1 = L b by omega, val_lim _ hl] at e1
  have e2 := val_lt (dig_take (dig_limbs (b * 2 ^ s)) (L b - 1))
  rw [List.length_take, Nat.min_eq_left (show L b - 1 ≤ (limbs (b * 2 ^ s)).length by show L b - 1 ≤ L (b * 2 ^ s); omega)] at e2
  have e3 : 2 ^ (32 * L b - 1) = 4294967296 ^ (L b - 1) * 2147483648 := by
    rw [hB, show (2147483648 : Nat) = 2 ^ 31 by decide, ← Nat.pow_add]; congr 1; omega
  rw [e3] at d
  have e4 : 4294967296 ^ (L b - 1) * ((limbs (b * 2 ^ s)).getD (L b - 1) 0 + 1) ≤ 4294967296 ^ (L b - 1) * 2147483648 := Nat.mul_le_mul_left _ (by omega)
  rw [Nat.mul_add, Nat.mul_one] at e4
  omega
/-! ### the division's loop: A by V, step k is next -/
def DvIn (A V m : Nat) (k : Int) (lu lq : List Nat) : Prop :=
  -1 ≤ k ∧ k < m ∧ lu.length = m + L V ∧ Dig lu ∧ lq.length = m ∧ Dig lq ∧ val (lu.take ((k + 1).toNat + L V)) = A % (4294967296 ^ (k + 1).toNat * V) ∧ val (lq.drop (k + 1).toNat) = A / (4294967296 ^ (k + 1).toNat * V)
theorem dv_kn {A V m : Nat} {k : Int} {lu lq : List Nat} (h : DvIn A V m k lu lq) (hk : 0 ≤ k) (hV : 2 ≤ L V) (ht : 2147483648 ≤ (limbs V).getD (L V - 1) 0) : Kn lu k.toNat V := by
  obtain ⟨h0, h1, h2, h3, h4, h5, h6, h7⟩ := h
  refine ⟨h3, hV, by omega, ht, ?_⟩
  unfold Xd
  have e : (k + 1).toNat + L V = k.toNat + L V + 1 := by omega
  rw [e] at h6
  rw [h6, show (k + 1).toNat = k.toNat + 1 by omega, Nat.pow_succ, Nat.mul_right_comm]
  refine Nat.mod_lt _ (Nat.mul_pos (Nat.mul_pos (pow_B _) ?_) (by omega))
  rcases Nat.eq_zero_or_pos V with q | q
  · rw [q, L_zero] at hV; omega
  · exact q
theorem take_low {l : List Nat} {n : Nat} (h : val (l.take (n + 1)) < 4294967296 ^ n) : val (l.take n) = val (l.take (n + 1)) := by
  rw [take_succ_val] at h ⊢
  have : l.getD n 0 = 0 := by
    refine Decidable.byContradiction fun q => ?_
    have : 4294967296 ^ n * 1 ≤ 4294967296 ^ n * l.getD n 0 := Nat.mul_le_mul_left _ (by omega)
    omega
  rw [this]; omega
theorem dv_next {A V m : Nat} {k : Int} {lu lq : List Nat} (h : DvIn A V m k lu lq) (hk : 0 ≤ k) (hV : 2 ≤ L V) (ht : 2147483648 ≤ (limbs V).getD (L V - 1) 0) :
    DvIn A V m (k - 1) (lowL lu (k.toNat + L V + 1) (Xd lu k.toNat (L V) % (4294967296 ^ k.toNat * V))) (lq.set k.toNat (kq lu k.toNat V)) := by
  have hkn := dv_kn h hk hV ht
  have hq := hkn.qlt
  obtain ⟨h0, h1, h2, h3, h4, h5, h6, h7⟩ := h
  have e : (k + 1).toNat + L V = k.toNat + L V + 1 := by omega
  have e1 : (k + 1).toNat = k.toNat + 1 := by omega
  have hX : Xd lu k.toNat (L V) = A % (4294967296 ^ k.toNat * 4294967296 * V) := by unfold Xd; rw [← e, h6, e1, Nat.pow_succ]
  have hV0 : 0 < V := by
    rcases Nat.eq_zero_or_pos V with q | q
    · rw [q, L_zero] at hV; omega
    · exact q
  have hD : 0 < 4294967296 ^ k.toNat * V := Nat.mul_pos (pow_B _) hV0
  have hdv : 4294967296 ^ k.toNat * 4294967296 * V = 4294967296 ^ k.toNat * V * 4294967296 := Nat.mul_right_comm _ _ _
  have hmod : Xd lu k.toNat (L V) % (4294967296 ^ k.toNat * V) = A % (4294967296 ^ k.toNat * V) := by
    rw [hX, hdv]; exact Nat.mod_mod_of_dvd _ (Nat.dvd_mul_right _ _)
  have hlt := Nat.mod_lt A hD
  have hlt2 : 4294967296 ^ k.toNat * V < 4294967296 ^ (k.toNat + L V) := by rw [Nat.pow_add]; exact (Nat.mul_lt_mul_left (pow_B _)).2 (L_lt V)
  have hlt3 : A % (4294967296 ^ k.toNat * V) < 4294967296 ^ (k.toNat + L V) := Nat.lt_trans hlt hlt2
  have hlt4 : A % (4294967296 ^ k.toNat * V) < 4294967296 ^ (k.toNat + L V + 1) := Nat.lt_of_lt_of_le hlt3 (Nat.pow_le_pow_right (by omega) (by omega))
  rw [hmod]
  refine ⟨by omega, by omega, by rw [lowL_len hkn.len hlt4]; exact h2, lowL_dig h3, by simpa using h4, dig_set h5 hq _, ?_, ?_⟩
  · rw [show (k - 1 + 1).toNat = k.toNat by omega]
    have := lowL_take (l := lu) hlt4
    rw [take_low (by rw [this]; exact hlt3), this]
  · rw [show (k - 1 + 1).toNat = k.toNat by omega]
    have hkl : k.toNat < lq.length := by omega
    have e2 : (lq.set k.toNat (kq lu k.toNat V)).drop k.toNat = kq lu k.toNat V :: lq.drop (k.toNat + 1) := by
      rw [List.drop_eq_getElem_cons (by simpa using hkl), List.drop_set_of_lt (by omega)]
      simp
    rw [e2, val]
    rw [e1] at h7
    rw [h7]
    unfold kq
    rw [hX, Nat.pow_succ, hdv]
    have e3 := Nat.div_add_mod A (4294967296 ^ k.toNat * V * 4294967296)
    generalize 4294967296 ^ k.toNat * V = D at *
    conv => rhs; rw [← e3, Nat.mul_assoc, Nat.mul_add_div hD]
    omega
theorem dv_init {A V m : Nat} (hA : A < 4294967296 ^ m * V) (hl : L A + 1 = m + L V) : DvIn A V m ((m : Int) - 1) (limbs A ++ [0]) (List.replicate m 0) := by
  refine ⟨by omega, by omega, by rw [List.length_append]; exact hl, dig_append (dig_limbs A) (fun d hd => by simp at hd; omega), by simp, dig_rep _, ?_, ?_⟩
  · rw [show ((m : Int) - 1 + 1).toNat = m by omega, Nat.mod_eq_of_lt hA, val_all _ (by rw [List.length_append]; show L A + 1 ≤ _; omega), val_append, val_limbs]
    simp [val]
  · rw [show ((m : Int) - 1 + 1).toNat = m by omega, Nat.div_eq_of_lt hA, List.drop_of_length_le (by simp)]
    rfl
theorem dv_end {A V m : Nat} {lu lq : List Nat} (h : DvIn A V m (-1) lu lq) : lu.length = m + L V ∧ Dig lu ∧ lq.length = m ∧ Dig lq ∧ val (lu.take (L V)) = A % V ∧ val lq = A / V := by
  obtain ⟨h0, h1, h2, h3, h4, h5, h6, h7⟩ := h
  simp only [show ((-1 : Int) + 1).toNat = 0 by decide, Nat.zero_add, Nat.pow_zero, Nat.one_mul, List.drop_zero] at h6 h7
  exact ⟨h2, h3, h4, h5, h6, h7⟩
theorem kn_low {l : List Nat} {k V : Nat} (h : Kn l k V) : Xd l k (L V) % (4294967296 ^ k * V) < 4294967296 ^ (k + L V + 1) := by
  have hpos : 0 < 4294967296 ^ k * V := by
    refine Nat.mul_pos (pow_B k) ?_
    rcases Nat.eq_zero_or_pos V with q | q
    · have := h.two; rw [q, L_zero] at this; omega
    · exact q
  have h1 := Nat.mod_lt (Xd l k (L V)) hpos
  have h2 : 4294967296 ^ k * V < 4294967296 ^ (k + L V) := by rw [Nat.pow_add]; exact (Nat.mul_lt_mul_left (pow_B _)).2 (L_lt V)
  exact Nat.lt_of_lt_of_le (Nat.lt_trans h1 h2) (Nat.pow_le_pow_right (by omega) (by omega))
theorem tkU2 {l : List Nat} {n m : Nat} (h : n = m) : List.take n (List.drop 0 (U l)) = U (l.take m) := by rw [h, List.drop_zero, U_take]
theorem dv_fit {A V : Nat} (h : V ≤ A) (hV : V ≠ 0) : A < 4294967296 ^ (L A + 1 - L V) * V ∧ L A + 1 = (L A + 1 - L V) + L V := by
  have h1 := L_mono h
  have h2 := L_low hV
  have h3 := L_pos hV
  have h4 := L_lt A
  refine ⟨?_, by omega⟩
  have h5 : 4294967296 ^ L A = 4294967296 ^ (L A + 1 - L V) * 4294967296 ^ (L V - 1) := by rw [← Nat.pow_add]; congr 1; omega
  have h6 : 4294967296 ^ (L A + 1 - L V) * 4294967296 ^ (L V - 1) ≤ 4294967296 ^ (L A + 1 - L V) * V := Nat.mul_le_mul_left _ h2
  rw [← h5] at h6
  exact Nat.lt_of_lt_of_le h4 h6
theorem gi_one {b : Nat} (h : L b = 1) : gi (limbs b) 0 = (b : Int) := by
  have h1 := take_succ_val (limbs b) 0
  rw [val_lim b (by omega)] at h1
  rw [gi_eq]
  simp [val] at h1
  rw [List.getD_eq_getElem?_getD]
  omega
theorem cmpN_or (a b : Nat) : (cmpN a b = -1 ∧ a < b) ∨ (0 ≤ cmpN a b ∧ b ≤ a) := by
  unfold cmpN
  by_cases h : a < b
  · exact .inl ⟨if_pos h, h⟩
  · rw [if_neg h]; exact .inr ⟨by split <;> omega, by omega⟩
theorem shl_div (a b s : Nat) : a * 2 ^ s / (b * 2 ^ s) = a / b := Nat.mul_div_mul_right _ _ (Nat.pow_pos (by omega))
theorem shl_mod (a b s : Nat) : a * 2 ^ s % (b * 2 ^ s) / 2 ^ s = a % b := by rw [Nat.mul_mod_mul_right, Nat.mul_div_cancel _ (Nat.pow_pos (by omega))]
theorem or_mk2 {l n : Int} (h : l = 0 ∨ l < n) : (iEq l 0 || iLt l n) = true := by
  rcases h with h | h
  · rw [iEq_mk h]; rfl
  · rw [iLt_mk h]; simp
end Go.Proofs.YtmbpoibhamlkbaaGreatDoor

namespace Go.Proofs.YtmbpoibhamlkbaaGreatDoor
open Go.RowKit
set_option maxRecDepth 100000

theorem bits_Add32 (x : Int) (y : Int) (b : Int) (c0 : 0 ≤ x ∧ x < 4294967296) (c1 : 0 ≤ y ∧ y < 4294967296) (c2 : 0 ≤ b ∧ b ≤ 1) : Impl Tryz.prog Amb 226 [(.int .u32 x), (.int .u32 y), (.int .u32 b)] (.tup [(.int .u32 ((x + y + b) % 4294967296)), (.int .u32 ((x + y + b) / 4294967296))]) := by
  have e0 := wrap_u32 (x + y + b)
  have e1 := fdiv_B (x + y + b)
  exact impl_ob hP hAmb Tryz.func226 (by kernel_rfl) (.lit <| .yes <| .lit <| .yes <| .lit <| .yes <| .lit <| .yes <| .lit <| .yes <| .lit <| .no <| .lits 2 <| .no <| .lit <| .ret)
    (cast_ob (And.intro True.intro (And.intro (fits_u64 (by first | omega | (simp <;> omega)) : (fits .u64 x) = true) (And.intro (fits_u64 (by first | omega | (simp <;> omega)) : (fits .u64 y) = true) (And.intro (fits_u64 (by first | omega | (simp <;> omega)) : (fits .u64 (x + y)) = true) (And.intro (fits_u64 (by first | omega | (simp <;> omega)) : (fits .u64 b) = true) (And.intro (fits_u64 (by first | omega | (simp <;> omega)) : (fits .u64 ((x + y) + b)) = true) ((by rw [wrap_u32, fdiv_B, wrap_u32, Int.emod_eq_of_lt (show 0 ≤ (x + y + b) / 4294967296 by omega) (by omega)]; exact vsub_refl _ : vsub (.tup [(.int .u32 (IntKind.wrap .u32 ((x + y) + b))), (.int .u32 (IntKind.wrap .u32 (Int.fdiv ((x + y) + b) (2 ^ 32))))]) (.tup [(.int .u32 ((x + y + b) % 4294967296)), (.int .u32 ((x + y + b) / 4294967296))]))))))))) (by kernel_rfl))

theorem bits_LZ32 (x : Int) (c0 : 0 ≤ x ∧ x < 4294967296) : Impl Tryz.prog Amb 212 [(.int .u32 x)] (.int .i64 (32 - (Lib.bitLen (x).toNat : Int))) := by
  have b0 := bitLen_le (show x.toNat < 4294967296 by omega)
  exact impl_ob hP hAmb Tryz.func212 (by kernel_rfl) (.lit <| .call (.int .i64 (Lib.bitLen (x).toNat : Int)) <| .lit <| .yes <| .lit <| .ret)
    (cast_ob (And.intro True.intro (And.intro (len32 x (by first | omega | (simp <;> omega))) (And.intro (fits_i64 (by first | omega | (simp <;> omega)) : (fits .i64 ((32 : Int) - (Lib.bitLen (x).toNat : Int))) = true) ((vsub_of (by first | rfl | simp_all) : vsub (.int .i64 ((32 : Int) - (Lib.bitLen (x).toNat : Int))) (.int .i64 (32 - (Lib.bitLen (x).toNat : Int)))))))) (by kernel_rfl))

theorem nat_ShlO (a : Nat) (n : Int) (c0 : L a ≤ 67108864) (c1 : (0 : Int) ≤ n ∧ n ≤ 1048576) (c2 : a ≠ 0) : ImplO Tryz.prog Amb 148 [(N a), (.int .i64 n)] 1 (L (a * 2 ^ (n).toNat)) (lim (a * 2 ^ (n).toNat)) := by
  have e0 := L_len a
  have e3 : (List.take (((L a : Int) - 0).toNat) (List.drop 0 (lim a))).length = L a := by rw [cut_self, L_len]
  have t0 := tdiv32 c1.1
  have t1 := wRem32 c1.1
  have p0 := L_pos c2
  exact implO_ob hP hAmb Tryz.func148 (by kernel_rfl) (U_prim _) (.lit <| .call (.int .i64 n) <| .lit <| .call (.int .i64 (L a : Int)) <| .yes <| .lit <| .no <| .lit <| .yes <| .lits 2 <| .yes <| .lit <| .yes <| .lit <| .yes <| .yes <| .loop ⟨[5, 6, 7, 31, 32, 33], 1, []⟩ ((nat_Shl_0_mk a n (0, (List.take (((L a : Int) - 0).toNat) (List.drop 0 (lim a))), (List.replicate (((((List.take (((L a : Int) - 0).toNat) (List.drop 0 (lim a))).length : Int) + (Int.tdiv n (32 : Int))) + 1).toNat) (.int .u32 0)), (List.replicate (L a + n.toNat / 32 + 1) 0)))) (List Nat) (nat_Shl_0_ex a n) (nat_Shl_0_J a n) (fun y => .yes <| .call (.int .i64 ((limbs (val y)).length : Int)) <| .yes <| .fin2 ⟨[4], 1, []⟩))
    (cast_ob (And.intro True.intro (And.intro (nat_places n (by first | omega | (simp <;> omega))) (And.intro (nat_sizeN a (by first | omega | (simp <;> omega))) (And.intro (and_mk (and_mk (rfl) (iLe_mk (by first | omega | (simp <;> omega)))) (iLe_mk (by first | omega | (simp <;> omega))) : ((true && (iLe (0 : Int) (L a : Int))) && (iLe (L a : Int) ((lim a).length : Int))) = true) (And.intro (iEq_mkF (by omega) : (iEq ((List.take (((L a : Int) - 0).toNat) (List.drop 0 (lim a))).length : Int) 0) = false) (And.intro (fits_i64 (by first | omega | (simp <;> omega)) : (fits .i64 (Int.tdiv n (32 : Int))) = true) (And.intro (fits_u64 (by first | omega | (simp <;> omega)) : (fits .u64 (wRem n (32 : Int))) = true) (And.intro (fits_i64 (by first | omega | (simp <;> omega)) : (fits .i64 (((List.take (((L a : Int) - 0).toNat) (List.drop 0 (lim a))).length : Int) + (Int.tdiv n (32 : Int)))) = true) (And.intro (fits_i64 (by first | omega | (simp <;> omega)) : (fits .i64 ((((List.take (((L a : Int) - 0).toNat) (List.drop 0 (lim a))).length : Int) + (Int.tdiv n (32 : Int))) + 1)) = true) (And.intro (mk_ok (by first | omega | (simp <;> omega)) : (((iEq ((((List.take (((L a : Int) - 0).toNat) (List.drop 0 (lim a))).length : Int) + (Int.tdiv n (32 : Int))) + 1) ((((List.take (((L a : Int) - 0).toNat) (List.drop 0 (lim a))).length : Int) + (Int.tdiv n (32 : Int))) + 1)) && (iLe 0 ((((List.take (((L a : Int) - 0).toNat) (List.drop 0 (lim a))).length : Int) + (Int.tdiv n (32 : Int))) + 1))) && (iLe ((((List.take (((L a : Int) - 0).toNat) (List.drop 0 (lim a))).length : Int) + (Int.tdiv n (32 : Int))) + 1) 1073741824)) = true) (And.intro (rfl : true = true) (And.intro (rfl : (nat_Shl_0_mk a n (0, (List.take (((L a : Int) - 0).toNat) (List.drop 0 (lim a))), (List.replicate (((((List.take (((L a : Int) - 0).toNat) (List.drop 0 (lim a))).length : Int) + (Int.tdiv n (32 : Int))) + 1).toNat) (.int .u32 0)), (List.replicate (L a + n.toNat / 32 + 1) 0))) = (nat_Shl_0_mk a n (0, (List.take (((L a : Int) - 0).toNat) (List.drop 0 (lim a))), (List.replicate (((((List.take (((L a : Int) - 0).toNat) (List.drop 0 (lim a))).length : Int) + (Int.tdiv n (32 : Int))) + 1).toNat) (.int .u32 0)), (List.replicate (L a + n.toNat / 32 + 1) 0)))) (And.intro (nat_Shl_0 a n c0 c1 (0, (List.take (((L a : Int) - 0).toNat) (List.drop 0 (lim a))), (List.replicate (((((List.take (((L a : Int) - 0).toNat) (List.drop 0 (lim a))).length : Int) + (Int.tdiv n (32 : Int))) + 1).toNat) (.int .u32 0)), (List.replicate (L a + n.toNat / 32 + 1) 0)) (show (List.take (((L a : Int) - 0).toNat) (List.drop 0 (lim a))) = lim a ∧ (List.replicate (((((List.take (((L a : Int) - 0).toNat) (List.drop 0 (lim a))).length : Int) + (Int.tdiv n (32 : Int))) + 1).toNat) (.int .u32 0)) = U (List.replicate (L a + n.toNat / 32 + 1) 0) ∧ ShlInv a n.toNat 0 (List.replicate (L a + n.toNat / 32 + 1) 0) from ⟨cut_self a, by rw [show (((((List.take (((L a : Int) - 0).toNat) (List.drop 0 (lim a))).length : Int) + (Int.tdiv n (32 : Int))) + 1).toNat) = L a + n.toNat / 32 + 1 by omega]; exact U_rep _, shl_init _ _⟩)) (fun y (hJ : nat_Shl_0_J a n y) => have hJ : ShlInv a n.toNat (L a : Int) y := hJ; have ⟨q0, q1, q2⟩ := shl_end hJ; have q5 := U_len y; have q6 := limbs_len_le q0; And.intro (ok_arg (by first | omega | (simp <;> omega)) : ((true && Nat.ble (0 + (((((List.take (((L a : Int) - 0).toNat) (List.drop 0 (lim a))).length : Int) + (Int.tdiv n (32 : Int))) + 1).toNat)) (U y).length) && true) = true) (And.intro (nat_sizeC (List.take (((((List.take (((L a : Int) - 0).toNat) (List.drop 0 (lim a))).length : Int) + (Int.tdiv n (32 : Int))) + 1).toNat) (List.drop 0 (U y))) y (tkU rfl (by omega)) q0 (by omega)) (And.intro (and_mk (and_mk (and_mk (rfl) (iLe_mk (by first | omega | (simp <;> omega)))) (iLe_mk (by first | omega | (simp <;> omega)))) (rfl) : (((true && (iLe (0 : Int) ((limbs (val y)).length : Int))) && (iLe ((limbs (val y)).length : Int) ((((((List.take (((L a : Int) - 0).toNat) (List.drop 0 (lim a))).length : Int) + (Int.tdiv n (32 : Int))) + 1).toNat) : Int))) && true) = true) (And.intro (rfl : true = true) (⟨.inl rfl, 0, 4, rfl, (congrArg (fun x => D.osl 0 0 x 1) (by rw [q2]; show (((L (a * 2 ^ n.toNat) : Nat) : Int) - 0).toNat = L (a * 2 ^ n.toNat); omega)), rfl, U_split q0 q2⟩ : EndO Tryz.f148.results 1 (L (a * 2 ^ (n).toNat)) (lim (a * 2 ^ (n).toNat)) .ret ⟨mkS 66 [(4, (.osl 0 0 ((((limbs (val y)).length : Int) - 0).toNat) 1))], [⟨true, true, (U y)⟩]⟩)))))))))))))))))) (by kernel_rfl))

def qd_guess_mk (β : Nat) (l : List Nat) (k m dn : Nat) (x : Int × Int) : St := ⟨mkS 161 [(0, (.oslp 0 k m 1 β)), (1, (.val (N dn))), (5, (.val (.int .i64 ((lim dn).length : Int)))), (7, (.val (.int .u64 x.1))), (8, (.val (.int .u64 x.2)))], [⟨true, false, (U l)⟩]⟩
def qd_guess_I (β : Nat) (l : List Nat) (k m dn : Nat) (x : Int × Int) : Prop := GIn l k dn x.1 x.2
def qd_guess_mu (β : Nat) (l : List Nat) (k m dn : Nat) (x : Int × Int) : Nat := (x.1).toNat
def qd_guess_ex (β : Nat) (l : List Nat) (k m dn : Nat) (y : Int) : Ex × St := (.exit 0, ⟨mkS 161 [(0, (.oslp 0 k m 1 β)), (1, (.val (N dn))), (5, (.val (.int .i64 ((lim dn).length : Int)))), (7, (.val (.int .u64 y)))], [⟨true, false, (U l)⟩]⟩)
def qd_guess_J (β : Nat) (l : List Nat) (k m dn : Nat) (y : Int) : Prop := GOut l k dn y
theorem qd_guess (β : Nat) (l : List Nat) (k m dn : Nat) (c0 : Kn l k dn)(c1 : m = L dn + 1)(c2 : l.length ≤ 67108864) (x0 : Int × Int) (hI : qd_guess_I β l k m dn x0) : LoopOk Tryz.prog Amb (loopN Tryz.f213 0) (qd_guess_mk β l k m dn x0) (fun e st_ => ∃ y, qd_guess_J β l k m dn y ∧ qd_guess_ex β l k m dn y = (e, st_)) :=
  loop_ob hP hAmb ⟨[0, 1, 5, 7, 8], 1, []⟩ (qd_guess_mk β l k m dn) (qd_guess_I β l k m dn) (qd_guess_mu β l k m dn) (qd_guess_ex β l k m dn) (qd_guess_J β l k m dn) x0 hI (fun (g, r) => .lits 2 <| .both (.lits 20 <| .yes <| .lit <| .yes <| .yes <| .yes <| .lit <| .yes <| .lit <| .yes <| .lits 2 <| .both (.fin2 ⟨[0, 1, 5, 7], 1, []⟩) (.fin2 ⟨[0, 1, 5, 7, 8], 1, []⟩)) (.lits 4 <| .yes <| .lit <| .yes <| .lit <| .yes <| .lits 2 <| .yes <| .lits 2 <| .yes <| .lits 3 <| .yes <| .lits 4 <| .yes <| .lit <| .yes <| .lit <| .yes <| .lits 2 <| .yes <| .lits 5 <| .both (.lit <| .yes <| .lit <| .yes <| .yes <| .yes <| .lit <| .yes <| .lit <| .yes <| .lits 2 <| .both (.fin2 ⟨[0, 1, 5, 7], 1, []⟩) (.fin2 ⟨[0, 1, 5, 7, 8], 1, []⟩)) (.fin2 ⟨[0, 1, 5, 7], 1, []⟩))) (by
    rintro ⟨g, r⟩ hI
    have hI : GIn l k dn g r := hI
    have h1 := hI
    have e0 := L_len dn
    have e1 := U_len l
    have t2 := c0.two
    have t3 := c0.len
    have k1 : (((lim dn).length : Int) - 1).toNat = L dn - 1 := by omega
    have k2 : (((lim dn).length : Int) - 2).toNat = L dn - 2 := by omega
    have k0 : ((lim dn).length : Int).toNat = L dn := by omega
    have j1 : gi (limbs dn) (((lim dn).length : Int) - 1).toNat = gi (limbs dn) (L dn - 1) := by rw [k1]
    have j2 : gi (limbs dn) (((lim dn).length : Int) - 2).toNat = gi (limbs dn) (L dn - 2) := by rw [k2]
    have i0 : gi l (k + ((lim dn).length : Int).toNat) = gi l (k + L dn) := by rw [k0]
    have i1 : gi l (k + (((lim dn).length : Int) - 1).toNat) = gi l (k + L dn - 1) := by rw [k1]; congr 1; omega
    have i2 : gi l (k + (((lim dn).length : Int) - 2).toNat) = gi l (k + L dn - 2) := by rw [k2]; congr 1; omega
    have b1 := gi_b (dig_limbs dn) (((lim dn).length : Int) - 1).toNat
    have b2 := gi_b (dig_limbs dn) (((lim dn).length : Int) - 2).toNat
    have a0 := gi_b c0.dig (k + ((lim dn).length : Int).toNat)
    have a1 := gi_b c0.dig (k + (((lim dn).length : Int) - 1).toNat)
    have a2 := gi_b c0.dig (k + (((lim dn).length : Int) - 2).toNat)
    have hw0 := wOr_q (r := gi l (k + ((lim dn).length : Int).toNat)) a0 a1
    have hgi := gin_init c0 (t := wOr .u64 (gi l (k + ((lim dn).length : Int).toNat) * 2 ^ 32) (gi l (k + (((lim dn).length : Int) - 1).toNat))) (by omega)
    have hqe : Int.tdiv (wOr .u64 (gi l (k + ((lim dn).length : Int).toNat) * 2 ^ 32) (gi l (k + (((lim dn).length : Int) - 1).toNat))) (gi (limbs dn) (((lim dn).length : Int) - 1).toNat) = (wOr .u64 (gi l (k + ((lim dn).length : Int).toNat) * 2 ^ 32) (gi l (k + (((lim dn).length : Int) - 1).toNat))) / gi (limbs dn) (L dn - 1) := by rw [tdiv_pos' (by omega), j1]
    have ⟨hq1, hq2, hq3, hq4, hq5, hq6⟩ := hgi
    have bt : 2147483648 ≤ gi (limbs dn) (((lim dn).length : Int) - 1).toNat := by rw [k1, gi_eq]; have := c0.top; omega
    have ⟨p0, p1, p2, p3, p4, p5⟩ := h1
    have hf := fdiv_B g
    have hf2 := fdiv_B (r + gi (limbs dn) (((lim dn).length : Int) - 1).toNat)
    have hm2 : g * gi (limbs dn) (((lim dn).length : Int) - 2).toNat = g * gi (limbs dn) (L dn - 2) := by rw [k2]
    have hdn := gin_down c0 h1
    have hp : g < 4294967296 → 0 ≤ g * gi (limbs dn) (((lim dn).length : Int) - 2).toNat ∧ g * gi (limbs dn) (((lim dn).length : Int) - 2).toNat ≤ 18446744065119617025 := fun q => g_prod ⟨p0, q⟩ b2
    have ho := wOr_q (r := r) ⟨p1, p2⟩ a2
    exact cast_ob (And.intro True.intro (And.intro (fun (h101 : (iNe (Int.fdiv g (2 ^ 32)) 0) = true) => have _gh101 := iNe_t h101; And.intro (fits_u64 (by omega) : (fits .u64 (g - 1)) = true) (And.intro (fits_i64 (by omega) : (fits .i64 (((lim dn).length : Int) - 1)) = true) (And.intro (inB_mk (by omega) : (inB (((lim dn).length : Int) - 1) ((lim dn).length)) = true) (And.intro (ld_L (by omega) : (Nat.blt ((((lim dn).length : Int) - 1).toNat) (lim dn).length && isIntK .u32 (nth (lim dn) ((((lim dn).length : Int) - 1).toNat) .unk)) = true) (And.intro (fits_u64 (by omega) : (fits .u64 (gi (limbs dn) ((((lim dn).length : Int) - 1).toNat))) = true) (And.intro (fits_u64 (by omega) : (fits .u64 (r + (gi (limbs dn) ((((lim dn).length : Int) - 1).toNat)))) = true) (And.intro (fun (h102 : (iNe (Int.fdiv (r + (gi (limbs dn) ((((lim dn).length : Int) - 1).toNat))) (2 ^ 32)) 0) = true) => have _gh102 := iNe_t h102; And.intro (rfl : true = true) ((nx_exit 0 ((qd_guess_ex β l k m dn (g - 1)).2) (g - 1) (show GOut l k dn (g - 1) from gin_break c0 h1 (by omega) (by omega)) rfl : NX (qd_guess_mk β l k m dn) (qd_guess_I β l k m dn) (qd_guess_mu β l k m dn) (qd_guess_ex β l k m dn) (qd_guess_J β l k m dn) (g, r) (.exit 0) ((qd_guess_ex β l k m dn (g - 1)).2)))) (fun (h103 : (iNe (Int.fdiv (r + (gi (limbs dn) ((((lim dn).length : Int) - 1).toNat))) (2 ^ 32)) 0) = false) => have _gh103 := iNe_f h103; And.intro (rfl : true = true) ((nx_next ((g - 1), (r + (gi (limbs dn) ((((lim dn).length : Int) - 1).toNat)))) (show GIn l k dn (g - 1) (r + (gi (limbs dn) ((((lim dn).length : Int) - 1).toNat))) from by rw [k1]; exact gin_next c0 h1 (by omega) (by omega)) (show (g - 1).toNat < g.toNat by have := gin_down c0 h1 (by omega); omega) : NX (qd_guess_mk β l k m dn) (qd_guess_I β l k m dn) (qd_guess_mu β l k m dn) (qd_guess_ex β l k m dn) (qd_guess_J β l k m dn) (g, r) .normal (qd_guess_mk β l k m dn ((g - 1), (r + (gi (limbs dn) ((((lim dn).length : Int) - 1).toNat))))))))))))))) (fun (h104 : (iNe (Int.fdiv g (2 ^ 32)) 0) = false) => have _gh104 := iNe_f h104; And.intro (fits_i64 (by omega) : (fits .i64 (((lim dn).length : Int) - 2)) = true) (And.intro (inB_mk (by omega) : (inB (((lim dn).length : Int) - 2) ((lim dn).length)) = true) (And.intro (ld_L (by omega) : (Nat.blt ((((lim dn).length : Int) - 2).toNat) (lim dn).length && isIntK .u32 (nth (lim dn) ((((lim dn).length : Int) - 2).toNat) .unk)) = true) (And.intro (fits_u64 (by omega) : (fits .u64 (gi (limbs dn) ((((lim dn).length : Int) - 2).toNat))) = true) (And.intro (fits_u64 (by omega) : (fits .u64 (g * (gi (limbs dn) ((((lim dn).length : Int) - 2).toNat)))) = true) (And.intro (fits_u64 (by omega) : (fits .u64 (r * 2 ^ 32)) = true) (And.intro (fits_i64 (by omega) : (fits .i64 (((lim dn).length : Int) - 2)) = true) (And.intro (inB_mk (by omega) : (inB (((lim dn).length : Int) - 2) m) = true) (And.intro (ld_U (by omega) : (Nat.blt (k + (((lim dn).length : Int) - 2).toNat) (U l).length && isIntK .u32 (nth (U l) (k + (((lim dn).length : Int) - 2).toNat) .unk)) = true) (And.intro (fits_u64 (by omega) : (fits .u64 (gi l (k + (((lim dn).length : Int) - 2).toNat))) = true) (And.intro (fun (h105 : (iGt (g * (gi (limbs dn) ((((lim dn).length : Int) - 2).toNat))) (wOr .u64 (r * 2 ^ 32) (gi l (k + (((lim dn).length : Int) - 2).toNat)))) = true) => have _gh105 := iGt_t h105; And.intro (fits_u64 (by omega) : (fits .u64 (g - 1)) = true) (And.intro (fits_i64 (by omega) : (fits .i64 (((lim dn).length : Int) - 1)) = true) (And.intro (inB_mk (by omega) : (inB (((lim dn).length : Int) - 1) ((lim dn).length)) = true) (And.intro (ld_L (by omega) : (Nat.blt ((((lim dn).length : Int) - 1).toNat) (lim dn).length && isIntK .u32 (nth (lim dn) ((((lim dn).length : Int) - 1).toNat) .unk)) = true) (And.intro (fits_u64 (by omega) : (fits .u64 (gi (limbs dn) ((((lim dn).length : Int) - 1).toNat))) = true) (And.intro (fits_u64 (by omega) : (fits .u64 (r + (gi (limbs dn) ((((lim dn).length : Int) - 1).toNat)))) = true) (And.intro (fun (h106 : (iNe (Int.fdiv (r + (gi (limbs dn) ((((lim dn).length : Int) - 1).toNat))) (2 ^ 32)) 0) = true) => have _gh106 := iNe_t h106; And.intro (rfl : true = true) ((nx_exit 0 ((qd_guess_ex β l k m dn (g - 1)).2) (g - 1) (show GOut l k dn (g - 1) from gin_break c0 h1 (by omega) (by omega)) rfl : NX (qd_guess_mk β l k m dn) (qd_guess_I β l k m dn) (qd_guess_mu β l k m dn) (qd_guess_ex β l k m dn) (qd_guess_J β l k m dn) (g, r) (.exit 0) ((qd_guess_ex β l k m dn (g - 1)).2)))) (fun (h107 : (iNe (Int.fdiv (r + (gi (limbs dn) ((((lim dn).length : Int) - 1).toNat))) (2 ^ 32)) 0) = false) => have _gh107 := iNe_f h107; And.intro (rfl : true = true) ((nx_next ((g - 1), (r + (gi (limbs dn) ((((lim dn).length : Int) - 1).toNat)))) (show GIn l k dn (g - 1) (r + (gi (limbs dn) ((((lim dn).length : Int) - 1).toNat))) from by rw [k1]; exact gin_next c0 h1 (by omega) (by omega)) (show (g - 1).toNat < g.toNat by have := gin_down c0 h1 (by omega); omega) : NX (qd_guess_mk β l k m dn) (qd_guess_I β l k m dn) (qd_guess_mu β l k m dn) (qd_guess_ex β l k m dn) (qd_guess_J β l k m dn) (g, r) .normal (qd_guess_mk β l k m dn ((g - 1), (r + (gi (limbs dn) ((((lim dn).length : Int) - 1).toNat))))))))))))))) (fun (h108 : (iGt (g * (gi (limbs dn) ((((lim dn).length : Int) - 2).toNat))) (wOr .u64 (r * 2 ^ 32) (gi l (k + (((lim dn).length : Int) - 2).toNat)))) = false) => have _gh108 := iGt_f h108; And.intro (rfl : true = true) ((nx_exit 0 ((qd_guess_ex β l k m dn g).2) g (show GOut l k dn g from gin_stop c0 h1 (by omega) (by omega)) rfl : NX (qd_guess_mk β l k m dn) (qd_guess_I β l k m dn) (qd_guess_mu β l k m dn) (qd_guess_ex β l k m dn) (qd_guess_J β l k m dn) (g, r) (.exit 0) ((qd_guess_ex β l k m dn g).2))))))))))))))))) (by kernel_rfl))

def qd_ms_mk (β : Nat) (l : List Nat) (k m dn : Nat) (g : Int) (x : Int × Int × Int × List V × List Nat) : St := ⟨mkS 161 [(0, (.oslp 0 k m 1 β)), (1, (.val (N dn))), (5, (.val (.int .i64 ((lim dn).length : Int)))), (7, (.val (.int .u64 g))), (9, (.val (.int .u64 x.2.1))), (10, (.val (.int .u32 x.2.2.1))), (83, (.val (N dn))), (84, (.val (.int .i64 ((lim dn).length : Int)))), (85, (.val (.int .i64 x.1)))], [⟨true, false, x.2.2.2.1⟩]⟩
def qd_ms_I (β : Nat) (l : List Nat) (k m dn : Nat) (g : Int) (x : Int × Int × Int × List V × List Nat) : Prop := x.2.2.2.1 = U x.2.2.2.2 ∧ MsIn l k dn g x.1 x.2.1 x.2.2.1 x.2.2.2.2
def qd_ms_mu (β : Nat) (l : List Nat) (k m dn : Nat) (g : Int) (x : Int × Int × Int × List V × List Nat) : Nat := ((L dn : Int) - x.1).toNat
def qd_ms_ex (β : Nat) (l : List Nat) (k m dn : Nat) (g : Int) (y : Int × Int × List Nat) : Ex × St := (.exit 2, ⟨mkS 161 [(0, (.oslp 0 k m 1 β)), (1, (.val (N dn))), (5, (.val (.int .i64 ((lim dn).length : Int)))), (7, (.val (.int .u64 g))), (9, (.val (.int .u64 y.1))), (10, (.val (.int .u32 y.2.1)))], [⟨true, false, (U y.2.2)⟩]⟩)
def qd_ms_J (β : Nat) (l : List Nat) (k m dn : Nat) (g : Int) (y : Int × Int × List Nat) : Prop := MsIn l k dn g (L dn : Int) y.1 y.2.1 y.2.2
theorem qd_ms (β : Nat) (l : List Nat) (k m dn : Nat) (g : Int) (c0 : Kn l k dn)(c1 : m = L dn + 1)(c2 : l.length ≤ 67108864)(c3 : 0 ≤ g ∧ g < 4294967296) (x0 : Int × Int × Int × List V × List Nat) (hI : qd_ms_I β l k m dn g x0) : LoopOk Tryz.prog Amb (loopN Tryz.f213 1) (qd_ms_mk β l k m dn g x0) (fun e st_ => ∃ y, qd_ms_J β l k m dn g y ∧ qd_ms_ex β l k m dn g y = (e, st_)) :=
  loop_ob hP hAmb ⟨[0, 1, 5, 7, 9, 10, 83, 84, 85], 1, []⟩ (qd_ms_mk β l k m dn g) (qd_ms_I β l k m dn g) (qd_ms_mu β l k m dn g) (qd_ms_ex β l k m dn g) (qd_ms_J β l k m dn g) x0 hI (fun (i, c, b, o, p) => .lit <| .both (.yes <| .yes <| .lit <| .yes <| .lit <| .yes <| .lit <| .yes <| .yes <| .yes <| .lit <| .no <| .lit <| .call (.tup [(.int .u32 (((intV (nth o (k + i.toNat) .unk)) - (IntKind.wrap .u32 (c + (g * (gi (limbs dn) i.toNat)))) - b) % 4294967296)), (.int .u32 (if (intV (nth o (k + i.toNat) .unk)) < (IntKind.wrap .u32 (c + (g * (gi (limbs dn) i.toNat)))) + b then 1 else 0))]) <| .yes <| .yes <| .lits 2 <| .yes <| .fin2 ⟨[0, 1, 5, 7, 9, 10, 83, 84, 85], 1, []⟩) (.fin2 ⟨[0, 1, 5, 7, 9, 10], 1, []⟩)) (by
    rintro ⟨i, c, b, o, p⟩ hI
    have hI : o = U p ∧ MsIn l k dn g i c b p := hI
    obtain ⟨rfl, h1⟩ := hI
    have e0 := L_len dn
    have e1 := U_len l
    have t2 := c0.two
    have t3 := c0.len
    have k1 : (((lim dn).length : Int) - 1).toNat = L dn - 1 := by omega
    have k2 : (((lim dn).length : Int) - 2).toNat = L dn - 2 := by omega
    have k0 : ((lim dn).length : Int).toNat = L dn := by omega
    have j1 : gi (limbs dn) (((lim dn).length : Int) - 1).toNat = gi (limbs dn) (L dn - 1) := by rw [k1]
    have j2 : gi (limbs dn) (((lim dn).length : Int) - 2).toNat = gi (limbs dn) (L dn - 2) := by rw [k2]
    have i0 : gi l (k + ((lim dn).length : Int).toNat) = gi l (k + L dn) := by rw [k0]
    have i1 : gi l (k + (((lim dn).length : Int) - 1).toNat) = gi l (k + L dn - 1) := by rw [k1]; congr 1; omega
    have i2 : gi l (k + (((lim dn).length : Int) - 2).toNat) = gi l (k + L dn - 2) := by rw [k2]; congr 1; omega
    have b1 := gi_b (dig_limbs dn) (((lim dn).length : Int) - 1).toNat
    have b2 := gi_b (dig_limbs dn) (((lim dn).length : Int) - 2).toNat
    have ⟨p0, p1, p2, p3, p4, p5, p6, p7, _⟩ := h1
    have g4 := U_len p
    have b3 := gi_b (dig_limbs dn) i.toNat
    have b4 := gi_b p7 (k + i.toNat)
    have hp := g_prod c3 b3
    have w0 := wrap_u32 (c + (g * gi (limbs dn) i.toNat))
    have w1 := fdiv_B (c + (g * gi (limbs dn) i.toNat))
    exact cast_ob (And.intro True.intro (And.intro (fun (h101 : (iLt i ((lim dn).length : Int)) = true) => have _gh101 := iLt_t h101; And.intro (inB_mk (by omega) : (inB i ((lim dn).length)) = true) (And.intro (ld_L (by omega) : (Nat.blt i.toNat (lim dn).length && isIntK .u32 (nth (lim dn) i.toNat .unk)) = true) (And.intro (fits_u64 (by omega) : (fits .u64 (gi (limbs dn) i.toNat)) = true) (And.intro (fits_u64 (by omega) : (fits .u64 (g * (gi (limbs dn) i.toNat))) = true) (And.intro (fits_u64 (by omega) : (fits .u64 (c + (g * (gi (limbs dn) i.toNat)))) = true) (And.intro (inB_mk (by omega) : (inB i m) = true) (And.intro (ld_U (by omega) : (Nat.blt (k + i.toNat) (U p).length && isIntK .u32 (nth (U p) (k + i.toNat) .unk)) = true) (And.intro (bits_Sub32 (gi p (k + i.toNat)) (IntKind.wrap .u32 (c + (g * (gi (limbs dn) i.toNat)))) b (by omega) (by omega) (by omega)) (And.intro (inB_mk (by omega) : (inB i m) = true) (And.intro (st_ok (by omega) : (Nat.ble ((k + i.toNat) + 1) (U p).length) = true) (And.intro (fits_i64 (by omega) : (fits .i64 (i + 1)) = true) (And.intro (rfl : true = true) ((nx_next ((i + 1), (Int.fdiv (c + (g * (gi (limbs dn) i.toNat))) (2 ^ 32)), (if (gi p (k + i.toNat)) < (IntKind.wrap .u32 (c + (g * (gi (limbs dn) i.toNat)))) + b then 1 else 0), (List.set (U p) (k + i.toNat) (.int .u32 (((gi p (k + i.toNat)) - (IntKind.wrap .u32 (c + (g * (gi (limbs dn) i.toNat)))) - b) % 4294967296))), (p.set (k + i.toNat) ((gi p (k + i.toNat) - (c + (g * gi (limbs dn) i.toNat)) % 4294967296 - b) % 4294967296).toNat)) (show (List.set (U p) (k + i.toNat) (.int .u32 (((gi p (k + i.toNat)) - (IntKind.wrap .u32 (c + (g * (gi (limbs dn) i.toNat)))) - b) % 4294967296))) = U (p.set (k + i.toNat) ((gi p (k + i.toNat) - (c + (g * gi (limbs dn) i.toNat)) % 4294967296 - b) % 4294967296).toNat) ∧ MsIn l k dn g (i + 1) (Int.fdiv (c + (g * (gi (limbs dn) i.toNat))) (2 ^ 32)) (if (gi p (k + i.toNat)) < (IntKind.wrap .u32 (c + (g * (gi (limbs dn) i.toNat)))) + b then 1 else 0) (p.set (k + i.toNat) ((gi p (k + i.toNat) - (c + (g * gi (limbs dn) i.toNat)) % 4294967296 - b) % 4294967296).toNat) from ⟨setU _ rfl (by omega), by rw [w0, w1]; exact ms_next h1 (by omega) c0.len c3.1 rfl (by omega)⟩) (show ((L dn : Int) - (i + 1)).toNat < ((L dn : Int) - i).toNat by omega) : NX (qd_ms_mk β l k m dn g) (qd_ms_I β l k m dn g) (qd_ms_mu β l k m dn g) (qd_ms_ex β l k m dn g) (qd_ms_J β l k m dn g) (i, c, b, (U p), p) .normal (qd_ms_mk β l k m dn g ((i + 1), (Int.fdiv (c + (g * (gi (limbs dn) i.toNat))) (2 ^ 32)), (if (gi p (k + i.toNat)) < (IntKind.wrap .u32 (c + (g * (gi (limbs dn) i.toNat)))) + b then 1 else 0), (List.set (U p) (k + i.toNat) (.int .u32 (((gi p (k + i.toNat)) - (IntKind.wrap .u32 (c + (g * (gi (limbs dn) i.toNat)))) - b) % 4294967296))), (p.set (k + i.toNat) ((gi p (k + i.toNat) - (c + (g * gi (limbs dn) i.toNat)) % 4294967296 - b) % 4294967296).toNat))))))))))))))))) (fun (h102 : (iLt i ((lim dn).length : Int)) = false) => have _gh102 := iLt_f h102; And.intro (rfl : true = true) ((nx_exit 2 ((qd_ms_ex β l k m dn g (c, b, p)).2) (c, b, p) (show MsIn l k dn g (L dn : Int) c b p from (show i = (L dn : Int) by omega) ▸ h1) rfl : NX (qd_ms_mk β l k m dn g) (qd_ms_I β l k m dn g) (qd_ms_mu β l k m dn g) (qd_ms_ex β l k m dn g) (qd_ms_J β l k m dn g) (i, c, b, (U p), p) (.exit 2) ((qd_ms_ex β l k m dn g (c, b, p)).2)))))) (by kernel_rfl))

def qd_ab_mk (β : Nat) (l : List Nat) (k m dn : Nat) (g : Int) (m0 : List Nat) (x : Int × Int × List V × List Nat) : St := ⟨mkS 161 [(0, (.oslp 0 k m 1 β)), (5, (.val (.int .i64 ((lim dn).length : Int)))), (7, (.val (.int .u64 g))), (13, (.val (.int .u32 x.2.1))), (131, (.val (N dn))), (132, (.val (.int .i64 ((lim dn).length : Int)))), (133, (.val (.int .i64 x.1)))], [⟨true, false, x.2.2.1⟩]⟩
def qd_ab_I (β : Nat) (l : List Nat) (k m dn : Nat) (g : Int) (m0 : List Nat) (x : Int × Int × List V × List Nat) : Prop := x.2.2.1 = U x.2.2.2 ∧ AbIn m0 k dn x.1 x.2.1 x.2.2.2
def qd_ab_mu (β : Nat) (l : List Nat) (k m dn : Nat) (g : Int) (m0 : List Nat) (x : Int × Int × List V × List Nat) : Nat := ((L dn : Int) - x.1).toNat
def qd_ab_ex (β : Nat) (l : List Nat) (k m dn : Nat) (g : Int) (m0 : List Nat) (y : Int × List Nat) : Ex × St := (.exit 4, ⟨mkS 161 [(0, (.oslp 0 k m 1 β)), (5, (.val (.int .i64 ((lim dn).length : Int)))), (7, (.val (.int .u64 g))), (13, (.val (.int .u32 y.1)))], [⟨true, false, (U y.2)⟩]⟩)
def qd_ab_J (β : Nat) (l : List Nat) (k m dn : Nat) (g : Int) (m0 : List Nat) (y : Int × List Nat) : Prop := AbIn m0 k dn (L dn : Int) y.1 y.2
theorem qd_ab (β : Nat) (l : List Nat) (k m dn : Nat) (g : Int) (m0 : List Nat) (c0 : Kn l k dn)(c1 : m = L dn + 1)(c2 : l.length ≤ 67108864)(c3 : m0.length = l.length) (x0 : Int × Int × List V × List Nat) (hI : qd_ab_I β l k m dn g m0 x0) : LoopOk Tryz.prog Amb (loopN Tryz.f213 2) (qd_ab_mk β l k m dn g m0 x0) (fun e st_ => ∃ y, qd_ab_J β l k m dn g m0 y ∧ qd_ab_ex β l k m dn g m0 y = (e, st_)) :=
  loop_ob hP hAmb ⟨[0, 5, 7, 13, 131, 132, 133], 1, []⟩ (qd_ab_mk β l k m dn g m0) (qd_ab_I β l k m dn g m0) (qd_ab_mu β l k m dn g m0) (qd_ab_ex β l k m dn g m0) (qd_ab_J β l k m dn g m0) x0 hI (fun (i, a, o, p) => .lit <| .both (.yes <| .yes <| .yes <| .yes <| .lit <| .call (.tup [(.int .u32 (((intV (nth o (k + i.toNat) .unk)) + (gi (limbs dn) i.toNat) + a) % 4294967296)), (.int .u32 (((intV (nth o (k + i.toNat) .unk)) + (gi (limbs dn) i.toNat) + a) / 4294967296))]) <| .yes <| .yes <| .lit <| .yes <| .fin2 ⟨[0, 5, 7, 13, 131, 132, 133], 1, []⟩) (.fin2 ⟨[0, 5, 7, 13], 1, []⟩)) (by
    rintro ⟨i, a, o, p⟩ hI
    have hI : o = U p ∧ AbIn m0 k dn i a p := hI
    obtain ⟨rfl, h1⟩ := hI
    have e0 := L_len dn
    have e1 := U_len l
    have t2 := c0.two
    have t3 := c0.len
    have k1 : (((lim dn).length : Int) - 1).toNat = L dn - 1 := by omega
    have k2 : (((lim dn).length : Int) - 2).toNat = L dn - 2 := by omega
    have k0 : ((lim dn).length : Int).toNat = L dn := by omega
    have j1 : gi (limbs dn) (((lim dn).length : Int) - 1).toNat = gi (limbs dn) (L dn - 1) := by rw [k1]
    have j2 : gi (limbs dn) (((lim dn).length : Int) - 2).toNat = gi (limbs dn) (L dn - 2) := by rw [k2]
    have i0 : gi l (k + ((lim dn).length : Int).toNat) = gi l (k + L dn) := by rw [k0]
    have i1 : gi l (k + (((lim dn).length : Int) - 1).toNat) = gi l (k + L dn - 1) := by rw [k1]; congr 1; omega
    have i2 : gi l (k + (((lim dn).length : Int) - 2).toNat) = gi l (k + L dn - 2) := by rw [k2]; congr 1; omega
    have b1 := gi_b (dig_limbs dn) (((lim dn).length : Int) - 1).toNat
    have b2 := gi_b (dig_limbs dn) (((lim dn).length : Int) - 2).toNat
    have ⟨p0, p1, p2, p3, p4, p5, _⟩ := h1
    have g4 := U_len p
    have b3 := gi_b (dig_limbs dn) i.toNat
    have b4 := gi_b p5 (k + i.toNat)
    exact cast_ob (And.intro True.intro (And.intro (fun (h101 : (iLt i ((lim dn).length : Int)) = true) => have _gh101 := iLt_t h101; And.intro (inB_mk (by omega) : (inB i ((lim dn).length)) = true) (And.intro (ld_L (by omega) : (Nat.blt i.toNat (lim dn).length && isIntK .u32 (nth (lim dn) i.toNat .unk)) = true) (And.intro (inB_mk (by omega) : (inB i m) = true) (And.intro (ld_U (by omega) : (Nat.blt (k + i.toNat) (U p).length && isIntK .u32 (nth (U p) (k + i.toNat) .unk)) = true) (And.intro (bits_Add32 (gi p (k + i.toNat)) (gi (limbs dn) i.toNat) a (by omega) (by omega) (by omega)) (And.intro (inB_mk (by omega) : (inB i m) = true) (And.intro (st_ok (by omega) : (Nat.ble ((k + i.toNat) + 1) (U p).length) = true) (And.intro (fits_i64 (by omega) : (fits .i64 (i + 1)) = true) (And.intro (rfl : true = true) ((nx_next ((i + 1), (((gi p (k + i.toNat)) + (gi (limbs dn) i.toNat) + a) / 4294967296), (List.set (U p) (k + i.toNat) (.int .u32 (((gi p (k + i.toNat)) + (gi (limbs dn) i.toNat) + a) % 4294967296))), (p.set (k + i.toNat) ((gi p (k + i.toNat) + gi (limbs dn) i.toNat + a) % 4294967296).toNat)) (show (List.set (U p) (k + i.toNat) (.int .u32 (((gi p (k + i.toNat)) + (gi (limbs dn) i.toNat) + a) % 4294967296))) = U (p.set (k + i.toNat) ((gi p (k + i.toNat) + gi (limbs dn) i.toNat + a) % 4294967296).toNat) ∧ AbIn m0 k dn (i + 1) (((gi p (k + i.toNat)) + (gi (limbs dn) i.toNat) + a) / 4294967296) (p.set (k + i.toNat) ((gi p (k + i.toNat) + gi (limbs dn) i.toNat + a) % 4294967296).toNat) from ⟨setU _ rfl (by omega), ab_next h1 (by omega) (by rw [c3]; exact c0.len) rfl⟩) (show ((L dn : Int) - (i + 1)).toNat < ((L dn : Int) - i).toNat by omega) : NX (qd_ab_mk β l k m dn g m0) (qd_ab_I β l k m dn g m0) (qd_ab_mu β l k m dn g m0) (qd_ab_ex β l k m dn g m0) (qd_ab_J β l k m dn g m0) (i, a, (U p), p) .normal (qd_ab_mk β l k m dn g m0 ((i + 1), (((gi p (k + i.toNat)) + (gi (limbs dn) i.toNat) + a) / 4294967296), (List.set (U p) (k + i.toNat) (.int .u32 (((gi p (k + i.toNat)) + (gi (limbs dn) i.toNat) + a) % 4294967296))), (p.set (k + i.toNat) ((gi p (k + i.toNat) + gi (limbs dn) i.toNat + a) % 4294967296).toNat)))))))))))))) (fun (h102 : (iLt i ((lim dn).length : Int)) = false) => have _gh102 := iLt_f h102; And.intro (rfl : true = true) ((nx_exit 4 ((qd_ab_ex β l k m dn g m0 (a, p)).2) (a, p) (show AbIn m0 k dn (L dn : Int) a p from (show i = (L dn : Int) by omega) ▸ h1) rfl : NX (qd_ab_mk β l k m dn g m0) (qd_ab_I β l k m dn g m0) (qd_ab_mu β l k m dn g m0) (qd_ab_ex β l k m dn g m0) (qd_ab_J β l k m dn g m0) (i, a, (U p), p) (.exit 4) ((qd_ab_ex β l k m dn g m0 (a, p)).2)))))) (by kernel_rfl))

theorem quot_digit (l : List Nat) (k : Nat) (m : Nat) (dn : Nat) (c0 : Kn l k dn) (c1 : m = L dn + 1) (c2 : l.length ≤ 67108864) : ImplM Tryz.prog Amb 213 (U l) k m [(N dn)] (U (lowL l (k + L dn + 1) (Xd l k (L dn) % (4294967296 ^ k * dn)))) (.int .u32 ((kq l k dn : Nat) : Int)) := by
  have e0 := L_len dn
  have e1 := U_len l
  have t2 := c0.two
  have t3 := c0.len
  have k1 : (((lim dn).length : Int) - 1).toNat = L dn - 1 := by omega
  have k2 : (((lim dn).length : Int) - 2).toNat = L dn - 2 := by omega
  have k0 : ((lim dn).length : Int).toNat = L dn := by omega
  have j1 : gi (limbs dn) (((lim dn).length : Int) - 1).toNat = gi (limbs dn) (L dn - 1) := by rw [k1]
  have j2 : gi (limbs dn) (((lim dn).length : Int) - 2).toNat = gi (limbs dn) (L dn - 2) := by rw [k2]
  have i0 : gi l (k + ((lim dn).length : Int).toNat) = gi l (k + L dn) := by rw [k0]
  have i1 : gi l (k + (((lim dn).length : Int) - 1).toNat) = gi l (k + L dn - 1) := by rw [k1]; congr 1; omega
  have i2 : gi l (k + (((lim dn).length : Int) - 2).toNat) = gi l (k + L dn - 2) := by rw [k2]; congr 1; omega
  have b1 := gi_b (dig_limbs dn) (((lim dn).length : Int) - 1).toNat
  have b2 := gi_b (dig_limbs dn) (((lim dn).length : Int) - 2).toNat
  have a0 := gi_b c0.dig (k + ((lim dn).length : Int).toNat)
  have a1 := gi_b c0.dig (k + (((lim dn).length : Int) - 1).toNat)
  have a2 := gi_b c0.dig (k + (((lim dn).length : Int) - 2).toNat)
  have hw0 := wOr_q (r := gi l (k + ((lim dn).length : Int).toNat)) a0 a1
  have hgi := gin_init c0 (t := wOr .u64 (gi l (k + ((lim dn).length : Int).toNat) * 2 ^ 32) (gi l (k + (((lim dn).length : Int) - 1).toNat))) (by omega)
  have hqe : Int.tdiv (wOr .u64 (gi l (k + ((lim dn).length : Int).toNat) * 2 ^ 32) (gi l (k + (((lim dn).length : Int) - 1).toNat))) (gi (limbs dn) (((lim dn).length : Int) - 1).toNat) = (wOr .u64 (gi l (k + ((lim dn).length : Int).toNat) * 2 ^ 32) (gi l (k + (((lim dn).length : Int) - 1).toNat))) / gi (limbs dn) (L dn - 1) := by rw [tdiv_pos' (by omega), j1]
  have ⟨hq1, hq2, hq3, hq4, hq5, hq6⟩ := hgi
  have bt : 2147483648 ≤ gi (limbs dn) (((lim dn).length : Int) - 1).toNat := by rw [k1, gi_eq]; have := c0.top; omega
  exact implM_ob hP hAmb Tryz.func213 (by kernel_rfl) rfl (U_prim _) (by rw [U_len, U_len, lowL_len c0.len (kn_low c0)]) (fun β => .yes <| .yes <| .lit <| .yes <| .lit <| .yes <| .lit <| .yes <| .yes <| .yes <| .lit <| .yes <| .lits 2 <| .yes <| .yes <| .yes <| .lit <| .yes <| .yes <| .yes <| .lit <| .yes <| .yes <| .yes <| .lit <| .yes <| .yes <| .loop ⟨[0, 1, 5, 7, 8], 1, []⟩ ((qd_guess_mk β l k m dn ((Int.tdiv (wOr .u64 ((gi l (k + ((lim dn).length : Int).toNat)) * 2 ^ 32) (gi l (k + (((lim dn).length : Int) - 1).toNat))) (gi (limbs dn) ((((lim dn).length : Int) - 1).toNat))), (wRem (wOr .u64 ((gi l (k + ((lim dn).length : Int).toNat)) * 2 ^ 32) (gi l (k + (((lim dn).length : Int) - 1).toNat))) (gi (limbs dn) ((((lim dn).length : Int) - 1).toNat)))))) (Int) (qd_guess_ex β l k m dn) (qd_guess_J β l k m dn) (fun y => .loop ⟨[0, 1, 5, 7, 9, 10, 83, 84, 85], 1, []⟩ ((qd_ms_mk β l k m dn y (0, 0, 0, (U l), l))) (Int × Int × List Nat) (qd_ms_ex β l k m dn y) (qd_ms_J β l k m dn y) (fun z => .yes <| .yes <| .lit <| .no <| .lit <| .call (.tup [(.int .u32 (((gi z.2.2 (k + ((lim dn).length : Int).toNat)) - (IntKind.wrap .u32 z.1) - z.2.1) % 4294967296)), (.int .u32 (if (gi z.2.2 (k + ((lim dn).length : Int).toNat)) < (IntKind.wrap .u32 z.1) + z.2.1 then 1 else 0))]) <| .yes <| .yes <| .lit <| .both (.lit <| .yes <| .loop ⟨[0, 5, 7, 13, 131, 132, 133], 1, []⟩ ((qd_ab_mk β l k m dn (y - 1) (z.2.2.set (k + L dn) ((gi z.2.2 (k + L dn) - z.1 - z.2.1) % 4294967296).toNat) (0, 0, (List.set (U z.2.2) (k + ((lim dn).length : Int).toNat) (.int .u32 (((gi z.2.2 (k + ((lim dn).length : Int).toNat)) - (IntKind.wrap .u32 z.1) - z.2.1) % 4294967296))), (z.2.2.set (k + L dn) ((gi z.2.2 (k + L dn) - z.1 - z.2.1) % 4294967296).toNat)))) (Int × List Nat) (qd_ab_ex β l k m dn (y - 1) (z.2.2.set (k + L dn) ((gi z.2.2 (k + L dn) - z.1 - z.2.1) % 4294967296).toNat)) (qd_ab_J β l k m dn (y - 1) (z.2.2.set (k + L dn) ((gi z.2.2 (k + L dn) - z.1 - z.2.1) % 4294967296).toNat)) (fun v => .yes <| .yes <| .lit <| .no <| .yes <| .yes <| .lit <| .no <| .fin2 ⟨[0, 4], 1, []⟩)) (.lit <| .no <| .fin2 ⟨[0, 4], 1, []⟩))))
    (fun β => cast_ob (And.intro True.intro (And.intro (inB_mk (by first | omega | (simp <;> omega)) : (inB ((lim dn).length : Int) m) = true) (And.intro (ld_U (by first | omega | (simp <;> omega)) : (Nat.blt (k + ((lim dn).length : Int).toNat) (U l).length && isIntK .u32 (nth (U l) (k + ((lim dn).length : Int).toNat) .unk)) = true) (And.intro (fits_u64 (by first | omega | (simp <;> omega)) : (fits .u64 (gi l (k + ((lim dn).length : Int).toNat))) = true) (And.intro (fits_u64 (by first | omega | (simp <;> omega)) : (fits .u64 ((gi l (k + ((lim dn).length : Int).toNat)) * 2 ^ 32)) = true) (And.intro (fits_i64 (by first | omega | (simp <;> omega)) : (fits .i64 (((lim dn).length : Int) - 1)) = true) (And.intro (inB_mk (by first | omega | (simp <;> omega)) : (inB (((lim dn).length : Int) - 1) m) = true) (And.intro (ld_U (by first | omega | (simp <;> omega)) : (Nat.blt (k + (((lim dn).length : Int) - 1).toNat) (U l).length && isIntK .u32 (nth (U l) (k + (((lim dn).length : Int) - 1).toNat) .unk)) = true) (And.intro (fits_u64 (by first | omega | (simp <;> omega)) : (fits .u64 (gi l (k + (((lim dn).length : Int) - 1).toNat))) = true) (And.intro (fits_i64 (by first | omega | (simp <;> omega)) : (fits .i64 (((lim dn).length : Int) - 1)) = true) (And.intro (inB_mk (by first | omega | (simp <;> omega)) : (inB (((lim dn).length : Int) - 1) ((lim dn).length)) = true) (And.intro (ld_L (by first | omega | (simp <;> omega)) : (Nat.blt ((((lim dn).length : Int) - 1).toNat) (lim dn).length && isIntK .u32 (nth (lim dn) ((((lim dn).length : Int) - 1).toNat) .unk)) = true) (And.intro (fits_u64 (by first | omega | (simp <;> omega)) : (fits .u64 (gi (limbs dn) ((((lim dn).length : Int) - 1).toNat))) = true) (And.intro (and_mk (rfl) (iNe_mk (by first | omega | (simp <;> omega))) : (true && (iNe (gi (limbs dn) ((((lim dn).length : Int) - 1).toNat)) 0)) = true) (And.intro (fits_u64 (by first | omega | (simp <;> omega)) : (fits .u64 (Int.tdiv (wOr .u64 ((gi l (k + ((lim dn).length : Int).toNat)) * 2 ^ 32) (gi l (k + (((lim dn).length : Int) - 1).toNat))) (gi (limbs dn) ((((lim dn).length : Int) - 1).toNat)))) = true) (And.intro (fits_i64 (by first | omega | (simp <;> omega)) : (fits .i64 (((lim dn).length : Int) - 1)) = true) (And.intro (inB_mk (by first | omega | (simp <;> omega)) : (inB (((lim dn).length : Int) - 1) ((lim dn).length)) = true) (And.intro (ld_L (by first | omega | (simp <;> omega)) : (Nat.blt ((((lim dn).length : Int) - 1).toNat) (lim dn).length && isIntK .u32 (nth (lim dn) ((((lim dn).length : Int) - 1).toNat) .unk)) = true) (And.intro (fits_u64 (by first | omega | (simp <;> omega)) : (fits .u64 (gi (limbs dn) ((((lim dn).length : Int) - 1).toNat))) = true) (And.intro (iNe_mk (by first | omega | (simp <;> omega)) : (iNe (gi (limbs dn) ((((lim dn).length : Int) - 1).toNat)) 0) = true) (And.intro (rfl : true = true) (And.intro (rfl : (qd_guess_mk β l k m dn ((Int.tdiv (wOr .u64 ((gi l (k + ((lim dn).length : Int).toNat)) * 2 ^ 32) (gi l (k + (((lim dn).length : Int) - 1).toNat))) (gi (limbs dn) ((((lim dn).length : Int) - 1).toNat))), (wRem (wOr .u64 ((gi l (k + ((lim dn).length : Int).toNat)) * 2 ^ 32) (gi l (k + (((lim dn).length : Int) - 1).toNat))) (gi (limbs dn) ((((lim dn).length : Int) - 1).toNat))))) = (qd_guess_mk β l k m dn ((Int.tdiv (wOr .u64 ((gi l (k + ((lim dn).length : Int).toNat)) * 2 ^ 32) (gi l (k + (((lim dn).length : Int) - 1).toNat))) (gi (limbs dn) ((((lim dn).length : Int) - 1).toNat))), (wRem (wOr .u64 ((gi l (k + ((lim dn).length : Int).toNat)) * 2 ^ 32) (gi l (k + (((lim dn).length : Int) - 1).toNat))) (gi (limbs dn) ((((lim dn).length : Int) - 1).toNat)))))) (And.intro (qd_guess β l k m dn c0 c1 c2 ((Int.tdiv (wOr .u64 ((gi l (k + ((lim dn).length : Int).toNat)) * 2 ^ 32) (gi l (k + (((lim dn).length : Int) - 1).toNat))) (gi (limbs dn) ((((lim dn).length : Int) - 1).toNat))), (wRem (wOr .u64 ((gi l (k + ((lim dn).length : Int).toNat)) * 2 ^ 32) (gi l (k + (((lim dn).length : Int) - 1).toNat))) (gi (limbs dn) ((((lim dn).length : Int) - 1).toNat)))) (show GIn l k dn (Int.tdiv (wOr .u64 ((gi l (k + ((lim dn).length : Int).toNat)) * 2 ^ 32) (gi l (k + (((lim dn).length : Int) - 1).toNat))) (gi (limbs dn) ((((lim dn).length : Int) - 1).toNat))) (wRem (wOr .u64 ((gi l (k + ((lim dn).length : Int).toNat)) * 2 ^ 32) (gi l (k + (((lim dn).length : Int) - 1).toNat))) (gi (limbs dn) ((((lim dn).length : Int) - 1).toNat))) from by rw [tdiv_pos' (by omega), wRem_pos (by omega), j1]; exact hgi)) (fun y (hJ : qd_guess_J β l k m dn y) => have hJ : GOut l k dn y := hJ; have ⟨o0, o1, o2, o3⟩ := hJ; have hG := hJ; And.intro (rfl : true = true) (And.intro (rfl : (qd_ms_mk β l k m dn y (0, 0, 0, (U l), l)) = (qd_ms_mk β l k m dn y (0, 0, 0, (U l), l))) (And.intro (qd_ms β l k m dn y c0 c1 c2 (⟨o0, o1⟩) (0, 0, 0, (U l), l) (show (U l) = U l ∧ MsIn l k dn y 0 0 0 l from ⟨rfl, ms_init _ c0.dig⟩)) (fun z (hJ : qd_ms_J β l k m dn y z) => have hJ : MsIn l k dn y (L dn : Int) z.1 z.2.1 z.2.2 := hJ; have ⟨_, _, z2, z3, z4, z5, z6, z7, _⟩ := hJ; have z8 := U_len z.2.2; have hM := ms_end hJ c0.len; have b5 := gi_b z7 (k + ((lim dn).length : Int).toNat); have w2 : IntKind.wrap .u32 z.1 = z.1 := (by rw [wrap_u32, Int.emod_eq_of_lt z2 z3]); have hz0 : gi z.2.2 (k + ((lim dn).length : Int).toNat) = gi z.2.2 (k + L dn) := (by rw [k0]); have hL := fun q => kn_less c0 hG hM.1 hM.2.1 (by rw [if_pos q] at hM; have h := hM.2.2.2; rw [Nat.mul_one] at h; exact h); And.intro (inB_mk (by first | omega | (simp <;> omega)) : (inB ((lim dn).length : Int) m) = true) (And.intro (ld_U (by first | omega | (simp <;> omega)) : (Nat.blt (k + ((lim dn).length : Int).toNat) (U z.2.2).length && isIntK .u32 (nth (U z.2.2) (k + ((lim dn).length : Int).toNat) .unk)) = true) (And.intro (bits_Sub32 (gi z.2.2 (k + ((lim dn).length : Int).toNat)) (IntKind.wrap .u32 z.1) z.2.1 (by first | omega | (simp <;> omega)) (by first | omega | (simp <;> omega)) (by first | omega | (simp <;> omega))) (And.intro (inB_mk (by first | omega | (simp <;> omega)) : (inB ((lim dn).length : Int) m) = true) (And.intro (st_ok (by first | omega | (simp <;> omega)) : (Nat.ble ((k + ((lim dn).length : Int).toNat) + 1) (U z.2.2).length) = true) (And.intro (fun (h1 : (iNe (if (gi z.2.2 (k + ((lim dn).length : Int).toNat)) < (IntKind.wrap .u32 z.1) + z.2.1 then 1 else 0) 0) = true) => have _gh1 := iNe_t h1; And.intro (fits_u64 (by first | omega | (simp <;> omega)) : (fits .u64 (y - 1)) = true) (And.intro (rfl : true = true) (And.intro (rfl : (qd_ab_mk β l k m dn (y - 1) (z.2.2.set (k + L dn) ((gi z.2.2 (k + L dn) - z.1 - z.2.1) % 4294967296).toNat) (0, 0, (List.set (U z.2.2) (k + ((lim dn).length : Int).toNat) (.int .u32 (((gi z.2.2 (k + ((lim dn).length : Int).toNat)) - (IntKind.wrap .u32 z.1) - z.2.1) % 4294967296))), (z.2.2.set (k + L dn) ((gi z.2.2 (k + L dn) - z.1 - z.2.1) % 4294967296).toNat))) = (qd_ab_mk β l k m dn (y - 1) (z.2.2.set (k + L dn) ((gi z.2.2 (k + L dn) - z.1 - z.2.1) % 4294967296).toNat) (0, 0, (List.set (U z.2.2) (k + ((lim dn).length : Int).toNat) (.int .u32 (((gi z.2.2 (k + ((lim dn).length : Int).toNat)) - (IntKind.wrap .u32 z.1) - z.2.1) % 4294967296))), (z.2.2.set (k + L dn) ((gi z.2.2 (k + L dn) - z.1 - z.2.1) % 4294967296).toNat)))) (And.intro (qd_ab β l k m dn (y - 1) (z.2.2.set (k + L dn) ((gi z.2.2 (k + L dn) - z.1 - z.2.1) % 4294967296).toNat) c0 c1 c2 hM.1 (0, 0, (List.set (U z.2.2) (k + ((lim dn).length : Int).toNat) (.int .u32 (((gi z.2.2 (k + ((lim dn).length : Int).toNat)) - (IntKind.wrap .u32 z.1) - z.2.1) % 4294967296))), (z.2.2.set (k + L dn) ((gi z.2.2 (k + L dn) - z.1 - z.2.1) % 4294967296).toNat)) (show (List.set (U z.2.2) (k + ((lim dn).length : Int).toNat) (.int .u32 (((gi z.2.2 (k + ((lim dn).length : Int).toNat)) - (IntKind.wrap .u32 z.1) - z.2.1) % 4294967296))) = U (z.2.2.set (k + L dn) ((gi z.2.2 (k + L dn) - z.1 - z.2.1) % 4294967296).toNat) ∧ AbIn (z.2.2.set (k + L dn) ((gi z.2.2 (k + L dn) - z.1 - z.2.1) % 4294967296).toNat) k dn 0 0 (z.2.2.set (k + L dn) ((gi z.2.2 (k + L dn) - z.1 - z.2.1) % 4294967296).toNat) from ⟨setU _ (by omega) (by rw [hz0, w2]; omega), ab_init hM.2.1⟩)) (fun v (hJ : qd_ab_J β l k m dn (y - 1) (z.2.2.set (k + L dn) ((gi z.2.2 (k + L dn) - z.1 - z.2.1) % 4294967296).toNat) v) => have hJ : AbIn (z.2.2.set (k + L dn) ((gi z.2.2 (k + L dn) - z.1 - z.2.1) % 4294967296).toNat) k dn (L dn : Int) v.1 v.2 := hJ; have ⟨_, _, v2, v3, v4, v5, _⟩ := hJ; have v8 := U_len v.2; have b6 := gi_b v5 (k + ((lim dn).length : Int).toNat); have hB := kn_back c0 hG hM.1 hM.2.1 hM.2.2.1 (by have h := hM.2.2.2; rw [if_pos (show gi z.2.2 (k + L dn) < z.1 + z.2.1 by omega), Nat.mul_one] at h; exact h) hJ; And.intro (inB_mk (by first | omega | (simp <;> omega)) : (inB ((lim dn).length : Int) m) = true) (And.intro (ld_U (by first | omega | (simp <;> omega)) : (Nat.blt (k + ((lim dn).length : Int).toNat) (U v.2).length && isIntK .u32 (nth (U v.2) (k + ((lim dn).length : Int).toNat) .unk)) = true) (And.intro (inB_mk (by first | omega | (simp <;> omega)) : (inB ((lim dn).length : Int) m) = true) (And.intro (st_ok (by first | omega | (simp <;> omega)) : (Nat.ble ((k + ((lim dn).length : Int).toNat) + 1) (U v.2).length) = true) (And.intro (rfl : true = true) (⟨.inl rfl, 0, 4, rfl, (congrArg (fun x => D.val (.int .u32 x)) (by rw [wrap_u32, Int.emod_eq_of_lt (by omega) (by omega)]; exact hB.1)), rfl, rfl, (by rw [k0, U_setI _ _ _ (by rw [wrap_u32]; omega), wrap_u32]; exact congrArg U hB.2)⟩ : EndM Tryz.f213.results β k m (U (lowL l (k + L dn + 1) (Xd l k (L dn) % (4294967296 ^ k * dn)))) (.int .u32 ((kq l k dn : Nat) : Int)) .ret ⟨mkS 161 [(0, (.oslp 0 k m 1 β)), (4, (.val (.int .u32 (IntKind.wrap .u32 (y - 1)))))], [⟨true, false, (List.set (U v.2) (k + ((lim dn).length : Int).toNat) (.int .u32 (IntKind.wrap .u32 ((gi v.2 (k + ((lim dn).length : Int).toNat)) + v.1))))⟩]⟩)))))))))) (fun (h2 : (iNe (if (gi z.2.2 (k + ((lim dn).length : Int).toNat)) < (IntKind.wrap .u32 z.1) + z.2.1 then 1 else 0) 0) = false) => have _gh2 := iNe_f h2; And.intro (rfl : true = true) (⟨.inl rfl, 0, 4, rfl, (congrArg (fun x => D.val (.int .u32 x)) (by rw [wrap_u32, Int.emod_eq_of_lt (by omega) (by omega)]; exact (kn_right c0 hG hM.1 hM.2.1 hM.2.2.1 (by have h := hM.2.2.2; rw [if_neg (show ¬ gi z.2.2 (k + L dn) < z.1 + z.2.1 by omega), Nat.mul_zero, Nat.add_zero] at h; exact h)).1)), rfl, rfl, (by rw [U_setI _ _ _ (by omega), w2, k0]; exact congrArg U (kn_right c0 hG hM.1 hM.2.1 hM.2.2.1 (by have h := hM.2.2.2; rw [if_neg (show ¬ gi z.2.2 (k + L dn) < z.1 + z.2.1 by omega), Nat.mul_zero, Nat.add_zero] at h; exact h)).2)⟩ : EndM Tryz.f213.results β k m (U (lowL l (k + L dn + 1) (Xd l k (L dn) % (4294967296 ^ k * dn)))) (.int .u32 ((kq l k dn : Nat) : Int)) .ret ⟨mkS 161 [(0, (.oslp 0 k m 1 β)), (4, (.val (.int .u32 (IntKind.wrap .u32 y))))], [⟨true, false, (List.set (U z.2.2) (k + ((lim dn).length : Int).toNat) (.int .u32 (((gi z.2.2 (k + ((lim dn).length : Int).toNat)) - (IntKind.wrap .u32 z.1) - z.2.1) % 4294967296)))⟩]⟩)))))))))))))))))))))))))))))))))) (by kernel_rfl))

def qdm_loop_mk (a b : Nat) (s : Int) (x : Int × List V × List V × List Nat × List Nat) : St := ⟨mkS 98 [(10, (.val (.int .i64 s))), (11, (.val (N (b * 2 ^ s.toNat)))), (12, (.osl 2 0 (L (a * 2 ^ s.toNat) + 1) 1)), (13, (.val (.int .i64 ((lim (b * 2 ^ s.toNat)).length : Int)))), (14, (.osl 3 0 ((((L (a * 2 ^ s.toNat) + 1) : Int) - ((lim (b * 2 ^ s.toNat)).length : Int)).toNat) 1)), (15, (.val (.int .i64 x.1)))], [⟨false, false, ([] : List V)⟩, ⟨true, false, [(V.int .u32 0)]⟩, ⟨true, false, x.2.1⟩, ⟨true, false, x.2.2.1⟩]⟩
def qdm_loop_I (a b : Nat) (s : Int) (x : Int × List V × List V × List Nat × List Nat) : Prop := (x.2.1 = U x.2.2.2.1 ∧ x.2.2.1 = U x.2.2.2.2) ∧ DvIn (a * 2 ^ s.toNat) (b * 2 ^ s.toNat) (L (a * 2 ^ s.toNat) + 1 - L (b * 2 ^ s.toNat)) x.1 x.2.2.2.1 x.2.2.2.2
def qdm_loop_mu (a b : Nat) (s : Int) (x : Int × List V × List V × List Nat × List Nat) : Nat := (x.1 + 1).toNat
def qdm_loop_ex (a b : Nat) (s : Int) (y : List Nat × List Nat) : Ex × St := (.exit 1, ⟨mkS 98 [(10, (.val (.int .i64 s))), (11, (.val (N (b * 2 ^ s.toNat)))), (12, (.osl 2 0 (L (a * 2 ^ s.toNat) + 1) 1)), (13, (.val (.int .i64 ((lim (b * 2 ^ s.toNat)).length : Int)))), (14, (.osl 3 0 ((((L (a * 2 ^ s.toNat) + 1) : Int) - ((lim (b * 2 ^ s.toNat)).length : Int)).toNat) 1))], [⟨false, false, ([] : List V)⟩, ⟨true, false, [(V.int .u32 0)]⟩, ⟨true, false, (U y.1)⟩, ⟨true, false, (U y.2)⟩]⟩)
def qdm_loop_J (a b : Nat) (s : Int) (y : List Nat × List Nat) : Prop := DvIn (a * 2 ^ s.toNat) (b * 2 ^ s.toNat) (L (a * 2 ^ s.toNat) + 1 - L (b * 2 ^ s.toNat)) (-1) y.1 y.2
theorem qdm_loop (a b : Nat) (s : Int) (c0 : L a ≤ 16777216 ∧ L b ≤ 16777216)(c1 : 2 ≤ L (b * 2 ^ s.toNat))(c2 : 2147483648 ≤ (limbs (b * 2 ^ s.toNat)).getD (L (b * 2 ^ s.toNat) - 1) 0)(c3 : 0 ≤ s ∧ s ≤ 32) (x0 : Int × List V × List V × List Nat × List Nat) (hI : qdm_loop_I a b s x0) : LoopOk Tryz.prog Amb (loopN Tryz.f180 0) (qdm_loop_mk a b s x0) (fun e st_ => ∃ y, qdm_loop_J a b s y ∧ qdm_loop_ex a b s y = (e, st_)) :=
  loop_ob hP hAmb ⟨[10, 11, 12, 13, 14, 15], 4, []⟩ (qdm_loop_mk a b s) (qdm_loop_I a b s) (qdm_loop_mu a b s) (qdm_loop_ex a b s) (qdm_loop_J a b s) x0 hI (fun (k, o0, o, lu, lq) => .lit <| .both (.lit <| .yes <| .lit <| .yes <| .yes <| .yes <| .callM (U (lowL lu ((0 + k.toNat) + L (b * 2 ^ s.toNat) + 1) (Xd lu (0 + k.toNat) (L (b * 2 ^ s.toNat)) % (4294967296 ^ (0 + k.toNat) * (b * 2 ^ s.toNat))))) (.int .u32 ((kq lu (0 + k.toNat) (b * 2 ^ s.toNat) : Nat) : Int)) <| .lit <| .yes <| .yes <| .lit <| .yes <| .fin2 ⟨[10, 11, 12, 13, 14, 15], 4, []⟩) (.fin2 ⟨[10, 11, 12, 13, 14], 4, []⟩)) (by
    rintro ⟨k, o0, o, lu, lq⟩ hI
    have hI : (o0 = U lu ∧ o = U lq) ∧ DvIn (a * 2 ^ s.toNat) (b * 2 ^ s.toNat) (L (a * 2 ^ s.toNat) + 1 - L (b * 2 ^ s.toNat)) k lu lq := hI
    obtain ⟨⟨rfl, rfl⟩, h1⟩ := hI
    have e0 := L_len (b * 2 ^ s.toNat)
    have e1 := U_len lu
    have e2 := U_len lq
    have ⟨p0, p1, p2, p3, p4, p5, _⟩ := h1
    have hkn : 0 ≤ k → Kn lu (0 + k.toNat) (b * 2 ^ s.toNat) := fun q => by rw [Nat.zero_add]; exact dv_kn h1 q c1 c2
    have hls := L_shl a s.toNat
    have hz : 0 + k.toNat = k.toNat := Nat.zero_add _
    have hnx : 0 ≤ k → DvIn (a * 2 ^ s.toNat) (b * 2 ^ s.toNat) (L (a * 2 ^ s.toNat) + 1 - L (b * 2 ^ s.toNat)) (k - 1) (lowL lu (0 + k.toNat + L (b * 2 ^ s.toNat) + 1) (Xd lu (0 + k.toNat) (L (b * 2 ^ s.toNat)) % (4294967296 ^ (0 + k.toNat) * (b * 2 ^ s.toNat)))) (lq.set k.toNat (kq lu (0 + k.toNat) (b * 2 ^ s.toNat))) := fun q => by rw [hz]; exact dv_next h1 q c1 c2
    have hx := fun q => (hkn q).qlt
    exact cast_ob (And.intro True.intro (And.intro (fun (h101 : (iGe k 0) = true) => have _gh101 := iGe_t h101; And.intro (fits_i64 (by omega) : (fits .i64 (k + ((lim (b * 2 ^ s.toNat)).length : Int))) = true) (And.intro (fits_i64 (by omega) : (fits .i64 ((k + ((lim (b * 2 ^ s.toNat)).length : Int)) + 1)) = true) (And.intro (and_mk (and_mk (and_mk (iLe_mk (by omega)) (iLe_mk (by omega))) (iLe_mk (by omega))) (or_mk2 (by omega)) : ((((iLe (0 : Int) k) && (iLe k ((k + ((lim (b * 2 ^ s.toNat)).length : Int)) + 1))) && (iLe ((k + ((lim (b * 2 ^ s.toNat)).length : Int)) + 1) ((L (a * 2 ^ s.toNat) + 1) : Int))) && ((iEq k 0) || (iLt k ((L (a * 2 ^ s.toNat) + 1) : Int)))) = true) (And.intro (ok_arg (by omega) : ((true && Nat.ble ((0 + k.toNat) + (((k + ((lim (b * 2 ^ s.toNat)).length : Int)) + 1) - k).toNat) (U lu).length) && (true && true)) = true) (And.intro (quot_digit lu (0 + k.toNat) ((((k + ((lim (b * 2 ^ s.toNat)).length : Int)) + 1) - k).toNat) (b * 2 ^ s.toNat) (hkn (by omega)) (by omega) (by omega)) (And.intro (inB_mk (by omega) : (inB k ((((L (a * 2 ^ s.toNat) + 1) : Int) - ((lim (b * 2 ^ s.toNat)).length : Int)).toNat)) = true) (And.intro (st_ok (by omega) : (Nat.ble ((0 + k.toNat) + 1) (U lq).length) = true) (And.intro (fits_i64 (by omega) : (fits .i64 (k - 1)) = true) (And.intro (rfl : true = true) ((nx_next ((k - 1), (U (lowL lu ((0 + k.toNat) + L (b * 2 ^ s.toNat) + 1) (Xd lu (0 + k.toNat) (L (b * 2 ^ s.toNat)) % (4294967296 ^ (0 + k.toNat) * (b * 2 ^ s.toNat))))), (List.set (U lq) (0 + k.toNat) (.int .u32 ((kq lu (0 + k.toNat) (b * 2 ^ s.toNat) : Nat) : Int))), (lowL lu ((0 + k.toNat) + L (b * 2 ^ s.toNat) + 1) (Xd lu (0 + k.toNat) (L (b * 2 ^ s.toNat)) % (4294967296 ^ (0 + k.toNat) * (b * 2 ^ s.toNat)))), (lq.set k.toNat (kq lu (0 + k.toNat) (b * 2 ^ s.toNat)))) (show ((U (lowL lu ((0 + k.toNat) + L (b * 2 ^ s.toNat) + 1) (Xd lu (0 + k.toNat) (L (b * 2 ^ s.toNat)) % (4294967296 ^ (0 + k.toNat) * (b * 2 ^ s.toNat))))) = U (lowL lu ((0 + k.toNat) + L (b * 2 ^ s.toNat) + 1) (Xd lu (0 + k.toNat) (L (b * 2 ^ s.toNat)) % (4294967296 ^ (0 + k.toNat) * (b * 2 ^ s.toNat)))) ∧ (List.set (U lq) (0 + k.toNat) (.int .u32 ((kq lu (0 + k.toNat) (b * 2 ^ s.toNat) : Nat) : Int))) = U (lq.set k.toNat (kq lu (0 + k.toNat) (b * 2 ^ s.toNat)))) ∧ DvIn (a * 2 ^ s.toNat) (b * 2 ^ s.toNat) (L (a * 2 ^ s.toNat) + 1 - L (b * 2 ^ s.toNat)) (k - 1) (lowL lu ((0 + k.toNat) + L (b * 2 ^ s.toNat) + 1) (Xd lu (0 + k.toNat) (L (b * 2 ^ s.toNat)) % (4294967296 ^ (0 + k.toNat) * (b * 2 ^ s.toNat)))) (lq.set k.toNat (kq lu (0 + k.toNat) (b * 2 ^ s.toNat))) from ⟨⟨rfl, setU _ (by omega) rfl⟩, hnx (by omega)⟩) (show (k - 1 + 1).toNat < (k + 1).toNat by omega) : NX (qdm_loop_mk a b s) (qdm_loop_I a b s) (qdm_loop_mu a b s) (qdm_loop_ex a b s) (qdm_loop_J a b s) (k, (U lu), (U lq), lu, lq) .normal (qdm_loop_mk a b s ((k - 1), (U (lowL lu ((0 + k.toNat) + L (b * 2 ^ s.toNat) + 1) (Xd lu (0 + k.toNat) (L (b * 2 ^ s.toNat)) % (4294967296 ^ (0 + k.toNat) * (b * 2 ^ s.toNat))))), (List.set (U lq) (0 + k.toNat) (.int .u32 ((kq lu (0 + k.toNat) (b * 2 ^ s.toNat) : Nat) : Int))), (lowL lu ((0 + k.toNat) + L (b * 2 ^ s.toNat) + 1) (Xd lu (0 + k.toNat) (L (b * 2 ^ s.toNat)) % (4294967296 ^ (0 + k.toNat) * (b * 2 ^ s.toNat)))), (lq.set k.toNat (kq lu (0 + k.toNat) (b * 2 ^ s.toNat)))))))))))))))) (fun (h102 : (iGe k 0) = false) => have _gh102 := iGe_f h102; And.intro (rfl : true = true) ((nx_exit 1 ((qdm_loop_ex a b s (lu, lq)).2) (lu, lq) (show DvIn (a * 2 ^ s.toNat) (b * 2 ^ s.toNat) (L (a * 2 ^ s.toNat) + 1 - L (b * 2 ^ s.toNat)) (-1) lu lq from (show k = -1 by omega) ▸ h1) rfl : NX (qdm_loop_mk a b s) (qdm_loop_I a b s) (qdm_loop_mu a b s) (qdm_loop_ex a b s) (qdm_loop_J a b s) (k, (U lu), (U lq), lu, lq) (.exit 1) ((qdm_loop_ex a b s (lu, lq)).2)))))) (by kernel_rfl))

theorem quot_DivMod (a : Nat) (b : Nat) (c0 : L a ≤ 16777216) (c1 : L b ≤ 16777216) (c2 : 0 < b) : Impl Tryz.prog Amb 180 [(N a), (N b)] (.tup [(N (a / b)), (N (a % b)), (.bool true)]) := by
  have e0 := L_len a
  have e1 := L_len b
  have p0 := L_pos (show b ≠ 0 by omega)
  have hcm := cmpN_or a b
  have tb := top_bits b p0
  have g0 := gi_b (dig_limbs b) (((lim b).length : Int) - 1).toNat
  have g1 := gi_b (dig_limbs b) 0
  have eT : (((lim b).length : Int) - 1).toNat = ((L b : Int) - 1).toNat := by rw [L_len]
  have hs : nbits b + ((32 - (Lib.bitLen (gi (limbs b) (((lim b).length : Int) - 1).toNat).toNat : Int))).toNat = 32 * L b := by rw [eT]; omega
  have hsr : 0 ≤ (32 - (Lib.bitLen (gi (limbs b) (((lim b).length : Int) - 1).toNat).toNat : Int)) ∧ (32 - (Lib.bitLen (gi (limbs b) (((lim b).length : Int) - 1).toNat).toNat : Int)) ≤ 32 := by rw [eT]; omega
  have hno0 := kn_norm (show b ≠ 0 by omega) hs
  have hno : L (b * 2 ^ ((32 - (Lib.bitLen (gi (limbs b) (((lim b).length : Int) - 1).toNat).toNat : Int))).toNat) = L b ∧ 2147483648 ≤ (limbs (b * 2 ^ ((32 - (Lib.bitLen (gi (limbs b) (((lim b).length : Int) - 1).toNat).toNat : Int))).toNat)).getD (L (b * 2 ^ ((32 - (Lib.bitLen (gi (limbs b) (((lim b).length : Int) - 1).toNat).toNat : Int))).toNat) - 1) 0 := by rw [hno0.1]; exact ⟨rfl, hno0.2⟩
  have e2 := L_len (b * 2 ^ ((32 - (Lib.bitLen (gi (limbs b) (((lim b).length : Int) - 1).toNat).toNat : Int))).toNat)
  have hls := L_shl a ((32 - (Lib.bitLen (gi (limbs b) (((lim b).length : Int) - 1).toNat).toNat : Int))).toNat
  have hft : b ≤ a → (a * 2 ^ ((32 - (Lib.bitLen (gi (limbs b) (((lim b).length : Int) - 1).toNat).toNat : Int))).toNat) < 4294967296 ^ (L (a * 2 ^ ((32 - (Lib.bitLen (gi (limbs b) (((lim b).length : Int) - 1).toNat).toNat : Int))).toNat) + 1 - L (b * 2 ^ ((32 - (Lib.bitLen (gi (limbs b) (((lim b).length : Int) - 1).toNat).toNat : Int))).toNat)) * (b * 2 ^ ((32 - (Lib.bitLen (gi (limbs b) (((lim b).length : Int) - 1).toNat).toNat : Int))).toNat) ∧ L (a * 2 ^ ((32 - (Lib.bitLen (gi (limbs b) (((lim b).length : Int) - 1).toNat).toNat : Int))).toNat) + 1 = (L (a * 2 ^ ((32 - (Lib.bitLen (gi (limbs b) (((lim b).length : Int) - 1).toNat).toNat : Int))).toNat) + 1 - L (b * 2 ^ ((32 - (Lib.bitLen (gi (limbs b) (((lim b).length : Int) - 1).toNat).toNat : Int))).toNat)) + L (b * 2 ^ ((32 - (Lib.bitLen (gi (limbs b) (((lim b).length : Int) - 1).toNat).toNat : Int))).toNat) := fun h => dv_fit (Nat.mul_le_mul_right _ h) (fun q => by rw [q, L_zero] at hno; omega)
  have g3 : L b = 1 → gi (limbs b) 0 = (b : Int) := gi_one
  have gm : L b = 1 → 0 ≤ ((a % (gi (limbs b) 0).toNat : Nat) : Int) ∧ ((a % (gi (limbs b) 0).toNat : Nat) : Int) < 4294967296 := fun q => by have := Nat.mod_lt a (show 0 < (gi (limbs b) 0).toNat by rw [gi_one q]; omega); omega
  exact impl_ob hP hAmb Tryz.func180 (by kernel_rfl) (.lit <| .call (N a) <| .lit <| .call (N b) <| .lit <| .no <| .lit <| .call (.int .i64 (cmpN a b)) <| .lit <| .both (.lit <| .ret) (.lit <| .both (.yes <| .yes <| .lit <| .call (.tup [(N (a / ((gi (limbs b) 0)).toNat)), (.int .u32 ((a % ((gi (limbs b) 0)).toNat : Nat) : Int)), (.bool true)]) <| .lit <| .yes <| .lit <| .call (N ((((a % ((gi (limbs b) 0)).toNat : Nat) : Int)).toNat)) <| .lit <| .ret) (.lit <| .yes <| .yes <| .yes <| .lit <| .call (.int .i64 (32 - (Lib.bitLen ((gi (limbs b) ((((lim b).length : Int) - 1).toNat))).toNat : Int))) <| .lit <| .call (N (b * 2 ^ ((32 - (Lib.bitLen ((gi (limbs b) ((((lim b).length : Int) - 1).toNat))).toNat : Int))).toNat)) <| .lit <| .callO 1 (L (a * 2 ^ ((32 - (Lib.bitLen ((gi (limbs b) ((((lim b).length : Int) - 1).toNat))).toNat : Int))).toNat)) (lim (a * 2 ^ ((32 - (Lib.bitLen ((gi (limbs b) ((((lim b).length : Int) - 1).toNat))).toNat : Int))).toNat)) <| .yes <| .lit <| .yes <| .yes <| .lit <| .yes <| .lit <| .yes <| .loop ⟨[10, 11, 12, 13, 14, 15], 4, []⟩ ((qdm_loop_mk a b (32 - (Lib.bitLen (gi (limbs b) (((lim b).length : Int) - 1).toNat).toNat : Int)) ((((((L (a * 2 ^ ((32 - (Lib.bitLen ((gi (limbs b) ((((lim b).length : Int) - 1).toNat))).toNat : Int))).toNat)) + 1) : Int) - ((lim (b * 2 ^ ((32 - (Lib.bitLen ((gi (limbs b) ((((lim b).length : Int) - 1).toNat))).toNat : Int))).toNat)).length : Int)) - 1), ((lim (a * 2 ^ ((32 - (Lib.bitLen ((gi (limbs b) ((((lim b).length : Int) - 1).toNat))).toNat : Int))).toNat)) ++ [(V.int .u32 0)]), (List.replicate (((((L (a * 2 ^ ((32 - (Lib.bitLen ((gi (limbs b) ((((lim b).length : Int) - 1).toNat))).toNat : Int))).toNat)) + 1) : Int) - ((lim (b * 2 ^ ((32 - (Lib.bitLen ((gi (limbs b) ((((lim b).length : Int) - 1).toNat))).toNat : Int))).toNat)).length : Int)).toNat) (.int .u32 0)), (limbs (a * 2 ^ (32 - (Lib.bitLen (gi (limbs b) (((lim b).length : Int) - 1).toNat).toNat : Int)).toNat) ++ [0]), (List.replicate (L (a * 2 ^ (32 - (Lib.bitLen (gi (limbs b) (((lim b).length : Int) - 1).toNat).toNat : Int)).toNat) + 1 - L (b * 2 ^ (32 - (Lib.bitLen (gi (limbs b) (((lim b).length : Int) - 1).toNat).toNat : Int)).toNat)) 0)))) (List Nat × List Nat) (qdm_loop_ex a b (32 - (Lib.bitLen (gi (limbs b) (((lim b).length : Int) - 1).toNat).toNat : Int))) (qdm_loop_J a b (32 - (Lib.bitLen (gi (limbs b) (((lim b).length : Int) - 1).toNat).toNat : Int))) (fun y => .yes <| .call (N (val y.2)) <| .yes <| .yes <| .call (N (val (y.1.take (L (b * 2 ^ ((32 - (Lib.bitLen (gi (limbs b) (((lim b).length : Int) - 1).toNat).toNat : Int))).toNat))))) <| .lit <| .call (N ((val (y.1.take (L (b * 2 ^ ((32 - (Lib.bitLen (gi (limbs b) (((lim b).length : Int) - 1).toNat).toNat : Int))).toNat)))) / 2 ^ ((32 - (Lib.bitLen (gi (limbs b) (((lim b).length : Int) - 1).toNat).toNat : Int))).toNat)) <| .lit <| .ret))))
    (cast_ob (And.intro True.intro (And.intro (nat_TrimN a (by first | omega | (simp <;> omega))) (And.intro (nat_TrimN b (by first | omega | (simp <;> omega))) (And.intro (iEq_mkF (by omega) : (iEq ((lim b).length : Int) 0) = false) (And.intro (nat_Cmp a b (by first | omega | (simp <;> omega)) (by first | omega | (simp <;> omega))) (And.intro (fun (h1 : (iLt (cmpN a b) 0) = true) => have _gh1 := iLt_t h1; (by have h : a < b := (by omega); rw [Nat.div_eq_of_lt h, Nat.mod_eq_of_lt h]; exact vsub_tup3 (by show vsub .nil (.sl 1 (U (limbs 0))); rw [limbs_zero]; exact vsub_nil 1) (vsub_refl _) (vsub_refl _) : vsub (.tup [.nil, (N a), (.bool true)]) (.tup [(N (a / b)), (N (a % b)), (.bool true)]))) (fun (h2 : (iLt (cmpN a b) 0) = false) => have _gh2 := iLt_f h2; And.intro (fun (h3 : (iEq ((lim b).length : Int) 1) = true) => have _gh3 := iEq_t h3; And.intro (inB_mk (by first | omega | (simp <;> omega)) : (inB (0 : Int) ((lim b).length)) = true) (And.intro (ld_L (by first | omega | (simp <;> omega)) : (Nat.blt 0 (lim b).length && isIntK .u32 (nth (lim b) 0 .unk)) = true) (And.intro (quot_SmallI a (gi (limbs b) 0) (by first | omega | (simp <;> omega)) (by first | omega | (simp <;> omega))) (And.intro (fits_u64 (by first | omega | (simp <;> omega)) : (fits .u64 ((a % ((gi (limbs b) 0)).toNat : Nat) : Int)) = true) (And.intro (nat_Of ((a % ((gi (limbs b) 0)).toNat : Nat) : Int) (by first | omega | (simp <;> omega))) ((by rw [gi_one (show L b = 1 by omega)]; exact vsub_refl _ : vsub (.tup [(N (a / ((gi (limbs b) 0)).toNat)), (N ((((a % ((gi (limbs b) 0)).toNat : Nat) : Int)).toNat)), (.bool true)]) (.tup [(N (a / b)), (N (a % b)), (.bool true)])))))))) (fun (h4 : (iEq ((lim b).length : Int) 1) = false) => have _gh4 := iEq_f h4; And.intro (fits_i64 (by first | omega | (simp <;> omega)) : (fits .i64 (((lim b).length : Int) - 1)) = true) (And.intro (inB_mk (by first | omega | (simp <;> omega)) : (inB (((lim b).length : Int) - 1) ((lim b).length)) = true) (And.intro (ld_L (by first | omega | (simp <;> omega)) : (Nat.blt ((((lim b).length : Int) - 1).toNat) (lim b).length && isIntK .u32 (nth (lim b) ((((lim b).length : Int) - 1).toNat) .unk)) = true) (And.intro (bits_LZ32 (gi (limbs b) ((((lim b).length : Int) - 1).toNat)) (by first | omega | (simp <;> omega))) (And.intro (nat_Shl b (32 - (Lib.bitLen ((gi (limbs b) ((((lim b).length : Int) - 1).toNat))).toNat : Int)) (by first | omega | (simp <;> omega)) (by first | omega | (simp <;> omega))) (And.intro (nat_ShlO a (32 - (Lib.bitLen ((gi (limbs b) ((((lim b).length : Int) - 1).toNat))).toNat : Int)) (by first | omega | (simp <;> omega)) (by first | omega | (simp <;> omega)) (by first | omega | (simp <;> omega))) (And.intro (and_mk (and_mk (and_mk (rfl) rfl) (st_ok (by first | omega | (simp <;> omega)))) (by first | rfl | (simp <;> omega) | (rw [L_len]; simp)) : (true && true && Nat.ble ((L (a * 2 ^ ((32 - (Lib.bitLen ((gi (limbs b) ((((lim b).length : Int) - 1).toNat))).toNat : Int))).toNat)) + 1) 1073741824 && Nat.beq (lim (a * 2 ^ ((32 - (Lib.bitLen ((gi (limbs b) ((((lim b).length : Int) - 1).toNat))).toNat : Int))).toNat)).length (L (a * 2 ^ ((32 - (Lib.bitLen ((gi (limbs b) ((((lim b).length : Int) - 1).toNat))).toNat : Int))).toNat))) = true) (And.intro (fits_i64 (by first | omega | (simp <;> omega)) : (fits .i64 ((((L (a * 2 ^ ((32 - (Lib.bitLen ((gi (limbs b) ((((lim b).length : Int) - 1).toNat))).toNat : Int))).toNat)) + 1) : Int) - ((lim (b * 2 ^ ((32 - (Lib.bitLen ((gi (limbs b) ((((lim b).length : Int) - 1).toNat))).toNat : Int))).toNat)).length : Int))) = true) (And.intro (mk_ok (by first | omega | (simp <;> omega)) : (((iEq ((((L (a * 2 ^ ((32 - (Lib.bitLen ((gi (limbs b) ((((lim b).length : Int) - 1).toNat))).toNat : Int))).toNat)) + 1) : Int) - ((lim (b * 2 ^ ((32 - (Lib.bitLen ((gi (limbs b) ((((lim b).length : Int) - 1).toNat))).toNat : Int))).toNat)).length : Int)) ((((L (a * 2 ^ ((32 - (Lib.bitLen ((gi (limbs b) ((((lim b).length : Int) - 1).toNat))).toNat : Int))).toNat)) + 1) : Int) - ((lim (b * 2 ^ ((32 - (Lib.bitLen ((gi (limbs b) ((((lim b).length : Int) - 1).toNat))).toNat : Int))).toNat)).length : Int))) && (iLe 0 ((((L (a * 2 ^ ((32 - (Lib.bitLen ((gi (limbs b) ((((lim b).length : Int) - 1).toNat))).toNat : Int))).toNat)) + 1) : Int) - ((lim (b * 2 ^ ((32 - (Lib.bitLen ((gi (limbs b) ((((lim b).length : Int) - 1).toNat))).toNat : Int))).toNat)).length : Int)))) && (iLe ((((L (a * 2 ^ ((32 - (Lib.bitLen ((gi (limbs b) ((((lim b).length : Int) - 1).toNat))).toNat : Int))).toNat)) + 1) : Int) - ((lim (b * 2 ^ ((32 - (Lib.bitLen ((gi (limbs b) ((((lim b).length : Int) - 1).toNat))).toNat : Int))).toNat)).length : Int)) 1073741824)) = true) (And.intro (fits_i64 (by first | omega | (simp <;> omega)) : (fits .i64 ((((L (a * 2 ^ ((32 - (Lib.bitLen ((gi (limbs b) ((((lim b).length : Int) - 1).toNat))).toNat : Int))).toNat)) + 1) : Int) - ((lim (b * 2 ^ ((32 - (Lib.bitLen ((gi (limbs b) ((((lim b).length : Int) - 1).toNat))).toNat : Int))).toNat)).length : Int))) = true) (And.intro (fits_i64 (by first | omega | (simp <;> omega)) : (fits .i64 (((((L (a * 2 ^ ((32 - (Lib.bitLen ((gi (limbs b) ((((lim b).length : Int) - 1).toNat))).toNat : Int))).toNat)) + 1) : Int) - ((lim (b * 2 ^ ((32 - (Lib.bitLen ((gi (limbs b) ((((lim b).length : Int) - 1).toNat))).toNat : Int))).toNat)).length : Int)) - 1)) = true) (And.intro (rfl : true = true) (And.intro (rfl : (qdm_loop_mk a b (32 - (Lib.bitLen (gi (limbs b) (((lim b).length : Int) - 1).toNat).toNat : Int)) ((((((L (a * 2 ^ ((32 - (Lib.bitLen ((gi (limbs b) ((((lim b).length : Int) - 1).toNat))).toNat : Int))).toNat)) + 1) : Int) - ((lim (b * 2 ^ ((32 - (Lib.bitLen ((gi (limbs b) ((((lim b).length : Int) - 1).toNat))).toNat : Int))).toNat)).length : Int)) - 1), ((lim (a * 2 ^ ((32 - (Lib.bitLen ((gi (limbs b) ((((lim b).length : Int) - 1).toNat))).toNat : Int))).toNat)) ++ [(V.int .u32 0)]), (List.replicate (((((L (a * 2 ^ ((32 - (Lib.bitLen ((gi (limbs b) ((((lim b).length : Int) - 1).toNat))).toNat : Int))).toNat)) + 1) : Int) - ((lim (b * 2 ^ ((32 - (Lib.bitLen ((gi (limbs b) ((((lim b).length : Int) - 1).toNat))).toNat : Int))).toNat)).length : Int)).toNat) (.int .u32 0)), (limbs (a * 2 ^ (32 - (Lib.bitLen (gi (limbs b) (((lim b).length : Int) - 1).toNat).toNat : Int)).toNat) ++ [0]), (List.replicate (L (a * 2 ^ (32 - (Lib.bitLen (gi (limbs b) (((lim b).length : Int) - 1).toNat).toNat : Int)).toNat) + 1 - L (b * 2 ^ (32 - (Lib.bitLen (gi (limbs b) (((lim b).length : Int) - 1).toNat).toNat : Int)).toNat)) 0))) = (qdm_loop_mk a b (32 - (Lib.bitLen (gi (limbs b) (((lim b).length : Int) - 1).toNat).toNat : Int)) ((((((L (a * 2 ^ ((32 - (Lib.bitLen ((gi (limbs b) ((((lim b).length : Int) - 1).toNat))).toNat : Int))).toNat)) + 1) : Int) - ((lim (b * 2 ^ ((32 - (Lib.bitLen ((gi (limbs b) ((((lim b).length : Int) - 1).toNat))).toNat : Int))).toNat)).length : Int)) - 1), ((lim (a * 2 ^ ((32 - (Lib.bitLen ((gi (limbs b) ((((lim b).length : Int) - 1).toNat))).toNat : Int))).toNat)) ++ [(V.int .u32 0)]), (List.replicate (((((L (a * 2 ^ ((32 - (Lib.bitLen ((gi (limbs b) ((((lim b).length : Int) - 1).toNat))).toNat : Int))).toNat)) + 1) : Int) - ((lim (b * 2 ^ ((32 - (Lib.bitLen ((gi (limbs b) ((((lim b).length : Int) - 1).toNat))).toNat : Int))).toNat)).length : Int)).toNat) (.int .u32 0)), (limbs (a * 2 ^ (32 - (Lib.bitLen (gi (limbs b) (((lim b).length : Int) - 1).toNat).toNat : Int)).toNat) ++ [0]), (List.replicate (L (a * 2 ^ (32 - (Lib.bitLen (gi (limbs b) (((lim b).length : Int) - 1).toNat).toNat : Int)).toNat) + 1 - L (b * 2 ^ (32 - (Lib.bitLen (gi (limbs b) (((lim b).length : Int) - 1).toNat).toNat : Int)).toNat)) 0)))) (And.intro (qdm_loop a b (32 - (Lib.bitLen (gi (limbs b) (((lim b).length : Int) - 1).toNat).toNat : Int)) (⟨c0, c1⟩) (by omega) hno.2 hsr ((((((L (a * 2 ^ ((32 - (Lib.bitLen ((gi (limbs b) ((((lim b).length : Int) - 1).toNat))).toNat : Int))).toNat)) + 1) : Int) - ((lim (b * 2 ^ ((32 - (Lib.bitLen ((gi (limbs b) ((((lim b).length : Int) - 1).toNat))).toNat : Int))).toNat)).length : Int)) - 1), ((lim (a * 2 ^ ((32 - (Lib.bitLen ((gi (limbs b) ((((lim b).length : Int) - 1).toNat))).toNat : Int))).toNat)) ++ [(V.int .u32 0)]), (List.replicate (((((L (a * 2 ^ ((32 - (Lib.bitLen ((gi (limbs b) ((((lim b).length : Int) - 1).toNat))).toNat : Int))).toNat)) + 1) : Int) - ((lim (b * 2 ^ ((32 - (Lib.bitLen ((gi (limbs b) ((((lim b).length : Int) - 1).toNat))).toNat : Int))).toNat)).length : Int)).toNat) (.int .u32 0)), (limbs (a * 2 ^ (32 - (Lib.bitLen (gi (limbs b) (((lim b).length : Int) - 1).toNat).toNat : Int)).toNat) ++ [0]), (List.replicate (L (a * 2 ^ (32 - (Lib.bitLen (gi (limbs b) (((lim b).length : Int) - 1).toNat).toNat : Int)).toNat) + 1 - L (b * 2 ^ (32 - (Lib.bitLen (gi (limbs b) (((lim b).length : Int) - 1).toNat).toNat : Int)).toNat)) 0)) (show (((lim (a * 2 ^ ((32 - (Lib.bitLen ((gi (limbs b) ((((lim b).length : Int) - 1).toNat))).toNat : Int))).toNat)) ++ [(V.int .u32 0)]) = U (limbs (a * 2 ^ (32 - (Lib.bitLen (gi (limbs b) (((lim b).length : Int) - 1).toNat).toNat : Int)).toNat) ++ [0]) ∧ (List.replicate (((((L (a * 2 ^ ((32 - (Lib.bitLen ((gi (limbs b) ((((lim b).length : Int) - 1).toNat))).toNat : Int))).toNat)) + 1) : Int) - ((lim (b * 2 ^ ((32 - (Lib.bitLen ((gi (limbs b) ((((lim b).length : Int) - 1).toNat))).toNat : Int))).toNat)).length : Int)).toNat) (.int .u32 0)) = U (List.replicate (L (a * 2 ^ (32 - (Lib.bitLen (gi (limbs b) (((lim b).length : Int) - 1).toNat).toNat : Int)).toNat) + 1 - L (b * 2 ^ (32 - (Lib.bitLen (gi (limbs b) (((lim b).length : Int) - 1).toNat).toNat : Int)).toNat)) 0)) ∧ DvIn (a * 2 ^ (32 - (Lib.bitLen (gi (limbs b) (((lim b).length : Int) - 1).toNat).toNat : Int)).toNat) (b * 2 ^ (32 - (Lib.bitLen (gi (limbs b) (((lim b).length : Int) - 1).toNat).toNat : Int)).toNat) (L (a * 2 ^ (32 - (Lib.bitLen (gi (limbs b) (((lim b).length : Int) - 1).toNat).toNat : Int)).toNat) + 1 - L (b * 2 ^ (32 - (Lib.bitLen (gi (limbs b) (((lim b).length : Int) - 1).toNat).toNat : Int)).toNat)) (((((L (a * 2 ^ ((32 - (Lib.bitLen ((gi (limbs b) ((((lim b).length : Int) - 1).toNat))).toNat : Int))).toNat)) + 1) : Int) - ((lim (b * 2 ^ ((32 - (Lib.bitLen ((gi (limbs b) ((((lim b).length : Int) - 1).toNat))).toNat : Int))).toNat)).length : Int)) - 1) (limbs (a * 2 ^ (32 - (Lib.bitLen (gi (limbs b) (((lim b).length : Int) - 1).toNat).toNat : Int)).toNat) ++ [0]) (List.replicate (L (a * 2 ^ (32 - (Lib.bitLen (gi (limbs b) (((lim b).length : Int) - 1).toNat).toNat : Int)).toNat) + 1 - L (b * 2 ^ (32 - (Lib.bitLen (gi (limbs b) (((lim b).length : Int) - 1).toNat).toNat : Int)).toNat)) 0) from ⟨⟨U_append _ [0], by rw [show ((((L (a * 2 ^ (32 - (Lib.bitLen (gi (limbs b) (((lim b).length : Int) - 1).toNat).toNat : Int)).toNat) + 1) : Int) - ((lim (b * 2 ^ (32 - (Lib.bitLen (gi (limbs b) (((lim b).length : Int) - 1).toNat).toNat : Int)).toNat)).length : Int)).toNat) = (L (a * 2 ^ (32 - (Lib.bitLen (gi (limbs b) (((lim b).length : Int) - 1).toNat).toNat : Int)).toNat) + 1 - L (b * 2 ^ (32 - (Lib.bitLen (gi (limbs b) (((lim b).length : Int) - 1).toNat).toNat : Int)).toNat)) by omega]; exact U_rep _⟩, by have := dv_init (hft (by omega)).1 (hft (by omega)).2; rwa [show (((L (a * 2 ^ (32 - (Lib.bitLen (gi (limbs b) (((lim b).length : Int) - 1).toNat).toNat : Int)).toNat) + 1 - L (b * 2 ^ (32 - (Lib.bitLen (gi (limbs b) (((lim b).length : Int) - 1).toNat).toNat : Int)).toNat)) : Nat) : Int) - 1 = (((((L (a * 2 ^ ((32 - (Lib.bitLen ((gi (limbs b) ((((lim b).length : Int) - 1).toNat))).toNat : Int))).toNat)) + 1) : Int) - ((lim (b * 2 ^ ((32 - (Lib.bitLen ((gi (limbs b) ((((lim b).length : Int) - 1).toNat))).toNat : Int))).toNat)).length : Int)) - 1) by omega] at this⟩)) (fun y (hJ : qdm_loop_J a b (32 - (Lib.bitLen (gi (limbs b) (((lim b).length : Int) - 1).toNat).toNat : Int)) y) => have hJ : DvIn (a * 2 ^ (32 - (Lib.bitLen (gi (limbs b) (((lim b).length : Int) - 1).toNat).toNat : Int)).toNat) (b * 2 ^ (32 - (Lib.bitLen (gi (limbs b) (((lim b).length : Int) - 1).toNat).toNat : Int)).toNat) (L (a * 2 ^ (32 - (Lib.bitLen (gi (limbs b) (((lim b).length : Int) - 1).toNat).toNat : Int)).toNat) + 1 - L (b * 2 ^ (32 - (Lib.bitLen (gi (limbs b) (((lim b).length : Int) - 1).toNat).toNat : Int)).toNat)) (-1) y.1 y.2 := hJ; have ⟨d0, d1, d2, d3, d4, d5⟩ := dv_end hJ; have d6 := U_len y.1; have d7 := U_len y.2; have d8 : L (val (y.1.take (L (b * 2 ^ ((32 - (Lib.bitLen (gi (limbs b) (((lim b).length : Int) - 1).toNat).toNat : Int))).toNat)))) ≤ L (a * 2 ^ ((32 - (Lib.bitLen (gi (limbs b) (((lim b).length : Int) - 1).toNat).toNat : Int))).toNat) := (by rw [d4]; exact L_mod _ _); And.intro (ok_arg (by first | omega | (simp <;> omega)) : ((true && Nat.ble (0 + ((((L (a * 2 ^ (32 - (Lib.bitLen (gi (limbs b) (((lim b).length : Int) - 1).toNat).toNat : Int)).toNat) + 1) : Int) - ((lim (b * 2 ^ (32 - (Lib.bitLen (gi (limbs b) (((lim b).length : Int) - 1).toNat).toNat : Int)).toNat)).length : Int)).toNat)) (U y.2).length) && true) = true) (And.intro (nat_TrimC (List.take ((((L (a * 2 ^ (32 - (Lib.bitLen (gi (limbs b) (((lim b).length : Int) - 1).toNat).toNat : Int)).toNat) + 1) : Int) - ((lim (b * 2 ^ (32 - (Lib.bitLen (gi (limbs b) (((lim b).length : Int) - 1).toNat).toNat : Int)).toNat)).length : Int)).toNat) (List.drop 0 (U y.2))) y.2 (tkU rfl (by omega)) d3 (by omega)) (And.intro (and_mk (and_mk (and_mk (rfl) (iLe_mk (by first | omega | (simp <;> omega)))) (iLe_mk (by first | omega | (simp <;> omega)))) (rfl) : (((true && (iLe (0 : Int) ((lim (b * 2 ^ (32 - (Lib.bitLen (gi (limbs b) (((lim b).length : Int) - 1).toNat).toNat : Int)).toNat)).length : Int))) && (iLe ((lim (b * 2 ^ (32 - (Lib.bitLen (gi (limbs b) (((lim b).length : Int) - 1).toNat).toNat : Int)).toNat)).length : Int) ((L (a * 2 ^ (32 - (Lib.bitLen (gi (limbs b) (((lim b).length : Int) - 1).toNat).toNat : Int)).toNat) + 1) : Int))) && true) = true) (And.intro (ok_arg (by first | omega | (simp <;> omega)) : ((true && Nat.ble (0 + (((lim (b * 2 ^ (32 - (Lib.bitLen (gi (limbs b) (((lim b).length : Int) - 1).toNat).toNat : Int)).toNat)).length : Int) - 0).toNat) (U y.1).length) && true) = true) (And.intro (nat_TrimC (List.take ((((lim (b * 2 ^ (32 - (Lib.bitLen (gi (limbs b) (((lim b).length : Int) - 1).toNat).toNat : Int)).toNat)).length : Int) - 0).toNat) (List.drop 0 (U y.1))) (y.1.take (L (b * 2 ^ ((32 - (Lib.bitLen (gi (limbs b) (((lim b).length : Int) - 1).toNat).toNat : Int))).toNat))) (tkU2 (by omega)) (dig_take d1 _) (by rw [List.length_take]; omega)) (And.intro (nat_Shr (val (y.1.take (L (b * 2 ^ ((32 - (Lib.bitLen (gi (limbs b) (((lim b).length : Int) - 1).toNat).toNat : Int))).toNat)))) (32 - (Lib.bitLen (gi (limbs b) (((lim b).length : Int) - 1).toNat).toNat : Int)) (by first | omega | (simp <;> omega)) (by first | omega | (simp <;> omega))) ((by rw [d5, d4, shl_div, shl_mod]; exact vsub_refl _ : vsub (.tup [(N (val y.2)), (N ((val (y.1.take (L (b * 2 ^ ((32 - (Lib.bitLen (gi (limbs b) (((lim b).length : Int) - 1).toNat).toNat : Int))).toNat)))) / 2 ^ ((32 - (Lib.bitLen (gi (limbs b) (((lim b).length : Int) - 1).toNat).toNat : Int))).toNat)), (.bool true)]) (.tup [(N (a / b)), (N (a % b)), (.bool true)])))))))))))))))))))))))))))))) (by kernel_rfl))

theorem int_DivMod (x : Int) (y : Int) (c0 : L (x).natAbs ≤ 16777216) (c1 : L (y).natAbs ≤ 16777216) (c2 : y ≠ 0) : Impl Tryz.prog Amb 134 [(.agg [(.bool (decide (x < 0))), (N x.natAbs)]), (.agg [(.bool (decide (y < 0))), (N y.natAbs)])] (.tup [(.agg [(.bool (decide ((Int.fdiv x y) < 0))), (N ((Int.fdiv x y).natAbs))]), (.agg [(.bool (decide ((x - (Int.fdiv x y) * y) < 0))), (N ((x - (Int.fdiv x y) * y).natAbs))]), (.bool true)]) := by
  have l3 := L_div x.natAbs y.natAbs
  have l1 := L_le (n := 1) (k := 1) (by decide)
  have l4 := L_pos_iff (x.natAbs % y.natAbs)
  have l5 := L_len (x.natAbs % y.natAbs)
  have l6 := Nat.mod_lt x.natAbs (show 0 < y.natAbs by omega)
  have l7 := L_add (x.natAbs / y.natAbs) 1
  have l8 := L_sub y.natAbs (x.natAbs % y.natAbs)
  exact impl_ob hP hAmb Tryz.func134 (by kernel_rfl) (.lits 3 <| .call (.tup [(N (x.natAbs / y.natAbs)), (N (x.natAbs % y.natAbs)), (.bool true)]) <| .lits 5 <| .both (.lits 4 <| .both (.lit <| .call (N 1) <| .lit <| .call (N ((x.natAbs / y.natAbs) + 1)) <| .lits 2 <| .call (.tup [(N (y.natAbs - (x.natAbs % y.natAbs))), (.bool (decide ((x.natAbs % y.natAbs) ≤ y.natAbs)))]) <| .lits 4 <| .call (.agg [(.bool (decide ((sgn (!(bEq (decide (x < 0)) (decide (y < 0)))) ((x.natAbs / y.natAbs) + 1)) < 0))), (N ((sgn (!(bEq (decide (x < 0)) (decide (y < 0)))) ((x.natAbs / y.natAbs) + 1)).natAbs))]) <| .lits 2 <| .call (.agg [(.bool (decide ((sgn (decide (y < 0)) (y.natAbs - (x.natAbs % y.natAbs))) < 0))), (N ((sgn (decide (y < 0)) (y.natAbs - (x.natAbs % y.natAbs))).natAbs))]) <| .lits 3 <| .ret) (.lits 4 <| .call (.agg [(.bool (decide ((sgn (!(bEq (decide (x < 0)) (decide (y < 0)))) (x.natAbs / y.natAbs)) < 0))), (N ((sgn (!(bEq (decide (x < 0)) (decide (y < 0)))) (x.natAbs / y.natAbs)).natAbs))]) <| .lits 2 <| .call (.agg [(.bool (decide ((sgn (decide (y < 0)) (x.natAbs % y.natAbs)) < 0))), (N ((sgn (decide (y < 0)) (x.natAbs % y.natAbs)).natAbs))]) <| .lits 3 <| .ret)) (.lits 8 <| .call (.agg [(.bool (decide ((sgn (!(bEq (decide (x < 0)) (decide (y < 0)))) (x.natAbs / y.natAbs)) < 0))), (N ((sgn (!(bEq (decide (x < 0)) (decide (y < 0)))) (x.natAbs / y.natAbs)).natAbs))]) <| .lits 2 <| .call (.agg [(.bool (decide ((sgn (decide (y < 0)) (x.natAbs % y.natAbs)) < 0))), (N ((sgn (decide (y < 0)) (x.natAbs % y.natAbs)).natAbs))]) <| .lits 3 <| .ret))
    (cast_ob (And.intro True.intro (And.intro (quot_DivMod x.natAbs y.natAbs (by first | omega | (simp <;> omega)) (by first | omega | (simp <;> omega)) (by first | omega | (simp <;> omega))) (have f6 := L_mod x.natAbs y.natAbs; have f5 := L_div x.natAbs y.natAbs; And.intro (fun (h1 : (!(bEq (decide (x < 0)) (decide (y < 0)))) = true) => And.intro (fun (h2 : (iGt ((lim (x.natAbs % y.natAbs)).length : Int) 0) = true) => have _gh2 := iGt_t h2; And.intro (nat_Of 1 (by first | omega | (simp <;> omega))) (And.intro (nat_Add (x.natAbs / y.natAbs) 1 (by first | omega | (simp <;> omega)) (by first | omega | (simp <;> omega))) (And.intro (nat_Sub2 y.natAbs (x.natAbs % y.natAbs) (by first | omega | (simp <;> omega)) (by first | omega | (simp <;> omega))) (And.intro (int_Nat (!(bEq (decide (x < 0)) (decide (y < 0)))) ((x.natAbs / y.natAbs) + 1) (by first | omega | (simp <;> omega))) (And.intro (int_Nat (decide (y < 0)) (y.natAbs - (x.natAbs % y.natAbs)) (by first | omega | (simp <;> omega))) ((vsub_tup3 (Z_of (by rw [sgn_one (by first | assumption | simp_all)]; exact dm5_1 c2 (by first | assumption | simp_all) (by omega))) (Z_of (rm5_1 c2 (by first | assumption | simp_all) (by omega))) (vsub_refl _) : vsub (.tup [(.agg [(.bool (decide ((sgn (!(bEq (decide (x < 0)) (decide (y < 0)))) ((x.natAbs / y.natAbs) + 1)) < 0))), (N ((sgn (!(bEq (decide (x < 0)) (decide (y < 0)))) ((x.natAbs / y.natAbs) + 1)).natAbs))]), (.agg [(.bool (decide ((sgn (decide (y < 0)) (y.natAbs - (x.natAbs % y.natAbs))) < 0))), (N ((sgn (decide (y < 0)) (y.natAbs - (x.natAbs % y.natAbs))).natAbs))]), (.bool true)]) (.tup [(.agg [(.bool (decide ((Int.fdiv x y) < 0))), (N ((Int.fdiv x y).natAbs))]), (.agg [(.bool (decide ((x - (Int.fdiv x y) * y) < 0))), (N ((x - (Int.fdiv x y) * y).natAbs))]), (.bool true)])))))))) (fun (h3 : (iGt ((lim (x.natAbs % y.natAbs)).length : Int) 0) = false) => have _gh3 := iGt_f h3; And.intro (int_Nat (!(bEq (decide (x < 0)) (decide (y < 0)))) (x.natAbs / y.natAbs) (by first | omega | (simp <;> omega))) (And.intro (int_Nat (decide (y < 0)) (x.natAbs % y.natAbs) (by first | omega | (simp <;> omega))) ((vsub_tup3 (Z_of (dm5_2 c2 (by omega))) (Z_of (rm5_2 c2 (by omega))) (vsub_refl _) : vsub (.tup [(.agg [(.bool (decide ((sgn (!(bEq (decide (x < 0)) (decide (y < 0)))) (x.natAbs / y.natAbs)) < 0))), (N ((sgn (!(bEq (decide (x < 0)) (decide (y < 0)))) (x.natAbs / y.natAbs)).natAbs))]), (.agg [(.bool (decide ((sgn (decide (y < 0)) (x.natAbs % y.natAbs)) < 0))), (N ((sgn (decide (y < 0)) (x.natAbs % y.natAbs)).natAbs))]), (.bool true)]) (.tup [(.agg [(.bool (decide ((Int.fdiv x y) < 0))), (N ((Int.fdiv x y).natAbs))]), (.agg [(.bool (decide ((x - (Int.fdiv x y) * y) < 0))), (N ((x - (Int.fdiv x y) * y).natAbs))]), (.bool true)])))))) (fun (h4 : (!(bEq (decide (x < 0)) (decide (y < 0)))) = false) => And.intro (int_Nat (!(bEq (decide (x < 0)) (decide (y < 0)))) (x.natAbs / y.natAbs) (by first | omega | (simp <;> omega))) (And.intro (int_Nat (decide (y < 0)) (x.natAbs % y.natAbs) (by first | omega | (simp <;> omega))) ((vsub_tup3 (Z_of (dm5_3 c2 (by first | assumption | simp_all))) (Z_of (rm5_3 c2 (by first | assumption | simp_all))) (vsub_refl _) : vsub (.tup [(.agg [(.bool (decide ((sgn (!(bEq (decide (x < 0)) (decide (y < 0)))) (x.natAbs / y.natAbs)) < 0))), (N ((sgn (!(bEq (decide (x < 0)) (decide (y < 0)))) (x.natAbs / y.natAbs)).natAbs))]), (.agg [(.bool (decide ((sgn (decide (y < 0)) (x.natAbs % y.natAbs)) < 0))), (N ((sgn (decide (y < 0)) (x.natAbs % y.natAbs)).natAbs))]), (.bool true)]) (.tup [(.agg [(.bool (decide ((Int.fdiv x y) < 0))), (N ((Int.fdiv x y).natAbs))]), (.agg [(.bool (decide ((x - (Int.fdiv x y) * y) < 0))), (N ((x - (Int.fdiv x y) * y).natAbs))]), (.bool true)])))))))) (by kernel_rfl))

end Go.Proofs.YtmbpoibhamlkbaaGreatDoor

namespace Go.Proofs.YtmbpoibhamlkbaaGreatDoor

/-- the value of m * 2^e -/
def dv (m e : Int) : Rat := (m : Rat) * (2 : Rat) ^ e
theorem two_ne : (2 : Rat) ≠ 0 := by decide
theorem zp_add (a b : Int) : (2 : Rat) ^ (a + b) = 2 ^ a * 2 ^ b := Rat.zpow_add two_ne a b
theorem zp_pos (a : Int) : (0 : Rat) < 2 ^ a := Rat.zpow_pos (by decide)
theorem zp_ne (a : Int) : (2 : Rat) ^ a ≠ 0 := fun h => by have := zp_pos a; rw [h] at this; exact absurd this Rat.lt_irrefl
theorem zp_nat (n : Nat) : (2 : Rat) ^ (n : Int) = (((2 : Int) ^ n : Int) : Rat) := by
  rw [Rat.zpow_natCast, Rat.intCast_pow]; rfl
theorem zp_zero : (2 : Rat) ^ (0 : Int) = 1 := Rat.zpow_zero 2
theorem zp_cancel (a : Int) : (2 : Rat) ^ a * 2 ^ (-a) = 1 := by rw [← zp_add, Int.add_right_neg, zp_zero]
theorem dv_shl (m e : Int) (k : Nat) : dv (m * 2 ^ k) e = dv m (e + k) := by
  unfold dv
  rw [zp_add, zp_nat, Rat.intCast_mul]
  grind
theorem dv_at {m e c : Int} (h : c ≤ e) : dv m e = dv (m * 2 ^ (e - c).toNat) c := by
  rw [dv_shl]; congr 1; omega
theorem dv_lt {m n c : Int} : dv m c < dv n c ↔ m < n := by
  unfold dv; rw [Rat.mul_lt_mul_right (zp_pos c), Rat.intCast_lt_intCast]
theorem dv_le {m n c : Int} : dv m c ≤ dv n c ↔ m ≤ n := by
  rw [← Rat.not_lt, dv_lt]; omega
theorem dv_inj {m n c : Int} (h : dv m c = dv n c) : m = n := by
  have h1 := (dv_le (m := m) (n := n) (c := c)).1 (by rw [h]; exact Rat.le_refl)
  have h2 := (dv_le (m := n) (n := m) (c := c)).1 (by rw [h]; exact Rat.le_refl)
  omega
theorem dv_zero (e : Int) : dv 0 e = 0 := by unfold dv; rw [Rat.intCast_zero, Rat.zero_mul]
theorem dv_int (m : Int) : dv m 0 = (m : Rat) := by unfold dv; rw [zp_zero, Rat.mul_one]
theorem dv_neg (m e : Int) : dv (-m) e = -dv m e := by unfold dv; rw [Rat.intCast_neg, Rat.neg_mul]
theorem dv_mul (m e n f : Int) : dv (m * n) (e + f) = dv m e * dv n f := by
  unfold dv; rw [zp_add, Rat.intCast_mul]; grind
def cmpQ (x y : Rat) : Int := if x < y then -1 else if y < x then 1 else 0
theorem cmpD_dv (m e n f : Int) : cmpD m e n f = cmpQ (dv m e) (dv n f) := by
  have h := iMin_range e f
  unfold cmpD cmpI cmpQ
  rw [dv_at (m := m) (show iMin e f ≤ e by omega), dv_at (m := n) (show iMin e f ≤ f by omega)]
  simp only [dv_lt]
/-- what Make gives depends on the value alone -/
theorem mk_eq {m e n f : Int} (h : dv m e = dv n f) (he : -131072 ≤ e ∧ e ≤ 131072) (hf : -131072 ≤ f ∧ f ≤ 131072) : mkM m e = mkM n f ∧ mkX m e = mkX n f ∧ mkE m e = mkE n f := by
  have hm := iMin_range e f
  have h1 := mk_shl' (m := m) (e := e) (c := iMin e f) (by omega) (by omega) (by omega)
  have h2 := mk_shl' (m := n) (e := f) (c := iMin e f) (by omega) (by omega) (by omega)
  have h3 : m * 2 ^ (e - iMin e f).toNat = n * 2 ^ (f - iMin e f).toNat := by
    rw [dv_at (m := m) (show iMin e f ≤ e by omega), dv_at (m := n) (show iMin e f ≤ f by omega)] at h
    exact dv_inj h
  rw [h3] at h1
  exact ⟨h1.1.symm.trans h2.1, h1.2.1.symm.trans h2.2.1, h1.2.2.symm.trans h2.2.2⟩
theorem dv_dm (m e : Int) : dv (dm m) (de m e) = dv m e := by
  unfold de; rw [← dv_shl, dm_mul]
theorem dv_mk {m e : Int} (h : mkE m e = 0) : dv (mkM m e) (mkX m e) = dv m e := by
  unfold mkM mkX
  rw [if_pos h]
  by_cases h0 : m = 0
  · rw [h0, dm_zero, dv_zero, dv_zero]
  · rw [if_pos ⟨h, h0⟩, dv_dm]
theorem vdb_mk {m e : Int} : vdb (mkM m e) (mkX m e) = true := by
  by_cases h : mkE m e = 0
  · by_cases h0 : m = 0
    · have : mkM m e = 0 ∧ mkX m e = 0 := by unfold mkM mkX; rw [if_pos h, if_neg (fun q => q.2 h0), h0, dm_zero]; exact ⟨rfl, rfl⟩
      rw [this.1, this.2]; rfl
    · have e1 : mkM m e = dm m := by unfold mkM; rw [if_pos h]
      have e2 : mkX m e = de m e := by unfold mkX; rw [if_pos ⟨h, h0⟩]
      rw [e1, e2]
      unfold mkE at h
      split at h
      · omega
      · try rw [if_neg h0] at h
        split at h
        · assumption
        · omega
  · rw [(mk_no h).1, (mk_no h).2]; rfl

/-! ### rounding -/
def flr (r : Rat) (p : Int) : Int := (r * 2 ^ p).floor
def cei (r : Rat) (p : Int) : Int := -(flr (-r) p)
theorem floor_div (n d : Int) (hd : 0 < d) : ((n : Rat) / (d : Rat)).floor = n / d := by
  have hq : (0 : Rat) < (d : Rat) := Rat.intCast_pos.2 hd
  have key : ∀ x : Int, x ≤ ((n : Rat) / (d : Rat)).floor ↔ x ≤ n / d := fun x => by
    rw [Rat.le_floor_iff, Int.le_ediv_iff_mul_le hd, ← Rat.intCast_le_intCast (a := x * d), Rat.intCast_mul, ← Rat.not_lt, Rat.div_lt_iff hq, Rat.not_lt]
  have h1 := (key _).1 (Int.le_refl _)
  have h2 := (key _).2 (Int.le_refl _)
  omega
theorem flr_dv (m e p : Int) : flr (dv m e) p = if 0 ≤ e + p then m * 2 ^ (e + p).toNat else m / 2 ^ (-(e + p)).toNat := by
  have h : dv m e * 2 ^ p = dv m (e + p) := by unfold dv; rw [zp_add]; grind
  unfold flr
  rw [h]
  split
  · rename_i h0
    rw [dv_at h0, dv_int, Rat.floor_intCast, Int.sub_zero]
  · rename_i h0
    rw [← floor_div _ _ (two_pos _)]
    congr 1
    have h1 := zp_cancel (e + p)
    have h2 := zp_nat (-(e + p)).toNat
    rw [show (((-(e + p)).toNat : Nat) : Int) = -(e + p) by omega] at h2
    rw [← h2]
    unfold dv
    have h3 := zp_ne (-(e + p))
    grind
theorem flr_frac (n d p : Int) (hd : 0 < d) : flr ((n : Rat) / (d : Rat)) p = if 0 ≤ p then n * 2 ^ p.toNat / d else n / (d * 2 ^ (-p).toNat) := by
  have hq : (d : Rat) ≠ 0 := fun h => by have := Rat.intCast_eq_zero_iff.1 h; omega
  unfold flr
  split
  · rename_i h0
    rw [← floor_div _ _ hd]
    congr 1
    have h2 := zp_nat p.toNat
    rw [show ((p.toNat : Nat) : Int) = p by omega] at h2
    rw [h2, Rat.intCast_mul]
    grind
  · rename_i h0
    rw [← floor_div _ _ (Int.mul_pos hd (two_pos _))]
    congr 1
    have h1 := zp_cancel p
    have h2 := zp_nat (-p).toNat
    rw [show (((-p).toNat : Nat) : Int) = -p by omega] at h2
    rw [Rat.intCast_mul, ← h2]
    have h3 := zp_ne (-p)
    grind
theorem flr_le (r : Rat) (p : Int) : dv (flr r p) (-p) ≤ r := by
  have h3 := Rat.mul_le_mul_of_nonneg_right (Rat.floor_le (r * 2 ^ p)) (Rat.le_of_lt (zp_pos (-p)))
  rw [Rat.mul_assoc r, zp_cancel, Rat.mul_one] at h3
  exact h3
theorem le_flr {r : Rat} {p x : Int} : x ≤ flr r p ↔ dv x (-p) ≤ r := by
  have h1 := zp_cancel (-p)
  rw [Int.neg_neg] at h1
  unfold flr dv
  rw [Rat.le_floor_iff]
  constructor
  · intro h
    have := Rat.mul_le_mul_of_nonneg_right h (Rat.le_of_lt (zp_pos (-p)))
    rwa [Rat.mul_assoc r, zp_cancel, Rat.mul_one] at this
  · intro h
    have := Rat.mul_le_mul_of_nonneg_right h (Rat.le_of_lt (zp_pos p))
    rwa [Rat.mul_assoc (x : Rat), h1, Rat.mul_one] at this
theorem flr_mono {r s : Rat} (h : r ≤ s) (p : Int) : flr r p ≤ flr s p := le_flr.2 (Rat.le_trans (flr_le r p) h)
theorem cei_ge (r : Rat) (p : Int) : r ≤ dv (cei r p) (-p) := by
  have := flr_le (-r) p
  unfold cei; rw [dv_neg]
  have := Rat.neg_le_neg this
  rwa [Rat.neg_neg] at this
end Go.Proofs.YtmbpoibhamlkbaaGreatDoor

namespace Go.Proofs.YtmbpoibhamlkbaaGreatDoor

theorem neg_xor {n d : Int} : (!(bEq (decide (n < 0)) (decide (d < 0)))) = true ↔ (n < 0 ∧ 0 ≤ d) ∨ (0 ≤ n ∧ d < 0) := by
  by_cases h1 : n < 0 <;> by_cases h2 : d < 0 <;> simp [bEq, h1, h2] <;> omega
/-- a fraction in lowest terms -/
theorem q_make {n d : Int} (hd : d ≠ 0) : (Rat.divInt n d).num = sgn (!(bEq (decide (n < 0)) (decide (d < 0)))) (n.natAbs / Nat.gcd n.natAbs d.natAbs) ∧ (Rat.divInt n d).den = d.natAbs / Nat.gcd n.natAbs d.natAbs := by
  have hg : Int.gcd d n = Nat.gcd n.natAbs d.natAbs := by rw [Int.gcd_eq_natAbs_gcd_natAbs, Nat.gcd_comm]
  refine ⟨?_, by rw [Rat.den_divInt, if_neg hd, hg]⟩
  rw [Rat.num_divInt, hg]
  have hdvd : Nat.gcd n.natAbs d.natAbs ∣ n.natAbs := Nat.gcd_dvd_left _ _
  have hp : 0 < Nat.gcd n.natAbs d.natAbs := Nat.gcd_pos_of_pos_right _ (by omega)
  generalize Nat.gcd n.natAbs d.natAbs = g at *
  obtain ⟨k, hk⟩ := hdvd
  have hkd : n.natAbs / g = k := by rw [hk]; exact Nat.mul_div_cancel_left k hp
  rw [hkd]
  have hs : sgn (!(bEq (decide (n < 0)) (decide (d < 0)))) k = if (n < 0 ∧ 0 ≤ d) ∨ (0 ≤ n ∧ d < 0) then -(k : Int) else (k : Int) := by
    unfold sgn
    simp only [neg_xor]
  rw [hs]
  have hgk : ((g : Int) * k) = (n.natAbs : Int) := by rw [hk]; simp
  have hg0 : (g : Int) ≠ 0 := by omega
  rcases Int.lt_trichotomy d 0 with h | h | h
  · rw [Int.sign_eq_neg_one_of_neg h]
    by_cases hn : n < 0
    · rw [if_neg (by omega), show (-1 : Int) * n = (g : Int) * k by omega, Int.mul_ediv_cancel_left _ hg0]
    · rw [if_pos (by omega), show (-1 : Int) * n = (g : Int) * (-(k : Int)) by rw [Int.mul_neg]; omega, Int.mul_ediv_cancel_left _ hg0]
  · exact absurd h hd
  · rw [Int.sign_eq_one_of_pos h]
    by_cases hn : n < 0
    · rw [if_pos (by omega), show (1 : Int) * n = (g : Int) * (-(k : Int)) by rw [Int.mul_neg]; omega, Int.mul_ediv_cancel_left _ hg0]
    · rw [if_neg (by omega), show (1 : Int) * n = (g : Int) * k by omega, Int.mul_ediv_cancel_left _ hg0]
theorem q_L {n d : Int} (hd : d ≠ 0) : L (Rat.divInt n d).num.natAbs ≤ L n.natAbs ∧ L (Rat.divInt n d).den ≤ L d.natAbs := by
  have h := q_make (n := n) hd
  rw [h.1, h.2, sgn_abs]
  exact ⟨L_div _ _, L_div _ _⟩
theorem den_ne (r : Rat) : (r.den : Int) ≠ 0 := by have := r.den_nz; omega
theorem q_eq (r : Rat) : r = (r.num : Rat) / (r.den : Int) := by
  have h := Rat.num_divInt_den r
  rw [Rat.divInt_eq_div] at h
  exact h.symm
theorem q_div {r s : Rat} (hs : s ≠ 0) : Rat.divInt (r.num * (s.den : Int)) ((r.den : Int) * s.num) = r / s := by
  rw [Rat.divInt_eq_div]
  have h1 := q_eq r
  have h2 := q_eq s
  have h3 : ((r.den : Int) : Rat) ≠ 0 := fun q => den_ne r (Rat.intCast_eq_zero_iff.1 q)
  have h4 : ((s.den : Int) : Rat) ≠ 0 := fun q => den_ne s (Rat.intCast_eq_zero_iff.1 q)
  have h5 : (s.num : Rat) ≠ 0 := fun q => hs (Rat.num_eq_zero.1 (Rat.intCast_eq_zero_iff.1 q))
  rw [Rat.intCast_mul, Rat.intCast_mul]
  generalize (r.num : Rat) = a at *
  generalize ((r.den : Int) : Rat) = b at *
  generalize (s.num : Rat) = c at *
  generalize ((s.den : Int) : Rat) = d at *
  rw [h1, h2]
  grind
theorem q_cmp (r s : Rat) : cmpI (r.num * (s.den : Int)) (s.num * (r.den : Int)) = cmpQ r s := by
  unfold cmpI cmpQ
  simp only [Rat.lt_iff]
theorem q_int (n : Int) : Rat.divInt n 1 = (n : Rat) := by rw [Rat.divInt_eq_div, Rat.intCast_one]; grind
theorem q_divL {r s : Rat} (hs : s ≠ 0) : L (r / s).num.natAbs ≤ L r.num.natAbs + L s.den ∧ L (r / s).den ≤ L r.den + L s.num.natAbs := by
  have hn : s.num ≠ 0 := fun q => hs (Rat.num_eq_zero.1 q)
  have h := q_L (n := r.num * (s.den : Int)) (Int.mul_ne_zero (den_ne r) hn)
  rw [q_div hs] at h
  have h2 := L_abs_mul r.num (s.den : Int)
  have h4 := L_abs_mul (r.den : Int) s.num
  rw [Int.natAbs_natCast] at h2 h4
  omega
theorem q_negL (r : Rat) : (-r).num = -r.num ∧ (-r).den = r.den := ⟨Rat.neg_num r, Rat.neg_den r⟩
/-- the fraction of a valid dyadic -/
theorem dv_pos_e {m e : Int} (he : 0 ≤ e) : (dv m e).num = m * 2 ^ e.toNat ∧ (dv m e).den = 1 := by
  rw [dv_at he, dv_int, Int.sub_zero]
  exact ⟨Rat.num_intCast _, Rat.den_intCast _⟩
theorem dv_neg_e {m e : Int} (hv : vdb m e = true) (he : e < 0) : (dv m e).num = m ∧ (dv m e).den = 2 ^ (-e).toNat := by
  have hm : m.natAbs % 2 = 1 := by
    rcases vdb_iff.1 hv with ⟨_, h2⟩ | ⟨_, _, _, _, h⟩
    · omega
    · exact h
  have hc : Nat.Coprime m.natAbs (2 ^ (-e).toNat) := by
    refine Nat.Coprime.pow_right _ ?_
    rw [Nat.coprime_comm]
    unfold Nat.Coprime
    rw [Nat.gcd_rec, hm]; decide
  have h : dv m e = (⟨m, 2 ^ (-e).toNat, Nat.pos_iff_ne_zero.1 (Nat.pow_pos (by omega)), hc⟩ : Rat) := by
    rw [Rat.mk_eq_mkRat, Rat.mkRat_eq_div]
    have h1 := zp_cancel e
    have h2 := zp_nat (-e).toNat
    rw [show (((-e).toNat : Nat) : Int) = -e by omega] at h2
    have h3 := zp_ne (-e)
    have h4 : (((2 ^ (-e).toNat : Nat)) : Rat) = 2 ^ (-e) := by
      rw [h2, ← Rat.intCast_natCast, Int.natCast_pow]; rfl
    rw [h4]
    unfold dv
    grind
  rw [h]
  exact ⟨rfl, rfl⟩
theorem flr_num (r : Rat) (p : Int) : flr r p = if 0 ≤ p then r.num * 2 ^ p.toNat / (r.den : Int) else r.num / ((r.den : Int) * 2 ^ (-p).toNat) := by
  have h := flr_frac r.num (r.den : Int) p (by have := r.den_nz; omega)
  rw [← q_eq] at h
  exact h
/-- rounding a fraction whose denominator is a power of two -/
theorem flr_shl {r : Rat} {n : Nat} (hd : r.den = 2 ^ n) {p : Int} (hp : (n : Int) ≤ p) : flr r p = r.num * 2 ^ (p - n).toNat := by
  rw [flr_num, if_pos (by omega), hd, Int.natCast_pow]
  have : p.toNat = (p - n).toNat + n := by omega
  rw [this, Int.pow_add, ← Int.mul_assoc]
  exact Int.mul_ediv_cancel _ (by have := two_pos n; exact Int.ne_of_gt this)
theorem flr_shr {r : Rat} {n : Nat} (hd : r.den = 2 ^ n) {p : Int} (hp : p < (n : Int)) : flr r p = r.num / 2 ^ ((n : Int) - p).toNat := by
  rw [flr_num, hd, Int.natCast_pow]
  split
  · rename_i h0
    have : ((2 : Nat) : Int) ^ n = 2 ^ p.toNat * 2 ^ ((n : Int) - p).toNat := by rw [← Int.pow_add]; show (2 : Int) ^ n = _; congr 1; omega
    rw [this, Int.mul_comm r.num, Int.mul_ediv_mul_of_pos _ _ (two_pos _)]
  · rename_i h0
    congr 1
    show (2 : Int) ^ n * _ = _
    rw [← Int.pow_add]; congr 1; omega
/-! ### for the walk -/
theorem gcd_step (x y : Nat) : Nat.gcd y (x % y) = Nat.gcd x y := by rw [Nat.gcd_comm x y, Nat.gcd_rec y x, Nat.gcd_comm]
theorem gcd_last {x y a b : Nat} (h : Nat.gcd x y = Nat.gcd a b) (hy : y = 0) : x = Nat.gcd a b := by rw [← h, hy, Nat.gcd_zero_right]
theorem L_den (r : Rat) : L (r.den : Int).natAbs = L r.den := by rw [Int.natAbs_natCast]
theorem q_ofL {n : Int} (h : -9223372036854775808 ≤ n ∧ n ≤ 9223372036854775807) : L (Int.cast n : Rat).num.natAbs ≤ 2 ∧ L (Int.cast n : Rat).den ≤ 1 := by
  rw [Rat.num_intCast, Rat.den_intCast]
  exact ⟨L_i64 h, L_le (by decide)⟩
theorem q_negL2 (r : Rat) : L (-r).num.natAbs = L r.num.natAbs ∧ L (-r).den = L r.den := by
  rw [Rat.neg_num, Rat.neg_den, Int.natAbs_neg]; exact ⟨rfl, rfl⟩
theorem cmpQ_range (x y : Rat) : (cmpQ x y = -1 ∧ x < y) ∨ (cmpQ x y = 1 ∧ y < x) ∨ (cmpQ x y = 0 ∧ x = y) := by
  unfold cmpQ
  by_cases h : x < y
  · exact .inl ⟨if_pos h, h⟩
  · rw [if_neg h]
    by_cases h2 : y < x
    · exact .inr (.inl ⟨if_pos h2, h2⟩)
    · exact .inr (.inr ⟨if_neg h2, Rat.le_antisymm (Rat.not_lt.1 h2) (Rat.not_lt.1 h)⟩)
theorem q_num_ne {s : Rat} (h : s ≠ 0) : s.num ≠ 0 := fun q => h (Rat.num_eq_zero.1 q)
end Go.Proofs.YtmbpoibhamlkbaaGreatDoor

namespace Go.Proofs.YtmbpoibhamlkbaaGreatDoor
/-! ### quotients shrink -/
/-! ### sums -/
/-! ### the sum of 1 / k! -/
def eG : Nat → Int → Int → Int → Int → Int → Int × Int
  | 0, _, _, _, a, b => (a, b)
  | f + 1, k, lo, hi, a, b =>
    if lo.natAbs ≤ 1 ∧ hi.natAbs ≤ 1 then (a, b) else
    eG f (k + 1) (Int.fdiv (min lo hi) k) (-(Int.fdiv (-(max lo hi)) k)) (a + (Int.fdiv (min lo hi) k)) (b + (-(Int.fdiv (-(max lo hi)) k)))
def eT (v : Int) : Int × Int := eG (v.toNat + 2) 1 ((1 : Int) * 2 ^ v.toNat) ((1 : Int) * 2 ^ v.toNat) ((1 : Int) * 2 ^ v.toNat) ((1 : Int) * 2 ^ v.toNat)
/-! ### the sum of 1 / ((2 k + 1) 9^k 3) -/
/-! ### lengths of the results -/
theorem L_lit (n : Nat) (h : n < 4294967296) : L n ≤ 1 := L_le (by simpa using h)
end Go.Proofs.YtmbpoibhamlkbaaGreatDoor

namespace Go.Proofs.YtmbpoibhamlkbaaGreatDoor
/-! ### the sum of 1 / ((2 k + 1) n^(2 k + 1)) -/
/-! ### the program's sum of 1 / k! -/
theorem rd_nil_N0 {w : World} {S : Nat → Prop} {v : Value} (h : Rd w S v .nil) : Rd w S v (N (0 : Int).natAbs) := by
  have : N (0 : Int).natAbs = .sl 1 [] := by simp [N, lim, limbs_zero, U]
  rw [this]; cases h; exact .nilsl
theorem vsub_w0 (c : Int) : vsub (.tup [.agg [.bool false, .nil, .int .i64 0, .bool false, .nil, .int .i64 0], .int .i64 c])
    (.tup [.agg [.bool (decide ((0 : Int) < 0)), N (0 : Int).natAbs, .int .i64 0, .bool (decide ((0 : Int) < 0)), N (0 : Int).natAbs, .int .i64 0], .int .i64 c]) := by
  refine vsub_tup2 (fun w S x hx => ?_) (vsub_refl _)
  obtain ⟨arr, rfl, hr⟩ := hx.agg_inv
  cases hr with | cons h1 hr => cases hr with | cons h2 hr => cases hr with | cons h3 hr => cases hr with | cons h4 hr => cases hr with | cons h5 hr => cases hr with | cons h6 hr => cases hr with | nil =>
    exact .agg (.cons (by simpa using h1) (.cons (rd_nil_N0 h2) (.cons h3 (.cons (by simpa using h4) (.cons (rd_nil_N0 h5) (.cons h6 .nil))))))
/-! ### tight intervals -/
def onB (m e p : Int) : Bool := decide (((-2048 : Int) ≤ p ∧ p ≤ 8192) ∧ (m = 0 ∨ -p ≤ e))
end Go.Proofs.YtmbpoibhamlkbaaGreatDoor

namespace Go.Proofs.YtmbpoibhamlkbaaGreatDoor
open Go.RowKit
theorem tmod_lo (v : Int) {n : Int} (hn : 0 < n) : -n < v.tmod n := by
  have := Int.tmod_lt_of_pos (-v) hn
  rw [Int.neg_tmod] at this
  omega
theorem mod_neg {v n : Int} (hn : 0 < n) (h : wRem v n < 0) : wRem v n + n = v % n := by
  unfold wRem at *
  have h1 := Int.tmod_add_mul_tdiv v n
  have h2 := tmod_lo v hn
  have h3 : v % n = (v.tmod n) % n := by
    conv => lhs; rw [← h1]
    rw [Int.add_mul_emod_self_left]
  rw [h3, ← Int.add_emod_right, Int.emod_eq_of_lt (by omega) (by omega)]
theorem mod_pos {v n : Int} (hn : 0 < n) (h : 0 ≤ wRem v n) : wRem v n = v % n := by
  unfold wRem at *
  have h1 := Int.tmod_add_mul_tdiv v n
  have h2 := Int.tmod_lt_of_pos v hn
  have h3 : v % n = (v.tmod n) % n := by
    conv => lhs; rw [← h1]
    rw [Int.add_mul_emod_self_left]
  rw [h3, Int.emod_eq_of_lt h h2]
theorem wRem_abs {v n : Int} (hn : 0 < n) : -n < wRem v n ∧ wRem v n < n := ⟨tmod_lo v hn, Int.tmod_lt_of_pos v hn⟩
/-! ### values -/
theorem mk_cases {m e : Int} (hE : mkE m e = 0) : (m = 0 ∧ mkM m e = 0 ∧ mkX m e = 0) ∨ (m ≠ 0 ∧ mkM m e = dm m ∧ mkX m e = de m e ∧ vdb (dm m) (de m e) = true) := by
  by_cases hm : m = 0
  · refine .inl ⟨hm, ?_, ?_⟩
    · unfold mkM; rw [if_pos hE, hm, dm_zero]
    · unfold mkX; rw [if_neg (fun q => q.2 hm)]
  · refine .inr ⟨hm, ?_, ?_, ?_⟩
    · unfold mkM; rw [if_pos hE]
    · unfold mkX; rw [if_pos ⟨hE, hm⟩]
    · unfold mkE at hE
      split at hE
      · omega
      · first
        | (rw [if_neg hm] at hE; split at hE; assumption; omega)
        | (split at hE; assumption; omega)
theorem mk_fine2 {m e : Int} (h : L m.natAbs ≤ 900) (he : -60000 ≤ e ∧ e ≤ 30000) : mkE m e = 0 := by
  by_cases hm : m = 0
  · exact (mk_r2 (by omega) hm).2.2
  · refine (mk_r4 (by omega) hm ?_).2.2
    rw [vdb_iff]
    have h1 := L_dm m
    have h2 := nbits_L (dm m).natAbs
    have h3 := tz_L m.natAbs
    have h4 := dm_odd hm
    unfold de
    exact .inr ⟨dm_ne hm, by omega, by omega, by omega, h4⟩
end Go.Proofs.YtmbpoibhamlkbaaGreatDoor

namespace Go.Proofs.YtmbpoibhamlkbaaGreatDoor
open Go.RowKit
/-- the integer that a raw one of at most n places stands for; a longer one counts as zero -/
def rawI (b : Bool) (l : List Nat) (n : Int) : Int := if (l.length : Int) ≤ n then sgn b (val l) else 0
theorem rawI_yes {b : Bool} {l : List Nat} {n : Int} (h : (l.length : Int) ≤ n) : rawI b l n = sgn b (val l) := by unfold rawI; rw [if_pos h]
theorem rawI_no {b : Bool} {l : List Nat} {n : Int} (h : n < (l.length : Int)) : rawI b l n = 0 := by unfold rawI; rw [if_neg (by omega)]
theorem rawI_L {b : Bool} {l : List Nat} (hl : Dig l) {n : Int} (hn : 0 ≤ n) : (L (rawI b l n).natAbs : Int) ≤ n := by
  by_cases h : (l.length : Int) ≤ n
  · rw [rawI_yes h]
    have := L_sgn b (val l)
    have := L_val hl
    omega
  · rw [rawI_no (by omega)]
    have : L (0 : Int).natAbs = 0 := L_zero
    omega
theorem raw_ret1 {b : Bool} {l : List Nat} {n : Int} (h : n < (l.length : Int)) : vsub (.tup [.agg [.bool false, .nil], .bool false]) (.tup [.agg [.bool (decide (rawI b l n < 0)), N (rawI b l n).natAbs], .bool (decide ((l.length : Int) ≤ n))]) := by
  rw [rawI_no h, decide_eq_false (show ¬((l.length : Int) ≤ n) by omega)]
  exact vsub_tup2 vsub_zero2 (vsub_refl _)
theorem raw_ret2 {b : Bool} {l : List Nat} {n : Int} (h : (l.length : Int) ≤ n) : vsub (.tup [.agg [.bool (decide (sgn b (val l) < 0)), N (sgn b (val l)).natAbs], .bool true]) (.tup [.agg [.bool (decide (rawI b l n < 0)), N (rawI b l n).natAbs], .bool (decide ((l.length : Int) ≤ n))]) := by
  rw [rawI_yes h, decide_eq_true h]
  exact vsub_refl _
end Go.Proofs.YtmbpoibhamlkbaaGreatDoor

namespace Go.Proofs.YtmbpoibhamlkbaaGreatDoor

theorem dm_opp (m : Int) : dm (-m) = -dm m := by
  unfold dm sgn
  rw [Int.natAbs_neg]
  by_cases h : m = 0
  · subst h; simp
  · by_cases h2 : m < 0
    · simp [h2, show ¬ (0 < m) by omega]
    · simp [h2, show 0 < m by omega]
theorem vdb_opp (m e : Int) : vdb (-m) e = vdb m e := by
  unfold vdb; rw [Int.natAbs_neg]; simp only [Int.neg_eq_zero]
theorem mk_opp (m e : Int) : mkM (-m) e = -mkM m e ∧ mkX (-m) e = mkX m e ∧ mkE (-m) e = mkE m e := by
  have h0 : de (-m) e = de m e := by unfold de; rw [Int.natAbs_neg]
  have hE : mkE (-m) e = mkE m e := by
    unfold mkE; rw [dm_opp, h0, vdb_opp]; simp only [Int.neg_eq_zero]
  refine ⟨?_, ?_, hE⟩
  · unfold mkM; rw [hE, dm_opp]; split <;> omega
  · unfold mkX; rw [hE, h0]; simp only [ne_eq, Int.neg_eq_zero]
def scl (x n : Int) : Int := if n < 0 then x / 2 ^ (-n).toNat else x * 2 ^ n.toNat
theorem scl_L (x n : Int) : (L (scl x n).natAbs : Int) ≤ L x.natAbs + n.toNat / 32 + 1 := by
  unfold scl
  split
  · have := L_abs_shr x (-n).toNat; omega
  · have := L_abs_shl x n.toNat; omega
theorem flr_scl (m e p : Int) : flr (dv m e) p = scl m (e + p) := by
  rw [flr_dv]; unfold scl
  by_cases h : 0 ≤ e + p
  · rw [if_pos h, if_neg (by omega)]
  · rw [if_neg h, if_pos (by omega)]
/-- rounding a number of the grid -/
theorem gr_on {m e p : Int} (h : m = 0 ∨ -p ≤ e) (he : -65536 ≤ e ∧ e ≤ 65536) (hp : -2048 ≤ p ∧ p ≤ 8192) : mkM (flr (dv m e) p) (-p) = mkM m e ∧ mkX (flr (dv m e) p) (-p) = mkX m e ∧ mkE (flr (dv m e) p) (-p) = mkE m e := by
  apply mk_eq _ (by omega) (by omega)
  symm
  rw [flr_dv]
  rcases h with h | h
  · subst h; rw [dv_zero]; split <;> simp [dv_zero]
  · rw [if_pos (by omega), dv_at h]; congr 3; omega
/-- the floor of a fraction -/
def flF (n d p : Int) : Int := if 0 ≤ p then n * 2 ^ p.toNat / d else n / (d * 2 ^ (-p).toNat)
theorem flF_eq (r : Rat) (p : Int) : flF r.num (r.den : Int) p = flr r p := (flr_num r p).symm
theorem flF_neg (r : Rat) (p : Int) : -(flF (-r.num) (r.den : Int) p) = cei r p := by
  unfold cei; rw [← flF_eq, Rat.neg_num, Rat.neg_den]
theorem fdiv_pos {x y : Int} (hy : 0 < y) : Int.fdiv x y = x / y := Int.fdiv_eq_ediv_of_nonneg _ (by omega)
theorem flF_p {n d p : Int} (hd : 0 < d) (hp : 0 ≤ p) : Int.fdiv (n * 2 ^ p.toNat) d = flF n d p := by unfold flF; rw [if_pos hp, fdiv_pos hd]
theorem flF_n {n d p : Int} (hd : 0 < d) (hp : p < 0) : Int.fdiv n (d * 2 ^ (-p).toNat) = flF n d p := by
  unfold flF; rw [if_neg (by omega), fdiv_pos (Int.mul_pos hd (two_pos _))]
theorem L_ediv (x y : Int) : L (x / y).natAbs ≤ L x.natAbs + 1 := by
  rcases Int.lt_trichotomy y 0 with h | h | h
  · have h1 := L_fdiv (-x) (-y)
    rw [Int.neg_fdiv_neg] at h1
    have e : x / y = -(x / -y) := by rw [Int.ediv_neg, Int.neg_neg]
    have h2 := L_fdiv x (-y)
    rw [fdiv_pos (by omega)] at h2
    rw [e, Int.natAbs_neg]; exact h2
  · subst h; rw [Int.ediv_zero]; simp [L_zero]
  · have h1 := L_fdiv x y
    rw [fdiv_pos h] at h1; exact h1
theorem flF_L (n d p : Int) : (L (flF n d p).natAbs : Int) ≤ L n.natAbs + p.toNat / 32 + 2 := by
  unfold flF
  split
  · have h1 := L_ediv (n * 2 ^ p.toNat) d
    have h2 := L_abs_shl n p.toNat
    omega
  · have h1 := L_ediv n (d * 2 ^ (-p).toNat)
    omega
theorem flr_L (r : Rat) (p : Int) : (L (flr r p).natAbs : Int) ≤ L r.num.natAbs + p.toNat / 32 + 2 ∧ (L (cei r p).natAbs : Int) ≤ L r.num.natAbs + p.toNat / 32 + 2 := by
  have h1 := flF_L r.num (r.den : Int) p
  have h2 := flF_L (-r).num ((-r).den : Int) p
  rw [flF_eq] at h1 h2
  rw [Rat.neg_num, Int.natAbs_neg] at h2
  unfold cei
  rw [Int.natAbs_neg]
  exact ⟨h1, h2⟩
theorem flr_LD (m e p : Int) : (L (flr (dv m e) p).natAbs : Int) ≤ L m.natAbs + (e + p).toNat / 32 + 1 ∧ (L (cei (dv m e) p).natAbs : Int) ≤ L m.natAbs + (e + p).toNat / 32 + 1 := by
  have h1 := scl_L m (e + p)
  have h2 := scl_L (-m) (e + p)
  rw [← flr_scl] at h1 h2
  rw [Int.natAbs_neg] at h2
  unfold cei
  rw [Int.natAbs_neg, ← dv_neg]
  exact ⟨h1, h2⟩
/-- a denominator that is a power of two -/
theorem pow_of_tz {d : Nat} (h0 : d ≠ 0) (h : (tz d : Int) = (nbits d : Int) - 1) : d = 2 ^ tz d := by
  have h1 := nbits_lt d
  have h2 := nbits_pos h0
  have h3 := Nat.dvd_of_mod_eq_zero (tz_spec h0).1
  obtain ⟨k, hk⟩ := h3
  have e : nbits d = tz d + 1 := by omega
  rw [e, Nat.pow_succ] at h1
  have hp : 0 < 2 ^ tz d := Nat.pow_pos (by omega)
  have hk1 : k = 1 := by
    rcases Nat.lt_or_ge k 2 with q | q
    · rcases Nat.eq_zero_or_pos k with q0 | q0
      · rw [q0] at hk; omega
      · omega
    · have := Nat.mul_le_mul_left (2 ^ tz d) q; omega
  rw [hk1, Nat.mul_one] at hk
  exact hk

/-! ### small intervals -/
def endB (m e : Int) : Bool := decide (topD m e ≤ 2048) && onB m e 8192
def smB (m e n f : Int) : Bool := ivB m e n f && endB m e && endB n f
def ecE (m e n f a b : Int) : Int := if a = 0 ∧ b = 0 ∧ smB m e n f = true then 0 else 3
def enE (lo hi : Rat) (w : Int) : Int :=
  if 0 ≤ w ∧ w ≤ 4096 then ecE (mkM (flr lo w) (-w)) (mkX (flr lo w) (-w)) (mkM (cei hi w) (-w)) (mkX (cei hi w) (-w)) (mkE (flr lo w) (-w)) (mkE (cei hi w) (-w)) else 1
def enM (lo hi : Rat) (w : Int) : Int := if enE lo hi w = 0 then mkM (flr lo w) (-w) else 0
def enX (lo hi : Rat) (w : Int) : Int := if enE lo hi w = 0 then mkX (flr lo w) (-w) else 0
def enN (lo hi : Rat) (w : Int) : Int := if enE lo hi w = 0 then mkM (cei hi w) (-w) else 0
def enF (lo hi : Rat) (w : Int) : Int := if enE lo hi w = 0 then mkX (cei hi w) (-w) else 0
theorem en_bad {lo hi : Rat} {w : Int} (h : w < 0 ∨ 4096 < w) : enM lo hi w = 0 ∧ enX lo hi w = 0 ∧ enN lo hi w = 0 ∧ enF lo hi w = 0 ∧ enE lo hi w = 1 := by
  have e : enE lo hi w = 1 := by unfold enE; rw [if_neg (by omega)]
  refine ⟨?_, ?_, ?_, ?_, e⟩ <;> (first | unfold enM | unfold enX | unfold enN | unfold enF) <;> rw [if_neg (by omega)]
theorem en_yes {lo hi : Rat} {w : Int} (hc : enE lo hi w = 0) : enM lo hi w = mkM (flr lo w) (-w) ∧ enX lo hi w = mkX (flr lo w) (-w) ∧ enN lo hi w = mkM (cei hi w) (-w) ∧ enF lo hi w = mkX (cei hi w) (-w) := by
  refine ⟨?_, ?_, ?_, ?_⟩ <;> (first | unfold enM | unfold enX | unfold enN | unfold enF) <;> rw [if_pos hc]
theorem en_facts (lo hi : Rat) (w : Int) : L (enM lo hi w).natAbs ≤ L (flr lo w).natAbs ∧ L (enN lo hi w).natAbs ≤ L (cei hi w).natAbs ∧ (-65536 ≤ enX lo hi w ∧ enX lo hi w ≤ 65536) ∧ (-65536 ≤ enF lo hi w ∧ enF lo hi w ≤ 65536) ∧ 0 ≤ enE lo hi w ∧ enE lo hi w ≤ 3 := by
  have a := mk_facts (flr lo w) (-w)
  have b := mk_facts (cei hi w) (-w)
  have z : L (0 : Int).natAbs = 0 := L_zero
  refine ⟨?_, ?_, ?_, ?_, ?_, ?_⟩
  · unfold enM; split <;> omega
  · unfold enN; split <;> omega
  · unfold enX; split <;> omega
  · unfold enF; split <;> omega
  · unfold enE ecE; split <;> (try split) <;> omega
  · unfold enE ecE; split <;> (try split) <;> omega
theorem ec_iff (m e n f a b : Int) : (ecE m e n f a b = 0 ∧ a = 0 ∧ b = 0 ∧ smB m e n f = true) ∨ (ecE m e n f a b = 3 ∧ ¬ (a = 0 ∧ b = 0 ∧ smB m e n f = true)) := by
  unfold ecE
  by_cases h : a = 0 ∧ b = 0 ∧ smB m e n f = true
  · exact .inl ⟨if_pos h, h⟩
  · exact .inr ⟨if_neg h, h⟩
def ecV (x m e n f a b : Int) : Int := if ecE m e n f a b = 0 then x else 0
theorem W_ec0 {m e n f a b : Int} (h : ¬ (a = 0 ∧ b = 0 ∧ smB m e n f = true)) : vsub (.tup [.agg [.bool false, .nil, .int .i64 0, .bool false, .nil, .int .i64 0], .int .i64 3])
    (.tup [.agg [.bool (decide (ecV m m e n f a b < 0)), N (ecV m m e n f a b).natAbs, .int .i64 (ecV e m e n f a b), .bool (decide (ecV n m e n f a b < 0)), N (ecV n m e n f a b).natAbs, .int .i64 (ecV f m e n f a b)], .int .i64 (ecE m e n f a b)]) := by
  have e1 : ecE m e n f a b = 3 := by unfold ecE; rw [if_neg h]
  have e2 : ∀ x, ecV x m e n f a b = 0 := fun x => by unfold ecV; rw [if_neg (by omega)]
  rw [e2, e2, e2, e2, e1]
  exact vsub_w0 3
theorem W_ec1 {m e n f a b : Int} (h : a = 0 ∧ b = 0 ∧ smB m e n f = true) : vsub (.tup [.agg [.bool (decide (m < 0)), N m.natAbs, .int .i64 e, .bool (decide (n < 0)), N n.natAbs, .int .i64 f], .int .i64 0])
    (.tup [.agg [.bool (decide (ecV m m e n f a b < 0)), N (ecV m m e n f a b).natAbs, .int .i64 (ecV e m e n f a b), .bool (decide (ecV n m e n f a b < 0)), N (ecV n m e n f a b).natAbs, .int .i64 (ecV f m e n f a b)], .int .i64 (ecE m e n f a b)]) := by
  have e1 : ecE m e n f a b = 0 := by unfold ecE; rw [if_pos h]
  have e2 : ∀ x, ecV x m e n f a b = x := fun x => by unfold ecV; rw [if_pos e1]
  rw [e2, e2, e2, e2, e1]
  exact vsub_refl _
/-- an enclosure of rounded ends, as the program has it -/
theorem en_ec {lo hi : Rat} {w : Int} (h : 0 ≤ w ∧ w ≤ 4096) :
    ecV (mkM (flr lo w) (-w)) (mkM (flr lo w) (-w)) (mkX (flr lo w) (-w)) (mkM (cei hi w) (-w)) (mkX (cei hi w) (-w)) (mkE (flr lo w) (-w)) (mkE (cei hi w) (-w)) = enM lo hi w ∧
    ecV (mkX (flr lo w) (-w)) (mkM (flr lo w) (-w)) (mkX (flr lo w) (-w)) (mkM (cei hi w) (-w)) (mkX (cei hi w) (-w)) (mkE (flr lo w) (-w)) (mkE (cei hi w) (-w)) = enX lo hi w ∧
    ecV (mkM (cei hi w) (-w)) (mkM (flr lo w) (-w)) (mkX (flr lo w) (-w)) (mkM (cei hi w) (-w)) (mkX (cei hi w) (-w)) (mkE (flr lo w) (-w)) (mkE (cei hi w) (-w)) = enN lo hi w ∧
    ecV (mkX (cei hi w) (-w)) (mkM (flr lo w) (-w)) (mkX (flr lo w) (-w)) (mkM (cei hi w) (-w)) (mkX (cei hi w) (-w)) (mkE (flr lo w) (-w)) (mkE (cei hi w) (-w)) = enF lo hi w ∧
    ecE (mkM (flr lo w) (-w)) (mkX (flr lo w) (-w)) (mkM (cei hi w) (-w)) (mkX (cei hi w) (-w)) (mkE (flr lo w) (-w)) (mkE (cei hi w) (-w)) = enE lo hi w := by
  have e : enE lo hi w = ecE (mkM (flr lo w) (-w)) (mkX (flr lo w) (-w)) (mkM (cei hi w) (-w)) (mkX (cei hi w) (-w)) (mkE (flr lo w) (-w)) (mkE (cei hi w) (-w)) := by unfold enE; rw [if_pos h]
  unfold enM enX enN enF
  rw [e]
  exact ⟨rfl, rfl, rfl, rfl, rfl⟩
theorem dv_L {m e : Int} (hv : vdb m e = true) (he : -65536 ≤ e ∧ e ≤ 65536) : L (dv m e).num.natAbs ≤ L m.natAbs + 2050 ∧ L (dv m e).den ≤ 2050 := by
  by_cases h : 0 ≤ e
  · have h1 := dv_pos_e (m := m) h
    have h2 := L_abs_shl m e.toNat
    have h3 : L 1 ≤ 1 := L_le (by decide)
    rw [h1.1, h1.2]
    omega
  · have h1 := dv_neg_e hv (by omega)
    have h2 := L_two_pow (-e).toNat
    rw [h1.1, h1.2]
    omega
theorem ceil_no {m e p : Int} (h : mkE (flr (dv (-m) e) p) (-p) ≠ 0) : mkM (cei (dv m e) p) (-p) = 0 ∧ mkX (cei (dv m e) p) (-p) = 0 ∧ mkE (cei (dv m e) p) (-p) = mkE (flr (dv (-m) e) p) (-p) := by
  rw [dv_neg] at h ⊢
  unfold cei
  have a := mk_opp (flr (-dv m e) p) (-p)
  have b := mk_no h
  rw [a.1, a.2.1, a.2.2, b.1, b.2]
  exact ⟨rfl, rfl, rfl⟩
theorem ceil_yes {m e p : Int} (h : mkE (flr (dv (-m) e) p) (-p) = 0) : mkM (cei (dv m e) p) (-p) = -mkM (flr (dv (-m) e) p) (-p) ∧ mkX (cei (dv m e) p) (-p) = mkX (flr (dv (-m) e) p) (-p) ∧ mkE (cei (dv m e) p) (-p) = 0 := by
  rw [dv_neg] at h ⊢
  unfold cei
  have a := mk_opp (flr (-dv m e) p) (-p)
  rw [a.1, a.2.1, a.2.2, h]
  exact ⟨rfl, rfl, rfl⟩
theorem ceil_no2 {x p : Int} (h : mkE x p ≠ 0) : mkM (-x) p = 0 ∧ mkX (-x) p = 0 ∧ mkE (-x) p = mkE x p := by
  have a := mk_opp x p
  have b := mk_no h
  rw [a.1, a.2.1, a.2.2, b.1, b.2]
  exact ⟨rfl, rfl, rfl⟩
theorem ceil_yes2 {x p : Int} (h : mkE x p = 0) : mkM (-x) p = -mkM x p ∧ mkX (-x) p = mkX x p ∧ mkE (-x) p = 0 := by
  have a := mk_opp x p
  rw [a.1, a.2.1, a.2.2, h]
  exact ⟨rfl, rfl, rfl⟩
def sgI (m n : Int) : Int := if m.sign = n.sign then m.sign else 0
theorem sgI_1 {m n : Int} (h : m.sign = n.sign) : vsub (.tup [.int .i64 m.sign, .bool true]) (.tup [.int .i64 (sgI m n), .bool (decide (m.sign = n.sign))]) := by
  unfold sgI; rw [if_pos h, decide_eq_true h]; exact vsub_refl _
theorem sgI_2 {m n : Int} (h : m.sign ≠ n.sign) : vsub (.tup [.int .i64 0, .bool false]) (.tup [.int .i64 (sgI m n), .bool (decide (m.sign = n.sign))]) := by
  unfold sgI; rw [if_neg h, decide_eq_false h]; exact vsub_refl _
/-! ### the walk of chapter 11 -/
theorem endB_1 {m e : Int} (h : m = 0 ∨ topD m e ≤ 2048) : decide (((-2048 : Int) ≤ 8192 ∧ (8192 : Int) ≤ 8192) ∧ (m = 0 ∨ -8192 ≤ e)) = endB m e := by
  have : topD m e ≤ 2048 := by
    rcases h with h | h
    · rcases topD_range m e with q | q <;> omega
    · exact h
  unfold endB onB; rw [decide_eq_true this]; rfl
theorem endB_2 {m e : Int} (h : 2048 < topD m e) : false = endB m e := by
  unfold endB; rw [decide_eq_false (by omega)]; rfl
theorem smB_1 {m e n f : Int} (h : ivB m e n f = true) (h2 : endB m e = true) : endB n f = smB m e n f := by unfold smB; rw [h, h2]; rfl
theorem smB_2 {m e n f : Int} (h : ivB m e n f = false) : false = smB m e n f := by unfold smB; rw [h]; rfl
theorem smB_3 {m e n f : Int} (h : ivB m e n f = true) (h2 : endB m e = false) : false = smB m e n f := by unfold smB; rw [h, h2]; rfl
theorem work_1 {w : Int} (h : 0 ≤ w) : iLe w 4096 = decide (0 ≤ w ∧ w ≤ 4096) := by unfold iLe; by_cases q : w ≤ 4096 <;> simp [q, h]
theorem work_2 {w : Int} (h : w < 0) : false = decide (0 ≤ w ∧ w ≤ 4096) := (decide_eq_false (by omega)).symm
theorem not_smB {m e n f a b : Int} (h : (!smB m e n f) = true) : ¬ (a = 0 ∧ b = 0 ∧ smB m e n f = true) := fun q => by rw [q.2.2] at h; cases h
theorem is_smB {m e n f a b : Int} (ha : a = 0) (hb : b = 0) (h : (!smB m e n f) = false) : a = 0 ∧ b = 0 ∧ smB m e n f = true := ⟨ha, hb, notb_f h⟩
def qmin (a b : Rat) : Rat := if b < a then b else a
def qmax (a b : Rat) : Rat := if a < b then b else a
abbrev enV (lo hi : Rat) (w : Int) : V := .tup [.agg [.bool (decide (enM lo hi w < 0)), N (enM lo hi w).natAbs, .int .i64 (enX lo hi w), .bool (decide (enN lo hi w < 0)), N (enN lo hi w).natAbs, .int .i64 (enF lo hi w)], .int .i64 (enE lo hi w)]
theorem en_vbad {lo hi : Rat} {w : Int} (h : w < 0 ∨ 4096 < w) : vsub (.tup [.agg [.bool false, .nil, .int .i64 0, .bool false, .nil, .int .i64 0], .int .i64 1]) (enV lo hi w) := by
  obtain ⟨a, b, c, d, e⟩ := en_bad (lo := lo) (hi := hi) h
  unfold enV
  rw [a, b, c, d, e]; exact vsub_w0 1
abbrev ecT (m e n f a b : Int) : V := .tup [.agg [.bool (decide (ecV m m e n f a b < 0)), N (ecV m m e n f a b).natAbs, .int .i64 (ecV e m e n f a b), .bool (decide (ecV n m e n f a b < 0)), N (ecV n m e n f a b).natAbs, .int .i64 (ecV f m e n f a b)], .int .i64 (ecE m e n f a b)]
theorem en_vec {x y x' y' : Rat} {w : Int} (h1 : x = x') (h2 : y = y') (h : 0 ≤ w ∧ w ≤ 4096) :
    vsub (ecT (mkM (flr x w) (-w)) (mkX (flr x w) (-w)) (mkM (cei y w) (-w)) (mkX (cei y w) (-w)) (mkE (flr x w) (-w)) (mkE (cei y w) (-w))) (enV x' y' w) := by
  subst h1; subst h2
  obtain ⟨a, b, c, d, e⟩ := en_ec (lo := x) (hi := y) h
  unfold ecT enV
  rw [a, b, c, d, e]; exact vsub_refl _
end Go.Proofs.YtmbpoibhamlkbaaGreatDoor

namespace Go.Proofs.YtmbpoibhamlkbaaGreatDoor
open Go.RowKit
set_option maxRecDepth 100000

def r04_Gcd_0_mk (a b : Nat) (x : Nat × Nat) : St := ⟨mkS 21 [(0, (.val (N x.1))), (1, (.val (N x.2)))], []⟩
def r04_Gcd_0_I (a b : Nat) (x : Nat × Nat) : Prop := Nat.gcd x.1 x.2 = Nat.gcd a b ∧ L x.1 ≤ 16777216 ∧ L x.2 ≤ 16777216
def r04_Gcd_0_mu (a b : Nat) (x : Nat × Nat) : Nat := x.2
def r04_Gcd_0_ex (a b : Nat) (y : Nat) : Ex × St := (.exit 0, ⟨mkS 21 [(0, (.val (N y)))], []⟩)
def r04_Gcd_0_J (a b : Nat) (y : Nat) : Prop := y = Nat.gcd a b
theorem r04_Gcd_0 (a b : Nat) (c0 : L a ≤ 16777216)(c1 : L b ≤ 16777216) (x0 : Nat × Nat) (hI : r04_Gcd_0_I a b x0) : LoopOk Tryz.prog Amb (loopN Tryz.f189 0) (r04_Gcd_0_mk a b x0) (fun e st_ => ∃ y, r04_Gcd_0_J a b y ∧ r04_Gcd_0_ex a b y = (e, st_)) :=
  loop_ob hP hAmb ⟨[0, 1], 0, []⟩ (r04_Gcd_0_mk a b) (r04_Gcd_0_I a b) (r04_Gcd_0_mu a b) (r04_Gcd_0_ex a b) (r04_Gcd_0_J a b) x0 hI (fun (x, y) => .lit <| .both (.lit <| .call (.tup [(N (x / y)), (N (x % y)), (.bool true)]) <| .fin2 ⟨[0, 1], 0, []⟩) (.fin2 ⟨[0], 0, []⟩)) (by
    rintro ⟨x, y⟩ hI
    have hI : Nat.gcd x y = Nat.gcd a b ∧ L x ≤ 16777216 ∧ L y ≤ 16777216 := hI
    obtain ⟨h1, h2, h3⟩ := hI
    have m0 := L_mod x y
    have m1 := L_len y
    have m2 := L_pos_iff y
    have m3 := fun q => Nat.mod_lt x (show 0 < y from q)
    exact cast_ob (And.intro True.intro (And.intro (fun (h101 : (iGt ((lim y).length : Int) 0) = true) => have _gh101 := iGt_t h101; And.intro (r03_DivMod x y (by omega) (by omega) (by omega)) (have f103 := L_mod x y; have f102 := L_div x y; And.intro (rfl : true = true) ((nx_next (y, (x % y)) (show Nat.gcd y (x % y) = Nat.gcd a b ∧ L y ≤ 16777216 ∧ L (x % y) ≤ 16777216 from ⟨(gcd_step x y).trans h1, h3, by omega⟩) (m3 (by omega)) : NX (r04_Gcd_0_mk a b) (r04_Gcd_0_I a b) (r04_Gcd_0_mu a b) (r04_Gcd_0_ex a b) (r04_Gcd_0_J a b) (x, y) .normal (r04_Gcd_0_mk a b (y, (x % y))))))) (fun (h104 : (iGt ((lim y).length : Int) 0) = false) => have _gh104 := iGt_f h104; And.intro (rfl : true = true) ((nx_exit 0 ((r04_Gcd_0_ex a b x).2) x (show x = Nat.gcd a b from gcd_last h1 (by omega)) rfl : NX (r04_Gcd_0_mk a b) (r04_Gcd_0_I a b) (r04_Gcd_0_mu a b) (r04_Gcd_0_ex a b) (r04_Gcd_0_J a b) (x, y) (.exit 0) ((r04_Gcd_0_ex a b x).2)))))) (by kernel_rfl))

theorem r04_Gcd (a : Nat) (b : Nat) (c0 : L a ≤ 16777216) (c1 : L b ≤ 16777216) : Impl Tryz.prog Amb 189 [(N a), (N b)] (N (Nat.gcd a b)) := by
  exact impl_ob hP hAmb Tryz.func189 (by kernel_rfl) (.loop ⟨[0, 1], 0, []⟩ ((r04_Gcd_0_mk a b (a, b))) (Nat) (r04_Gcd_0_ex a b) (r04_Gcd_0_J a b) (fun y => .lit <| .ret))
    (cast_ob (And.intro True.intro (And.intro (rfl : true = true) (And.intro (rfl : (r04_Gcd_0_mk a b (a, b)) = (r04_Gcd_0_mk a b (a, b))) (And.intro (r04_Gcd_0 a b c0 c1 (a, b) (show Nat.gcd a (b) = Nat.gcd a b ∧ L a ≤ 16777216 ∧ L (b) ≤ 16777216 from ⟨rfl, c0, c1⟩)) (fun y (hJ : r04_Gcd_0_J a b y) => have hJ : y = Nat.gcd a b := hJ; (vsub_of (congrArg N hJ) : vsub (N y) (N (Nat.gcd a b)))))))) (by kernel_rfl))

theorem r03_Div (a : Nat) (b : Nat) (c0 : L a ≤ 16777216) (c1 : L b ≤ 16777216) (c2 : 0 < b) : Impl Tryz.prog Amb 190 [(N a), (N b)] (N (a / b)) := by
  exact impl_ob hP hAmb Tryz.func190 (by kernel_rfl) (.lit <| .call (.tup [(N (a / b)), (N (a % b)), (.bool true)]) <| .lit <| .ret)
    (cast_ob (And.intro True.intro (And.intro (r03_DivMod a b (by first | omega | (simp <;> omega)) (by first | omega | (simp <;> omega)) (by first | omega | (simp <;> omega))) (have f2 := L_mod a b; have f1 := L_div a b; (vsub_refl _ : vsub (N (a / b)) (N (a / b)))))) (by kernel_rfl))

theorem r04_Lowest (a : Nat) (b : Nat) (c0 : L a ≤ 16777216) (c1 : L b ≤ 16777216) (c2 : 0 < b) : Impl Tryz.prog Amb 145 [(N a), (N b)] (.tup [(N (a / (Nat.gcd a b))), (N (b / (Nat.gcd a b))), (.bool true)]) := by
  have e1 := L_len b
  have e2 := L_pos_iff b
  have e3 := Nat.gcd_pos_of_pos_right a (show 0 < b from c2)
  have e4 := L_mono (Nat.gcd_le_right a (show 0 < b from c2))
  exact impl_ob hP hAmb Tryz.func145 (by kernel_rfl) (.lit <| .no <| .lit <| .call (N (Nat.gcd a b)) <| .lit <| .call (N (a / (Nat.gcd a b))) <| .lit <| .call (N (b / (Nat.gcd a b))) <| .lit <| .ret)
    (cast_ob (And.intro True.intro (And.intro (iEq_mkF (by omega) : (iEq ((lim b).length : Int) 0) = false) (And.intro (r04_Gcd a b (by first | omega | (simp <;> omega)) (by first | omega | (simp <;> omega))) (And.intro (r03_Div a (Nat.gcd a b) (by first | omega | (simp <;> omega)) (by first | omega | (simp <;> omega)) (by first | omega | (simp <;> omega))) (have f2 := L_div a (Nat.gcd a b); And.intro (r03_Div b (Nat.gcd a b) (by first | omega | (simp <;> omega)) (by first | omega | (simp <;> omega)) (by first | omega | (simp <;> omega))) (have f1 := L_div b (Nat.gcd a b); (vsub_refl _ : vsub (.tup [(N (a / (Nat.gcd a b))), (N (b / (Nat.gcd a b))), (.bool true)]) (.tup [(N (a / (Nat.gcd a b))), (N (b / (Nat.gcd a b))), (.bool true)])))))))) (by kernel_rfl))

theorem r07_Make (n : Int) (d : Int) (c0 : L (n).natAbs ≤ 4000000) (c1 : L (d).natAbs ≤ 4000000) (c2 : d ≠ 0) : Impl Tryz.prog Amb 89 [(.agg [(.bool (decide (n < 0))), (N n.natAbs)]), (.agg [(.bool (decide (d < 0))), (N d.natAbs)])] (.tup [(.agg [(.bool (decide ((Rat.divInt n d).num < 0))), (N (((Rat.divInt n d).num).natAbs)), (N ((Rat.divInt n d).den))]), (.int .i64 0)]) := by
  have qm := q_make (n := n) c2
  exact impl_ob hP hAmb Tryz.func89 (by kernel_rfl) (.lits 3 <| .call (.tup [(N (n.natAbs / (Nat.gcd n.natAbs d.natAbs))), (N (d.natAbs / (Nat.gcd n.natAbs d.natAbs))), (.bool true)]) <| .lits 6 <| .call (.agg [(.bool (decide ((sgn (!(bEq (decide (n < 0)) (decide (d < 0)))) (n.natAbs / (Nat.gcd n.natAbs d.natAbs))) < 0))), (N ((sgn (!(bEq (decide (n < 0)) (decide (d < 0)))) (n.natAbs / (Nat.gcd n.natAbs d.natAbs))).natAbs))]) <| .lits 3 <| .ret)
    (cast_ob (And.intro True.intro (And.intro (r04_Lowest n.natAbs d.natAbs (by first | omega | (simp <;> omega)) (by first | omega | (simp <;> omega)) (by first | omega | (simp <;> omega))) (have f3 := L_div d.natAbs (Nat.gcd n.natAbs d.natAbs); have f2 := L_div n.natAbs (Nat.gcd n.natAbs d.natAbs); And.intro (r05_Nat (!(bEq (decide (n < 0)) (decide (d < 0)))) (n.natAbs / (Nat.gcd n.natAbs d.natAbs)) (by first | omega | (simp <;> omega))) (have f1 := L_sgn (!(bEq (decide (n < 0)) (decide (d < 0)))) (n.natAbs / (Nat.gcd n.natAbs d.natAbs)); (by rw [qm.1, qm.2]; exact vsub_refl _ : vsub (.tup [(.agg [(.bool (decide ((sgn (!(bEq (decide (n < 0)) (decide (d < 0)))) (n.natAbs / (Nat.gcd n.natAbs d.natAbs))) < 0))), (N ((sgn (!(bEq (decide (n < 0)) (decide (d < 0)))) (n.natAbs / (Nat.gcd n.natAbs d.natAbs))).natAbs)), (N (d.natAbs / (Nat.gcd n.natAbs d.natAbs)))]), (.int .i64 0)]) (.tup [(.agg [(.bool (decide ((Rat.divInt n d).num < 0))), (N (((Rat.divInt n d).num).natAbs)), (N ((Rat.divInt n d).den))]), (.int .i64 0)])))))) (by kernel_rfl))

theorem r07_of (n : Int) (d : Int) (c0 : L (n).natAbs ≤ 4000000) (c1 : L (d).natAbs ≤ 4000000) (c2 : d ≠ 0) : Impl Tryz.prog Amb 118 [(.agg [(.bool (decide (n < 0))), (N n.natAbs)]), (.agg [(.bool (decide (d < 0))), (N d.natAbs)])] (.agg [(.bool (decide ((Rat.divInt n d).num < 0))), (N (((Rat.divInt n d).num).natAbs)), (N ((Rat.divInt n d).den))]) := by
  exact impl_ob hP hAmb Tryz.func118 (by kernel_rfl) (.lits 3 <| .call (.tup [(.agg [(.bool (decide ((Rat.divInt n d).num < 0))), (N (((Rat.divInt n d).num).natAbs)), (N ((Rat.divInt n d).den))]), (.int .i64 0)]) <| .lits 4 <| .ret)
    (cast_ob (And.intro True.intro (And.intro (r07_Make n d (by first | omega | (simp <;> omega)) (by first | omega | (simp <;> omega)) (by first | omega | (simp <;> omega))) (have f1 := q_L (n := n) (show d ≠ 0 by first | assumption | omega | decide); (vsub_refl _ : vsub (.agg [(.bool (decide ((Rat.divInt n d).num < 0))), (N (((Rat.divInt n d).num).natAbs)), (N ((Rat.divInt n d).den))]) (.agg [(.bool (decide ((Rat.divInt n d).num < 0))), (N (((Rat.divInt n d).num).natAbs)), (N ((Rat.divInt n d).den))]))))) (by kernel_rfl))

theorem r07_den (r : Rat) (c0 : L r.num.natAbs ≤ 1000000) (c1 : L r.den ≤ 1000000) : Impl Tryz.prog Amb 119 [(.agg [(.bool (decide (r.num < 0))), (N r.num.natAbs), (N r.den)])] (.agg [(.bool (decide ((r.den : Int) < 0))), (N ((r.den : Int).natAbs))]) := by
  exact impl_ob hP hAmb Tryz.func119 (by kernel_rfl) (.lits 2 <| .call (.agg [(.bool (decide ((sgn false r.den) < 0))), (N ((sgn false r.den).natAbs))]) <| .lits 2 <| .ret)
    (cast_ob (And.intro True.intro (And.intro (r05_Nat false r.den (by first | omega | (simp <;> omega))) (have f1 := L_sgn false r.den; (Z_of (sgn_f _) : vsub (.agg [(.bool (decide ((sgn false r.den) < 0))), (N ((sgn false r.den).natAbs))]) (.agg [(.bool (decide ((r.den : Int) < 0))), (N ((r.den : Int).natAbs))]))))) (by kernel_rfl))

theorem r07_Of (n : Int) (c0 : (-9223372036854775808 : Int) ≤ n ∧ n ≤ 9223372036854775807) : Impl Tryz.prog Amb 71 [(.int .i64 n)] (.agg [(.bool (decide ((Int.cast n : Rat).num < 0))), (N (((Int.cast n : Rat).num).natAbs)), (N ((Int.cast n : Rat).den))]) := by
  exact impl_ob hP hAmb Tryz.func71 (by kernel_rfl) (.lit <| .call (.agg [(.bool (decide (n < 0))), (N n.natAbs)]) <| .lit <| .call (.agg [(.bool (decide ((1 : Int) < 0))), (N ((1 : Int).natAbs))]) <| .lit <| .call (.agg [(.bool (decide ((Rat.divInt n (1 : Int)).num < 0))), (N (((Rat.divInt n (1 : Int)).num).natAbs)), (N ((Rat.divInt n (1 : Int)).den))]) <| .lits 2 <| .ret)
    (cast_ob (And.intro True.intro (And.intro (r05_Of n (by first | omega | (simp <;> omega))) (have f3 := (L_i64 (by first | omega | (simp <;> omega)) : L (n : Int).natAbs ≤ 2); And.intro (r05_Of 1 (by first | omega | (simp <;> omega))) (have f2 := (L_i64 (by first | omega | (simp <;> omega)) : L (1 : Int).natAbs ≤ 2); And.intro (r07_of n (1 : Int) (by first | omega | (simp <;> omega)) (by first | omega | (simp <;> omega)) (by first | omega | (simp <;> omega))) (have f1 := q_L (n := n) (show (1 : Int) ≠ 0 by first | assumption | omega | decide); (by rw [q_int]; exact vsub_refl _ : vsub (.agg [(.bool (decide ((Rat.divInt n (1 : Int)).num < 0))), (N (((Rat.divInt n (1 : Int)).num).natAbs)), (N ((Rat.divInt n (1 : Int)).den))]) (.agg [(.bool (decide ((Int.cast n : Rat).num < 0))), (N (((Int.cast n : Rat).num).natAbs)), (N ((Int.cast n : Rat).den))]))))))) (by kernel_rfl))

theorem r07_Neg (r : Rat) (c0 : L r.num.natAbs ≤ 1000000) (c1 : L r.den ≤ 1000000) : Impl Tryz.prog Amb 126 [(.agg [(.bool (decide (r.num < 0))), (N r.num.natAbs), (N r.den)])] (.agg [(.bool (decide ((-r).num < 0))), (N (((-r).num).natAbs)), (N ((-r).den))]) := by
  exact impl_ob hP hAmb Tryz.func126 (by kernel_rfl) (.lits 2 <| .call (.agg [(.bool (decide ((-r.num) < 0))), (N ((-r.num).natAbs))]) <| .lits 4 <| .ret)
    (cast_ob (And.intro True.intro (And.intro (r05_Neg r.num (by first | omega | (simp <;> omega))) (have f1 := L_abs_neg r.num; (by rw [(q_negL r).1, (q_negL r).2]; exact vsub_refl _ : vsub (.agg [(.bool (decide ((-r.num) < 0))), (N ((-r.num).natAbs)), (N r.den)]) (.agg [(.bool (decide ((-r).num < 0))), (N (((-r).num).natAbs)), (N ((-r).den))]))))) (by kernel_rfl))

theorem r07_Cmp (r : Rat) (s : Rat) (c0 : L r.num.natAbs ≤ 1000000) (c1 : L r.den ≤ 1000000) (c2 : L s.num.natAbs ≤ 1000000) (c3 : L s.den ≤ 1000000) : Impl Tryz.prog Amb 93 [(.agg [(.bool (decide (r.num < 0))), (N r.num.natAbs), (N r.den)]), (.agg [(.bool (decide (s.num < 0))), (N s.num.natAbs), (N s.den)])] (.int .i64 (cmpQ r s)) := by
  exact impl_ob hP hAmb Tryz.func93 (by kernel_rfl) (.lits 3 <| .call (.agg [(.bool (decide ((s.den : Int) < 0))), (N ((s.den : Int).natAbs))]) <| .lit <| .call (.agg [(.bool (decide ((r.num * (s.den : Int)) < 0))), (N ((r.num * (s.den : Int)).natAbs))]) <| .lits 3 <| .call (.agg [(.bool (decide ((r.den : Int) < 0))), (N ((r.den : Int).natAbs))]) <| .lit <| .call (.agg [(.bool (decide ((s.num * (r.den : Int)) < 0))), (N ((s.num * (r.den : Int)).natAbs))]) <| .lit <| .call (.int .i64 (cmpI (r.num * (s.den : Int)) (s.num * (r.den : Int)))) <| .lit <| .ret)
    (cast_ob (And.intro True.intro (And.intro (r07_den s (by first | omega | (simp <;> omega)) (by first | omega | (simp <;> omega))) (have f7 := den_ne s; have f6 := L_den s; And.intro (r05_Mul r.num (s.den : Int) (by first | omega | (simp <;> omega)) (by first | omega | (simp <;> omega))) (have f5 := L_abs_mul r.num (s.den : Int); And.intro (r07_den r (by first | omega | (simp <;> omega)) (by first | omega | (simp <;> omega))) (have f4 := den_ne r; have f3 := L_den r; And.intro (r05_Mul s.num (r.den : Int) (by first | omega | (simp <;> omega)) (by first | omega | (simp <;> omega))) (have f2 := L_abs_mul s.num (r.den : Int); And.intro (r05_Cmp (r.num * (s.den : Int)) (s.num * (r.den : Int)) (by first | omega | (simp <;> omega)) (by first | omega | (simp <;> omega))) (have f1 := cmpI_range (r.num * (s.den : Int)) (s.num * (r.den : Int)); (vsub_of (congrArg (V.int .i64) (q_cmp r s)) : vsub (.int .i64 (cmpI (r.num * (s.den : Int)) (s.num * (r.den : Int)))) (.int .i64 (cmpQ r s)))))))))) (by kernel_rfl))

theorem r07_Div (r : Rat) (s : Rat) (c0 : L r.num.natAbs ≤ 1000000) (c1 : L r.den ≤ 1000000) (c2 : L s.num.natAbs ≤ 1000000) (c3 : L s.den ≤ 1000000) (c4 : s ≠ 0) : Impl Tryz.prog Amb 54 [(.agg [(.bool (decide (r.num < 0))), (N r.num.natAbs), (N r.den)]), (.agg [(.bool (decide (s.num < 0))), (N s.num.natAbs), (N s.den)])] (.tup [(.agg [(.bool (decide ((r / s).num < 0))), (N (((r / s).num).natAbs)), (N ((r / s).den))]), (.int .i64 0)]) := by
  have d0 := den_ne r
  have d1 := q_num_ne c4
  have d2 := Int.mul_ne_zero d0 d1
  exact impl_ob hP hAmb Tryz.func54 (by kernel_rfl) (.lits 3 <| .call (.agg [(.bool (decide ((s.den : Int) < 0))), (N ((s.den : Int).natAbs))]) <| .lit <| .call (.agg [(.bool (decide ((r.num * (s.den : Int)) < 0))), (N ((r.num * (s.den : Int)).natAbs))]) <| .lits 2 <| .call (.agg [(.bool (decide ((r.den : Int) < 0))), (N ((r.den : Int).natAbs))]) <| .lits 2 <| .call (.agg [(.bool (decide (((r.den : Int) * s.num) < 0))), (N (((r.den : Int) * s.num).natAbs))]) <| .lit <| .call (.tup [(.agg [(.bool (decide ((Rat.divInt (r.num * (s.den : Int)) ((r.den : Int) * s.num)).num < 0))), (N (((Rat.divInt (r.num * (s.den : Int)) ((r.den : Int) * s.num)).num).natAbs)), (N ((Rat.divInt (r.num * (s.den : Int)) ((r.den : Int) * s.num)).den))]), (.int .i64 0)]) <| .lits 2 <| .ret)
    (cast_ob (And.intro True.intro (And.intro (r07_den s (by first | omega | (simp <;> omega)) (by first | omega | (simp <;> omega))) (have f7 := den_ne s; have f6 := L_den s; And.intro (r05_Mul r.num (s.den : Int) (by first | omega | (simp <;> omega)) (by first | omega | (simp <;> omega))) (have f5 := L_abs_mul r.num (s.den : Int); And.intro (r07_den r (by first | omega | (simp <;> omega)) (by first | omega | (simp <;> omega))) (have f4 := den_ne r; have f3 := L_den r; And.intro (r05_Mul (r.den : Int) s.num (by first | omega | (simp <;> omega)) (by first | omega | (simp <;> omega))) (have f2 := L_abs_mul (r.den : Int) s.num; And.intro (r07_Make (r.num * (s.den : Int)) ((r.den : Int) * s.num) (by first | omega | (simp <;> omega)) (by first | omega | (simp <;> omega)) (by first | omega | (simp <;> omega))) (have f1 := q_L (n := (r.num * (s.den : Int))) (show ((r.den : Int) * s.num) ≠ 0 by first | assumption | omega | decide); (by rw [q_div c4]; exact vsub_refl _ : vsub (.tup [(.agg [(.bool (decide ((Rat.divInt (r.num * (s.den : Int)) ((r.den : Int) * s.num)).num < 0))), (N (((Rat.divInt (r.num * (s.den : Int)) ((r.den : Int) * s.num)).num).natAbs)), (N ((Rat.divInt (r.num * (s.den : Int)) ((r.den : Int) * s.num)).den))]), (.int .i64 0)]) (.tup [(.agg [(.bool (decide ((r / s).num < 0))), (N (((r / s).num).natAbs)), (N ((r / s).den))]), (.int .i64 0)]))))))))) (by kernel_rfl))

theorem r08_one (n : Int) (c0 : (0 : Int) ≤ n ∧ n ≤ 200000) : Impl Tryz.prog Amb 111 [(.int .i64 n)] (N (1 * 2 ^ (n).toNat)) := by
  have l1 := L_le (n := 1) (k := 1) (by decide)
  exact impl_ob hP hAmb Tryz.func111 (by kernel_rfl) (.lit <| .call (N 1) <| .lit <| .call (N (1 * 2 ^ (n).toNat)) <| .lit <| .ret)
    (cast_ob (And.intro True.intro (And.intro (r01_Of 1 (by first | omega | (simp <;> omega))) (And.intro (r01_Shl 1 n (by first | omega | (simp <;> omega)) (by first | omega | (simp <;> omega))) (have f1 := L_shl 1 (n).toNat; (vsub_refl _ : vsub (N (1 * 2 ^ (n).toNat)) (N (1 * 2 ^ (n).toNat))))))) (by kernel_rfl))

theorem r08_Rat (m : Int) (e : Int) (c0 : L (m).natAbs ≤ 100000) (c1 : (-65536 : Int) ≤ e ∧ e ≤ 65536) (c2 : vdb m e = true) : Impl Tryz.prog Amb 49 [(.agg [(.bool (decide (m < 0))), (N m.natAbs), (.int .i64 e)])] (.agg [(.bool (decide ((dv m e).num < 0))), (N (((dv m e).num).natAbs)), (N ((dv m e).den))]) := by
  exact impl_ob hP hAmb Tryz.func49 (by kernel_rfl) (.lits 2 <| .both (.lits 3 <| .call (.agg [(.bool (decide ((m * 2 ^ (e).toNat) < 0))), (N ((m * 2 ^ (e).toNat).natAbs))]) <| .lit <| .call (N 1) <| .lits 3 <| .ret) (.lits 3 <| .yes <| .lit <| .call (N (1 * 2 ^ (((0 : Int) - e)).toNat)) <| .lits 3 <| .ret))
    (cast_ob (And.intro True.intro (And.intro (fun (h1 : (iGe e 0) = true) => have _gh1 := iGe_t h1; And.intro (r05_Shl m e (by first | omega | (simp <;> omega)) (by first | omega | (simp <;> omega))) (have f2 := L_abs_shl m (e).toNat; And.intro (r01_Of 1 (by first | omega | (simp <;> omega))) ((by rw [(dv_pos_e (show 0 ≤ e by omega)).1, (dv_pos_e (m := m) (show 0 ≤ e by omega)).2]; exact vsub_refl _ : vsub (.agg [(.bool (decide ((m * 2 ^ (e).toNat) < 0))), (N ((m * 2 ^ (e).toNat).natAbs)), (N 1)]) (.agg [(.bool (decide ((dv m e).num < 0))), (N (((dv m e).num).natAbs)), (N ((dv m e).den))]))))) (fun (h3 : (iGe e 0) = false) => have _gh3 := iGe_f h3; And.intro (fits_i64 (by first | omega | (simp <;> omega)) : (fits .i64 ((0 : Int) - e)) = true) (And.intro (r08_one ((0 : Int) - e) (by first | omega | (simp <;> omega))) (have f4 := L_shl 1 (((0 : Int) - e)).toNat; (by rw [(dv_neg_e c2 (show e < 0 by omega)).1, (dv_neg_e c2 (show e < 0 by omega)).2, show (0 - e) = -e by omega, Nat.one_mul]; exact vsub_refl _ : vsub (.agg [(.bool (decide (m < 0))), (N m.natAbs), (N (1 * 2 ^ (((0 : Int) - e)).toNat))]) (.agg [(.bool (decide ((dv m e).num < 0))), (N (((dv m e).num).natAbs)), (N ((dv m e).den))]))))))) (by kernel_rfl))

theorem r08_Cut (r : Rat) (p : Int) (c0 : L r.num.natAbs ≤ 100000) (c1 : L r.den ≤ 30000) (c2 : (-10000 : Int) ≤ p ∧ p ≤ 10000) : Impl Tryz.prog Amb 155 [(.agg [(.bool (decide (r.num < 0))), (N r.num.natAbs), (N r.den)]), (.int .i64 p)] (.agg [(.bool (decide ((flr r p) < 0))), (N ((flr r p).natAbs))]) := by
  have n0 := nbits_pos r.den_nz
  have n1 := nbits_L r.den
  have t1 := fun q => pow_of_tz r.den_nz q
  have d0 := den_ne r
  have d1 : (0 : Int) < (r.den : Int) := by omega
  have d2 := L_den r
  have d3 : sgn false r.den = (r.den : Int) := sgn_f _
  have d4 := sgn_abs false r.den
  have l1 := L_shl r.den (-p).toNat
  have d5 := two_pos (0 - p).toNat
  have d6 : (r.den : Int) * 2 ^ (0 - p).toNat ≠ 0 := Int.mul_ne_zero d0 (Int.ne_of_gt d5)
  have d7 := L_abs_shl (sgn false r.den) (0 - p).toNat
  exact impl_ob hP hAmb Tryz.func155 (by kernel_rfl) (.lits 2 <| .call (.int .i64 (nbits r.den : Int)) <| .lit <| .yes <| .lits 2 <| .call (.int .i64 (tz r.den : Int)) <| .lit <| .both (.lit <| .both (.lits 2 <| .yes <| .lit <| .call (.agg [(.bool (decide ((r.num * 2 ^ ((p - ((nbits r.den : Int) - 1))).toNat) < 0))), (N ((r.num * 2 ^ ((p - ((nbits r.den : Int) - 1))).toNat).natAbs))]) <| .lits 2 <| .ret) (.lits 2 <| .yes <| .lit <| .call (.agg [(.bool (decide ((r.num / 2 ^ ((((nbits r.den : Int) - 1) - p)).toNat) < 0))), (N ((r.num / 2 ^ ((((nbits r.den : Int) - 1) - p)).toNat).natAbs))]) <| .lits 2 <| .ret)) (.lits 3 <| .call (.agg [(.bool (decide ((sgn false r.den) < 0))), (N ((sgn false r.den).natAbs))]) <| .lit <| .both (.lits 2 <| .call (.agg [(.bool (decide ((r.num * 2 ^ (p).toNat) < 0))), (N ((r.num * 2 ^ (p).toNat).natAbs))]) <| .lits 4 <| .call (.tup [(.agg [(.bool (decide ((Int.fdiv (r.num * 2 ^ (p).toNat) (sgn false r.den)) < 0))), (N ((Int.fdiv (r.num * 2 ^ (p).toNat) (sgn false r.den)).natAbs))]), (.agg [(.bool (decide (((r.num * 2 ^ (p).toNat) - (Int.fdiv (r.num * 2 ^ (p).toNat) (sgn false r.den)) * (sgn false r.den)) < 0))), (N (((r.num * 2 ^ (p).toNat) - (Int.fdiv (r.num * 2 ^ (p).toNat) (sgn false r.den)) * (sgn false r.den)).natAbs))]), (.bool true)]) <| .lits 5 <| .ret) (.lits 2 <| .yes <| .lit <| .call (.agg [(.bool (decide (((sgn false r.den) * 2 ^ (((0 : Int) - p)).toNat) < 0))), (N (((sgn false r.den) * 2 ^ (((0 : Int) - p)).toNat).natAbs))]) <| .lits 4 <| .call (.tup [(.agg [(.bool (decide ((Int.fdiv r.num ((sgn false r.den) * 2 ^ (((0 : Int) - p)).toNat)) < 0))), (N ((Int.fdiv r.num ((sgn false r.den) * 2 ^ (((0 : Int) - p)).toNat)).natAbs))]), (.agg [(.bool (decide ((r.num - (Int.fdiv r.num ((sgn false r.den) * 2 ^ (((0 : Int) - p)).toNat)) * ((sgn false r.den) * 2 ^ (((0 : Int) - p)).toNat)) < 0))), (N ((r.num - (Int.fdiv r.num ((sgn false r.den) * 2 ^ (((0 : Int) - p)).toNat)) * ((sgn false r.den) * 2 ^ (((0 : Int) - p)).toNat)).natAbs))]), (.bool true)]) <| .lits 5 <| .ret)))
    (cast_ob (And.intro True.intro (And.intro (r01_Bits r.den (by first | omega | (rw [d3]; first | omega | assumption))) (have f15 := nbits_L r.den; And.intro (fits_i64 (by first | omega | (rw [d3]; first | omega | assumption)) : (fits .i64 ((nbits r.den : Int) - 1)) = true) (And.intro (r01_Zeros r.den (by first | omega | (rw [d3]; first | omega | assumption))) (have f14 := tz_L r.den; And.intro (fun (h1 : (iEq (tz r.den : Int) ((nbits r.den : Int) - 1)) = true) => have _gh1 := iEq_t h1; And.intro (fun (h2 : (iGe p ((nbits r.den : Int) - 1)) = true) => have _gh2 := iGe_t h2; And.intro (fits_i64 (by first | omega | (rw [d3]; first | omega | assumption)) : (fits .i64 (p - ((nbits r.den : Int) - 1))) = true) (And.intro (r05_Shl r.num (p - ((nbits r.den : Int) - 1)) (by first | omega | (rw [d3]; first | omega | assumption)) (by first | omega | (rw [d3]; first | omega | assumption))) (have f3 := L_abs_shl r.num ((p - ((nbits r.den : Int) - 1))).toNat; (Z_of (by rw [flr_shl (t1 (by omega)) (by omega)]; congr 3; omega) : vsub (.agg [(.bool (decide ((r.num * 2 ^ ((p - ((nbits r.den : Int) - 1))).toNat) < 0))), (N ((r.num * 2 ^ ((p - ((nbits r.den : Int) - 1))).toNat).natAbs))]) (.agg [(.bool (decide ((flr r p) < 0))), (N ((flr r p).natAbs))]))))) (fun (h4 : (iGe p ((nbits r.den : Int) - 1)) = false) => have _gh4 := iGe_f h4; And.intro (fits_i64 (by first | omega | (rw [d3]; first | omega | assumption)) : (fits .i64 (((nbits r.den : Int) - 1) - p)) = true) (And.intro (r05_Shr r.num (((nbits r.den : Int) - 1) - p) (by first | omega | (rw [d3]; first | omega | assumption)) (by first | omega | (rw [d3]; first | omega | assumption))) (have f5 := L_abs_shr r.num ((((nbits r.den : Int) - 1) - p)).toNat; (Z_of (by rw [flr_shr (t1 (by omega)) (by omega)]; congr 3; omega) : vsub (.agg [(.bool (decide ((r.num / 2 ^ ((((nbits r.den : Int) - 1) - p)).toNat) < 0))), (N ((r.num / 2 ^ ((((nbits r.den : Int) - 1) - p)).toNat).natAbs))]) (.agg [(.bool (decide ((flr r p) < 0))), (N ((flr r p).natAbs))])))))) (fun (h6 : (iEq (tz r.den : Int) ((nbits r.den : Int) - 1)) = false) => have _gh6 := iEq_f h6; And.intro (r05_Nat false r.den (by first | omega | (rw [d3]; first | omega | assumption))) (have f13 := L_sgn false r.den; And.intro (fun (h7 : (iGe p 0) = true) => have _gh7 := iGe_t h7; And.intro (r05_Shl r.num p (by first | omega | (rw [d3]; first | omega | assumption)) (by first | omega | (rw [d3]; first | omega | assumption))) (have f9 := L_abs_shl r.num (p).toNat; And.intro (r05_DivMod (r.num * 2 ^ (p).toNat) (sgn false r.den) (by first | omega | (rw [d3]; first | omega | assumption)) (by first | omega | (rw [d3]; first | omega | assumption)) (by first | omega | (rw [d3]; first | omega | assumption))) (have f8 := L_fdiv (r.num * 2 ^ (p).toNat) (sgn false r.den); (Z_of (by rw [d3, flF_p d1 (by omega), flF_eq]) : vsub (.agg [(.bool (decide ((Int.fdiv (r.num * 2 ^ (p).toNat) (sgn false r.den)) < 0))), (N ((Int.fdiv (r.num * 2 ^ (p).toNat) (sgn false r.den)).natAbs))]) (.agg [(.bool (decide ((flr r p) < 0))), (N ((flr r p).natAbs))]))))) (fun (h10 : (iGe p 0) = false) => have _gh10 := iGe_f h10; And.intro (fits_i64 (by first | omega | (rw [d3]; first | omega | assumption)) : (fits .i64 ((0 : Int) - p)) = true) (And.intro (r05_Shl (sgn false r.den) ((0 : Int) - p) (by first | omega | (rw [d3]; first | omega | assumption)) (by first | omega | (rw [d3]; first | omega | assumption))) (have f12 := L_abs_shl (sgn false r.den) (((0 : Int) - p)).toNat; And.intro (r05_DivMod r.num ((sgn false r.den) * 2 ^ (((0 : Int) - p)).toNat) (by first | omega | (rw [d3]; first | omega | assumption)) (by first | omega | (rw [d3]; first | omega | assumption)) (by first | omega | (rw [d3]; first | omega | assumption))) (have f11 := L_fdiv r.num ((sgn false r.den) * 2 ^ (((0 : Int) - p)).toNat); (Z_of (by rw [d3, show (0 : Int) - p = -p by omega, flF_n d1 (by omega), flF_eq]) : vsub (.agg [(.bool (decide ((Int.fdiv r.num ((sgn false r.den) * 2 ^ (((0 : Int) - p)).toNat)) < 0))), (N ((Int.fdiv r.num ((sgn false r.den) * 2 ^ (((0 : Int) - p)).toNat)).natAbs))]) (.agg [(.bool (decide ((flr r p) < 0))), (N ((flr r p).natAbs))]))))))))))))) (by kernel_rfl))

theorem r09_FloorRat (r : Rat) (p : Int) (c0 : L r.num.natAbs ≤ 30000) (c1 : L r.den ≤ 30000) (c2 : (-2048 : Int) ≤ p ∧ p ≤ 8192) : Impl Tryz.prog Amb 142 [(.agg [(.bool (decide (r.num < 0))), (N r.num.natAbs), (N r.den)]), (.int .i64 p)] (.tup [(.agg [(.bool (decide ((mkM (flr r p) (-p)) < 0))), (N ((mkM (flr r p) (-p)).natAbs)), (.int .i64 (mkX (flr r p) (-p)))]), (.int .i64 (mkE (flr r p) (-p)))]) := by
  have ez : (0 : Int) - p = -p := Int.zero_sub p
  exact impl_ob hP hAmb Tryz.func142 (by kernel_rfl) (.lit <| .call (.bool (decide ((-2048 : Int) ≤ p ∧ p ≤ 8192))) <| .lit <| .no <| .lits 2 <| .call (.agg [(.bool (decide ((flr r p) < 0))), (N ((flr r p).natAbs))]) <| .lit <| .yes <| .lit <| .call (.tup [(.agg [(.bool (decide ((mkM (flr r p) ((0 : Int) - p)) < 0))), (N ((mkM (flr r p) ((0 : Int) - p)).natAbs)), (.int .i64 (mkX (flr r p) ((0 : Int) - p)))]), (.int .i64 (mkE (flr r p) ((0 : Int) - p)))]) <| .lits 2 <| .ret)
    (cast_ob (And.intro True.intro (And.intro (r09_permitted p (by first | omega | (simp <;> omega))) (And.intro (perm_no (by omega) : (!(decide ((-2048 : Int) ≤ p ∧ p ≤ 8192))) = false) (And.intro (r08_Cut r p (by first | omega | (simp <;> omega)) (by first | omega | (simp <;> omega)) (by first | omega | (simp <;> omega))) (have f2 := flr_L r p; And.intro (fits_i64 (by first | omega | (simp <;> omega)) : (fits .i64 ((0 : Int) - p)) = true) (And.intro (r08_Make (flr r p) ((0 : Int) - p) (by first | omega | (simp <;> omega)) (by first | omega | (simp <;> omega))) (have f1 := mk_facts (flr r p) ((0 : Int) - p); (by rw [ez]; exact vsub_refl _ : vsub (.tup [(.agg [(.bool (decide ((mkM (flr r p) ((0 : Int) - p)) < 0))), (N ((mkM (flr r p) ((0 : Int) - p)).natAbs)), (.int .i64 (mkX (flr r p) ((0 : Int) - p)))]), (.int .i64 (mkE (flr r p) ((0 : Int) - p)))]) (.tup [(.agg [(.bool (decide ((mkM (flr r p) (-p)) < 0))), (N ((mkM (flr r p) (-p)).natAbs)), (.int .i64 (mkX (flr r p) (-p)))]), (.int .i64 (mkE (flr r p) (-p)))]))))))))) (by kernel_rfl))

theorem r09_CeilRat (r : Rat) (p : Int) (c0 : L r.num.natAbs ≤ 30000) (c1 : L r.den ≤ 30000) (c2 : (-2048 : Int) ≤ p ∧ p ≤ 8192) : Impl Tryz.prog Amb 143 [(.agg [(.bool (decide (r.num < 0))), (N r.num.natAbs), (N r.den)]), (.int .i64 p)] (.tup [(.agg [(.bool (decide ((mkM (cei r p) (-p)) < 0))), (N ((mkM (cei r p) (-p)).natAbs)), (.int .i64 (mkX (cei r p) (-p)))]), (.int .i64 (mkE (cei r p) (-p)))]) := by
  have ez : (0 : Int) - p = -p := Int.zero_sub p
  exact impl_ob hP hAmb Tryz.func143 (by kernel_rfl) (.lit <| .call (.bool (decide ((-2048 : Int) ≤ p ∧ p ≤ 8192))) <| .lit <| .no <| .lits 2 <| .call (.agg [(.bool (decide ((-r).num < 0))), (N (((-r).num).natAbs)), (N ((-r).den))]) <| .lit <| .call (.agg [(.bool (decide ((flr (-r) p) < 0))), (N ((flr (-r) p).natAbs))]) <| .lit <| .call (.agg [(.bool (decide ((-(flr (-r) p)) < 0))), (N ((-(flr (-r) p)).natAbs))]) <| .lit <| .yes <| .lit <| .call (.tup [(.agg [(.bool (decide ((mkM (-(flr (-r) p)) ((0 : Int) - p)) < 0))), (N ((mkM (-(flr (-r) p)) ((0 : Int) - p)).natAbs)), (.int .i64 (mkX (-(flr (-r) p)) ((0 : Int) - p)))]), (.int .i64 (mkE (-(flr (-r) p)) ((0 : Int) - p)))]) <| .lits 2 <| .ret)
    (cast_ob (And.intro True.intro (And.intro (r09_permitted p (by first | omega | (simp <;> omega))) (And.intro (perm_no (by omega) : (!(decide ((-2048 : Int) ≤ p ∧ p ≤ 8192))) = false) (And.intro (r07_Neg r (by first | omega | (simp <;> omega)) (by first | omega | (simp <;> omega))) (have f4 := q_negL2 r; And.intro (r08_Cut (-r) p (by first | omega | (simp <;> omega)) (by first | omega | (simp <;> omega)) (by first | omega | (simp <;> omega))) (have f3 := flr_L (-r) p; And.intro (r05_Neg (flr (-r) p) (by first | omega | (simp <;> omega))) (have f2 := L_abs_neg (flr (-r) p); And.intro (fits_i64 (by first | omega | (simp <;> omega)) : (fits .i64 ((0 : Int) - p)) = true) (And.intro (r08_Make (-(flr (-r) p)) ((0 : Int) - p) (by first | omega | (simp <;> omega)) (by first | omega | (simp <;> omega))) (have f1 := mk_facts (-(flr (-r) p)) ((0 : Int) - p); (by rw [ez]; exact vsub_refl _ : vsub (.tup [(.agg [(.bool (decide ((mkM (-(flr (-r) p)) ((0 : Int) - p)) < 0))), (N ((mkM (-(flr (-r) p)) ((0 : Int) - p)).natAbs)), (.int .i64 (mkX (-(flr (-r) p)) ((0 : Int) - p)))]), (.int .i64 (mkE (-(flr (-r) p)) ((0 : Int) - p)))]) (.tup [(.agg [(.bool (decide ((mkM (cei r p) (-p)) < 0))), (N ((mkM (cei r p) (-p)).natAbs)), (.int .i64 (mkX (cei r p) (-p)))]), (.int .i64 (mkE (cei r p) (-p)))]))))))))))) (by kernel_rfl))

end Go.Proofs.YtmbpoibhamlkbaaGreatDoor

namespace Go.Proofs.YtmbpoibhamlkbaaGreatDoor
open Go.RowKit
set_option maxRecDepth 100000

theorem gr_scale (x : Int) (n : Int) (c0 : L (x).natAbs ≤ 100000) (c1 : (-200000 : Int) ≤ n ∧ n ≤ 200000) : Impl Tryz.prog Amb 200 [(.agg [(.bool (decide (x < 0))), (N x.natAbs)]), (.int .i64 n)] (.agg [(.bool (decide ((scl x n) < 0))), (N ((scl x n).natAbs))]) := by
  exact impl_ob hP hAmb Tryz.func200 (by kernel_rfl) (.lit <| .both (.lits 2 <| .yes <| .lit <| .call (.agg [(.bool (decide ((x / 2 ^ (((0 : Int) - n)).toNat) < 0))), (N ((x / 2 ^ (((0 : Int) - n)).toNat).natAbs))]) <| .lits 2 <| .ret) (.lits 2 <| .call (.agg [(.bool (decide ((x * 2 ^ (n).toNat) < 0))), (N ((x * 2 ^ (n).toNat).natAbs))]) <| .lits 2 <| .ret))
    (cast_ob (And.intro True.intro (And.intro (fun (h1 : (iLt n 0) = true) => have _gh1 := iLt_t h1; And.intro (fits_i64 (by first | omega | (simp <;> omega)) : (fits .i64 ((0 : Int) - n)) = true) (And.intro (int_Shr x ((0 : Int) - n) (by first | omega | (simp <;> omega)) (by first | omega | (simp <;> omega))) (have f2 := L_abs_shr x (((0 : Int) - n)).toNat; (Z_of (by unfold scl; rw [if_pos (by omega), show (0 : Int) - n = -n by omega]) : vsub (.agg [(.bool (decide ((x / 2 ^ (((0 : Int) - n)).toNat) < 0))), (N ((x / 2 ^ (((0 : Int) - n)).toNat).natAbs))]) (.agg [(.bool (decide ((scl x n) < 0))), (N ((scl x n).natAbs))]))))) (fun (h3 : (iLt n 0) = false) => have _gh3 := iLt_f h3; And.intro (int_Shl x n (by first | omega | (simp <;> omega)) (by first | omega | (simp <;> omega))) (have f4 := L_abs_shl x (n).toNat; (Z_of (by unfold scl; rw [if_neg (by omega)]) : vsub (.agg [(.bool (decide ((x * 2 ^ (n).toNat) < 0))), (N ((x * 2 ^ (n).toNat).natAbs))]) (.agg [(.bool (decide ((scl x n) < 0))), (N ((scl x n).natAbs))])))))) (by kernel_rfl))

theorem gr_Floor_1 (m : Int) (e : Int) (p : Int) (c0 : L (m).natAbs ≤ 20000) (c1 : (-65536 : Int) ≤ e ∧ e ≤ 65536) (c2 : (-2048 : Int) ≤ p ∧ p ≤ 8192) : Impl Tryz.prog Amb 199 [(.pt [(V.bool (decide (m < 0))), (N m.natAbs), (V.int .i64 e)] 0), (.pt [(V.int .i64 p)] 0)] (.agg [(.bool (decide ((scl m (e + p)) < 0))), (N ((scl m (e + p)).natAbs))]) := by
  exact impl_ob hP hAmb Tryz.func199 (by kernel_rfl) (.lits 4 <| .yes <| .lit <| .call (.agg [(.bool (decide ((scl m (e + p)) < 0))), (N ((scl m (e + p)).natAbs))]) <| .lits 2 <| .ret)
    (cast_ob (And.intro True.intro (And.intro (fits_i64 (by first | omega | (simp <;> omega)) : (fits .i64 (e + p)) = true) (And.intro (gr_scale m (e + p) (by first | omega | (simp <;> omega)) (by first | omega | (simp <;> omega))) (have f1 := scl_L m (e + p); (vsub_refl _ : vsub (.agg [(.bool (decide ((scl m (e + p)) < 0))), (N ((scl m (e + p)).natAbs))]) (.agg [(.bool (decide ((scl m (e + p)) < 0))), (N ((scl m (e + p)).natAbs))])))))) (by kernel_rfl))

theorem gr_round_F (m : Int) (e : Int) (p : Int) (c0 : L (m).natAbs ≤ 20000) (c1 : (-65536 : Int) ≤ e ∧ e ≤ 65536) (c2 : (-2048 : Int) ≤ p ∧ p ≤ 8192) : Impl Tryz.prog Amb 146 [(.int .i64 p), (.clos 199 [(.pt [(V.bool (decide (m < 0))), (N m.natAbs), (V.int .i64 e)] 0), (.pt [(V.int .i64 p)] 0)])] (.tup [(.agg [(.bool (decide ((mkM (scl m (e + p)) (-p)) < 0))), (N ((mkM (scl m (e + p)) (-p)).natAbs)), (.int .i64 (mkX (scl m (e + p)) (-p)))]), (.int .i64 (mkE (scl m (e + p)) (-p)))]) := by
  have ez : (0 : Int) - p = -p := Int.zero_sub p
  exact impl_ob hP hAmb Tryz.func146 (by kernel_rfl) (.lit <| .call (.bool (decide ((-2048 : Int) ≤ p ∧ p ≤ 8192))) <| .lit <| .no <| .lit <| .call (.agg [(.bool (decide ((scl m (e + p)) < 0))), (N ((scl m (e + p)).natAbs))]) <| .lit <| .yes <| .lit <| .call (.tup [(.agg [(.bool (decide ((mkM (scl m (e + p)) ((0 : Int) - p)) < 0))), (N ((mkM (scl m (e + p)) ((0 : Int) - p)).natAbs)), (.int .i64 (mkX (scl m (e + p)) ((0 : Int) - p)))]), (.int .i64 (mkE (scl m (e + p)) ((0 : Int) - p)))]) <| .lits 2 <| .ret)
    (cast_ob (And.intro True.intro (And.intro (gr_permitted p (by first | omega | (simp <;> omega))) (And.intro (perm_no (by omega) : (!(decide ((-2048 : Int) ≤ p ∧ p ≤ 8192))) = false) (And.intro (gr_Floor_1 m e p (by first | omega | (simp <;> omega)) (by first | omega | (simp <;> omega)) (by first | omega | (simp <;> omega))) (have f2 := scl_L m (e + p); And.intro (fits_i64 (by first | omega | (simp <;> omega)) : (fits .i64 ((0 : Int) - p)) = true) (And.intro (dy_Make (scl m (e + p)) ((0 : Int) - p) (by first | omega | (simp <;> omega)) (by first | omega | (simp <;> omega))) (have f1 := mk_facts (scl m (e + p)) ((0 : Int) - p); (by rw [ez]; exact vsub_refl _ : vsub (.tup [(.agg [(.bool (decide ((mkM (scl m (e + p)) ((0 : Int) - p)) < 0))), (N ((mkM (scl m (e + p)) ((0 : Int) - p)).natAbs)), (.int .i64 (mkX (scl m (e + p)) ((0 : Int) - p)))]), (.int .i64 (mkE (scl m (e + p)) ((0 : Int) - p)))]) (.tup [(.agg [(.bool (decide ((mkM (scl m (e + p)) (-p)) < 0))), (N ((mkM (scl m (e + p)) (-p)).natAbs)), (.int .i64 (mkX (scl m (e + p)) (-p)))]), (.int .i64 (mkE (scl m (e + p)) (-p)))]))))))))) (by kernel_rfl))

theorem gr_Floor (m : Int) (e : Int) (p : Int) (c0 : L (m).natAbs ≤ 20000) (c1 : (-65536 : Int) ≤ e ∧ e ≤ 65536) (c2 : (-2048 : Int) ≤ p ∧ p ≤ 8192) : Impl Tryz.prog Amb 166 [(.agg [(.bool (decide (m < 0))), (N m.natAbs), (.int .i64 e)]), (.int .i64 p)] (.tup [(.agg [(.bool (decide ((mkM (flr (dv m e) p) (-p)) < 0))), (N ((mkM (flr (dv m e) p) (-p)).natAbs)), (.int .i64 (mkX (flr (dv m e) p) (-p)))]), (.int .i64 (mkE (flr (dv m e) p) (-p)))]) := by
  exact impl_ob hP hAmb Tryz.func166 (by kernel_rfl) (.lits 3 <| .call (.bool (decide (((-2048 : Int) ≤ p ∧ p ≤ 8192) ∧ (m = 0 ∨ -p ≤ e)))) <| .both (.lits 3 <| .call (.tup [(.agg [(.bool (decide ((mkM m e) < 0))), (N ((mkM m e).natAbs)), (.int .i64 (mkX m e))]), (.int .i64 (mkE m e))]) <| .lits 2 <| .ret) (.lits 2 <| .call (.tup [(.agg [(.bool (decide ((mkM (scl m (e + p)) (-p)) < 0))), (N ((mkM (scl m (e + p)) (-p)).natAbs)), (.int .i64 (mkX (scl m (e + p)) (-p)))]), (.int .i64 (mkE (scl m (e + p)) (-p)))]) <| .lits 2 <| .ret))
    (cast_ob (And.intro True.intro (And.intro (gr_On m e p (by first | omega | (simp <;> omega)) (by first | omega | (simp <;> omega))) (And.intro (fun (h1 : (decide (((-2048 : Int) ≤ p ∧ p ≤ 8192) ∧ (m = 0 ∨ -p ≤ e))) = true) => have _gh1 := of_decide_eq_true h1; And.intro (dy_Make m e (by first | omega | (simp <;> omega)) (by first | omega | (simp <;> omega))) (have f2 := mk_facts m e; (Y_of (gr_on (m := m) (by omega) c1 c2) : vsub (.tup [(.agg [(.bool (decide ((mkM m e) < 0))), (N ((mkM m e).natAbs)), (.int .i64 (mkX m e))]), (.int .i64 (mkE m e))]) (.tup [(.agg [(.bool (decide ((mkM (flr (dv m e) p) (-p)) < 0))), (N ((mkM (flr (dv m e) p) (-p)).natAbs)), (.int .i64 (mkX (flr (dv m e) p) (-p)))]), (.int .i64 (mkE (flr (dv m e) p) (-p)))])))) (fun (h3 : (decide (((-2048 : Int) ≤ p ∧ p ≤ 8192) ∧ (m = 0 ∨ -p ≤ e))) = false) => have _gh3 := of_decide_eq_false h3; And.intro (gr_round_F m e p (by first | omega | (simp <;> omega)) (by first | omega | (simp <;> omega)) (by first | omega | (simp <;> omega))) (have f5 := scl_L m (e + p); have f4 := mk_facts (scl m (e + p)) (-p); (by rw [flr_scl]; exact vsub_refl _ : vsub (.tup [(.agg [(.bool (decide ((mkM (scl m (e + p)) (-p)) < 0))), (N ((mkM (scl m (e + p)) (-p)).natAbs)), (.int .i64 (mkX (scl m (e + p)) (-p)))]), (.int .i64 (mkE (scl m (e + p)) (-p)))]) (.tup [(.agg [(.bool (decide ((mkM (flr (dv m e) p) (-p)) < 0))), (N ((mkM (flr (dv m e) p) (-p)).natAbs)), (.int .i64 (mkX (flr (dv m e) p) (-p)))]), (.int .i64 (mkE (flr (dv m e) p) (-p)))]))))))) (by kernel_rfl))

theorem gr_Ceil (m : Int) (e : Int) (p : Int) (c0 : L (m).natAbs ≤ 20000) (c1 : (-65536 : Int) ≤ e ∧ e ≤ 65536) (c2 : (-2048 : Int) ≤ p ∧ p ≤ 8192) : Impl Tryz.prog Amb 167 [(.agg [(.bool (decide (m < 0))), (N m.natAbs), (.int .i64 e)]), (.int .i64 p)] (.tup [(.agg [(.bool (decide ((mkM (cei (dv m e) p) (-p)) < 0))), (N ((mkM (cei (dv m e) p) (-p)).natAbs)), (.int .i64 (mkX (cei (dv m e) p) (-p)))]), (.int .i64 (mkE (cei (dv m e) p) (-p)))]) := by
  exact impl_ob hP hAmb Tryz.func167 (by kernel_rfl) (.lits 2 <| .call (.agg [(.bool (decide ((-m) < 0))), (N ((-m).natAbs)), (.int .i64 e)]) <| .lit <| .call (.tup [(.agg [(.bool (decide ((mkM (flr (dv (-m) e) p) (-p)) < 0))), (N ((mkM (flr (dv (-m) e) p) (-p)).natAbs)), (.int .i64 (mkX (flr (dv (-m) e) p) (-p)))]), (.int .i64 (mkE (flr (dv (-m) e) p) (-p)))]) <| .lits 2 <| .both (.lits 3 <| .ret) (.lits 2 <| .call (.agg [(.bool (decide ((-(mkM (flr (dv (-m) e) p) (-p))) < 0))), (N ((-(mkM (flr (dv (-m) e) p) (-p))).natAbs)), (.int .i64 (mkX (flr (dv (-m) e) p) (-p)))]) <| .lits 2 <| .ret))
    (cast_ob (And.intro True.intro (And.intro (dy_Neg m e (by first | omega | (simp <;> omega))) (have f7 := L_abs_neg m; And.intro (gr_Floor (-m) e p (by first | omega | (simp <;> omega)) (by first | omega | (simp <;> omega)) (by first | omega | (simp <;> omega))) (have f6 := mk_facts (cei (dv (-m) e) p) (-p); have f5 := mk_facts (flr (dv (-m) e) p) (-p); have f4 := flr_LD (-m) e p; And.intro (fun (h1 : (iNe (mkE (flr (dv (-m) e) p) (-p)) 0) = true) => have _gh1 := iNe_t h1; (Y_zero (ceil_no (by omega)) : vsub (.tup [(.agg [(.bool false), .nil, (.int .i64 0)]), (.int .i64 (mkE (flr (dv (-m) e) p) (-p)))]) (.tup [(.agg [(.bool (decide ((mkM (cei (dv m e) p) (-p)) < 0))), (N ((mkM (cei (dv m e) p) (-p)).natAbs)), (.int .i64 (mkX (cei (dv m e) p) (-p)))]), (.int .i64 (mkE (cei (dv m e) p) (-p)))]))) (fun (h2 : (iNe (mkE (flr (dv (-m) e) p) (-p)) 0) = false) => have _gh2 := iNe_f h2; And.intro (dy_Neg (mkM (flr (dv (-m) e) p) (-p)) (mkX (flr (dv (-m) e) p) (-p)) (by first | omega | (simp <;> omega))) (have f3 := L_abs_neg (mkM (flr (dv (-m) e) p) (-p)); (Y_of (ceil_yes (by omega)) : vsub (.tup [(.agg [(.bool (decide ((-(mkM (flr (dv (-m) e) p) (-p))) < 0))), (N ((-(mkM (flr (dv (-m) e) p) (-p))).natAbs)), (.int .i64 (mkX (flr (dv (-m) e) p) (-p)))]), (.int .i64 0)]) (.tup [(.agg [(.bool (decide ((mkM (cei (dv m e) p) (-p)) < 0))), (N ((mkM (cei (dv m e) p) (-p)).natAbs)), (.int .i64 (mkX (cei (dv m e) p) (-p)))]), (.int .i64 (mkE (cei (dv m e) p) (-p)))])))))))) (by kernel_rfl))

theorem gr_FloorRat_1 (n : Int) (d : Nat) (p : Int) (c0 : L (n).natAbs ≤ 30000) (c1 : L d ≤ 30000) (c2 : 0 < d) (c3 : (-2048 : Int) ≤ p ∧ p ≤ 8192) : Impl Tryz.prog Amb 147 [(.pt [(V.bool (decide (n < 0))), (N n.natAbs), (N d)] 0), (.pt [(V.int .i64 p)] 0)] (.agg [(.bool (decide ((flF n (d : Int) p) < 0))), (N ((flF n (d : Int) p).natAbs))]) := by
  have d0 : (d : Int) ≠ 0 := by omega
  have d1 : (0 : Int) < (d : Int) := by omega
  have d3 : sgn false d = (d : Int) := sgn_f _
  have d4 := sgn_abs false d
  have e4 := sgn_abs false (d * 2 ^ (0 - p).toNat)
  have e3 : sgn false (d * 2 ^ (0 - p).toNat) = (d : Int) * 2 ^ (0 - p).toNat := by rw [sgn_f, Int.natCast_mul, pow_cast]
  have d5 := two_pos (0 - p).toNat
  have d6 : (d : Int) * 2 ^ (0 - p).toNat ≠ 0 := Int.mul_ne_zero d0 (Int.ne_of_gt d5)
  have l0 := L_abs_shl n p.toNat
  have l1 := L_shl d (0 - p).toNat
  exact impl_ob hP hAmb Tryz.func147 (by kernel_rfl) (.lits 3 <| .call (.agg [(.bool (decide ((sgn false d) < 0))), (N ((sgn false d).natAbs))]) <| .lits 2 <| .both (.lits 3 <| .call (.agg [(.bool (decide ((n * 2 ^ (p).toNat) < 0))), (N ((n * 2 ^ (p).toNat).natAbs))]) <| .lits 4 <| .call (.tup [(.agg [(.bool (decide ((Int.fdiv (n * 2 ^ (p).toNat) (sgn false d)) < 0))), (N ((Int.fdiv (n * 2 ^ (p).toNat) (sgn false d)).natAbs))]), (.agg [(.bool (decide (((n * 2 ^ (p).toNat) - (Int.fdiv (n * 2 ^ (p).toNat) (sgn false d)) * (sgn false d)) < 0))), (N (((n * 2 ^ (p).toNat) - (Int.fdiv (n * 2 ^ (p).toNat) (sgn false d)) * (sgn false d)).natAbs))]), (.bool true)]) <| .lits 5 <| .ret) (.lits 3 <| .yes <| .lit <| .call (N (d * 2 ^ (((0 : Int) - p)).toNat)) <| .lit <| .call (.agg [(.bool (decide ((sgn false (d * 2 ^ (((0 : Int) - p)).toNat)) < 0))), (N ((sgn false (d * 2 ^ (((0 : Int) - p)).toNat)).natAbs))]) <| .lits 4 <| .call (.tup [(.agg [(.bool (decide ((Int.fdiv n (sgn false (d * 2 ^ (((0 : Int) - p)).toNat))) < 0))), (N ((Int.fdiv n (sgn false (d * 2 ^ (((0 : Int) - p)).toNat))).natAbs))]), (.agg [(.bool (decide ((n - (Int.fdiv n (sgn false (d * 2 ^ (((0 : Int) - p)).toNat))) * (sgn false (d * 2 ^ (((0 : Int) - p)).toNat))) < 0))), (N ((n - (Int.fdiv n (sgn false (d * 2 ^ (((0 : Int) - p)).toNat))) * (sgn false (d * 2 ^ (((0 : Int) - p)).toNat))).natAbs))]), (.bool true)]) <| .lits 5 <| .ret))
    (cast_ob (And.intro True.intro (And.intro (int_Nat false d (by first | omega | (rw [d3]; first | omega | assumption) | (rw [e3]; first | omega | assumption))) (have f10 := L_sgn false d; And.intro (fun (h1 : (iGe p 0) = true) => have _gh1 := iGe_t h1; And.intro (int_Shl n p (by first | omega | (rw [d3]; first | omega | assumption) | (rw [e3]; first | omega | assumption)) (by first | omega | (rw [d3]; first | omega | assumption) | (rw [e3]; first | omega | assumption))) (have f4 := L_abs_shl n (p).toNat; And.intro (int_DivMod (n * 2 ^ (p).toNat) (sgn false d) (by first | omega | (rw [d3]; first | omega | assumption) | (rw [e3]; first | omega | assumption)) (by first | omega | (rw [d3]; first | omega | assumption) | (rw [e3]; first | omega | assumption)) (by first | omega | (rw [d3]; first | omega | assumption) | (rw [e3]; first | omega | assumption))) (have f3 := L_rm (n * 2 ^ (p).toNat) (sgn false d); have f2 := L_fdiv (n * 2 ^ (p).toNat) (sgn false d); (Z_of (by rw [d3, flF_p d1 (by omega)]) : vsub (.agg [(.bool (decide ((Int.fdiv (n * 2 ^ (p).toNat) (sgn false d)) < 0))), (N ((Int.fdiv (n * 2 ^ (p).toNat) (sgn false d)).natAbs))]) (.agg [(.bool (decide ((flF n (d : Int) p) < 0))), (N ((flF n (d : Int) p).natAbs))]))))) (fun (h5 : (iGe p 0) = false) => have _gh5 := iGe_f h5; And.intro (fits_i64 (by first | omega | (rw [d3]; first | omega | assumption) | (rw [e3]; first | omega | assumption)) : (fits .i64 ((0 : Int) - p)) = true) (And.intro (nat_Shl d ((0 : Int) - p) (by first | omega | (rw [d3]; first | omega | assumption) | (rw [e3]; first | omega | assumption)) (by first | omega | (rw [d3]; first | omega | assumption) | (rw [e3]; first | omega | assumption))) (have f9 := L_shl d (((0 : Int) - p)).toNat; And.intro (int_Nat false (d * 2 ^ (((0 : Int) - p)).toNat) (by first | omega | (rw [d3]; first | omega | assumption) | (rw [e3]; first | omega | assumption))) (have f8 := L_sgn false (d * 2 ^ (((0 : Int) - p)).toNat); And.intro (int_DivMod n (sgn false (d * 2 ^ (((0 : Int) - p)).toNat)) (by first | omega | (rw [d3]; first | omega | assumption) | (rw [e3]; first | omega | assumption)) (by first | omega | (rw [d3]; first | omega | assumption) | (rw [e3]; first | omega | assumption)) (by first | omega | (rw [d3]; first | omega | assumption) | (rw [e3]; first | omega | assumption))) (have f7 := L_rm n (sgn false (d * 2 ^ (((0 : Int) - p)).toNat)); have f6 := L_fdiv n (sgn false (d * 2 ^ (((0 : Int) - p)).toNat)); (Z_of (by rw [e3, show (0 : Int) - p = -p by omega, flF_n d1 (by omega)]) : vsub (.agg [(.bool (decide ((Int.fdiv n (sgn false (d * 2 ^ (((0 : Int) - p)).toNat))) < 0))), (N ((Int.fdiv n (sgn false (d * 2 ^ (((0 : Int) - p)).toNat))).natAbs))]) (.agg [(.bool (decide ((flF n (d : Int) p) < 0))), (N ((flF n (d : Int) p).natAbs))])))))))))) (by kernel_rfl))

theorem gr_round_Q (n : Int) (d : Nat) (p : Int) (c0 : L (n).natAbs ≤ 30000) (c1 : L d ≤ 30000) (c2 : 0 < d) (c3 : (-2048 : Int) ≤ p ∧ p ≤ 8192) : Impl Tryz.prog Amb 146 [(.int .i64 p), (.clos 147 [(.pt [(V.bool (decide (n < 0))), (N n.natAbs), (N d)] 0), (.pt [(V.int .i64 p)] 0)])] (.tup [(.agg [(.bool (decide ((mkM (flF n (d : Int) p) (-p)) < 0))), (N ((mkM (flF n (d : Int) p) (-p)).natAbs)), (.int .i64 (mkX (flF n (d : Int) p) (-p)))]), (.int .i64 (mkE (flF n (d : Int) p) (-p)))]) := by
  have ez : (0 : Int) - p = -p := Int.zero_sub p
  exact impl_ob hP hAmb Tryz.func146 (by kernel_rfl) (.lit <| .call (.bool (decide ((-2048 : Int) ≤ p ∧ p ≤ 8192))) <| .lit <| .no <| .lit <| .call (.agg [(.bool (decide ((flF n (d : Int) p) < 0))), (N ((flF n (d : Int) p).natAbs))]) <| .lit <| .yes <| .lit <| .call (.tup [(.agg [(.bool (decide ((mkM (flF n (d : Int) p) ((0 : Int) - p)) < 0))), (N ((mkM (flF n (d : Int) p) ((0 : Int) - p)).natAbs)), (.int .i64 (mkX (flF n (d : Int) p) ((0 : Int) - p)))]), (.int .i64 (mkE (flF n (d : Int) p) ((0 : Int) - p)))]) <| .lits 2 <| .ret)
    (cast_ob (And.intro True.intro (And.intro (gr_permitted p (by first | omega | (simp <;> omega))) (And.intro (perm_no (by omega) : (!(decide ((-2048 : Int) ≤ p ∧ p ≤ 8192))) = false) (And.intro (gr_FloorRat_1 n d p (by first | omega | (simp <;> omega)) (by first | omega | (simp <;> omega)) (by first | omega | (simp <;> omega)) (by first | omega | (simp <;> omega))) (have f2 := flF_L n (d : Int) p; And.intro (fits_i64 (by first | omega | (simp <;> omega)) : (fits .i64 ((0 : Int) - p)) = true) (And.intro (dy_Make (flF n (d : Int) p) ((0 : Int) - p) (by first | omega | (simp <;> omega)) (by first | omega | (simp <;> omega))) (have f1 := mk_facts (flF n (d : Int) p) ((0 : Int) - p); (by rw [ez]; exact vsub_refl _ : vsub (.tup [(.agg [(.bool (decide ((mkM (flF n (d : Int) p) ((0 : Int) - p)) < 0))), (N ((mkM (flF n (d : Int) p) ((0 : Int) - p)).natAbs)), (.int .i64 (mkX (flF n (d : Int) p) ((0 : Int) - p)))]), (.int .i64 (mkE (flF n (d : Int) p) ((0 : Int) - p)))]) (.tup [(.agg [(.bool (decide ((mkM (flF n (d : Int) p) (-p)) < 0))), (N ((mkM (flF n (d : Int) p) (-p)).natAbs)), (.int .i64 (mkX (flF n (d : Int) p) (-p)))]), (.int .i64 (mkE (flF n (d : Int) p) (-p)))]))))))))) (by kernel_rfl))

theorem gr_FloorRat (n : Int) (d : Nat) (p : Int) (c0 : L (n).natAbs ≤ 30000) (c1 : L d ≤ 30000) (c2 : 0 < d) (c3 : (-2048 : Int) ≤ p ∧ p ≤ 8192) : Impl Tryz.prog Amb 91 [(.agg [(.bool (decide (n < 0))), (N n.natAbs), (N d)]), (.int .i64 p)] (.tup [(.agg [(.bool (decide ((mkM (flF n (d : Int) p) (-p)) < 0))), (N ((mkM (flF n (d : Int) p) (-p)).natAbs)), (.int .i64 (mkX (flF n (d : Int) p) (-p)))]), (.int .i64 (mkE (flF n (d : Int) p) (-p)))]) := by
  exact impl_ob hP hAmb Tryz.func91 (by kernel_rfl) (.lits 2 <| .call (.tup [(.agg [(.bool (decide ((mkM (flF n (d : Int) p) (-p)) < 0))), (N ((mkM (flF n (d : Int) p) (-p)).natAbs)), (.int .i64 (mkX (flF n (d : Int) p) (-p)))]), (.int .i64 (mkE (flF n (d : Int) p) (-p)))]) <| .lits 2 <| .ret)
    (cast_ob (And.intro True.intro (And.intro (gr_round_Q n d p (by first | omega | (simp <;> omega)) (by first | omega | (simp <;> omega)) (by first | omega | (simp <;> omega)) (by first | omega | (simp <;> omega))) (have f2 := flF_L n (d : Int) p; have f1 := mk_facts (flF n (d : Int) p) (-p); (vsub_refl _ : vsub (.tup [(.agg [(.bool (decide ((mkM (flF n (d : Int) p) (-p)) < 0))), (N ((mkM (flF n (d : Int) p) (-p)).natAbs)), (.int .i64 (mkX (flF n (d : Int) p) (-p)))]), (.int .i64 (mkE (flF n (d : Int) p) (-p)))]) (.tup [(.agg [(.bool (decide ((mkM (flF n (d : Int) p) (-p)) < 0))), (N ((mkM (flF n (d : Int) p) (-p)).natAbs)), (.int .i64 (mkX (flF n (d : Int) p) (-p)))]), (.int .i64 (mkE (flF n (d : Int) p) (-p)))]))))) (by kernel_rfl))

theorem gr_CeilRat (n : Int) (d : Nat) (p : Int) (c0 : L (n).natAbs ≤ 20000) (c1 : L d ≤ 30000) (c2 : 0 < d) (c3 : (-2048 : Int) ≤ p ∧ p ≤ 8192) : Impl Tryz.prog Amb 92 [(.agg [(.bool (decide (n < 0))), (N n.natAbs), (N d)]), (.int .i64 p)] (.tup [(.agg [(.bool (decide ((mkM (-(flF (-n) (d : Int) p)) (-p)) < 0))), (N ((mkM (-(flF (-n) (d : Int) p)) (-p)).natAbs)), (.int .i64 (mkX (-(flF (-n) (d : Int) p)) (-p)))]), (.int .i64 (mkE (-(flF (-n) (d : Int) p)) (-p)))]) := by
  exact impl_ob hP hAmb Tryz.func92 (by kernel_rfl) (.lits 2 <| .call (.agg [(.bool (decide ((-n) < 0))), (N ((-n).natAbs))]) <| .lits 3 <| .call (.tup [(.agg [(.bool (decide ((mkM (flF (-n) (d : Int) p) (-p)) < 0))), (N ((mkM (flF (-n) (d : Int) p) (-p)).natAbs)), (.int .i64 (mkX (flF (-n) (d : Int) p) (-p)))]), (.int .i64 (mkE (flF (-n) (d : Int) p) (-p)))]) <| .lit <| .both (.lits 3 <| .ret) (.lits 2 <| .call (.agg [(.bool (decide ((-(mkM (flF (-n) (d : Int) p) (-p))) < 0))), (N ((-(mkM (flF (-n) (d : Int) p) (-p))).natAbs)), (.int .i64 (mkX (flF (-n) (d : Int) p) (-p)))]) <| .lits 2 <| .ret))
    (cast_ob (And.intro True.intro (And.intro (int_Neg n (by first | omega | (simp <;> omega))) (have f6 := L_abs_neg n; And.intro (gr_FloorRat (-n) d p (by first | omega | (simp <;> omega)) (by first | omega | (simp <;> omega)) (by first | omega | (simp <;> omega)) (by first | omega | (simp <;> omega))) (have f5 := flF_L (-n) (d : Int) p; have f4 := mk_facts (flF (-n) (d : Int) p) (-p); And.intro (fun (h1 : (iNe (mkE (flF (-n) (d : Int) p) (-p)) 0) = true) => have _gh1 := iNe_t h1; (Y_zero (ceil_no2 (by omega)) : vsub (.tup [(.agg [(.bool false), .nil, (.int .i64 0)]), (.int .i64 (mkE (flF (-n) (d : Int) p) (-p)))]) (.tup [(.agg [(.bool (decide ((mkM (-(flF (-n) (d : Int) p)) (-p)) < 0))), (N ((mkM (-(flF (-n) (d : Int) p)) (-p)).natAbs)), (.int .i64 (mkX (-(flF (-n) (d : Int) p)) (-p)))]), (.int .i64 (mkE (-(flF (-n) (d : Int) p)) (-p)))]))) (fun (h2 : (iNe (mkE (flF (-n) (d : Int) p) (-p)) 0) = false) => have _gh2 := iNe_f h2; And.intro (dy_Neg (mkM (flF (-n) (d : Int) p) (-p)) (mkX (flF (-n) (d : Int) p) (-p)) (by first | omega | (simp <;> omega))) (have f3 := L_abs_neg (mkM (flF (-n) (d : Int) p) (-p)); (Y_of (ceil_yes2 (by omega)) : vsub (.tup [(.agg [(.bool (decide ((-(mkM (flF (-n) (d : Int) p) (-p))) < 0))), (N ((-(mkM (flF (-n) (d : Int) p) (-p))).natAbs)), (.int .i64 (mkX (flF (-n) (d : Int) p) (-p)))]), (.int .i64 0)]) (.tup [(.agg [(.bool (decide ((mkM (-(flF (-n) (d : Int) p)) (-p)) < 0))), (N ((mkM (-(flF (-n) (d : Int) p)) (-p)).natAbs)), (.int .i64 (mkX (-(flF (-n) (d : Int) p)) (-p)))]), (.int .i64 (mkE (-(flF (-n) (d : Int) p)) (-p)))])))))))) (by kernel_rfl))

theorem iv_Sign (m : Int) (e : Int) (n : Int) (f : Int) (c0 : L (m).natAbs ≤ 16777216) (c1 : L (n).natAbs ≤ 16777216) : Impl Tryz.prog Amb 74 [(.agg [(.bool (decide (m < 0))), (N m.natAbs), (.int .i64 e), (.bool (decide (n < 0))), (N n.natAbs), (.int .i64 f)])] (.tup [(.int .i64 (sgI m n)), (.bool (decide (m.sign = n.sign)))]) := by
  exact impl_ob hP hAmb Tryz.func74 (by kernel_rfl) (.lits 2 <| .call (.int .i64 ((m).sign)) <| .lits 2 <| .call (.int .i64 ((n).sign)) <| .lit <| .both (.lit <| .ret) (.lit <| .ret))
    (cast_ob (And.intro True.intro (And.intro (dy_Sign m e (by first | omega | (simp <;> omega))) (have f4 := sign_range m; And.intro (dy_Sign n f (by first | omega | (simp <;> omega))) (have f3 := sign_range n; And.intro (fun (h1 : (iNe ((m).sign) ((n).sign)) = true) => have _gh1 := iNe_t h1; (by first | exact sgI_1 (by omega) | exact sgI_2 (by omega) : vsub (.tup [(.int .i64 0), (.bool false)]) (.tup [(.int .i64 (sgI m n)), (.bool (decide (m.sign = n.sign)))]))) (fun (h2 : (iNe ((m).sign) ((n).sign)) = false) => have _gh2 := iNe_f h2; (by first | exact sgI_1 (by omega) | exact sgI_2 (by omega) : vsub (.tup [(.int .i64 ((m).sign)), (.bool true)]) (.tup [(.int .i64 (sgI m n)), (.bool (decide (m.sign = n.sign)))]))))))) (by kernel_rfl))

end Go.Proofs.YtmbpoibhamlkbaaGreatDoor
