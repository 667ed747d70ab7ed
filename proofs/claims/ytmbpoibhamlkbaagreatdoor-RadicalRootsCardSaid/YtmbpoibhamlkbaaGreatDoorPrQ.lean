/-
  Lower layers: what functions of the program compute, and plain facts. Conditions: as the theorems say.
-/
import Derived.Test.YtmbpoibhamlkbaaGreatDoorPrP
set_option linter.unusedVariables false
set_option linter.unusedSimpArgs false
namespace Go.Proofs.YtmbpoibhamlkbaaGreatDoor
theorem qmin_both (a b : Rat) : qmin a b ≤ a ∧ qmin a b ≤ b := by
  rcases qmin_or a b with ⟨h, k⟩ | ⟨h, k⟩ <;> rw [h]
  · exact ⟨Rat.le_of_lt k, Rat.le_refl⟩
  · exact ⟨Rat.le_refl, k⟩
theorem qmax_both (a b : Rat) : a ≤ qmax a b ∧ b ≤ qmax a b := by
  rcases qmax_or a b with ⟨h, k⟩ | ⟨h, k⟩ <;> rw [h]
  · exact ⟨Rat.le_of_lt k, Rat.le_refl⟩
  · exact ⟨Rat.le_refl, k⟩
theorem le_qmin {a b l : Rat} (h : l ≤ a) (k : l ≤ b) : l ≤ qmin a b := by rcases qmin_or a b with ⟨e, _⟩ | ⟨e, _⟩ <;> rw [e] <;> assumption
theorem inv_anti {a b : Rat} (h : 0 < a) (k : a ≤ b) : b⁻¹ ≤ a⁻¹ := by
  have hb : 0 < b := by grind
  have ha' := Rat.inv_pos.2 h
  have hb' := Rat.inv_pos.2 hb
  have e1 : a * a⁻¹ = 1 := Rat.mul_inv_cancel a (by grind)
  have e2 : b * b⁻¹ = 1 := Rat.mul_inv_cancel b (by grind)
  have h1 := Rat.mul_le_mul_of_nonneg_right k (Rat.le_of_lt (Rat.mul_pos ha' hb'))
  have e3 : a * (a⁻¹ * b⁻¹) = b⁻¹ := by rw [← Rat.mul_assoc, e1, Rat.one_mul]
  have e4 : b * (a⁻¹ * b⁻¹) = a⁻¹ := by rw [Rat.mul_comm a⁻¹, ← Rat.mul_assoc, e2, Rat.one_mul]
  rw [e3, e4] at h1; exact h1
theorem inv_anti2 {a b : Rat} (h : b < 0) (k : a ≤ b) : b⁻¹ ≤ a⁻¹ := by
  have := inv_anti (a := -b) (b := -a) (by grind) (by grind)
  have e1 : (-a)⁻¹ = -(a⁻¹) := by grind
  have e2 : (-b)⁻¹ = -(b⁻¹) := by grind
  rw [e1, e2] at this
  grind
theorem dm_nbits {m : Int} (h : m ≠ 0) : (nbits (dm m).natAbs : Int) + tz m.natAbs ≤ nbits m.natAbs := by
  have h1 := dm_mul m
  have h2 : m.natAbs = (dm m).natAbs * 2 ^ tz m.natAbs := by
    have := congrArg Int.natAbs h1
    rw [abs_shl] at this; exact this.symm
  have h3 := dm_ne h
  have h4 := nbits_le (show (dm m).natAbs ≠ 0 by omega)
  have h5 := nbits_pos (show (dm m).natAbs ≠ 0 by omega)
  have h6 := nbits_lt m.natAbs
  have h7 : 2 ^ (nbits (dm m).natAbs - 1 + tz m.natAbs) ≤ m.natAbs := by
    rw [Nat.pow_add]
    exact Nat.le_trans (Nat.mul_le_mul_right _ h4) (Nat.le_of_eq h2.symm)
  have h8 := (Nat.pow_lt_pow_iff_right (a := 2) (by omega)).1 (Nat.lt_of_le_of_lt h7 h6)
  omega
theorem flr_cei {lo hi : Rat} (h : lo ≤ hi) (w : Int) : flr lo w ≤ cei hi w := (dv_le (c := -w)).1 (Rat.le_trans (flr_le lo w) (Rat.le_trans h (cei_ge hi w)))
end Go.Proofs.YtmbpoibhamlkbaaGreatDoor



namespace Go.Proofs.YtmbpoibhamlkbaaGreatDoor
open Go.RowKit
set_option maxRecDepth 100000
set_option maxHeartbeats 2000000
theorem N_zero : N 0 = .sl 1 [] := by simp [N, lim, limbs_zero, U]
theorem rt_nil {a : Nat} (h : a = 0) : vsub (.tup [.nil, .nil]) (.tup [N (rt a), N (a - rt a * rt a)]) := by
  subst h
  rw [rt_zero, N_zero]
  exact vsub_tup2 (vsub_nil 1) (vsub_nil 1)
theorem prod_Square (a : Nat) (c0 : L a ≤ 33554432) : Impl Tryz.prog Amb 220 [(N a)] (N (a * a)) := by
  exact impl_ob hP hAmb Tryz.func220 (by kernel_rfl) (.lit <| .call (N (a * a)) <| .lit <| .ret)
    (cast_ob (aI True.intro (aI (prod_Mul a a oA oA) (have f1 := L_mul a a; (vsub_refl (N (a * a)))))) (by kernel_rfl))
def prod_Small_0_mk (a : Nat) (m : Int) (x : Int × Int × List V × List Nat) : St := ⟨mkS 47 [(0, (.val (N a))), (1, (.val (.int .u32 m))), (7, (.osl 0 0 ((((lim a).length : Int) + 1).toNat) 1)), (8, (.val (.int .u64 x.2.1))), (17, (.val (N a))), (18, (.val (.int .i64 ((lim a).length : Int)))), (19, (.val (.int .i64 x.1)))], [⟨true, false, x.2.2.1⟩]⟩
def prod_Small_0_I (a : Nat) (m : Int) (x : Int × Int × List V × List Nat) : Prop := x.2.2.1 = U x.2.2.2 ∧ PsInv a m x.1 x.2.1 x.2.2.2
def prod_Small_0_mu (a : Nat) (_ : Int) (x : Int × Int × List V × List Nat) : Nat := ((L a : Int) - x.1).toNat
def prod_Small_0_ex (a : Nat) (_ : Int) (y : Int × List Nat) : Ex × St := (.exit 0, ⟨mkS 47 [(0, (.val (N a))), (7, (.osl 0 0 ((((lim a).length : Int) + 1).toNat) 1)), (8, (.val (.int .u64 y.1)))], [⟨true, false, (U y.2)⟩]⟩)
def prod_Small_0_J (a : Nat) (m : Int) (y : Int × List Nat) : Prop := PsInv a m (L a : Int) y.1 y.2
abbrev prod_Small_0_N (a : Nat) (m : Int) := NX (prod_Small_0_mk a m) (prod_Small_0_I a m) (prod_Small_0_mu a m) (prod_Small_0_ex a m) (prod_Small_0_J a m)
theorem prod_Small_0 (a : Nat) (m : Int) (c0 : L a ≤ 33554432)(c1 : (0 : Int) ≤ m ∧ m < 4294967296) (x0 : Int × Int × List V × List Nat) (hI : prod_Small_0_I a m x0) : LoopOk Tryz.prog Amb (loopN Tryz.f229 0) (prod_Small_0_mk a m x0) (fun e st_ => ∃ y, prod_Small_0_J a m y ∧ prod_Small_0_ex a m y = (e, st_)) :=
  loop_ob hP hAmb ⟨[0, 1, 7, 8, 17, 18, 19], 1, []⟩ (prod_Small_0_mk a m) (prod_Small_0_I a m) (prod_Small_0_mu a m) (prod_Small_0_ex a m) (prod_Small_0_J a m) x0 hI (fun (i, c, o, l) => .lit <| .both (.yes <| .yes <| .lit <| .yes <| .lit <| .yes <| .lit <| .yes <| .lit <| .yes <| .lit <| .no <| .yes <| .yes <| .lits 2 <| .yes <| .fin2 ⟨[0, 1, 7, 8, 17, 18, 19], 1, []⟩) (.fin2 ⟨[0, 7, 8], 1, []⟩)) (by
    rintro ⟨i, c, o, l⟩ hI
    have hI : o = U l ∧ PsInv a m i c l := hI
    obtain ⟨rfl, h1⟩ := hI
    have ⟨p0, p1, p2, p3, p4, p5, _⟩ := h1
    have e0 := L_len a
    have g4 := U_len l
    have hb := ps_bound h1 c1
    have g0 := gi_nonneg (limbs a) i.toNat
    have g1 := gi_lt (dig_limbs a) i.toNat
    exact cast_ob (aI True.intro (aI (fun (h101 : (iLt i ((lim a).length : Int)) = true) => have _gh101 := iLt_t h101; aI (inB_mk oA : (inB i ((lim a).length)) = true) (aI (ld_L oA : (Nat.blt i.toNat (lim a).length && isIntK .u32 (nth (lim a) i.toNat .unk)) = true) (aI (fits_u64 oA : (fits .u64 (gi (limbs a) i.toNat)) = true) (aI (fits_u64 oA : (fits .u64 m) = true) (aI (fits_u64 oA : (fits .u64 ((gi (limbs a) i.toNat) * m)) = true) (aI (fits_u64 oA : (fits .u64 (c + ((gi (limbs a) i.toNat) * m))) = true) (aI (inB_mk oA : (inB i ((((lim a).length : Int) + 1).toNat)) = true) (aI (st_ok oA : (Nat.ble ((0 + i.toNat) + 1) (U l).length) = true) (aI (fits_i64 oA : (fits .i64 (i + 1)) = true) (aI tT ((nx_next ((i + 1), (Int.fdiv (c + ((gi (limbs a) i.toNat) * m)) (2 ^ 32)), (List.set (U l) (0 + i.toNat) (.int .u32 (IntKind.wrap .u32 (c + ((gi (limbs a) i.toNat) * m))))), (l.set i.toNat (IntKind.wrap .u32 (c + ((gi (limbs a) i.toNat) * m))).toNat)) (show (List.set (U l) (0 + i.toNat) (.int .u32 (IntKind.wrap .u32 (c + ((gi (limbs a) i.toNat) * m))))) = U (l.set i.toNat (IntKind.wrap .u32 (c + ((gi (limbs a) i.toNat) * m))).toNat) ∧ PsInv a m (i + 1) (Int.fdiv (c + ((gi (limbs a) i.toNat) * m)) (2 ^ 32)) (l.set i.toNat (IntKind.wrap .u32 (c + ((gi (limbs a) i.toNat) * m))).toNat) from ⟨setU _ oO (wrap_pos _), ps_next h1 oO c1 rfl⟩) (show ((L a : Int) - (i + 1)).toNat < ((L a : Int) - i).toNat by omega) : prod_Small_0_N a m (i, c, (U l), l) .normal (prod_Small_0_mk a m ((i + 1), (Int.fdiv (c + ((gi (limbs a) i.toNat) * m)) (2 ^ 32)), (List.set (U l) (0 + i.toNat) (.int .u32 (IntKind.wrap .u32 (c + ((gi (limbs a) i.toNat) * m))))), (l.set i.toNat (IntKind.wrap .u32 (c + ((gi (limbs a) i.toNat) * m))).toNat))))))))))))))) (fun (h102 : (iLt i ((lim a).length : Int)) = false) => have _gh102 := iLt_f h102; aI tT ((nx_exit 0 ((prod_Small_0_ex a m (c, l)).2) (c, l) (show PsInv a m (L a : Int) c l from (show i = (L a : Int) by omega) ▸ h1) rfl : prod_Small_0_N a m (i, c, (U l), l) (.exit 0) ((prod_Small_0_ex a m (c, l)).2)))))) (by kernel_rfl))
theorem prod_Small (a : Nat) (m : Int) (c0 : L a ≤ 33554432) (c1 : (0 : Int) ≤ m ∧ m < 4294967296) : Impl Tryz.prog Amb 229 [(N a), (.int .u32 m), (.int .u32 0)] (N (a * (m).toNat)) := by
  have e0 := L_len a
  exact impl_ob hP hAmb Tryz.func229 (by kernel_rfl) (.lit <| .yes <| .yes <| .lit <| .yes <| .loop ⟨[0, 1, 7, 8, 17, 18, 19], 1, []⟩ ((prod_Small_0_mk a m (0, 0, (List.replicate ((((lim a).length : Int) + 1).toNat) (.int .u32 0)), (List.replicate (L a + 1) 0)))) (Int × List Nat) (prod_Small_0_ex a m) (prod_Small_0_J a m) (fun y => .lit <| .no <| .yes <| .yes <| .yes <| .call (N (val (y.2.set (L a) y.1.toNat))) <| .lit <| .ret))
    (cast_ob (aI True.intro (aI (fits_i64 oA : (fits .i64 (((lim a).length : Int) + 1)) = true) (aI (mk_ok oA : (((iEq (((lim a).length : Int) + 1) (((lim a).length : Int) + 1)) && (iLe 0 (((lim a).length : Int) + 1))) && (iLe (((lim a).length : Int) + 1) 1073741824)) = true) (aI tT (aI tT (aI (rfl : (prod_Small_0_mk a m (0, 0, (List.replicate ((((lim a).length : Int) + 1).toNat) (.int .u32 0)), (List.replicate (L a + 1) 0))) = (prod_Small_0_mk a m (0, 0, (List.replicate ((((lim a).length : Int) + 1).toNat) (.int .u32 0)), (List.replicate (L a + 1) 0)))) (aI (prod_Small_0 a m c0 c1 (0, 0, (List.replicate ((((lim a).length : Int) + 1).toNat) (.int .u32 0)), (List.replicate (L a + 1) 0)) (show (List.replicate ((((lim a).length : Int) + 1).toNat) (.int .u32 0)) = U (List.replicate (L a + 1) 0) ∧ PsInv a m 0 0 (List.replicate (L a + 1) 0) from ⟨by rw [L_len]; exact U_rep _, ps_init _ _⟩)) (fun y (hJ : prod_Small_0_J a m y) => have hJ : PsInv a m (L a : Int) y.1 y.2 := hJ; have ⟨_, _, q2, q3, q4, _⟩ := hJ; have q5 := U_len y.2; aI (inB_mk oA : (inB ((lim a).length : Int) ((((lim a).length : Int) + 1).toNat)) = true) (aI (st_ok oA : (Nat.ble ((0 + ((lim a).length : Int).toNat) + 1) (U y.2).length) = true) (aI (ok_arg oA : ((true && Nat.ble (0 + (((lim a).length : Int) + 1).toNat) (List.set (U y.2) (0 + ((lim a).length : Int).toNat) (.int .u32 (IntKind.wrap .u32 y.1))).length) && true) = true) (aI (nat_TrimC (List.take ((((lim a).length : Int) + 1).toNat) (List.drop 0 (List.set (U y.2) (0 + ((lim a).length : Int).toNat) (.int .u32 (IntKind.wrap .u32 y.1))))) (y.2.set (L a) y.1.toNat) (tkU (setU y.2 (show _ = L a by omega) (by rw [wrap_u32]; omega)) (by rw [(ps_end hJ).2.1]; omega)) (ps_end hJ).1 (by rw [(ps_end hJ).2.1]; omega)) ((vsub_of (congrArg N (ps_end hJ).2.2) : vsub (N (val (y.2.set (L a) y.1.toNat))) (N (a * (m).toNat))))))))))))))) (by kernel_rfl))
theorem prod_Small1 (a : Nat) (c0 : L a ≤ 33554432) : Impl Tryz.prog Amb 229 [(N a), (.int .u32 1), (.int .u32 0)] (N a) := by
  have h := prod_Small a 1 c0 oO
  rw [show (1 : Int).toNat = 1 from rfl, Nat.mul_one] at h
  exact h
def prod_Power_0_mk (a : Nat) (n : Int) (x : Int × Nat) : St := ⟨mkS 35 [(0, (.val (N a))), (1, (.val (.int .i64 n))), (5, (.val (N x.2))), (6, (.val (.int .i64 x.1)))], []⟩
def prod_Power_0_I (a : Nat) (n : Int) (x : Int × Nat) : Prop := -1 ≤ x.1 ∧ x.1 ≤ 6 ∧ x.2 = a ^ (n.toNat / 2 ^ (x.1 + 1).toNat)
def prod_Power_0_mu (_ : Nat) (_ : Int) (x : Int × Nat) : Nat := (x.1 + 1).toNat
def prod_Power_0_ex (_ : Nat) (_ : Int) (y : Nat) : Ex × St := (.exit 0, ⟨mkS 35 [(5, (.val (N y)))], []⟩)
def prod_Power_0_J (a : Nat) (n : Int) (y : Nat) : Prop := y = a ^ (n).toNat
abbrev prod_Power_0_N (a : Nat) (n : Int) := NX (prod_Power_0_mk a n) (prod_Power_0_I a n) (prod_Power_0_mu a n) (prod_Power_0_ex a n) (prod_Power_0_J a n)
theorem prod_Power_0 (a : Nat) (n : Int) (c0 : L a ≤ 4096)(c1 : (0 : Int) ≤ n ∧ n ≤ 64) (x0 : Int × Nat) (hI : prod_Power_0_I a n x0) : LoopOk Tryz.prog Amb (loopN Tryz.f198 0) (prod_Power_0_mk a n x0) (fun e st_ => ∃ y, prod_Power_0_J a n y ∧ prod_Power_0_ex a n y = (e, st_)) :=
  loop_ob hP hAmb ⟨[0, 1, 5, 6], 0, []⟩ (prod_Power_0_mk a n) (prod_Power_0_I a n) (prod_Power_0_mu a n) (prod_Power_0_ex a n) (prod_Power_0_J a n) x0 hI (fun (i, o) => .lit <| .both (.lit <| .both (.lits 6 <| .call (N (o * o)) <| .yes <| .lits 2 <| .both (.lit <| .call (N ((o * o) * a)) <| .lit <| .yes <| .fin2 ⟨[0, 1, 5, 6], 0, []⟩) (.lit <| .yes <| .fin2 ⟨[0, 1, 5, 6], 0, []⟩)) (.lit <| .yes <| .lit <| .yes <| .lits 3 <| .both (.lit <| .call (N (o * o)) <| .yes <| .lits 2 <| .both (.lit <| .call (N ((o * o) * a)) <| .lit <| .yes <| .fin2 ⟨[0, 1, 5, 6], 0, []⟩) (.lit <| .yes <| .fin2 ⟨[0, 1, 5, 6], 0, []⟩)) (.yes <| .lits 2 <| .both (.lit <| .call (N (o * a)) <| .lit <| .yes <| .fin2 ⟨[0, 1, 5, 6], 0, []⟩) (.lit <| .yes <| .fin2 ⟨[0, 1, 5, 6], 0, []⟩)))) (.fin2 ⟨[5], 0, []⟩)) (by
    rintro ⟨i, o⟩ hI
    have hI : -1 ≤ i ∧ i ≤ 6 ∧ o = a ^ (n.toNat / 2 ^ (i + 1).toNat) := hI
    obtain ⟨h1, h2, h3⟩ := hI
    have lo : L o ≤ 64 * L a + 1 := by rw [h3]; exact L_pow64 (Nat.le_trans (Nat.div_le_self _ _) oO)
    have e0 := L_len o
    exact cast_ob (aI True.intro (aI (fun (h101 : (iGe i 0) = true) => have _gh101 := iGe_t h101; aI (fun (h102 : (iNe ((lim o).length : Int) 1) = true) => have _gh102 := iNe_t h102; aI (prod_Square o oO) (have f106 := L_mul o o; aI (iLe_mk oO : (iLe 0 i) = true) (aI (fun (h103 : (iEq (wAnd .i64 (Int.fdiv n (2 ^ (min i.toNat (IntKind.bits .i64)))) (1 : Int)) 1) = true) => have _gh103 := iEq_t h103; aI (prod_Mul (o * o) a oO oO) (have f104 := L_mul (o * o) a; aI (fits_i64 oO : (fits .i64 (i - 1)) = true) (aI tT ((nx_next ((i - 1), ((o * o) * a)) (show -1 ≤ (i - 1) ∧ (i - 1) ≤ 6 ∧ ((o * o) * a) = a ^ (n.toNat / 2 ^ ((i - 1) + 1).toNat) from ⟨by omega, by omega, pw_y h3 c1 oO (by assumption)⟩) (show (i - 1 + 1).toNat < (i + 1).toNat by omega) : prod_Power_0_N a n (i, o) .normal (prod_Power_0_mk a n ((i - 1), ((o * o) * a)))))))) (fun (h105 : (iEq (wAnd .i64 (Int.fdiv n (2 ^ (min i.toNat (IntKind.bits .i64)))) (1 : Int)) 1) = false) => have _gh105 := iEq_f h105; aI (fits_i64 oO : (fits .i64 (i - 1)) = true) (aI tT ((nx_next ((i - 1), (o * o)) (show -1 ≤ (i - 1) ∧ (i - 1) ≤ 6 ∧ (o * o) = a ^ (n.toNat / 2 ^ ((i - 1) + 1).toNat) from ⟨by omega, by omega, pw_n h3 c1 oO (by assumption)⟩) (show (i - 1 + 1).toNat < (i + 1).toNat by omega) : prod_Power_0_N a n (i, o) .normal (prod_Power_0_mk a n ((i - 1), (o * o)))))))))) (fun (h107 : (iNe ((lim o).length : Int) 1) = false) => have _gh107 := iNe_f h107; aI (inB_mk oO : (inB (0 : Int) ((lim o).length)) = true) (aI (ld_L oO : (Nat.blt 0 (lim o).length && isIntK .u32 (nth (lim o) 0 .unk)) = true) (aI (fun (h108 : (iNe (gi (limbs o) 0) 1) = true) => have _gh108 := iNe_t h108; aI (prod_Square o oO) (have f112 := L_mul o o; aI (iLe_mk oO : (iLe 0 i) = true) (aI (fun (h109 : (iEq (wAnd .i64 (Int.fdiv n (2 ^ (min i.toNat (IntKind.bits .i64)))) (1 : Int)) 1) = true) => have _gh109 := iEq_t h109; aI (prod_Mul (o * o) a oO oO) (have f110 := L_mul (o * o) a; aI (fits_i64 oO : (fits .i64 (i - 1)) = true) (aI tT ((nx_next ((i - 1), ((o * o) * a)) (show -1 ≤ (i - 1) ∧ (i - 1) ≤ 6 ∧ ((o * o) * a) = a ^ (n.toNat / 2 ^ ((i - 1) + 1).toNat) from ⟨by omega, by omega, pw_y h3 c1 oO (by assumption)⟩) (show (i - 1 + 1).toNat < (i + 1).toNat by omega) : prod_Power_0_N a n (i, o) .normal (prod_Power_0_mk a n ((i - 1), ((o * o) * a)))))))) (fun (h111 : (iEq (wAnd .i64 (Int.fdiv n (2 ^ (min i.toNat (IntKind.bits .i64)))) (1 : Int)) 1) = false) => have _gh111 := iEq_f h111; aI (fits_i64 oO : (fits .i64 (i - 1)) = true) (aI tT ((nx_next ((i - 1), (o * o)) (show -1 ≤ (i - 1) ∧ (i - 1) ≤ 6 ∧ (o * o) = a ^ (n.toNat / 2 ^ ((i - 1) + 1).toNat) from ⟨by omega, by omega, pw_n h3 c1 oO (by assumption)⟩) (show (i - 1 + 1).toNat < (i + 1).toNat by omega) : prod_Power_0_N a n (i, o) .normal (prod_Power_0_mk a n ((i - 1), (o * o)))))))))) (fun (h113 : (iNe (gi (limbs o) 0) 1) = false) => have _gh113 := iNe_f h113; aI (iLe_mk oO : (iLe 0 i) = true) (aI (fun (h114 : (iEq (wAnd .i64 (Int.fdiv n (2 ^ (min i.toNat (IntKind.bits .i64)))) (1 : Int)) 1) = true) => have _gh114 := iEq_t h114; aI (prod_Mul o a oO oO) (have f115 := L_mul o a; aI (fits_i64 oO : (fits .i64 (i - 1)) = true) (aI tT ((nx_next ((i - 1), (o * a)) (show -1 ≤ (i - 1) ∧ (i - 1) ≤ 6 ∧ (o * a) = a ^ (n.toNat / 2 ^ ((i - 1) + 1).toNat) from ⟨by omega, by omega, (sq_one' oO (by assumption)).trans (pw_y h3 c1 oO (by assumption))⟩) (show (i - 1 + 1).toNat < (i + 1).toNat by omega) : prod_Power_0_N a n (i, o) .normal (prod_Power_0_mk a n ((i - 1), (o * a)))))))) (fun (h116 : (iEq (wAnd .i64 (Int.fdiv n (2 ^ (min i.toNat (IntKind.bits .i64)))) (1 : Int)) 1) = false) => have _gh116 := iEq_f h116; aI (fits_i64 oO : (fits .i64 (i - 1)) = true) (aI tT ((nx_next ((i - 1), o) (show -1 ≤ (i - 1) ∧ (i - 1) ≤ 6 ∧ o = a ^ (n.toNat / 2 ^ ((i - 1) + 1).toNat) from ⟨by omega, by omega, (sq_one oO (by assumption)).trans (pw_n h3 c1 oO (by assumption))⟩) (show (i - 1 + 1).toNat < (i + 1).toNat by omega) : prod_Power_0_N a n (i, o) .normal (prod_Power_0_mk a n ((i - 1), o)))))))))))) (fun (h117 : (iGe i 0) = false) => have _gh117 := iGe_f h117; aI tT ((nx_exit 0 ((prod_Power_0_ex a n o).2) o (show o = a ^ (n).toNat from (by rw [h3, show (i + 1).toNat = 0 by omega, Nat.pow_zero, Nat.div_one])) rfl : prod_Power_0_N a n (i, o) (.exit 0) ((prod_Power_0_ex a n o).2)))))) (by kernel_rfl))
theorem prod_Power (a : Nat) (n : Int) (c0 : L a ≤ 4096) (c1 : (0 : Int) ≤ n ∧ n ≤ 64) : Impl Tryz.prog Amb 198 [(N a), (.int .i64 n)] (N (a ^ (n).toNat)) := by
  have en : iMin (iMax n (0 : Int)) (64 : Int) = n := by unfold iMin iMax; split <;> split <;> omega
  exact impl_ob hP hAmb Tryz.func198 (by kernel_rfl) (.lits 3 <| .call (N 1) <| .loop ⟨[0, 1, 5, 6], 0, []⟩ ((prod_Power_0_mk a (iMin (iMax n (0 : Int)) (64 : Int)) ((6 : Int), 1))) (Nat) (prod_Power_0_ex a (iMin (iMax n (0 : Int)) (64 : Int))) (prod_Power_0_J a (iMin (iMax n (0 : Int)) (64 : Int))) (fun y => .lit <| .ret))
    (cast_ob (aI True.intro (aI (nat_Of 1 oA) (aI tT (aI (rfl : (prod_Power_0_mk a (iMin (iMax n (0 : Int)) (64 : Int)) ((6 : Int), 1)) = (prod_Power_0_mk a (iMin (iMax n (0 : Int)) (64 : Int)) ((6 : Int), 1))) (aI (prod_Power_0 a (iMin (iMax n (0 : Int)) (64 : Int)) c0 (by rw [en]; exact c1) ((6 : Int), 1) (show -1 ≤ (6 : Int) ∧ (6 : Int) ≤ 6 ∧ 1 = a ^ ((iMin (iMax n (0 : Int)) (64 : Int)).toNat / 2 ^ ((6 : Int) + 1).toNat) from ⟨by omega, by omega, (by rw [show ((6 : Int) + 1).toNat = 7 from rfl, Nat.div_eq_of_lt (show Int.toNat _ < 2 ^ 7 by omega)]; rfl)⟩)) (fun y (hJ : prod_Power_0_J a (iMin (iMax n (0 : Int)) (64 : Int)) y) => have hJ : y = a ^ ((iMin (iMax n (0 : Int)) (64 : Int))).toNat := hJ; (vsub_of (congrArg N (by rw [hJ, en])) : vsub (N y) (N (a ^ (n).toNat))))))))) (by kernel_rfl))
theorem prod_Power1 (a : Nat) (c0 : L a ≤ 4096) : Impl Tryz.prog Amb 198 [(N a), .int .i64 1] (N a) := by
  have h := prod_Power a 1 c0 oO
  rw [show (1 : Int).toNat = 1 from rfl, Nat.pow_one] at h
  exact h
def root_newton_0_mk (a : Nat) (x : Nat) : St := ⟨mkS 51 [(0, (.val (N a))), (1, (.val (.int .i64 2))), (5, (.val (N x)))], []⟩
def root_newton_0_I (a : Nat) (x : Nat) : Prop := 0 < x ∧ a < (x + 1) * (x + 1) ∧ L x ≤ 4096
def root_newton_0_mu (_ : Nat) (x : Nat) : Nat := x
def root_newton_0_ex (_ : Nat) (y : Nat) : Ex × St := (.ret, ⟨mkS 51 [(4, (.val (N y)))], []⟩)
def root_newton_0_J (a : Nat) (y : Nat) : Prop := y = rt a
abbrev root_newton_0_N (a : Nat) := NX (root_newton_0_mk a) (root_newton_0_I a) (root_newton_0_mu a) (root_newton_0_ex a) (root_newton_0_J a)
theorem root_newton_0 (a : Nat) (c0 : L a ≤ 4096)(c1 : 0 < a) (x0 : Nat) (hI : root_newton_0_I a x0) : LoopOk Tryz.prog Amb (loopN Tryz.f219 0) (root_newton_0_mk a x0) (fun e st_ => ∃ y, root_newton_0_J a y ∧ root_newton_0_ex a y = (e, st_)) :=
  loop_ob hP hAmb ⟨[0, 1, 5], 0, []⟩ (root_newton_0_mk a) (root_newton_0_I a) (root_newton_0_mu a) (root_newton_0_ex a) (root_newton_0_J a) x0 hI (fun z => .lit <| .yes <| .lit <| .call (N z) <| .lit <| .call (.tup [(N (a / z)), (N (a % z)), (.bool true)]) <| .lit <| .yes <| .lit <| .yes <| .lit <| .call (N z) <| .lit <| .call (N (z + (a / z))) <| .lit <| .yes <| .lit <| .call (.tup [(N ((z + (a / z)) / 2)), (.int .u32 (((z + (a / z)) % 2 : Nat) : Int)), (.bool true)]) <| .lit <| .call (.int .i64 (cmpN ((z + (a / z)) / 2) z)) <| .lit <| .both (.fin2 ⟨[4], 0, []⟩) (.fin2 ⟨[0, 1, 5], 0, []⟩)) (by
    rintro z hI
    have hI : 0 < z ∧ a < (z + 1) * (z + 1) ∧ L z ≤ 4096 := hI
    obtain ⟨h1, h2, h3⟩ := hI
    have l0 := L_div a z
    have l1 := L_add z (a / z)
    have l2 := L_div (z + a / z) 2
    have l3 := fun (q : (z + a / z) / 2 < z) => L_mono (Nat.le_of_lt q)
    have r0 := cmpN_range ((z + a / z) / 2) z
    exact cast_ob (aI True.intro (aI tT (aI (prod_Power1 z oO) (aI (quot_DivMod a z oO oO oO) (have f107 := L_mod a z; have f106 := L_div a z; aI tT (aI tT (aI (prod_Small1 z oO) (aI (nat_Add z (a / z) oO oO) (have f105 := L_add z (a / z); aI tT (aI (quot_SmallI (z + (a / z)) 2 oO oO) (have f104 := L_div (z + (a / z)) 2; aI (nat_Cmp ((z + (a / z)) / 2) z oO oO) (have f103 := cmpN_range ((z + (a / z)) / 2) z; aI (fun (h101 : (iGe (cmpN ((z + (a / z)) / 2) z) 0) = true) => have _gh101 := iGe_t h101; aI tT ((nx_ret ((root_newton_0_ex a z).2) z (show z = rt a from nw_end (y := (z + a / z) / 2) h1 h2 rfl oO) rfl : root_newton_0_N a z .ret ((root_newton_0_ex a z).2)))) (fun (h102 : (iGe (cmpN ((z + (a / z)) / 2) z) 0) = false) => have _gh102 := iGe_f h102; aI tT ((nx_next ((z + (a / z)) / 2) (show 0 < ((z + (a / z)) / 2) ∧ a < (((z + (a / z)) / 2) + 1) * (((z + (a / z)) / 2) + 1) ∧ L ((z + (a / z)) / 2) ≤ 4096 from ⟨nw_pos c1 h1 rfl, nw_up h1 rfl, by omega⟩) (show (z + a / z) / 2 < z by omega) : root_newton_0_N a z .normal (root_newton_0_mk a ((z + (a / z)) / 2))))))))))))))))) (by kernel_rfl))
theorem root_newton (a : Nat) (c0 : L a ≤ 4096) (c1 : 0 < a) : Impl Tryz.prog Amb 219 [(N a), (.int .i64 2)] (N (rt a)) := by
  have l0 := L_le (n := 1) (k := 1) (by decide)
  have b0 := nbits_L a
  have t0 : Int.tdiv (((nbits a : Int) + 2) - 1) (2 : Int) = ((nbits a : Int) + 2 - 1) / 2 := Int.tdiv_eq_ediv_of_nonneg oO
  have l1 := L_shl 1 (Int.tdiv (((nbits a : Int) + 2) - 1) (2 : Int)).toNat
  exact impl_ob hP hAmb Tryz.func219 (by kernel_rfl) (.lit <| .call (N 1) <| .lit <| .call (.int .i64 (nbits a : Int)) <| .lit <| .yes <| .lit <| .yes <| .lit <| .yes <| .lit <| .call (N (1 * 2 ^ ((Int.tdiv (((nbits a : Int) + 2) - 1) (2 : Int))).toNat)) <| .loop ⟨[0, 1, 5], 0, []⟩ ((root_newton_0_mk a (1 * 2 ^ ((Int.tdiv (((nbits a : Int) + 2) - 1) (2 : Int))).toNat))) (Nat) (root_newton_0_ex a) (root_newton_0_J a) (fun y => .lit <| .ret))
    (cast_ob (aI True.intro (aI (nat_Of 1 oA) (aI (nat_Bits a oA) (have f2 := nbits_L a; aI (fits_i64 oA : (fits .i64 ((nbits a : Int) + 2)) = true) (aI (fits_i64 oA : (fits .i64 (((nbits a : Int) + 2) - 1)) = true) (aI (fits_i64 oA : (fits .i64 (Int.tdiv (((nbits a : Int) + 2) - 1) (2 : Int))) = true) (aI (nat_Shl 1 (Int.tdiv (((nbits a : Int) + 2) - 1) (2 : Int)) oA oA) (have f1 := L_shl 1 ((Int.tdiv (((nbits a : Int) + 2) - 1) (2 : Int))).toNat; aI tT (aI (rfl : (root_newton_0_mk a (1 * 2 ^ ((Int.tdiv (((nbits a : Int) + 2) - 1) (2 : Int))).toNat)) = (root_newton_0_mk a (1 * 2 ^ ((Int.tdiv (((nbits a : Int) + 2) - 1) (2 : Int))).toNat))) (aI (root_newton_0 a c0 c1 (1 * 2 ^ ((Int.tdiv (((nbits a : Int) + 2) - 1) (2 : Int))).toNat) (show 0 < (1 * 2 ^ ((Int.tdiv (((nbits a : Int) + 2) - 1) (2 : Int))).toNat) ∧ a < ((1 * 2 ^ ((Int.tdiv (((nbits a : Int) + 2) - 1) (2 : Int))).toNat) + 1) * ((1 * 2 ^ ((Int.tdiv (((nbits a : Int) + 2) - 1) (2 : Int))).toNat) + 1) ∧ L ((1 * 2 ^ ((Int.tdiv (((nbits a : Int) + 2) - 1) (2 : Int))).toNat)) ≤ 4096 from ⟨by rw [Nat.one_mul]; exact Nat.pow_pos oO, nw_init oO, by omega⟩)) (fun y (hJ : root_newton_0_J a y) => have hJ : y = rt a := hJ; (vsub_of (congrArg N hJ) : vsub (N y) (N (rt a)))))))))))))) (by kernel_rfl))
theorem root_Sqrt (a : Nat) (c0 : L a ≤ 4096) : Impl Tryz.prog Amb 192 [(N a)] (.tup [(N (rt a)), (N (a - rt a * rt a))]) := by
  have e0 := L_len a
  have e1 := L_pos_iff a
  have s0 := (rt_spec a).1
  exact impl_ob hP hAmb Tryz.func192 (by kernel_rfl) (.lit <| .call (N a) <| .lit <| .both (.lit <| .ret) (.lit <| .call (N (rt a)) <| .lit <| .call (N ((rt a) * (rt a))) <| .lit <| .call (.tup [(N (a - ((rt a) * (rt a)))), (.bool (decide (((rt a) * (rt a)) ≤ a)))]) <| .lit <| .ret))
    (cast_ob (aI True.intro (aI (nat_TrimN a oA) (aI (fun (h1 : (iEq ((lim a).length : Int) 0) = true) => have _gh1 := iEq_t h1; (rt_nil oO : vsub (.tup [.nil, .nil]) (.tup [(N (rt a)), (N (a - rt a * rt a))]))) (fun (h2 : (iEq ((lim a).length : Int) 0) = false) => have _gh2 := iEq_f h2; aI (root_newton a oA oA) (have f5 := rt_L a; aI (prod_Square (rt a) oA) (have f4 := L_mul (rt a) (rt a); aI (nat_Sub2 a ((rt a) * (rt a)) oA oA) (have f3 := L_sub a ((rt a) * (rt a)); (vsub_of (by first | rfl | simp_all) : vsub (.tup [(N (rt a)), (N (a - ((rt a) * (rt a))))]) (.tup [(N (rt a)), (N (a - rt a * rt a))]))))))))) (by kernel_rfl))
def r02_Power_0_mk (a : Nat) (n : Int) (x : Int × Nat) : St := ⟨mkS 15 [(0, (.val (N a))), (5, (.val (N x.2))), (7, (.val (.int .i64 n))), (8, (.val (.int .i64 x.1)))], []⟩
def r02_Power_0_I (a : Nat) (n : Int) (x : Int × Nat) : Prop := 0 ≤ x.1 ∧ x.1 ≤ n ∧ x.2 = a ^ (x.1).toNat
def r02_Power_0_mu (_ : Nat) (n : Int) (x : Int × Nat) : Nat := (n - x.1).toNat
def r02_Power_0_ex (_ : Nat) (_ : Int) (y : Nat) : Ex × St := (.exit 0, ⟨mkS 15 [(5, (.val (N y)))], []⟩)
def r02_Power_0_J (a : Nat) (n : Int) (y : Nat) : Prop := y = a ^ (n).toNat
abbrev r02_Power_0_N (a : Nat) (n : Int) := NX (r02_Power_0_mk a n) (r02_Power_0_I a n) (r02_Power_0_mu a n) (r02_Power_0_ex a n) (r02_Power_0_J a n)
theorem r02_Power_0 (a : Nat) (n : Int) (c0 : L a ≤ 4096)(c1 : (0 : Int) ≤ n ∧ n ≤ 64) (x0 : Int × Nat) (hI : r02_Power_0_I a n x0) : LoopOk Tryz.prog Amb (loopN Tryz.f110 0) (r02_Power_0_mk a n x0) (fun e st_ => ∃ y, r02_Power_0_J a n y ∧ r02_Power_0_ex a n y = (e, st_)) :=
  loop_ob hP hAmb ⟨[0, 5, 7, 8], 0, []⟩ (r02_Power_0_mk a n) (r02_Power_0_I a n) (r02_Power_0_mu a n) (r02_Power_0_ex a n) (r02_Power_0_J a n) x0 hI (fun (i, o) => .lit <| .both (.lit <| .call (N (o * a)) <| .lit <| .yes <| .fin2 ⟨[0, 5, 7, 8], 0, []⟩) (.fin2 ⟨[5], 0, []⟩)) (by
    rintro ⟨i, o⟩ hI
    have hI : 0 ≤ i ∧ i ≤ n ∧ o = a ^ (i).toNat := hI
    obtain ⟨h1, h2, h3⟩ := hI
    have lo : L o ≤ 64 * L a + 1 := by rw [h3]; exact L_pow64 oO
    exact cast_ob (aI True.intro (aI (fun (h101 : (iLt i n) = true) => have _gh101 := iLt_t h101; aI (r02_Mul o a oO oO) (have f102 := L_mul o a; aI (fits_i64 oO : (fits .i64 (i + 1)) = true) (aI tT ((nx_next ((i + 1), (o * a)) (show 0 ≤ (i + 1) ∧ (i + 1) ≤ n ∧ (o * a) = a ^ ((i + 1)).toNat from ⟨by omega, by omega, by rw [h3, show (i + 1).toNat = i.toNat + 1 by omega, Nat.pow_succ]⟩) (show (n - (i + 1)).toNat < (n - i).toNat by omega) : r02_Power_0_N a n (i, o) .normal (r02_Power_0_mk a n ((i + 1), (o * a)))))))) (fun (h103 : (iLt i n) = false) => have _gh103 := iLt_f h103; aI tT ((nx_exit 0 ((r02_Power_0_ex a n o).2) o (show o = a ^ (n).toNat from (by rw [h3, show i = n by omega])) rfl : r02_Power_0_N a n (i, o) (.exit 0) ((r02_Power_0_ex a n o).2)))))) (by kernel_rfl))
theorem r02_Power (a : Nat) (n : Int) (c0 : L a ≤ 4096) (c1 : (0 : Int) ≤ n ∧ n ≤ 64) : Impl Tryz.prog Amb 110 [(N a), (.int .i64 n)] (N (a ^ (n).toNat)) := by
  exact impl_ob hP hAmb Tryz.func110 (by kernel_rfl) (.lit <| .call (N 1) <| .loop ⟨[0, 5, 7, 8], 0, []⟩ ((r02_Power_0_mk a n ((0 : Int), 1))) (Nat) (r02_Power_0_ex a n) (r02_Power_0_J a n) (fun y => .lit <| .ret))
    (cast_ob (aI True.intro (aI (r01_Of 1 oA) (aI tT (aI (rfl : (r02_Power_0_mk a n ((0 : Int), 1)) = (r02_Power_0_mk a n ((0 : Int), 1))) (aI (r02_Power_0 a n oO oO ((0 : Int), 1) (show 0 ≤ (0 : Int) ∧ (0 : Int) ≤ n ∧ 1 = a ^ ((0 : Int)).toNat from ⟨by omega, by omega, rfl⟩)) (fun y (hJ : r02_Power_0_J a n y) => have hJ : y = a ^ (n).toNat := hJ; (vsub_of (congrArg N hJ) : vsub (N y) (N (a ^ (n).toNat))))))))) (by kernel_rfl))
theorem rt_le2 {x a : Nat} (h : cmpN (x ^ 2) a ≤ 0) : x * x ≤ a := by
  have e : x ^ 2 = x * x := Nat.pow_two x
  rw [e] at h
  have := cmpN_range (x * x) a
  omega
theorem rt_gt {x a : Nat} (h : 0 < cmpN (x ^ 2) a) : a < x * x := by
  have e : x ^ 2 = x * x := Nat.pow_two x
  rw [e] at h
  have := cmpN_range (x * x) a
  omega
def r04_root_0_mk (a : Nat) (x : Int × Nat) : St := ⟨mkS 29 [(0, (.val (N a))), (1, (.val (.int .i64 2))), (5, (.val (N x.2))), (6, (.val (.int .i64 x.1)))], []⟩
def r04_root_0_I (a : Nat) (x : Int × Nat) : Prop := RtIn a x.1 x.2 ∧ x.1 ≤ 50000
def r04_root_0_mu (_ : Nat) (x : Int × Nat) : Nat := (x.1 + 1).toNat
def r04_root_0_ex (_ : Nat) (y : Nat) : Ex × St := (.exit 0, ⟨mkS 29 [(5, (.val (N y)))], []⟩)
def r04_root_0_J (a : Nat) (y : Nat) : Prop := y = rt a
abbrev r04_root_0_N (a : Nat) := NX (r04_root_0_mk a) (r04_root_0_I a) (r04_root_0_mu a) (r04_root_0_ex a) (r04_root_0_J a)
theorem r04_root_0 (a : Nat) (c0 : L a ≤ 3000) (x0 : Int × Nat) (hI : r04_root_0_I a x0) : LoopOk Tryz.prog Amb (loopN Tryz.f196 0) (r04_root_0_mk a x0) (fun e st_ => ∃ y, r04_root_0_J a y ∧ r04_root_0_ex a y = (e, st_)) :=
  loop_ob hP hAmb ⟨[0, 1, 5, 6], 0, []⟩ (r04_root_0_mk a) (r04_root_0_I a) (r04_root_0_mu a) (r04_root_0_ex a) (r04_root_0_J a) x0 hI (fun (i, r) => .lit <| .both (.lit <| .call (N 1) <| .lit <| .call (N (1 * 2 ^ (i).toNat)) <| .lit <| .call (N (r + (1 * 2 ^ (i).toNat))) <| .lit <| .call (N ((r + (1 * 2 ^ (i).toNat)) ^ 2)) <| .lit <| .call (.int .i64 (cmpN ((r + (1 * 2 ^ (i).toNat)) ^ 2) a)) <| .lit <| .both (.lit <| .yes <| .fin2 ⟨[0, 1, 5, 6], 0, []⟩) (.lit <| .yes <| .fin2 ⟨[0, 1, 5, 6], 0, []⟩)) (.fin2 ⟨[5], 0, []⟩)) (by
    rintro ⟨i, r⟩ hI
    have hI : RtIn a i r ∧ i ≤ 50000 := hI
    obtain ⟨h1, h2⟩ := hI
    have lr := rtin_L h1
    have h0 := h1.1
    have l0 := L_shl 1 i.toNat
    have l1 := L_add r (1 * 2 ^ i.toNat)
    have l2 := L_le (n := 1) (k := 1) (by decide)
    exact cast_ob (aI True.intro (aI (fun (h101 : (iGe i 0) = true) => have _gh101 := iGe_t h101; aI (r01_Of 1 oO) (aI (r01_Shl 1 i oO oO) (have f107 := L_shl 1 (i).toNat; aI (r01_Add r (1 * 2 ^ (i).toNat) oO oO) (have f106 := L_add r (1 * 2 ^ (i).toNat); aI (r02_Power (r + (1 * 2 ^ (i).toNat)) 2 oO oO) (have f105 := (L_pow64 oO : L ((r + (1 * 2 ^ (i).toNat)) ^ 2) ≤ 64 * L (r + (1 * 2 ^ (i).toNat)) + 1); aI (r01_Cmp ((r + (1 * 2 ^ (i).toNat)) ^ 2) a oO oO) (have f104 := cmpN_range ((r + (1 * 2 ^ (i).toNat)) ^ 2) a; aI (fun (h102 : (iLe (cmpN ((r + (1 * 2 ^ (i).toNat)) ^ 2) a) 0) = true) => have _gh102 := iLe_t h102; aI (fits_i64 oO : (fits .i64 (i - 1)) = true) (aI tT ((nx_next ((i - 1), (r + (1 * 2 ^ (i).toNat))) (show RtIn a (i - 1) (r + (1 * 2 ^ (i).toNat)) ∧ (i - 1) ≤ 50000 from ⟨rtin_y h1 oO rfl (rt_le2 oO), by omega⟩) (show (i - 1 + 1).toNat < (i + 1).toNat by omega) : r04_root_0_N a (i, r) .normal (r04_root_0_mk a ((i - 1), (r + (1 * 2 ^ (i).toNat)))))))) (fun (h103 : (iLe (cmpN ((r + (1 * 2 ^ (i).toNat)) ^ 2) a) 0) = false) => have _gh103 := iLe_f h103; aI (fits_i64 oO : (fits .i64 (i - 1)) = true) (aI tT ((nx_next ((i - 1), r) (show RtIn a (i - 1) r ∧ (i - 1) ≤ 50000 from ⟨rtin_n h1 oO rfl (rt_gt oO), by omega⟩) (show (i - 1 + 1).toNat < (i + 1).toNat by omega) : r04_root_0_N a (i, r) .normal (r04_root_0_mk a ((i - 1), r)))))))))))) (fun (h108 : (iGe i 0) = false) => have _gh108 := iGe_f h108; aI tT ((nx_exit 0 ((r04_root_0_ex a r).2) r (show r = rt a from rtin_end h1 oO) rfl : r04_root_0_N a (i, r) (.exit 0) ((r04_root_0_ex a r).2)))))) (by kernel_rfl))
theorem r04_root (a : Nat) (c0 : L a ≤ 3000) : Impl Tryz.prog Amb 196 [(N a), (.int .i64 2)] (N (rt a)) := by
  have b0 := nbits_L a
  have t0 : Int.tdiv (nbits a : Int) (2 : Int) = (nbits a : Int) / 2 := Int.tdiv_eq_ediv_of_nonneg oO
  exact impl_ob hP hAmb Tryz.func196 (by kernel_rfl) (.lit <| .call (.int .i64 (nbits a : Int)) <| .lit <| .yes <| .loop ⟨[0, 1, 5, 6], 0, []⟩ ((⟨mkS 29 [(0, (.val (N a))), (1, (.val (.int .i64 2))), (5, (.val .nil)), (6, (.val (.int .i64 (Int.tdiv (nbits a : Int) (2 : Int)))))], []⟩ : St)) (Nat) (r04_root_0_ex a) (r04_root_0_J a) (fun y => .lit <| .ret))
    (cast_ob (aI True.intro (aI (r01_Bits a oA) (have f1 := nbits_L a; aI (fits_i64 oA : (fits .i64 (Int.tdiv (nbits a : Int) (2 : Int))) = true) (aI tT (aI (rfl : (⟨mkS 29 [(0, (.val (N a))), (1, (.val (.int .i64 2))), (5, (.val .nil)), (6, (.val (.int .i64 (Int.tdiv (nbits a : Int) (2 : Int)))))], []⟩ : St) = (⟨mkS 29 [(0, (.val (N a))), (1, (.val (.int .i64 2))), (5, (.val .nil)), (6, (.val (.int .i64 (Int.tdiv (nbits a : Int) (2 : Int)))))], []⟩ : St)) (aI (LoopOk.weak (weak_slot 5 .nil (N 0) rfl (Nat.le_of_ble_eq_true rfl) (fun w S v q => by rw [N_zero]; cases q; exact .nilsl) : Weak (⟨mkS 29 [(0, (.val (N a))), (1, (.val (.int .i64 2))), (5, (.val .nil)), (6, (.val (.int .i64 (Int.tdiv (nbits a : Int) (2 : Int)))))], []⟩ : St) (r04_root_0_mk a ((Int.tdiv (nbits a : Int) (2 : Int)), 0))) (r04_root_0 a c0 ((Int.tdiv (nbits a : Int) (2 : Int)), 0) (show RtIn a (Int.tdiv (nbits a : Int) (2 : Int)) 0 ∧ (Int.tdiv (nbits a : Int) (2 : Int)) ≤ 50000 from ⟨rtin_init a oO oO, by omega⟩))) (fun y (hJ : r04_root_0_J a y) => have hJ : y = rt a := hJ; (vsub_of (congrArg N hJ) : vsub (N y) (N (rt a)))))))))) (by kernel_rfl))
theorem r04_Sqrt (a : Nat) (c0 : L a ≤ 3000) : Impl Tryz.prog Amb 156 [(N a)] (.tup [(N (rt a)), (N (a - rt a * rt a))]) := by
  have s0 := (rt_spec a).1
  exact impl_ob hP hAmb Tryz.func156 (by kernel_rfl) (.lit <| .call (N (rt a)) <| .lit <| .call (N ((rt a) * (rt a))) <| .lit <| .call (N (a - ((rt a) * (rt a)))) <| .lit <| .ret)
    (cast_ob (aI True.intro (aI (r04_root a oA) (have f3 := rt_L a; aI (r02_Mul (rt a) (rt a) oA oA) (have f2 := L_mul (rt a) (rt a); aI (r01_Less a ((rt a) * (rt a)) oA oA oA) (have f1 := L_sub a ((rt a) * (rt a)); (vsub_of (by first | rfl | simp_all) : vsub (.tup [(N (rt a)), (N (a - ((rt a) * (rt a))))]) (.tup [(N (rt a)), (N (a - rt a * rt a))]))))))) (by kernel_rfl))
end Go.Proofs.YtmbpoibhamlkbaaGreatDoor

namespace Go.Proofs.YtmbpoibhamlkbaaGreatDoor
def sqF (m e w : Int) : Nat := rt (flr (dv m e) (2 * w)).natAbs
def sqX (m e w : Int) : Bool := decide (sqF m e w * sqF m e w = (flr (dv m e) (2 * w)).natAbs ∧ (m = 0 ∨ -(2 * w) ≤ e))
def sqV (m e w : Int) (up : Bool) : Int := (sqF m e w : Int) + (if (up && !sqX m e w) = true then 1 else 0)
def srE (m e w : Int) (up : Bool) : Int := if 0 ≤ w ∧ w ≤ 4096 then (if m < 0 then 4 else mkE (sqV m e w up) (-w)) else 1
def srM (m e w : Int) (up : Bool) : Int := if (0 ≤ w ∧ w ≤ 4096) ∧ 0 ≤ m then mkM (sqV m e w up) (-w) else 0
def srX (m e w : Int) (up : Bool) : Int := if (0 ≤ w ∧ w ≤ 4096) ∧ 0 ≤ m then mkX (sqV m e w up) (-w) else 0
theorem sr_1 {m e w : Int} {up : Bool} (h : w < 0 ∨ 4096 < w) : srM m e w up = 0 ∧ srX m e w up = 0 ∧ srE m e w up = 1 := by
  unfold srM srX srE
  rw [if_neg (by omega), if_neg (by omega), if_neg (by omega)]; exact ⟨rfl, rfl, rfl⟩
theorem sr_2 {m e w : Int} {up : Bool} (h : 0 ≤ w ∧ w ≤ 4096) (hm : m < 0) : srM m e w up = 0 ∧ srX m e w up = 0 ∧ srE m e w up = 4 := by
  unfold srM srX srE
  rw [if_neg (by omega), if_neg (by omega), if_pos h, if_pos hm]; exact ⟨rfl, rfl, rfl⟩
theorem sr_3 {m e w : Int} {up : Bool} (h : 0 ≤ w ∧ w ≤ 4096) (hm : 0 ≤ m) : srM m e w up = mkM (sqV m e w up) (-w) ∧ srX m e w up = mkX (sqV m e w up) (-w) ∧ srE m e w up = mkE (sqV m e w up) (-w) := by
  unfold srM srX srE
  rw [if_pos ⟨h, hm⟩, if_pos ⟨h, hm⟩, if_pos h, if_neg (by omega)]; exact ⟨rfl, rfl, rfl⟩
theorem sr_y {m e w x z : Int} {up : Bool} (h : 0 ≤ w ∧ w ≤ 4096) (hm : 0 ≤ m) (hx : x = sqV m e w up) (hz : z = -w) : srM m e w up = mkM x z ∧ srX m e w up = mkX x z ∧ srE m e w up = mkE x z := by
  obtain ⟨a, b, c⟩ := sr_3 (e := e) (up := up) h hm
  rw [a, b, c, hx, hz]; exact ⟨rfl, rfl, rfl⟩
theorem sqV_no {m e w : Int} {up : Bool} {x : Nat} (hx : x = sqF m e w) (h : (up && !sqX m e w) = false) : sgn false x = sqV m e w up := by
  unfold sqV; rw [h, sgn_f, hx]; simp
theorem sqV_up {m e w : Int} {up : Bool} {x : Nat} (hx : x = sqF m e w) (h : (up && !sqX m e w) = true) : sgn false (x + 1) = sqV m e w up := by
  unfold sqV; rw [h, sgn_f, hx]; simp
theorem sqV_upI {m e w : Int} {up : Bool} (h : (up && !sqX m e w) = true) : (sqF m e w : Int) + 1 = sqV m e w up := by
  unfold sqV; rw [h]; simp
theorem sqV_noI {m e w : Int} {up : Bool} (h : (up && !sqX m e w) = false) : (sqF m e w : Int) = sqV m e w up := by
  unfold sqV; rw [h]; simp
theorem flr_nonneg {r : Rat} (h : 0 ≤ r) (p : Int) : 0 ≤ flr r p := le_flr.2 (by rw [dv_zero]; exact h)
theorem sq_p {m e w : Int} (hm : 0 ≤ m) (h : 0 ≤ e + 2 * w) : m.natAbs * 2 ^ (e + 2 * w).toNat = (flr (dv m e) (2 * w)).natAbs := by
  rw [flr_dv, if_pos h, abs_shl]
theorem sq_n {m e w : Int} (hm : 0 ≤ m) (h : e + 2 * w < 0) : m.natAbs / 2 ^ (0 - (e + 2 * w)).toNat = (flr (dv m e) (2 * w)).natAbs := by
  rw [flr_dv, if_neg (by omega), show 0 - (e + 2 * w) = -(e + 2 * w) by omega]
  obtain ⟨k, rfl⟩ := Int.eq_ofNat_of_zero_le hm
  rw [pow_cast, ← Int.natCast_ediv, Int.natAbs_natCast, Int.natAbs_natCast]
theorem rest_zero (a : Nat) : a - rt a * rt a = 0 ↔ rt a * rt a = a := by have := (rt_spec a).1; omega
theorem len_zero {x : Nat} : ((lim x).length : Int) = 0 ↔ x = 0 := by
  have := L_len x; have := L_pos_iff x; omega
theorem iEq_dec (a b : Int) : iEq a b = decide (a = b) := by unfold iEq; by_cases h : a = b <;> simp [h]
theorem sqX_p {m e w : Int} (hm : 0 ≤ m) (h : 0 ≤ e + 2 * w) {a : Nat} (ha : a = (flr (dv m e) (2 * w)).natAbs) : iEq ((lim (a - rt a * rt a)).length : Int) 0 = sqX m e w := by
  unfold sqX sqF
  rw [← ha, iEq_dec, decide_eq_decide, len_zero, rest_zero]
  exact ⟨fun q => ⟨q, .inr (by omega)⟩, fun q => q.1⟩
theorem odd_mod {m : Int} {e : Int} (hv : vdb m e = true) {k : Int} (hk : 0 < k) : m.natAbs % 2 ^ k.toNat = 0 ↔ m = 0 := by
  constructor
  · intro h
    refine Decidable.byContradiction fun hm => ?_
    rcases vdb_iff.1 hv with q | q
    · exact hm q.1
    · have h2 : 2 ∣ 2 ^ k.toNat := ⟨2 ^ (k.toNat - 1), by rw [← Nat.pow_succ']; congr 1; omega⟩
      have h3 := Nat.dvd_trans h2 (Nat.dvd_of_mod_eq_zero h)
      have := Nat.mod_eq_zero_of_dvd h3
      omega
  · intro h; subst h; exact Nat.zero_mod _
theorem sqX_n {m e w : Int} (hm : 0 ≤ m) (hv : vdb m e = true) (h : e + 2 * w < 0) {a : Nat} (ha : a = (flr (dv m e) (2 * w)).natAbs) (hr : ((lim (a - rt a * rt a)).length : Int) = 0) :
    iEq ((lim (m.natAbs % 2 ^ (0 - (e + 2 * w)).toNat)).length : Int) 0 = sqX m e w := by
  unfold sqX sqF
  rw [← ha, iEq_dec, decide_eq_decide, len_zero, odd_mod hv (by omega)]
  exact ⟨fun q => ⟨(rest_zero a).1 (len_zero.1 hr), .inl q⟩, fun q => q.2.elim id fun k => by omega⟩
theorem sqX_no {m e w : Int} {a : Nat} (ha : a = (flr (dv m e) (2 * w)).natAbs) (hr : ((lim (a - rt a * rt a)).length : Int) ≠ 0) : false = sqX m e w := by
  unfold sqX sqF
  rw [← ha]
  exact (decide_eq_false fun q => hr (len_zero.2 ((rest_zero a).2 q.1))).symm
theorem sqX_y2 {m e w : Int} {a : Nat} {b : Bool} (ha : a = (flr (dv m e) (2 * w)).natAbs) (hr : ((lim (a - rt a * rt a)).length : Int) = 0) (hb : b = decide (m = 0 ∨ -(2 * w) ≤ e)) : b = sqX m e w := by
  unfold sqX sqF
  rw [← ha, hb, decide_eq_decide]
  exact ⟨fun q => ⟨(rest_zero a).1 (len_zero.1 hr), q⟩, fun q => q.2⟩
theorem sq_L {m e w : Int} (hm : L m.natAbs ≤ 60) (he : -5000 ≤ e ∧ e ≤ 5000) (hw : 0 ≤ w ∧ w ≤ 4096) : L (flr (dv m e) (2 * w)).natAbs ≤ 480 ∧ L (sqF m e w) ≤ 480 := by
  have h := flr_LD m e (2 * w)
  have h2 := rt_L (flr (dv m e) (2 * w)).natAbs
  unfold sqF
  omega
theorem sqV_L {m e w : Int} {up : Bool} (hm : L m.natAbs ≤ 60) (he : -5000 ≤ e ∧ e ≤ 5000) (hw : 0 ≤ w ∧ w ≤ 4096) : L (sqV m e w up).natAbs ≤ 481 := by
  have h := (sq_L hm he hw).2
  have h1 : L (1 : Int).natAbs ≤ 1 := L_le (by decide)
  have h2 := L_abs_add (sqF m e w) 1
  rw [Int.natAbs_natCast] at h2
  unfold sqV
  split
  · omega
  · rw [Int.add_zero, Int.natAbs_natCast]; omega
theorem sr_fit {m e w : Int} {up : Bool} (hm : L m.natAbs ≤ 60) (he : -5000 ≤ e ∧ e ≤ 5000) (hw : 0 ≤ w ∧ w ≤ 4096) (h0 : 0 ≤ m) : srE m e w up = 0 ∧ dv (srM m e w up) (srX m e w up) = dv (sqV m e w up) (-w) := by
  have k := sqV_L (up := up) hm he hw
  have f := mk_fit (m := sqV m e w up) (e := -w) (by omega) (by omega)
  obtain ⟨a, b, c⟩ := sr_3 (e := e) (up := up) hw h0
  rw [a, b, c]; exact ⟨f.1, f.2.2.2.2.2⟩
theorem sr_facts (m e w : Int) (up : Bool) : (L (srM m e w up).natAbs ≤ L (sqV m e w up).natAbs ∧ (-65536 ≤ srX m e w up ∧ srX m e w up ≤ 65536) ∧ 0 ≤ srE m e w up ∧ srE m e w up ≤ 4) ∧ vdb (srM m e w up) (srX m e w up) = true := by
  by_cases hw : 0 ≤ w ∧ w ≤ 4096
  · by_cases h0 : 0 ≤ m
    · obtain ⟨a, b, c⟩ := sr_3 (e := e) (up := up) hw h0
      rw [a, b, c]
      have := mk_facts (sqV m e w up) (-w)
      exact ⟨by omega, vdb_mk⟩
    · obtain ⟨a, b, c⟩ := sr_2 (e := e) (up := up) hw (show m < 0 by omega)
      rw [a, b, c]
      have : L (0 : Int).natAbs = 0 := L_zero
      exact ⟨by omega, by unfold vdb; simp⟩
  · obtain ⟨a, b, c⟩ := sr_1 (m := m) (e := e) (up := up) (show w < 0 ∨ 4096 < w by omega)
    rw [a, b, c]
    have : L (0 : Int).natAbs = 0 := L_zero
    exact ⟨by omega, by unfold vdb; simp⟩
def stE (m e n f w : Int) : Int := if 0 ≤ w ∧ w ≤ 4096 then (if n < 0 then 4 else if m < 0 then 5 else ecE (srM m e w false) (srX m e w false) (srM n f w true) (srX n f w true) (srE m e w false) (srE n f w true)) else 1
def stV (x m e n f w : Int) : Int := if (0 ≤ w ∧ w ≤ 4096) ∧ 0 ≤ n ∧ 0 ≤ m then ecV x (srM m e w false) (srX m e w false) (srM n f w true) (srX n f w true) (srE m e w false) (srE n f w true) else 0
def stT (m e n f w : Int) : V := .tup [.agg [.bool (decide (stV (srM m e w false) m e n f w < 0)), N (stV (srM m e w false) m e n f w).natAbs, .int .i64 (stV (srX m e w false) m e n f w), .bool (decide (stV (srM n f w true) m e n f w < 0)), N (stV (srM n f w true) m e n f w).natAbs, .int .i64 (stV (srX n f w true) m e n f w)], .int .i64 (stE m e n f w)]
theorem st_bad {m e n f w c : Int} (h : ¬ ((0 ≤ w ∧ w ≤ 4096) ∧ 0 ≤ n ∧ 0 ≤ m)) (hc : c = stE m e n f w) : vsub (.tup [.agg [.bool false, .nil, .int .i64 0, .bool false, .nil, .int .i64 0], .int .i64 c]) (stT m e n f w) := by
  unfold stT
  have z : ∀ x, stV x m e n f w = 0 := fun x => by unfold stV; rw [if_neg h]
  rw [z, z, z, z, ← hc]
  exact vsub_w0 c
theorem st_1 {m e n f w : Int} (h : w < 0 ∨ 4096 < w) : 1 = stE m e n f w := by unfold stE; rw [if_neg (by omega)]
theorem st_4 {m e n f w : Int} (h : 0 ≤ w ∧ w ≤ 4096) (hn : n < 0) : 4 = stE m e n f w := by unfold stE; rw [if_pos h, if_pos hn]
theorem st_5 {m e n f w : Int} (h : 0 ≤ w ∧ w ≤ 4096) (hn : 0 ≤ n) (hm : m < 0) : 5 = stE m e n f w := by unfold stE; rw [if_pos h, if_neg (by omega), if_pos hm]
theorem sst_ok {m e n f w : Int} (h : 0 ≤ w ∧ w ≤ 4096) (hn : 0 ≤ n) (hm : 0 ≤ m) : stE m e n f w = ecE (srM m e w false) (srX m e w false) (srM n f w true) (srX n f w true) (srE m e w false) (srE n f w true) ∧
    ∀ x, stV x m e n f w = ecV x (srM m e w false) (srX m e w false) (srM n f w true) (srX n f w true) (srE m e w false) (srE n f w true) := by
  refine ⟨by unfold stE; rw [if_pos h, if_neg (by omega), if_neg (by omega)], fun x => by unfold stV; rw [if_pos ⟨h, hn, hm⟩]⟩
theorem st_ec {m e n f w : Int} (h : 0 ≤ w ∧ w ≤ 4096) (hn : 0 ≤ n) (hm : 0 ≤ m) :
    vsub (.tup [.agg [.bool (decide (ecV (srM m e w false) (srM m e w false) (srX m e w false) (srM n f w true) (srX n f w true) (srE m e w false) (srE n f w true) < 0)), N (ecV (srM m e w false) (srM m e w false) (srX m e w false) (srM n f w true) (srX n f w true) (srE m e w false) (srE n f w true)).natAbs, .int .i64 (ecV (srX m e w false) (srM m e w false) (srX m e w false) (srM n f w true) (srX n f w true) (srE m e w false) (srE n f w true)),
      .bool (decide (ecV (srM n f w true) (srM m e w false) (srX m e w false) (srM n f w true) (srX n f w true) (srE m e w false) (srE n f w true) < 0)), N (ecV (srM n f w true) (srM m e w false) (srX m e w false) (srM n f w true) (srX n f w true) (srE m e w false) (srE n f w true)).natAbs, .int .i64 (ecV (srX n f w true) (srM m e w false) (srX m e w false) (srM n f w true) (srX n f w true) (srE m e w false) (srE n f w true))], .int .i64 (ecE (srM m e w false) (srX m e w false) (srM n f w true) (srX n f w true) (srE m e w false) (srE n f w true))])
      (stT m e n f w) := by
  obtain ⟨a, b⟩ := sst_ok (e := e) (f := f) h hn hm
  unfold stT
  rw [a, b, b, b, b]
  exact vsub_refl _
theorem st_no {m e n f w : Int} (h : 0 ≤ w ∧ w ≤ 4096) (hn : 0 ≤ n) (hm : 0 ≤ m) (hs : (!smB (srM m e w false) (srX m e w false) (srM n f w true) (srX n f w true)) = true) :
    vsub (.tup [.agg [.bool false, .nil, .int .i64 0, .bool false, .nil, .int .i64 0], .int .i64 3]) (stT m e n f w) := by
  obtain ⟨a, b⟩ := sst_ok (e := e) (f := f) h hn hm
  unfold stT
  rw [a, b, b, b, b]
  exact W_ec0 (not_smB hs)
theorem st_yes {m e n f w : Int} (h : 0 ≤ w ∧ w ≤ 4096) (hn : 0 ≤ n) (hm : 0 ≤ m) (h1 : srE m e w false = 0) (h2 : srE n f w true = 0) (hs : (!smB (srM m e w false) (srX m e w false) (srM n f w true) (srX n f w true)) = false) :
    vsub (.tup [.agg [.bool (decide (srM m e w false < 0)), N (srM m e w false).natAbs, .int .i64 (srX m e w false), .bool (decide (srM n f w true < 0)), N (srM n f w true).natAbs, .int .i64 (srX n f w true)], .int .i64 0]) (stT m e n f w) := by
  obtain ⟨a, b⟩ := sst_ok (e := e) (f := f) h hn hm
  unfold stT
  rw [a, b, b, b, b]
  exact W_ec1 (is_smB h1 h2 hs)
theorem st_facts (m e n f w : Int) : (L (stV (srM m e w false) m e n f w).natAbs ≤ 400 ∧ L (stV (srM n f w true) m e n f w).natAbs ≤ 400) ∧ (-8192 ≤ stV (srX m e w false) m e n f w ∧ stV (srX m e w false) m e n f w ≤ 2048) ∧ (-8192 ≤ stV (srX n f w true) m e n f w ∧ stV (srX n f w true) m e n f w ≤ 2048) ∧ 0 ≤ stE m e n f w ∧ stE m e n f w ≤ 5 := by
  have zl : L (0 : Int).natAbs = 0 := L_zero
  have hE : 0 ≤ stE m e n f w ∧ stE m e n f w ≤ 5 := by
    unfold stE ecE; repeat' split
    all_goals omega
  refine ⟨?_, ?_, ?_, hE⟩
  all_goals
    by_cases h : (0 ≤ w ∧ w ≤ 4096) ∧ 0 ≤ n ∧ 0 ≤ m
    · have hv := (sst_ok (e := e) (f := f) h.1 h.2.1 h.2.2).2
      simp only [hv]
      rcases ec_iff (srM m e w false) (srX m e w false) (srM n f w true) (srX n f w true) (srE m e w false) (srE n f w true) with q | q
      · have hs := q.2.2.2
        unfold smB at hs
        simp only [Bool.and_eq_true] at hs
        have h1 := endB_sz hs.1.2
        have h2 := endB_sz hs.2
        have v1 := (sr_facts m e w false).2
        have v2 := (sr_facts n f w true).2
        unfold ecV
        simp only [if_pos q.1]
        have z1 : srM m e w false = 0 → srX m e w false = 0 := fun k => by
          rw [k] at v1; unfold vdb at v1; rw [if_pos rfl] at v1; exact of_decide_eq_true v1
        have z2 : srM n f w true = 0 → srX n f w true = 0 := fun k => by
          rw [k] at v2; unfold vdb at v2; rw [if_pos rfl] at v2; exact of_decide_eq_true v2
        omega
      · unfold ecV
        simp only [show ¬ ecE (srM m e w false) (srX m e w false) (srM n f w true) (srX n f w true) (srE m e w false) (srE n f w true) = 0 by omega, if_false]
        omega
    · unfold stV
      simp only [if_neg h]
      omega
abbrev srT (m e w : Int) (up : Bool) : V := .tup [.agg [.bool (decide (srM m e w up < 0)), N (srM m e w up).natAbs, .int .i64 (srX m e w up)], .int .i64 (srE m e w up)]
end Go.Proofs.YtmbpoibhamlkbaaGreatDoor

namespace Go.Proofs.YtmbpoibhamlkbaaGreatDoor
open Go.RowKit
set_option maxRecDepth 100000
set_option maxHeartbeats 2000000
theorem rad_works (w : Int) (c0 : (-9223372036854775808 : Int) ≤ w ∧ w ≤ 9223372036854775807) : Impl Tryz.prog Amb 97 [(.int .i64 w)] (.bool (decide (0 ≤ w ∧ w ≤ 4096))) := by
  exact impl_ob hP hAmb Tryz.func97 (by kernel_rfl) (.lit <| .both (.lits 4 <| .ret) (.lits 3 <| .ret))
    (cast_ob (aI True.intro (aI (fun (h1 : (iGe w 0) = true) => have _gh1 := iGe_t h1; (vsub_of (congrArg V.bool (by first | exact work_1 oO | exact work_2 oO)) : vsub (.bool (iLe w 4096)) (.bool (decide (0 ≤ w ∧ w ≤ 4096))))) (fun (h2 : (iGe w 0) = false) => have _gh2 := iGe_f h2; (vsub_of (congrArg V.bool (by first | exact work_1 oO | exact work_2 oO)) : vsub (.bool false) (.bool (decide (0 ≤ w ∧ w ≤ 4096))))))) (by kernel_rfl))
theorem rad_sqrt (m : Int) (e : Int) (w : Int) (c0 : L (m).natAbs ≤ 60) (c1 : (-5000 : Int) ≤ e ∧ e ≤ 5000) (c2 : vdb m e = true) (c3 : (0 : Int) ≤ w ∧ w ≤ 4096) (c4 : 0 ≤ m) : Impl Tryz.prog Amb 152 [(yV m e), (.int .i64 w)] (.tup [(N (sqF m e w)), (.bool (sqX m e w))]) := by
  exact impl_ob hP hAmb Tryz.func152 (by kernel_rfl) (.lits 2 <| .yes <| .lit <| .yes <| .lit <| .both (.lits 2 <| .call (N (m.natAbs * 2 ^ ((e + ((2 : Int) * w))).toNat)) <| .lit <| .call (.tup [(N (rt (m.natAbs * 2 ^ ((e + ((2 : Int) * w))).toNat))), (N ((m.natAbs * 2 ^ ((e + ((2 : Int) * w))).toNat) - rt (m.natAbs * 2 ^ ((e + ((2 : Int) * w))).toNat) * rt (m.natAbs * 2 ^ ((e + ((2 : Int) * w))).toNat)))]) <| .lits 2 <| .ret) (.lits 2 <| .yes <| .lit <| .call (N (m.natAbs / 2 ^ (((0 : Int) - (e + ((2 : Int) * w)))).toNat)) <| .lit <| .call (.tup [(N (rt (m.natAbs / 2 ^ (((0 : Int) - (e + ((2 : Int) * w)))).toNat))), (N ((m.natAbs / 2 ^ (((0 : Int) - (e + ((2 : Int) * w)))).toNat) - rt (m.natAbs / 2 ^ (((0 : Int) - (e + ((2 : Int) * w)))).toNat) * rt (m.natAbs / 2 ^ (((0 : Int) - (e + ((2 : Int) * w)))).toNat)))]) <| .lit <| .both (.lits 6 <| .yes <| .lits 2 <| .call (N (m.natAbs % 2 ^ (((0 : Int) - (e + ((2 : Int) * w)))).toNat)) <| .lits 5 <| .ret) (.lits 9 <| .ret)))
    (cast_ob (aI True.intro (aI (fits_i64 oS : (fits .i64 ((2 : Int) * w)) = true) (aI (fits_i64 oS : (fits .i64 (e + ((2 : Int) * w))) = true) (aI (fun (h1 : (iGe (e + ((2 : Int) * w)) 0) = true) => have _gh1 := iGe_t h1; aI (nat_Shl m.natAbs (e + ((2 : Int) * w)) oS oS) (have f4 := L_shl m.natAbs ((e + ((2 : Int) * w))).toNat; aI (root_Sqrt (m.natAbs * 2 ^ ((e + ((2 : Int) * w))).toNat) oS) (have f3 := L_sub (m.natAbs * 2 ^ ((e + ((2 : Int) * w))).toNat) (rt (m.natAbs * 2 ^ ((e + ((2 : Int) * w))).toNat) * rt (m.natAbs * 2 ^ ((e + ((2 : Int) * w))).toNat)); have f2 := rt_L (m.natAbs * 2 ^ ((e + ((2 : Int) * w))).toNat); (vsub_tup2 (vsub_of (congrArg N (by unfold sqF; rw [sq_p c4 oO]))) (vsub_of (congrArg V.bool (sqX_p c4 oO (sq_p c4 oO)))) : vsub (.tup [(N (rt (m.natAbs * 2 ^ ((e + ((2 : Int) * w))).toNat))), (.bool (iEq ((lim ((m.natAbs * 2 ^ ((e + ((2 : Int) * w))).toNat) - rt (m.natAbs * 2 ^ ((e + ((2 : Int) * w))).toNat) * rt (m.natAbs * 2 ^ ((e + ((2 : Int) * w))).toNat))).length : Int) 0))]) (.tup [(N (sqF m e w)), (.bool (sqX m e w))]))))) (fun (h5 : (iGe (e + ((2 : Int) * w)) 0) = false) => have _gh5 := iGe_f h5; aI (fits_i64 oS : (fits .i64 ((0 : Int) - (e + ((2 : Int) * w)))) = true) (aI (nat_Shr m.natAbs ((0 : Int) - (e + ((2 : Int) * w))) oS oS) (have f11 := L_div m.natAbs (2 ^ (((0 : Int) - (e + ((2 : Int) * w)))).toNat); aI (root_Sqrt (m.natAbs / 2 ^ (((0 : Int) - (e + ((2 : Int) * w)))).toNat) oS) (have f10 := L_sub (m.natAbs / 2 ^ (((0 : Int) - (e + ((2 : Int) * w)))).toNat) (rt (m.natAbs / 2 ^ (((0 : Int) - (e + ((2 : Int) * w)))).toNat) * rt (m.natAbs / 2 ^ (((0 : Int) - (e + ((2 : Int) * w)))).toNat)); have f9 := rt_L (m.natAbs / 2 ^ (((0 : Int) - (e + ((2 : Int) * w)))).toNat); aI (fun (h6 : (iEq ((lim ((m.natAbs / 2 ^ (((0 : Int) - (e + ((2 : Int) * w)))).toNat) - rt (m.natAbs / 2 ^ (((0 : Int) - (e + ((2 : Int) * w)))).toNat) * rt (m.natAbs / 2 ^ (((0 : Int) - (e + ((2 : Int) * w)))).toNat))).length : Int) 0) = true) => have _gh6 := iEq_t h6; aI (fits_i64 oS : (fits .i64 ((0 : Int) - (e + ((2 : Int) * w)))) = true) (aI (nat_Low m.natAbs ((0 : Int) - (e + ((2 : Int) * w))) oS oS) (have f7 := L_mod m.natAbs (2 ^ (((0 : Int) - (e + ((2 : Int) * w)))).toNat); (vsub_tup2 (vsub_of (congrArg N (by unfold sqF; rw [sq_n c4 oO]))) (vsub_of (congrArg V.bool (sqX_n c4 c2 oO (sq_n c4 oO) oO))) : vsub (.tup [(N (rt (m.natAbs / 2 ^ (((0 : Int) - (e + ((2 : Int) * w)))).toNat))), (.bool (iEq ((lim (m.natAbs % 2 ^ (((0 : Int) - (e + ((2 : Int) * w)))).toNat)).length : Int) 0))]) (.tup [(N (sqF m e w)), (.bool (sqX m e w))]))))) (fun (h8 : (iEq ((lim ((m.natAbs / 2 ^ (((0 : Int) - (e + ((2 : Int) * w)))).toNat) - rt (m.natAbs / 2 ^ (((0 : Int) - (e + ((2 : Int) * w)))).toNat) * rt (m.natAbs / 2 ^ (((0 : Int) - (e + ((2 : Int) * w)))).toNat))).length : Int) 0) = false) => have _gh8 := iEq_f h8; (vsub_tup2 (vsub_of (congrArg N (by unfold sqF; rw [sq_n c4 oO]))) (vsub_of (congrArg V.bool (sqX_no (sq_n c4 oO) oO))) : vsub (.tup [(N (rt (m.natAbs / 2 ^ (((0 : Int) - (e + ((2 : Int) * w)))).toNat))), (.bool false)]) (.tup [(N (sqF m e w)), (.bool (sqX m e w))]))))))))))) (by kernel_rfl))
theorem rad_rounded (m : Int) (e : Int) (w : Int) (up : Bool) (c0 : L (m).natAbs ≤ 60) (c1 : (-5000 : Int) ≤ e ∧ e ≤ 5000) (c2 : vdb m e = true) (c3 : (-9223372036854775808 : Int) ≤ w ∧ w ≤ 9223372036854775807) : Impl Tryz.prog Amb 100 [(yV m e), (.int .i64 w), (.bool up)] (srT m e w up) := by
  have ez : (0 : Int) - w = -w := Int.zero_sub w
  have s0 := sign_range m
  have zl : L (0 : Int).natAbs = 0 := L_zero
  have z1 : L 1 ≤ 1 := L_le (by decide)
  exact impl_ob hP hAmb Tryz.func100 (by kernel_rfl) (.lit <| .call (.bool (decide (0 ≤ w ∧ w ≤ 4096))) <| .lit <| .both (.lits 3 <| .ret) (.lits 2 <| .call (.int .i64 ((m).sign)) <| .lit <| .both (.lits 3 <| .ret) (.lits 2 <| .call (.tup [(N (sqF m e w)), (.bool (sqX m e w))]) <| .both (.lits 3 <| .both (.lit <| .call (N 1) <| .lit <| .call (N ((sqF m e w) + 1)) <| .lit <| .call (zV (sgn false ((sqF m e w) + 1))) <| .lit <| .yes <| .lit <| .call (mkT (sgn false ((sqF m e w) + 1)) ((0 : Int) - w)) <| .lits 2 <| .ret) (.lit <| .call (zV (sgn false (sqF m e w))) <| .lit <| .yes <| .lit <| .call (mkT (sgn false (sqF m e w)) ((0 : Int) - w)) <| .lits 2 <| .ret)) (.lits 4 <| .call (zV (sgn false (sqF m e w))) <| .lit <| .yes <| .lit <| .call (mkT (sgn false (sqF m e w)) ((0 : Int) - w)) <| .lits 2 <| .ret))))
    (cast_ob (aI True.intro (aI (rad_works w oS) (aI (fun (h1 : (!(decide (0 ≤ w ∧ w ≤ 4096))) = true) => have _gh1 := of_decide_eq_false (notb_t h1); (Y_zero (sr_1 oO) : vsub (.tup [(.agg [(.bool false), .nil, (.int .i64 0)]), (.int .i64 1)]) (srT m e w up))) (fun (h2 : (!(decide (0 ≤ w ∧ w ≤ 4096))) = false) => have _gh2 := of_decide_eq_true (notb_f h2); aI (dy_Sign m e oS) (have f17 := sign_range m; aI (fun (h3 : (iLt ((m).sign) 0) = true) => have _gh3 := iLt_t h3; (Y_zero (sr_2 oO oO) : vsub (.tup [(.agg [(.bool false), .nil, (.int .i64 0)]), (.int .i64 4)]) (srT m e w up))) (fun (h4 : (iLt ((m).sign) 0) = false) => have _gh4 := iLt_f h4; aI (rad_sqrt m e w oS oS oS oS oS) (have f16 := sq_L (m := m) (e := e) (w := w) oS oS oS; aI (fun (h5 : up = true) => aI (fun (h6 : (!(sqX m e w)) = true) => aI (nat_Of 1 oS) (aI (nat_Add (sqF m e w) 1 oS oS) (have f9 := L_add (sqF m e w) 1; aI (int_Nat false ((sqF m e w) + 1) oS) (have f8 := L_sgn false ((sqF m e w) + 1); aI (fits_i64 oS : (fits .i64 ((0 : Int) - w)) = true) (aI (dy_Make (sgn false ((sqF m e w) + 1)) ((0 : Int) - w) oS oS) (have f7 := mk_facts (sgn false ((sqF m e w) + 1)) ((0 : Int) - w); (Y_of (sr_y oO oO (sqV_up rfl (by simp_all)) ez) : vsub (mkT (sgn false ((sqF m e w) + 1)) ((0 : Int) - w)) (srT m e w up)))))))) (fun (h10 : (!(sqX m e w)) = false) => aI (int_Nat false (sqF m e w) oS) (have f12 := L_sgn false (sqF m e w); aI (fits_i64 oS : (fits .i64 ((0 : Int) - w)) = true) (aI (dy_Make (sgn false (sqF m e w)) ((0 : Int) - w) oS oS) (have f11 := mk_facts (sgn false (sqF m e w)) ((0 : Int) - w); (Y_of (sr_y oO oO (sqV_no rfl (by simp_all)) ez) : vsub (mkT (sgn false (sqF m e w)) ((0 : Int) - w)) (srT m e w up))))))) (fun (h13 : up = false) => aI (int_Nat false (sqF m e w) oS) (have f15 := L_sgn false (sqF m e w); aI (fits_i64 oS : (fits .i64 ((0 : Int) - w)) = true) (aI (dy_Make (sgn false (sqF m e w)) ((0 : Int) - w) oS oS) (have f14 := mk_facts (sgn false (sqF m e w)) ((0 : Int) - w); (Y_of (sr_y oO oO (sqV_no rfl (by simp_all)) ez) : vsub (mkT (sgn false (sqF m e w)) ((0 : Int) - w)) (srT m e w up))))))))))))) (by kernel_rfl))
theorem rad_SqrtFloor (m : Int) (e : Int) (w : Int) (c0 : L (m).natAbs ≤ 60) (c1 : (-5000 : Int) ≤ e ∧ e ≤ 5000) (c2 : vdb m e = true) (c3 : (-9223372036854775808 : Int) ≤ w ∧ w ≤ 9223372036854775807) : Impl Tryz.prog Amb 34 [(yV m e), (.int .i64 w)] (srT m e w false) := by
  exact impl_ob hP hAmb Tryz.func34 (by kernel_rfl) (.lits 2 <| .call (srT m e w false) <| .lits 2 <| .ret)
    (cast_ob (aI True.intro (aI (rad_rounded m e w false oS oS oS oS) (have f1 := sr_facts m e w false; (vsub_refl (srT m e w false))))) (by kernel_rfl))
theorem rad_SqrtCeil (m : Int) (e : Int) (w : Int) (c0 : L (m).natAbs ≤ 60) (c1 : (-5000 : Int) ≤ e ∧ e ≤ 5000) (c2 : vdb m e = true) (c3 : (-9223372036854775808 : Int) ≤ w ∧ w ≤ 9223372036854775807) : Impl Tryz.prog Amb 35 [(yV m e), (.int .i64 w)] (srT m e w true) := by
  exact impl_ob hP hAmb Tryz.func35 (by kernel_rfl) (.lits 2 <| .call (srT m e w true) <| .lits 2 <| .ret)
    (cast_ob (aI True.intro (aI (rad_rounded m e w true oS oS oS oS) (have f1 := sr_facts m e w true; (vsub_refl (srT m e w true))))) (by kernel_rfl))
theorem rad_small (m : Int) (e : Int) (n : Int) (f : Int) (a : Int) (b : Int) (c0 : L (m).natAbs ≤ 8192) (c1 : (-65536 : Int) ≤ e ∧ e ≤ 65536) (c2 : L (n).natAbs ≤ 8192) (c3 : (-65536 : Int) ≤ f ∧ f ≤ 65536) : Impl Tryz.prog Amb 99 [(yV m e), (yV n f), (.int .i64 a), (.int .i64 b)] (ecT m e n f a b) := by
  exact impl_ob hP hAmb Tryz.func99 (by kernel_rfl) (.lits 5 <| .both (.lits 10 <| .ret) (.lits 3 <| .both (.lits 7 <| .ret) (.lits 3 <| .call (.bool (smB m e n f)) <| .lits 3 <| .both (.lits 3 <| .ret) (.lits 3 <| .ret))))
    (cast_ob (aI True.intro (aI (fun (h1 : (iNe a 0) = true) => have _gh1 := iNe_t h1; (W_ec0 (by first | exact not_smB (by assumption) | omega) : vsub (e0T 3) (ecT m e n f a b))) (fun (h2 : (iNe a 0) = false) => have _gh2 := iNe_f h2; aI (fun (h3 : (iNe b 0) = true) => have _gh3 := iNe_t h3; (W_ec0 (by first | exact not_smB (by assumption) | omega) : vsub (e0T 3) (ecT m e n f a b))) (fun (h4 : (iNe b 0) = false) => have _gh4 := iNe_f h4; aI (ar_Small m e n f oA oA oA oA) (aI (fun (h5 : (!(smB m e n f)) = true) => (W_ec0 (by first | exact not_smB (by assumption) | omega) : vsub (e0T 3) (ecT m e n f a b))) (fun (h6 : (!(smB m e n f)) = false) => (W_ec1 (is_smB oO oO (by assumption)) : vsub (.tup [(wV m e n f), (.int .i64 0)]) (ecT m e n f a b)))))))) (by kernel_rfl))
theorem rad_Sqrt (m : Int) (e : Int) (n : Int) (f : Int) (w : Int) (c0 : L (m).natAbs ≤ 60) (c1 : (-5000 : Int) ≤ e ∧ e ≤ 5000) (c2 : vdb m e = true) (c3 : L (n).natAbs ≤ 60) (c4 : (-5000 : Int) ≤ f ∧ f ≤ 5000) (c5 : vdb n f = true) (c6 : (-9223372036854775808 : Int) ≤ w ∧ w ≤ 9223372036854775807) : Impl Tryz.prog Amb 32 [(wV m e n f), (.int .i64 w)] (stT m e n f w) := by
  have ez : (0 : Int) - w = -w := Int.zero_sub w
  have s0 := sign_range m
  have zl : L (0 : Int).natAbs = 0 := L_zero
  have z1 : L 1 ≤ 1 := L_le (by decide)
  have s1 := sign_range n
  have q0 := fun h : 0 ≤ w ∧ w ≤ 4096 => sqV_L (up := false) c0 c1 h
  have q1 := fun h : 0 ≤ w ∧ w ≤ 4096 => sqV_L (up := true) c3 c4 h
  exact impl_ob hP hAmb Tryz.func32 (by kernel_rfl) (.lit <| .call (.bool (decide (0 ≤ w ∧ w ≤ 4096))) <| .lit <| .both (.lits 3 <| .ret) (.lits 2 <| .call (.int .i64 ((n).sign)) <| .lit <| .both (.lits 3 <| .ret) (.lits 2 <| .call (.int .i64 ((m).sign)) <| .lit <| .both (.lits 3 <| .ret) (.lits 2 <| .call (srT m e w false) <| .lits 3 <| .call (srT n f w true) <| .lits 4 <| .call (ecT (srM m e w false) (srX m e w false) (srM n f w true) (srX n f w true) (srE m e w false) (srE n f w true)) <| .lits 2 <| .ret))))
    (cast_ob (aI True.intro (aI (rad_works w (by first | omega | assumption | (have := q0 oO; have := q1 oO; omega))) (aI (fun (h1 : (!(decide (0 ≤ w ∧ w ≤ 4096))) = true) => have _gh1 := of_decide_eq_false (notb_t h1); (st_bad oO (st_1 oO) : vsub (e0T 1) (stT m e n f w))) (fun (h2 : (!(decide (0 ≤ w ∧ w ≤ 4096))) = false) => have _gh2 := of_decide_eq_true (notb_f h2); aI (dy_Sign n f (by first | omega | assumption | (have := q0 oO; have := q1 oO; omega))) (have f10 := sign_range n; aI (fun (h3 : (iLt ((n).sign) 0) = true) => have _gh3 := iLt_t h3; (st_bad oO (st_4 oO oO) : vsub (e0T 4) (stT m e n f w))) (fun (h4 : (iLt ((n).sign) 0) = false) => have _gh4 := iLt_f h4; aI (dy_Sign m e (by first | omega | assumption | (have := q0 oO; have := q1 oO; omega))) (have f9 := sign_range m; aI (fun (h5 : (iLt ((m).sign) 0) = true) => have _gh5 := iLt_t h5; (st_bad oO (st_5 oO oO oO) : vsub (e0T 5) (stT m e n f w))) (fun (h6 : (iLt ((m).sign) 0) = false) => have _gh6 := iLt_f h6; aI (rad_SqrtFloor m e w (by first | omega | assumption | (have := q0 oO; have := q1 oO; omega)) (by first | omega | assumption | (have := q0 oO; have := q1 oO; omega)) (by first | omega | assumption | (have := q0 oO; have := q1 oO; omega)) (by first | omega | assumption | (have := q0 oO; have := q1 oO; omega))) (have f8 := sr_facts m e w false; aI (rad_SqrtCeil n f w (by first | omega | assumption | (have := q0 oO; have := q1 oO; omega)) (by first | omega | assumption | (have := q0 oO; have := q1 oO; omega)) (by first | omega | assumption | (have := q0 oO; have := q1 oO; omega)) (by first | omega | assumption | (have := q0 oO; have := q1 oO; omega))) (have f7 := sr_facts n f w true; aI (rad_small (srM m e w false) (srX m e w false) (srM n f w true) (srX n f w true) (srE m e w false) (srE n f w true) (by first | omega | assumption | (have := q0 oO; have := q1 oO; omega)) (by first | omega | assumption | (have := q0 oO; have := q1 oO; omega)) (by first | omega | assumption | (have := q0 oO; have := q1 oO; omega)) (by first | omega | assumption | (have := q0 oO; have := q1 oO; omega))) ((st_ec oO oO oO : vsub (ecT (srM m e w false) (srX m e w false) (srM n f w true) (srX n f w true) (srE m e w false) (srE n f w true)) (stT m e n f w))))))))))))) (by kernel_rfl))
theorem L_cast (a : Nat) : L (a : Int).natAbs = L a := by rw [Int.natAbs_natCast]
theorem ZB_of {x y : Int} {a b : Bool} (h : x = y) (k : a = b) : vsub (.tup [.agg [.bool (decide (x < 0)), N x.natAbs], .bool a]) (.tup [.agg [.bool (decide (y < 0)), N y.natAbs], .bool b]) := by subst h; subst k; exact vsub_refl _
theorem r12_root (m : Int) (e : Int) (w : Int) (c0 : L (m).natAbs ≤ 60) (c1 : (-5000 : Int) ≤ e ∧ e ≤ 5000) (c2 : vdb m e = true) (c3 : (0 : Int) ≤ w ∧ w ≤ 4096) (c4 : 0 ≤ m) : Impl Tryz.prog Amb 101 [(yV m e), (.int .i64 w)] (.tup [(zV ((sqF m e w) : Int)), (.bool (sqX m e w))]) := by
  have e0 := L_len m.natAbs
  have e1 := L_pos_iff m.natAbs
  have fl := sq_L (m := m) (e := e) (w := w) oO oO oO
  exact impl_ob hP hAmb Tryz.func101 (by kernel_rfl) (.lits 2 <| .call (.agg [(.bool (decide ((dv m e).num < 0))), (N (((dv m e).num).natAbs)), (N ((dv m e).den))]) <| .lit <| .yes <| .lit <| .call (zV (flr (dv m e) ((2 : Int) * w))) <| .lits 3 <| .call (.tup [(N (rt ((flr (dv m e) ((2 : Int) * w)).natAbs))), (N ((flr (dv m e) ((2 : Int) * w)).natAbs - rt ((flr (dv m e) ((2 : Int) * w)).natAbs) * rt ((flr (dv m e) ((2 : Int) * w)).natAbs)))]) <| .lit <| .both (.lits 5 <| .yes <| .lits 3 <| .both (.lits 8 <| .call (zV (sgn false (rt ((flr (dv m e) ((2 : Int) * w)).natAbs)))) <| .lits 2 <| .ret) (.lits 10 <| .call (zV (sgn false (rt ((flr (dv m e) ((2 : Int) * w)).natAbs)))) <| .lits 2 <| .ret)) (.lits 8 <| .call (zV (sgn false (rt ((flr (dv m e) ((2 : Int) * w)).natAbs)))) <| .lits 2 <| .ret))
    (cast_ob (aI True.intro (aI (r08_Rat m e oS oS oS) (have f11 := (dv_L ‹vdb m e = true› oS : L (dv m e).num.natAbs ≤ L (m).natAbs + 2050 ∧ L (dv m e).den ≤ 2050); aI (fits_i64 oS : (fits .i64 ((2 : Int) * w)) = true) (aI (r08_Cut (dv m e) ((2 : Int) * w) oS oS oS) (have f10 := flr_L (dv m e) ((2 : Int) * w); aI (r04_Sqrt ((flr (dv m e) ((2 : Int) * w)).natAbs) oS) (have f9 := L_sub ((flr (dv m e) ((2 : Int) * w)).natAbs) (rt ((flr (dv m e) ((2 : Int) * w)).natAbs) * rt ((flr (dv m e) ((2 : Int) * w)).natAbs)); have f8 := rt_L ((flr (dv m e) ((2 : Int) * w)).natAbs); aI (fun (h1 : (iEq ((lim ((flr (dv m e) ((2 : Int) * w)).natAbs - rt ((flr (dv m e) ((2 : Int) * w)).natAbs) * rt ((flr (dv m e) ((2 : Int) * w)).natAbs))).length : Int) 0) = true) => have _gh1 := iEq_t h1; aI (fits_i64 oS : (fits .i64 ((-2) * w)) = true) (aI (fun (h2 : (iGe e ((-2) * w)) = true) => have _gh2 := iGe_t h2; aI (r05_Nat false (rt ((flr (dv m e) ((2 : Int) * w)).natAbs)) oS) (have f3 := L_sgn false (rt ((flr (dv m e) ((2 : Int) * w)).natAbs)); (ZB_of (sgn_f _) (sqX_y2 rfl oO (by first | (symm; exact decide_eq_true (.inr oO)) | (rw [iEq_dec, decide_eq_decide]; omega) | (unfold iGe; rw [decide_eq_decide]; omega))) : vsub (.tup [(zV (sgn false (rt ((flr (dv m e) ((2 : Int) * w)).natAbs)))), (.bool true)]) (.tup [(zV ((sqF m e w) : Int)), (.bool (sqX m e w))])))) (fun (h4 : (iGe e ((-2) * w)) = false) => have _gh4 := iGe_f h4; aI (r05_Nat false (rt ((flr (dv m e) ((2 : Int) * w)).natAbs)) oS) (have f5 := L_sgn false (rt ((flr (dv m e) ((2 : Int) * w)).natAbs)); (ZB_of (sgn_f _) (sqX_y2 rfl oO (by first | (symm; exact decide_eq_true (.inr oO)) | (rw [iEq_dec, decide_eq_decide]; omega) | (unfold iGe; rw [decide_eq_decide]; omega))) : vsub (.tup [(zV (sgn false (rt ((flr (dv m e) ((2 : Int) * w)).natAbs)))), (.bool (iEq ((lim m.natAbs).length : Int) 0))]) (.tup [(zV ((sqF m e w) : Int)), (.bool (sqX m e w))])))))) (fun (h6 : (iEq ((lim ((flr (dv m e) ((2 : Int) * w)).natAbs - rt ((flr (dv m e) ((2 : Int) * w)).natAbs) * rt ((flr (dv m e) ((2 : Int) * w)).natAbs))).length : Int) 0) = false) => have _gh6 := iEq_f h6; aI (r05_Nat false (rt ((flr (dv m e) ((2 : Int) * w)).natAbs)) oS) (have f7 := L_sgn false (rt ((flr (dv m e) ((2 : Int) * w)).natAbs)); (ZB_of (sgn_f _) (sqX_no rfl oO) : vsub (.tup [(zV (sgn false (rt ((flr (dv m e) ((2 : Int) * w)).natAbs)))), (.bool false)]) (.tup [(zV ((sqF m e w) : Int)), (.bool (sqX m e w))])))))))))) (by kernel_rfl))
theorem r12_SqrtFloor (m : Int) (e : Int) (w : Int) (c0 : L (m).natAbs ≤ 60) (c1 : (-5000 : Int) ≤ e ∧ e ≤ 5000) (c2 : vdb m e = true) (c3 : (-9223372036854775808 : Int) ≤ w ∧ w ≤ 9223372036854775807) : Impl Tryz.prog Amb 36 [(yV m e), (.int .i64 w)] (srT m e w false) := by
  have ez : (0 : Int) - w = -w := Int.zero_sub w
  have s0 := sign_range m
  have zl : L (0 : Int).natAbs = 0 := L_zero
  have z1 : L 1 ≤ 1 := L_le (by decide)
  exact impl_ob hP hAmb Tryz.func36 (by kernel_rfl) (.lit <| .call (.bool (decide (0 ≤ w ∧ w ≤ 4096))) <| .lit <| .both (.lits 3 <| .ret) (.lit <| .both (.lits 3 <| .ret) (.lits 2 <| .call (.tup [(zV ((sqF m e w) : Int)), (.bool (sqX m e w))]) <| .lits 3 <| .yes <| .lit <| .call (mkT ((sqF m e w) : Int) ((0 : Int) - w)) <| .lits 2 <| .ret)))
    (cast_ob (aI True.intro (aI (r11_Work w oS) (aI (fun (h1 : (!(decide (0 ≤ w ∧ w ≤ 4096))) = true) => have _gh1 := of_decide_eq_false (notb_t h1); (Y_zero (sr_1 oO) : vsub (.tup [(.agg [(.bool false), .nil, (.int .i64 0)]), (.int .i64 1)]) (srT m e w false))) (fun (h2 : (!(decide (0 ≤ w ∧ w ≤ 4096))) = false) => have _gh2 := of_decide_eq_true (notb_f h2); aI (fun (h3 : (decide (m < 0)) = true) => have _gh3 := of_decide_eq_true h3; (Y_zero (sr_2 oO oO) : vsub (.tup [(.agg [(.bool false), .nil, (.int .i64 0)]), (.int .i64 4)]) (srT m e w false))) (fun (h4 : (decide (m < 0)) = false) => have _gh4 := of_decide_eq_false h4; aI (r12_root m e w oS oS oS oS oS) (have f7 := L_cast (sqF m e w); have f6 := sq_L (m := m) (e := e) (w := w) oS oS oS; aI (fits_i64 oS : (fits .i64 ((0 : Int) - w)) = true) (aI (r08_Make ((sqF m e w) : Int) ((0 : Int) - w) oS oS) (have f5 := mk_facts ((sqF m e w) : Int) ((0 : Int) - w); (Y_of (sr_y oO oO (sqV_noI (by simp_all)) ez) : vsub (mkT ((sqF m e w) : Int) ((0 : Int) - w)) (srT m e w false)))))))))) (by kernel_rfl))
theorem r12_SqrtCeil (m : Int) (e : Int) (w : Int) (c0 : L (m).natAbs ≤ 60) (c1 : (-5000 : Int) ≤ e ∧ e ≤ 5000) (c2 : vdb m e = true) (c3 : (-9223372036854775808 : Int) ≤ w ∧ w ≤ 9223372036854775807) : Impl Tryz.prog Amb 37 [(yV m e), (.int .i64 w)] (srT m e w true) := by
  have ez : (0 : Int) - w = -w := Int.zero_sub w
  have s0 := sign_range m
  have zl : L (0 : Int).natAbs = 0 := L_zero
  have z1 : L 1 ≤ 1 := L_le (by decide)
  exact impl_ob hP hAmb Tryz.func37 (by kernel_rfl) (.lit <| .call (.bool (decide (0 ≤ w ∧ w ≤ 4096))) <| .lit <| .both (.lits 3 <| .ret) (.lit <| .both (.lits 3 <| .ret) (.lits 2 <| .call (.tup [(zV ((sqF m e w) : Int)), (.bool (sqX m e w))]) <| .lits 2 <| .both (.lits 2 <| .call (zV (1 : Int)) <| .lit <| .call (zV (((sqF m e w) : Int) + (1 : Int))) <| .lits 3 <| .yes <| .lit <| .call (mkT (((sqF m e w) : Int) + (1 : Int)) ((0 : Int) - w)) <| .lits 2 <| .ret) (.lits 2 <| .yes <| .lit <| .call (mkT ((sqF m e w) : Int) ((0 : Int) - w)) <| .lits 2 <| .ret))))
    (cast_ob (aI True.intro (aI (r11_Work w oS) (aI (fun (h1 : (!(decide (0 ≤ w ∧ w ≤ 4096))) = true) => have _gh1 := of_decide_eq_false (notb_t h1); (Y_zero (sr_1 oO) : vsub (.tup [(.agg [(.bool false), .nil, (.int .i64 0)]), (.int .i64 1)]) (srT m e w true))) (fun (h2 : (!(decide (0 ≤ w ∧ w ≤ 4096))) = false) => have _gh2 := of_decide_eq_true (notb_f h2); aI (fun (h3 : (decide (m < 0)) = true) => have _gh3 := of_decide_eq_true h3; (Y_zero (sr_2 oO oO) : vsub (.tup [(.agg [(.bool false), .nil, (.int .i64 0)]), (.int .i64 4)]) (srT m e w true))) (fun (h4 : (decide (m < 0)) = false) => have _gh4 := of_decide_eq_false h4; aI (r12_root m e w oS oS oS oS oS) (have f12 := L_cast (sqF m e w); have f11 := sq_L (m := m) (e := e) (w := w) oS oS oS; aI (fun (h5 : (!(sqX m e w)) = true) => aI (r05_Of 1 oS) (have f8 := (L_i64 oS : L (1 : Int).natAbs ≤ 2); aI (r05_Add ((sqF m e w) : Int) (1 : Int) oS oS) (have f7 := L_abs_add ((sqF m e w) : Int) (1 : Int); aI (fits_i64 oS : (fits .i64 ((0 : Int) - w)) = true) (aI (r08_Make (((sqF m e w) : Int) + (1 : Int)) ((0 : Int) - w) oS oS) (have f6 := mk_facts (((sqF m e w) : Int) + (1 : Int)) ((0 : Int) - w); (Y_of (sr_y oO oO (sqV_upI (by simp_all)) ez) : vsub (mkT (((sqF m e w) : Int) + (1 : Int)) ((0 : Int) - w)) (srT m e w true))))))) (fun (h9 : (!(sqX m e w)) = false) => aI (fits_i64 oS : (fits .i64 ((0 : Int) - w)) = true) (aI (r08_Make ((sqF m e w) : Int) ((0 : Int) - w) oS oS) (have f10 := mk_facts ((sqF m e w) : Int) ((0 : Int) - w); (Y_of (sr_y oO oO (sqV_noI (by simp_all)) ez) : vsub (mkT ((sqF m e w) : Int) ((0 : Int) - w)) (srT m e w true))))))))))) (by kernel_rfl))
theorem r12_Sqrt (m : Int) (e : Int) (n : Int) (f : Int) (w : Int) (c0 : L (m).natAbs ≤ 60) (c1 : (-5000 : Int) ≤ e ∧ e ≤ 5000) (c2 : vdb m e = true) (c3 : L (n).natAbs ≤ 60) (c4 : (-5000 : Int) ≤ f ∧ f ≤ 5000) (c5 : vdb n f = true) (c6 : (-9223372036854775808 : Int) ≤ w ∧ w ≤ 9223372036854775807) : Impl Tryz.prog Amb 33 [(wV m e n f), (.int .i64 w)] (stT m e n f w) := by
  have ez : (0 : Int) - w = -w := Int.zero_sub w
  have s0 := sign_range m
  have zl : L (0 : Int).natAbs = 0 := L_zero
  have z1 : L 1 ≤ 1 := L_le (by decide)
  have s1 := sign_range n
  have q0 := fun h : 0 ≤ w ∧ w ≤ 4096 => sqV_L (up := false) c0 c1 h
  have q1 := fun h : 0 ≤ w ∧ w ≤ 4096 => sqV_L (up := true) c3 c4 h
  exact impl_ob hP hAmb Tryz.func33 (by kernel_rfl) (.lit <| .call (.bool (decide (0 ≤ w ∧ w ≤ 4096))) <| .lit <| .both (.lits 3 <| .ret) (.lit <| .both (.lits 3 <| .ret) (.lit <| .both (.lits 3 <| .ret) (.lits 2 <| .call (srT m e w false) <| .lits 3 <| .call (srT n f w true) <| .lits 7 <| .call (.bool (smB (srM m e w false) (srX m e w false) (srM n f w true) (srX n f w true))) <| .lit <| .both (.lits 3 <| .ret) (.lits 3 <| .ret)))))
    (cast_ob (aI True.intro (aI (r11_Work w (by first | omega | assumption | (have := q0 oO; have := q1 oO; omega))) (aI (fun (h1 : (!(decide (0 ≤ w ∧ w ≤ 4096))) = true) => have _gh1 := of_decide_eq_false (notb_t h1); (st_bad oO (st_1 oO) : vsub (e0T 1) (stT m e n f w))) (fun (h2 : (!(decide (0 ≤ w ∧ w ≤ 4096))) = false) => have _gh2 := of_decide_eq_true (notb_f h2); aI (fun (h3 : (decide (n < 0)) = true) => have _gh3 := of_decide_eq_true h3; (st_bad oO (st_4 oO oO) : vsub (e0T 4) (stT m e n f w))) (fun (h4 : (decide (n < 0)) = false) => have _gh4 := of_decide_eq_false h4; aI (fun (h5 : (decide (m < 0)) = true) => have _gh5 := of_decide_eq_true h5; (st_bad oO (st_5 oO oO oO) : vsub (e0T 5) (stT m e n f w))) (fun (h6 : (decide (m < 0)) = false) => have _gh6 := of_decide_eq_false h6; aI (r12_SqrtFloor m e w (by first | omega | assumption | (have := q0 oO; have := q1 oO; omega)) (by first | omega | assumption | (have := q0 oO; have := q1 oO; omega)) (by first | omega | assumption | (have := q0 oO; have := q1 oO; omega)) (by first | omega | assumption | (have := q0 oO; have := q1 oO; omega))) (have f10 := sr_facts m e w false; aI (r12_SqrtCeil n f w (by first | omega | assumption | (have := q0 oO; have := q1 oO; omega)) (by first | omega | assumption | (have := q0 oO; have := q1 oO; omega)) (by first | omega | assumption | (have := q0 oO; have := q1 oO; omega)) (by first | omega | assumption | (have := q0 oO; have := q1 oO; omega))) (have f9 := sr_facts n f w true; aI (r11_Small (srM m e w false) (srX m e w false) (srM n f w true) (srX n f w true) (by first | omega | assumption | (have := q0 oO; have := q1 oO; omega)) (by first | omega | assumption | (have := q0 oO; have := q1 oO; omega)) (by first | omega | assumption | (have := q0 oO; have := q1 oO; omega)) (by first | omega | assumption | (have := q0 oO; have := q1 oO; omega))) (aI (fun (h7 : (!(smB (srM m e w false) (srX m e w false) (srM n f w true) (srX n f w true))) = true) => (st_no oO oO oO (by assumption) : vsub (e0T 3) (stT m e n f w))) (fun (h8 : (!(smB (srM m e w false) (srX m e w false) (srM n f w true) (srX n f w true))) = false) => (st_yes oO oO oO (sr_fit c0 c1 oO oO).1 (sr_fit c3 c4 oO oO).1 (by assumption) : vsub (.tup [(wV (srM m e w false) (srX m e w false) (srM n f w true) (srX n f w true)), (.int .i64 0)]) (stT m e n f w)))))))))))) (by kernel_rfl))
end Go.Proofs.YtmbpoibhamlkbaaGreatDoor

namespace Go.Proofs.YtmbpoibhamlkbaaGreatDoor
theorem mul_pw (a b : Rat) (k : Nat) : (a * b) ^ k = a ^ k * b ^ k := by
  induction k with
  | zero => rw [Rat.pow_zero, Rat.pow_zero, Rat.pow_zero, Rat.mul_one]
  | succ k ih => rw [Rat.pow_succ, Rat.pow_succ, Rat.pow_succ, ih]; grind
theorem pw_add (a : Rat) (j k : Nat) : a ^ (j + k) = a ^ j * a ^ k := by
  induction k with
  | zero => rw [Rat.pow_zero, Rat.mul_one]; rfl
  | succ k ih => rw [← Nat.add_assoc, Rat.pow_succ, Rat.pow_succ, ih, Rat.mul_assoc]
theorem dv_pw (m e : Int) (k : Nat) : (dv m e) ^ k = dv (m ^ k) ((k : Int) * e) := by
  induction k with
  | zero => rw [Rat.pow_zero, Int.pow_zero, Int.natCast_zero, Int.zero_mul, dv_int]; rfl
  | succ k ih => rw [Rat.pow_succ, ih, ← dv_mul, Int.pow_succ]; congr 1; rw [Int.natCast_succ, Int.add_mul, Int.one_mul]
theorem pw_nonneg {a : Rat} (h : 0 ≤ a) (k : Nat) : 0 ≤ a ^ k := by
  induction k with
  | zero => rw [Rat.pow_zero]; decide
  | succ k ih => rw [Rat.pow_succ]; exact Rat.mul_nonneg ih h
theorem pw_mono {a b : Rat} (h : 0 ≤ a) (hab : a ≤ b) (k : Nat) : a ^ k ≤ b ^ k := by
  induction k with
  | zero => rw [Rat.pow_zero, Rat.pow_zero]; exact Rat.le_refl
  | succ k ih =>
    rw [Rat.pow_succ, Rat.pow_succ]
    have h1 := Rat.mul_le_mul_of_nonneg_right ih h
    have h2 := Rat.mul_le_mul_of_nonneg_left hab (pw_nonneg (Rat.le_trans h hab) k)
    exact Rat.le_trans h1 h2
theorem sq_pw (a : Rat) (k : Nat) : a ^ (2 * k) = (a * a) ^ k := by
  rw [mul_pw, ← pw_add]; congr 1; omega
theorem neg_even (a : Rat) {k : Nat} (h : k % 2 = 0) : (-a) ^ k = a ^ k := by
  obtain ⟨j, rfl⟩ : ∃ j, k = 2 * j := ⟨k / 2, by omega⟩
  rw [sq_pw, sq_pw]; congr 1; grind
theorem neg_odd (a : Rat) {k : Nat} (h : k % 2 = 1) : (-a) ^ k = -(a ^ k) := by
  obtain ⟨j, rfl⟩ : ∃ j, k = 2 * j + 1 := ⟨k / 2, by omega⟩
  rw [Rat.pow_succ, Rat.pow_succ, sq_pw, sq_pw, show (-a) * (-a) = a * a by grind]; grind
theorem even_nonneg (a : Rat) {k : Nat} (h : k % 2 = 0) : 0 ≤ a ^ k := by
  obtain ⟨j, rfl⟩ : ∃ j, k = 2 * j := ⟨k / 2, by omega⟩
  rw [sq_pw]
  refine pw_nonneg ?_ j
  rcases (Rat.le_total : 0 ≤ a ∨ a ≤ 0) with q | q
  · exact Rat.mul_nonneg q q
  · have := Rat.mul_nonneg (show 0 ≤ -a by grind) (show 0 ≤ -a by grind); grind
theorem odd_mono {a b : Rat} (hab : a ≤ b) {k : Nat} (h : k % 2 = 1) : a ^ k ≤ b ^ k := by
  rcases (Rat.le_total : 0 ≤ a ∨ a ≤ 0) with q | q
  · exact pw_mono q hab k
  · rcases (Rat.le_total : 0 ≤ b ∨ b ≤ 0) with q2 | q2
    · have h1 : a ^ k ≤ 0 := by have := pw_nonneg (show 0 ≤ -a by grind) k; rw [neg_odd a h] at this; grind
      exact Rat.le_trans h1 (pw_nonneg q2 k)
    · have := pw_mono (show 0 ≤ -b by grind) (show -b ≤ -a by grind) k
      rw [neg_odd a h, neg_odd b h] at this; grind
theorem even_anti {a b : Rat} (hab : a ≤ b) (hb : b ≤ 0) {k : Nat} (h : k % 2 = 0) : b ^ k ≤ a ^ k := by
  have := pw_mono (show 0 ≤ -b by grind) (show -b ≤ -a by grind) k
  rwa [neg_even a h, neg_even b h] at this
theorem pw_pos {a : Rat} (h : 0 < a) (k : Nat) : 0 < a ^ k := Rat.pow_pos h
theorem zp_n {a : Rat} {k : Int} (h : 0 ≤ k) : a ^ k = a ^ k.toNat := by
  obtain ⟨j, rfl⟩ := Int.eq_ofNat_of_zero_le h
  exact Rat.zpow_natCast a j
theorem zp_i {a : Rat} {k : Int} (h : k < 0) : a ^ k = (a ^ (-k).toNat)⁻¹ := by
  obtain ⟨j, hj⟩ := Int.eq_ofNat_of_zero_le (show 0 ≤ -k by omega)
  rw [show k = -(j : Int) by omega, Rat.zpow_neg, Int.neg_neg, Rat.zpow_natCast]; rfl
theorem zp_0 (a : Rat) : a ^ (0 : Int) = 1 := Rat.zpow_zero a
theorem even_wRem (k : Int) : wRem k 2 = 0 ↔ k % 2 = 0 := by
  unfold wRem; rw [← Int.dvd_iff_tmod_eq_zero]; omega
end Go.Proofs.YtmbpoibhamlkbaaGreatDoor

namespace Go.Proofs.YtmbpoibhamlkbaaGreatDoor
def pwL (m e n f k : Int) : Rat := if 0 < k ∧ k % 2 = 0 ∧ m ≤ 0 ∧ 0 ≤ n then qmin (qmin (dv m e ^ k) (dv n f ^ k)) 0 else qmin (dv m e ^ k) (dv n f ^ k)
def pwH (m e n f k : Int) : Rat := if 0 < k ∧ k % 2 = 0 ∧ m ≤ 0 ∧ 0 ≤ n then qmax (qmax (dv m e ^ k) (dv n f ^ k)) 0 else qmax (dv m e ^ k) (dv n f ^ k)
def PwO (m e n f k a b c d : Int) : Prop := dv a b ^ k = pwL m e n f k ∧ dv c d ^ k = pwH m e n f k
theorem zero_zp {k : Int} (h : 0 < k) : (0 : Rat) ^ k = 0 := by
  rw [zp_n (by omega)]
  obtain ⟨j, hj⟩ : ∃ j, k.toNat = j + 1 := ⟨k.toNat - 1, by omega⟩
  rw [hj, Rat.pow_succ, Rat.mul_zero]
theorem dv_le0 {m e : Int} : dv m e ≤ 0 ↔ m ≤ 0 := by rw [← dv_zero e, dv_le]
theorem dv_ge0 {m e : Int} : 0 ≤ dv m e ↔ 0 ≤ m := by rw [← dv_zero e, dv_le]
theorem pwo_z {m e n f k : Int} (hk : 0 < k) (h2 : k % 2 = 0) (hm : m ≤ 0) (hn : 0 ≤ n) :
    pwL m e n f k = 0 ∧ (dv n f < -dv m e → pwH m e n f k = dv m e ^ k) ∧ (-dv m e ≤ dv n f → pwH m e n f k = dv n f ^ k) := by
  unfold pwL pwH
  rw [if_pos ⟨hk, h2, hm, hn⟩, if_pos ⟨hk, h2, hm, hn⟩, zp_n (a := dv m e) (by omega), zp_n (a := dv n f) (by omega)]
  have hK : k.toNat % 2 = 0 := by omega
  have hX := dv_le0 (e := e).2 hm
  have hY := dv_ge0 (e := f).2 hn
  have p1 := even_nonneg (dv m e) hK
  have p2 := even_nonneg (dv n f) hK
  refine ⟨?_, fun h => ?_, fun h => ?_⟩
  · rw [qmin_ge (le_qmin p1 p2)]
  · have h3 := pw_mono hY (Rat.le_of_lt h) k.toNat
    rw [neg_even _ hK] at h3
    rw [qmax_ge (b := dv n f ^ k.toNat) h3, qmax_ge p1]
  · have h3 := pw_mono (show 0 ≤ -dv m e by grind) h k.toNat
    rw [neg_even _ hK] at h3
    rw [qmax_le h3, qmax_ge p2]
theorem pwo_z1 {m e n f k : Int} (hk : 0 < k) (h2 : k % 2 = 0) (hm : m ≤ 0) (hn : 0 ≤ n) (hc : 0 < cmpD (-m) e n f) : PwO m e n f k 0 0 m e := by
  obtain ⟨a, b, _⟩ := pwo_z (e := e) (f := f) hk h2 hm hn
  have := cmpD_pos.1 hc
  rw [dv_neg] at this
  exact ⟨by rw [dv_zero, zero_zp hk, a], (b this).symm⟩
theorem pwo_z2 {m e n f k : Int} (hk : 0 < k) (h2 : k % 2 = 0) (hm : m ≤ 0) (hn : 0 ≤ n) (hc : cmpD (-m) e n f ≤ 0) : PwO m e n f k 0 0 n f := by
  obtain ⟨a, _, b⟩ := pwo_z (e := e) (f := f) hk h2 hm hn
  have : ¬ dv n f < dv (-m) e := fun q => by have := cmpD_pos.2 q; omega
  rw [dv_neg] at this
  exact ⟨by rw [dv_zero, zero_zp hk, a], (b (Rat.not_lt.1 this)).symm⟩
theorem pwo_0 {m e n f k : Int} (h : k = 0) : PwO m e n f k (mkM 1 0) (mkX 1 0) (mkM 1 0) (mkX 1 0) := by
  subst h
  unfold PwO pwL pwH
  rw [if_neg (by omega), if_neg (by omega), zp_0, zp_0, zp_0, qmin_self, qmax_self]
  exact ⟨rfl, rfl⟩
theorem pwo_off {m e n f k : Int} (h : ¬ (0 < k ∧ k % 2 = 0 ∧ m ≤ 0 ∧ 0 ≤ n)) : pwL m e n f k = qmin (dv m e ^ k) (dv n f ^ k) ∧ pwH m e n f k = qmax (dv m e ^ k) (dv n f ^ k) := by
  unfold pwL pwH; rw [if_neg h, if_neg h]; exact ⟨rfl, rfl⟩
theorem pwo_le {m e n f k : Int} (h : ¬ (0 < k ∧ k % 2 = 0 ∧ m ≤ 0 ∧ 0 ≤ n)) (hl : dv m e ^ k ≤ dv n f ^ k) : PwO m e n f k m e n f := by
  unfold PwO; rw [(pwo_off h).1, (pwo_off h).2, qmin_le hl, qmax_le hl]; exact ⟨rfl, rfl⟩
theorem pwo_ge {m e n f k : Int} (h : ¬ (0 < k ∧ k % 2 = 0 ∧ m ≤ 0 ∧ 0 ≤ n)) (hl : dv n f ^ k ≤ dv m e ^ k) : PwO m e n f k n f m e := by
  unfold PwO; rw [(pwo_off h).1, (pwo_off h).2, qmin_ge hl, qmax_ge hl]; exact ⟨rfl, rfl⟩
theorem pwo_n1 {m e n f k : Int} (ho : dv m e ≤ dv n f) (hk : 0 < k) (h2 : k % 2 = 0) (hn : n < 0) : PwO m e n f k n f m e := by
  refine pwo_ge (by omega) ?_
  rw [zp_n (by omega), zp_n (by omega)]
  exact even_anti ho (dv_le0.2 (by omega)) (by omega)
theorem pwo_n2 {m e n f k : Int} (ho : dv m e ≤ dv n f) (hk : k < 0) (h2 : k % 2 = 0) (hn : n < 0) : PwO m e n f k m e n f := by
  refine pwo_le (by omega) ?_
  rw [zp_i hk, zp_i hk]
  have hY : 0 < -dv n f := by have := dv_lt0 (e := f).2 hn; grind
  refine inv_anti ?_ (even_anti ho (dv_le0.2 (by omega)) (by omega))
  rw [← neg_even _ (show (-k).toNat % 2 = 0 by omega)]
  exact pw_pos hY _
theorem pwo_p1 {m e n f k : Int} (ho : dv m e ≤ dv n f) (hk : 0 < k) (h : k % 2 ≠ 0 ∨ 0 < m) : PwO m e n f k m e n f := by
  refine pwo_le (by omega) ?_
  rw [zp_n (by omega), zp_n (by omega)]
  rcases h with h | h
  · exact odd_mono ho (by omega)
  · exact pw_mono (dv_ge0.2 (by omega)) ho _
theorem pwo_p2 {m e n f k : Int} (ho : dv m e ≤ dv n f) (hk : k < 0) (h : (k % 2 ≠ 0 ∧ n < 0) ∨ 0 < m) : PwO m e n f k n f m e := by
  refine pwo_ge (by omega) ?_
  rw [zp_i hk, zp_i hk]
  rcases h with ⟨h, hn⟩ | h
  · have hY : 0 < -dv n f := by have := dv_lt0 (e := f).2 hn; grind
    refine inv_anti2 ?_ (odd_mono ho (by omega))
    have := pw_pos hY (-k).toNat
    rw [neg_odd _ (by omega)] at this
    grind
  · exact inv_anti (pw_pos (dv_pos.2 h) _) (pw_mono (dv_ge0.2 (by omega)) ho _)
def mgA (m e k : Int) : Rat := dv (m.natAbs : Int) e ^ k
def mgF (m e k w : Int) : Nat := (flr (mgA m e k) w).natAbs
def mgX (m e k w : Int) : Bool := decide (dv (flr (mgA m e k) w) (-w) = mgA m e k)
theorem mgA_nonneg (m e k : Int) : 0 ≤ mgA m e k := by
  unfold mgA
  have h0 : 0 ≤ dv (m.natAbs : Int) e := dv_ge0.2 (by omega)
  by_cases hk : 0 ≤ k
  · rw [zp_n hk]; exact pw_nonneg h0 _
  · rw [zp_i (by omega)]
    rcases Rat.le_iff_lt_or_eq.1 (pw_nonneg h0 (-k).toNat) with h | h
    · exact Rat.le_of_lt (Rat.inv_pos.2 h)
    · rw [← h, Rat.inv_zero]; exact Rat.le_refl
theorem mgF_int (m e k w : Int) : (mgF m e k w : Int) = flr (mgA m e k) w := by
  have := flr_nonneg (mgA_nonneg m e k) w
  unfold mgF; omega
theorem flr_lt1 {r : Rat} {w : Int} (h0 : 0 ≤ r) (h : r < dv 1 (-w)) : flr r w = 0 := by
  have h1 := flr_nonneg h0 w
  refine Decidable.byContradiction fun q => ?_
  have h2 : dv 1 (-w) ≤ dv (flr r w) (-w) := dv_le.2 (by omega)
  have := Rat.le_trans h2 (flr_le r w)
  exact absurd h (Rat.not_lt.2 this)
theorem mg_p {m e k : Int} (hk : 0 ≤ k) : mgA m e k = dv ((m.natAbs ^ k.toNat : Nat) : Int) (k * e) := by
  unfold mgA
  rw [zp_n hk, dv_pw, Int.natCast_pow, Int.toNat_of_nonneg hk]
theorem mg_p1 {m e k w : Int} (hk : 0 ≤ k) (h : 0 ≤ k * e + w) : m.natAbs ^ k.toNat * 2 ^ (k * e + w).toNat = mgF m e k w ∧ true = mgX m e k w := by
  have e1 : flr (mgA m e k) w = ((m.natAbs ^ k.toNat : Nat) : Int) * 2 ^ (k * e + w).toNat := by rw [mg_p hk, flr_dv, if_pos h]
  refine ⟨?_, ?_⟩
  · unfold mgF; rw [e1, abs_shl, Int.natAbs_natCast]
  · unfold mgX
    rw [e1, mg_p hk, dv_at (m := ((m.natAbs ^ k.toNat : Nat) : Int)) (show -w ≤ k * e by omega), show (k * e - -w).toNat = (k * e + w).toNat by omega]
    simp
theorem dv_down {x : Nat} {c w : Int} (h : c + w < 0) : dv (((x / 2 ^ (0 - (c + w)).toNat : Nat)) : Int) (-w) = dv (x : Int) c ↔ x % 2 ^ (0 - (c + w)).toNat = 0 := by
  have h2 : (x : Int) = ((x / 2 ^ (0 - (c + w)).toNat : Nat) : Int) * 2 ^ (0 - (c + w)).toNat + ((x % 2 ^ (0 - (c + w)).toNat : Nat) : Int) := by
    have := Nat.div_add_mod x (2 ^ (0 - (c + w)).toNat)
    rw [pow_cast, ← Int.natCast_mul, ← Int.natCast_add]
    congr 1
    rw [Nat.mul_comm]; exact this.symm
  have h3 : dv (x : Int) c = dv (((x / 2 ^ (0 - (c + w)).toNat : Nat)) : Int) (-w) + dv ((x % 2 ^ (0 - (c + w)).toNat : Nat) : Int) c := by
    rw [dv_at (m := (((x / 2 ^ (0 - (c + w)).toNat : Nat)) : Int)) (show c ≤ -w by omega), ← dv_add, show (-w - c).toNat = (0 - (c + w)).toNat by omega, ← h2]
  constructor
  · intro q
    have : dv ((x % 2 ^ (0 - (c + w)).toNat : Nat) : Int) c = 0 := by grind
    have := dv_eq0.1 this; omega
  · intro q
    rw [h3, q]
    have : dv ((0 : Nat) : Int) c = 0 := dv_zero c
    rw [this]; grind
theorem mg_p2 {m e k w : Int} (hk : 0 ≤ k) (h : k * e + w < 0) : m.natAbs ^ k.toNat / 2 ^ (0 - (k * e + w)).toNat = mgF m e k w ∧ iEq ((lim (m.natAbs ^ k.toNat % 2 ^ (0 - (k * e + w)).toNat)).length : Int) 0 = mgX m e k w := by
  have e1 : flr (mgA m e k) w = ((m.natAbs ^ k.toNat / 2 ^ (0 - (k * e + w)).toNat : Nat) : Int) := by
    rw [mg_p hk, flr_dv, if_neg (by omega), Int.natCast_ediv, pow_cast, show 0 - (k * e + w) = -(k * e + w) by omega]
  refine ⟨?_, ?_⟩
  · unfold mgF; rw [e1, Int.natAbs_natCast]
  · unfold mgX
    rw [iEq_dec, decide_eq_decide, e1, mg_p hk, dv_down h, len_zero]
theorem mg_i {m e k : Int} (hk : k < 0) : mgA m e k = (dv ((m.natAbs ^ (-k).toNat : Nat) : Int) (-(k * e)))⁻¹ := by
  unfold mgA
  rw [zp_i hk, dv_pw, Int.natCast_pow, Int.toNat_of_nonneg (by omega), Int.neg_mul]
theorem dv_inv_mul {p : Nat} {c w : Int} : (dv (p : Int) (-c))⁻¹ * 2 ^ w = (2 : Rat) ^ (c + w) / ((p : Int) : Rat) := by
  unfold dv
  have h1 : (2 : Rat) ^ (-c) * 2 ^ c = 1 := by rw [← zp_add, Int.add_left_neg, zp_zero]
  have h2 : ((2 : Rat) ^ (-c))⁻¹ = 2 ^ c := by
    have := zp_ne (-c); have := Rat.mul_inv_cancel ((2 : Rat) ^ (-c)) this; grind
  rw [Rat.div_def, zp_add]
  by_cases hp : ((p : Int) : Rat) = 0
  · rw [hp]
    have z : (0 : Rat)⁻¹ = 0 := Rat.inv_zero
    rw [Rat.zero_mul, z]; grind
  · have h3 : (((p : Int) : Rat) * 2 ^ (-c))⁻¹ = ((p : Int) : Rat)⁻¹ * 2 ^ c := by
      have a1 := Rat.mul_inv_cancel _ hp
      have a2 : (((p : Int) : Rat) * 2 ^ (-c)) ≠ 0 := fun q => (Rat.mul_eq_zero.1 q).elim hp (zp_ne _)
      have a3 := Rat.mul_inv_cancel _ a2
      grind
    rw [h3]; grind
theorem mg_div {A : Rat} {w : Int} {a b : Nat} (hb : 0 < b) (h : A * 2 ^ w = ((a : Int) : Rat) / ((b : Int) : Rat)) : flr A w = ((a / b : Nat) : Int) ∧ (dv ((a / b : Nat) : Int) (-w) = A ↔ a % b = 0) := by
  have hbR : ((b : Int) : Rat) ≠ 0 := fun q => by have := Rat.intCast_eq_zero_iff.1 q; omega
  refine ⟨by unfold flr; rw [h, floor_div _ _ (by omega), Int.natCast_ediv], ?_⟩
  have h2 : ((a : Int) : Rat) = ((b : Int) : Rat) * (((a / b : Nat) : Int) : Rat) + (((a % b : Nat) : Int) : Rat) := by
    rw [← Rat.intCast_mul, ← Rat.intCast_add, ← Int.natCast_mul, ← Int.natCast_add, Nat.div_add_mod]
  have h3 : A * 2 ^ w * ((b : Int) : Rat) = ((a : Int) : Rat) := by
    rw [h, Rat.div_def, Rat.mul_assoc, Rat.inv_mul_cancel _ hbR, Rat.mul_one]
  have h4 : (2 : Rat) ^ (-w) * 2 ^ w = 1 := by rw [← zp_add, Int.add_left_neg, zp_zero]
  unfold dv
  constructor
  · intro q
    rw [← q] at h3
    have : (((a % b : Nat) : Int) : Rat) = 0 := by grind
    have := Rat.intCast_eq_zero_iff.1 this; omega
  · intro q
    rw [q] at h2
    have e0 : (((0 : Nat) : Int) : Rat) = 0 := Rat.intCast_zero
    rw [e0] at h2
    have h5 : A * 2 ^ w = (((a / b : Nat) : Int) : Rat) := by
      have : ((b : Int) : Rat) * (A * 2 ^ w) = ((b : Int) : Rat) * (((a / b : Nat) : Int) : Rat) := by grind
      grind
    rw [← h5]; grind
theorem zp_natN (n : Nat) : (2 : Rat) ^ (n : Int) = (((2 ^ n : Nat) : Int) : Rat) := by rw [zp_nat, pow_cast]
theorem mg_n1 {m e k w : Int} (hk : k < 0) (hm : m ≠ 0) (h : 0 ≤ k * e + w) :
    1 * 2 ^ (k * e + w).toNat / m.natAbs ^ (-k).toNat = mgF m e k w ∧ iEq ((lim (1 * 2 ^ (k * e + w).toNat % m.natAbs ^ (-k).toNat)).length : Int) 0 = mgX m e k w := by
  have hp : 0 < m.natAbs ^ (-k).toNat := Nat.pow_pos (by omega)
  have h1 : mgA m e k * 2 ^ w = (((1 * 2 ^ (k * e + w).toNat : Nat) : Int) : Rat) / (((m.natAbs ^ (-k).toNat : Nat) : Int) : Rat) := by
    rw [mg_i hk, dv_inv_mul, Nat.one_mul, ← zp_natN, Int.toNat_of_nonneg h]
  obtain ⟨a, b⟩ := mg_div hp h1
  refine ⟨by unfold mgF; rw [a, Int.natAbs_natCast], ?_⟩
  unfold mgX
  rw [iEq_dec, decide_eq_decide, a, b, len_zero]
theorem mg_n2 {m e k w : Int} (hk : k < 0) (hm : m ≠ 0) (h : k * e + w < 0) :
    1 / (m.natAbs ^ (-k).toNat * 2 ^ (0 - (k * e + w)).toNat) = mgF m e k w ∧ iEq ((lim (1 % (m.natAbs ^ (-k).toNat * 2 ^ (0 - (k * e + w)).toNat))).length : Int) 0 = mgX m e k w := by
  have hp : 0 < m.natAbs ^ (-k).toNat * 2 ^ (0 - (k * e + w)).toNat := Nat.mul_pos (Nat.pow_pos (by omega)) (Nat.pow_pos (by omega))
  have h1 : mgA m e k * 2 ^ w = (((1 : Nat) : Int) : Rat) / (((m.natAbs ^ (-k).toNat * 2 ^ (0 - (k * e + w)).toNat : Nat) : Int) : Rat) := by
    rw [mg_i hk, dv_inv_mul, Int.natCast_mul, Rat.intCast_mul, ← zp_natN, Int.toNat_of_nonneg (by omega)]
    have h2 : (2 : Rat) ^ (k * e + w) * 2 ^ (0 - (k * e + w)) = 1 := by rw [← zp_add, show k * e + w + (0 - (k * e + w)) = 0 by omega, zp_zero]
    have hb : (((m.natAbs ^ (-k).toNat : Nat) : Int) : Rat) ≠ 0 := fun q => by
      have := Rat.intCast_eq_zero_iff.1 q
      have : 0 < m.natAbs ^ (-k).toNat := Nat.pow_pos (by omega)
      omega
    have hz := zp_ne (0 - (k * e + w))
    have e1 : (((1 : Nat) : Int) : Rat) = 1 := Rat.intCast_one
    rw [e1, Rat.div_def, Rat.div_def]
    generalize (((m.natAbs ^ (-k).toNat : Nat) : Int) : Rat) = p at *
    generalize (2 : Rat) ^ (k * e + w) = u at *
    generalize (2 : Rat) ^ (0 - (k * e + w)) = v at *
    have a1 := Rat.mul_inv_cancel p hb
    have a2 : p * v ≠ 0 := fun q => (Rat.mul_eq_zero.1 q).elim hb hz
    have a3 := Rat.mul_inv_cancel (p * v) a2
    grind
  obtain ⟨a, b⟩ := mg_div hp h1
  refine ⟨by unfold mgF; rw [a, Int.natAbs_natCast], ?_⟩
  unfold mgX
  rw [iEq_dec, decide_eq_decide, a, b, len_zero]
theorem dv_top {m e : Int} (hm : m ≠ 0) : dv (m.natAbs : Int) e < dv 1 (topD m e) ∧ dv 1 (topD m e - 1) ≤ dv (m.natAbs : Int) e := by
  have h1 := nbits_lt m.natAbs
  have h2 := nbits_le (show m.natAbs ≠ 0 by omega)
  have h3 := nbits_pos (show m.natAbs ≠ 0 by omega)
  have ht : topD m e = (nbits m.natAbs : Int) + e := by unfold topD; rw [if_neg hm]
  constructor
  · rw [dv_at (m := 1) (show e ≤ topD m e by omega), dv_lt, Int.one_mul, pow_cast, show (topD m e - e).toNat = nbits m.natAbs by omega]; omega
  · rw [dv_at (m := 1) (show e ≤ topD m e - 1 by omega), dv_le, Int.one_mul, pow_cast, show (topD m e - 1 - e).toNat = nbits m.natAbs - 1 by omega]; omega
theorem dv1_le {a b : Int} (h : a ≤ b) : dv 1 a ≤ dv 1 b := by
  rw [dv_at h, dv_le, Int.one_mul, pow_cast]
  have := Nat.pow_pos (n := (b - a).toNat) (show 0 < 2 by omega); omega
theorem dv1_pw (t : Int) (k : Nat) : dv 1 t ^ k = dv 1 ((k : Int) * t) := by rw [dv_pw, Int.one_pow]
theorem dv1_inv (t : Int) : (dv 1 t)⁻¹ = dv 1 (-t) := by
  unfold dv
  have h1 : (2 : Rat) ^ t * 2 ^ (-t) = 1 := zp_cancel t
  have h2 := Rat.mul_inv_cancel _ (zp_ne t)
  rw [Rat.intCast_one, Rat.one_mul, Rat.one_mul]
  grind
theorem dv1_pos (t : Int) : 0 < dv 1 t := dv_pos.2 (by decide)
theorem pw_lt {a b : Rat} (h : 0 ≤ a) (hab : a < b) {k : Nat} (hk : 0 < k) : a ^ k < b ^ k := by
  obtain ⟨j, rfl⟩ : ∃ j, k = j + 1 := ⟨k - 1, by omega⟩
  rw [Rat.pow_succ, Rat.pow_succ]
  have hb : 0 < b := by grind
  have h1 := pw_mono h (Rat.le_of_lt hab) j
  have h2 := Rat.mul_le_mul_of_nonneg_right h1 h
  have h3 : b ^ j * a < b ^ j * b := Rat.mul_lt_mul_of_pos_left hab (pw_pos hb j)
  grind
theorem mg_out {m e k w : Int} (hm : m ≠ 0) (h : (0 < k ∧ k * topD m e ≤ -w) ∨ (k < 0 ∧ w < (0 - k) * (topD m e - 1))) : 0 = mgF m e k w ∧ false = mgX m e k w := by
  obtain ⟨t1, t2⟩ := dv_top (e := e) hm
  have h0 : 0 < dv (m.natAbs : Int) e := dv_pos.2 (by omega)
  have key : 0 < mgA m e k ∧ mgA m e k < dv 1 (-w) := by
    unfold mgA
    rcases h with ⟨hk, h⟩ | ⟨hk, h⟩
    · rw [zp_n (by omega)]
      refine ⟨pw_pos h0 _, ?_⟩
      have h1 := pw_lt (Rat.le_of_lt h0) t1 (show 0 < k.toNat by omega)
      rw [dv1_pw, Int.toNat_of_nonneg (by omega)] at h1
      have h2 := dv1_le h
      grind
    · rw [zp_i hk]
      have hp := pw_pos h0 (-k).toNat
      refine ⟨Rat.inv_pos.2 hp, ?_⟩
      have h1 := pw_mono (Rat.le_of_lt (dv1_pos _)) t2 (-k).toNat
      rw [dv1_pw, Int.toNat_of_nonneg (by omega)] at h1
      have h2 := inv_anti (dv1_pos _) h1
      rw [dv1_inv] at h2
      have h3 : dv 1 (-(-k * (topD m e - 1))) < dv 1 (-w) := by
        rw [show (0 : Int) - k = -k by omega] at h
        have : -(-k * (topD m e - 1)) < -w := by omega
        generalize -(-k * (topD m e - 1)) = u at *
        rw [dv_at (m := 1) (show u ≤ -w by omega), dv_lt, Int.one_mul, pow_cast]
        have : 2 ^ 1 ≤ 2 ^ (-w - u).toNat := Nat.pow_le_pow_right (by omega) (by omega)
        omega
      grind
  have e1 := flr_lt1 (Rat.le_of_lt key.1) key.2
  refine ⟨by unfold mgF; rw [e1]; rfl, ?_⟩
  unfold mgX
  rw [e1, dv_zero]
  exact (decide_eq_false (by grind)).symm
def pwR (m e k w : Int) (up : Bool) : Int := if up = true then cei (dv m e ^ k) w else flr (dv m e ^ k) w
theorem zp_sign {m e k : Int} : (m < 0 ∧ k % 2 ≠ 0 → dv m e ^ k = -mgA m e k) ∧ (¬ (m < 0 ∧ k % 2 ≠ 0) → dv m e ^ k = mgA m e k) := by
  have hneg : m < 0 → dv m e = -dv (m.natAbs : Int) e := fun h => by rw [← dv_neg]; congr 1; omega
  have hpos : 0 ≤ m → dv m e = dv (m.natAbs : Int) e := fun h => by congr 1; omega
  unfold mgA
  by_cases hk : 0 ≤ k
  · rw [zp_n hk, zp_n hk]
    constructor
    · intro q; rw [hneg q.1, neg_odd _ (by omega)]
    · intro q
      by_cases hm : m < 0
      · rw [hneg hm, neg_even _ (by omega)]
      · rw [hpos (by omega)]
  · rw [zp_i (by omega), zp_i (by omega)]
    constructor
    · intro q
      rw [hneg q.1, neg_odd _ (by omega)]
      have : ∀ x : Rat, (-x)⁻¹ = -(x⁻¹) := fun x => by grind
      rw [this]
    · intro q
      by_cases hm : m < 0
      · rw [hneg hm, neg_even _ (by omega)]
      · rw [hpos (by omega)]
theorem cei_mg (A : Rat) (w : Int) : cei A w = flr A w + (if dv (flr A w) (-w) = A then 0 else 1) := by
  split
  · rename_i h
    have h1 : cei A w ≤ flr A w := cei_le.2 (by rw [h]; exact Rat.le_refl)
    have h2 := flr_cei (Rat.le_refl (a := A)) w
    omega
  · rename_i h
    have h1 : cei A w ≤ flr A w + 1 := cei_le.2 (Rat.le_of_lt (flr_lt A w))
    have h2 := flr_cei (Rat.le_refl (a := A)) w
    have h3 : cei A w ≠ flr A w := fun q => h (by
      have a1 := flr_le A w
      have a2 := cei_ge A w
      rw [q] at a2; grind)
    omega
theorem pw_fin {m e k w : Int} {up b g : Bool} {x : Nat} (hb : b = decide (m < 0 ∧ k % 2 ≠ 0)) (hg : g = ((!(up == b)) && !mgX m e k w)) (hx : x = mgF m e k w + (if g = true then 1 else 0)) : sgn b x = pwR m e k w up := by
  have hc := cei_mg (mgA m e k) w
  have hF := mgF_int m e k w
  have hX : (dv (flr (mgA m e k) w) (-w) = mgA m e k) = (mgX m e k w = true) := by unfold mgX; rw [decide_eq_true_eq]
  simp only [hX] at hc
  obtain ⟨s1, s2⟩ := zp_sign (m := m) (e := e) (k := k)
  unfold pwR
  by_cases q : m < 0 ∧ k % 2 ≠ 0
  · rw [s1 q, show cei (-mgA m e k) w = -(flr (mgA m e k) w) by unfold cei; rw [show -(-mgA m e k) = mgA m e k by grind], show flr (-mgA m e k) w = -(cei (mgA m e k) w) by unfold cei; omega]
    rw [decide_eq_true q] at hb
    subst hb; subst hg; subst hx
    unfold sgn
    cases up <;> cases hq : mgX m e k w <;> simp [hq] at hc ⊢ <;> omega
  · rw [s2 q]
    rw [decide_eq_false q] at hb
    subst hb; subst hg; subst hx
    unfold sgn
    cases up <;> cases hq : mgX m e k w <;> simp [hq] at hc ⊢ <;> omega
end Go.Proofs.YtmbpoibhamlkbaaGreatDoor

namespace Go.Proofs.YtmbpoibhamlkbaaGreatDoor
def tlB (m e k : Int) : Bool := decide (m ≠ 0 ∧ ((k < 0 ∧ 2048 < ((0 : Int) - k) * ((0 : Int) - topD m e)) ∨ (0 ≤ k ∧ 2048 < k * (topD m e - 1))))
theorem tl_1 {m e k : Int} (h : m = 0) : false = tlB m e k := (decide_eq_false (by omega)).symm
theorem tl_2 {m e k : Int} (h : m ≠ 0) (hk : k < 0) : iGt (((0 : Int) - k) * ((0 : Int) - topD m e)) 2048 = tlB m e k := by
  unfold tlB iGt
  rw [decide_eq_decide]
  exact ⟨fun q => ⟨h, .inl ⟨hk, q⟩⟩, fun q => q.2.elim (fun r => r.2) fun r => by omega⟩
theorem tl_3 {m e k : Int} (h : m ≠ 0) (hk : 0 ≤ k) : iGt (k * (topD m e - 1)) 2048 = tlB m e k := by
  unfold tlB iGt
  rw [decide_eq_decide]
  exact ⟨fun q => ⟨h, .inr ⟨hk, q⟩⟩, fun q => q.2.elim (fun r => by omega) fun r => r.2⟩
theorem tl_big {m e k : Int} (h : tlB m e k = true) : dv 1 2049 ≤ mgA m e k := by
  obtain ⟨hm, h⟩ := of_decide_eq_true h
  obtain ⟨t1, t2⟩ := dv_top (e := e) hm
  have h0 : 0 < dv (m.natAbs : Int) e := dv_pos.2 (by omega)
  unfold mgA
  rcases h with ⟨hk, h⟩ | ⟨hk, h⟩
  · rw [zp_i hk]
    have h1 := pw_mono (Rat.le_of_lt h0) (Rat.le_of_lt t1) (-k).toNat
    rw [dv1_pw, Int.toNat_of_nonneg (by omega)] at h1
    have h2 := inv_anti (pw_pos h0 _) h1
    rw [dv1_inv] at h2
    refine Rat.le_trans (dv1_le ?_) h2
    have e1 : ((0 : Int) - k) * ((0 : Int) - topD m e) = -(-k * topD m e) := by rw [Int.zero_sub, Int.zero_sub, Int.mul_neg]
    omega
  · rw [zp_n hk]
    have h1 := pw_mono (Rat.le_of_lt (dv1_pos _)) t2 k.toNat
    rw [dv1_pw, Int.toNat_of_nonneg hk] at h1
    exact Rat.le_trans (dv1_le (by omega)) h1
theorem topD_mk {c f : Int} (h : mkE c f = 0) (hc : c ≠ 0) : topD (mkM c f) (mkX c f) = (nbits c.natAbs : Int) + f := by
  have e1 : mkM c f = dm c := by unfold mkM; rw [if_pos h]
  have e2 : mkX c f = f + (tz c.natAbs : Int) := by unfold mkX; rw [if_pos ⟨h, hc⟩]; rfl
  have h1 := dm_nbits hc
  have h2 : c.natAbs = (dm c).natAbs * 2 ^ tz c.natAbs := by
    have := congrArg Int.natAbs (dm_mul c)
    rw [abs_shl] at this; exact this.symm
  have h3 := nbits_lt (dm c).natAbs
  have h4 : c.natAbs < 2 ^ (nbits (dm c).natAbs + tz c.natAbs) := by
    rw [Nat.pow_add]
    exact Nat.lt_of_le_of_lt (Nat.le_of_eq h2) (Nat.mul_lt_mul_of_pos_right h3 (Nat.pow_pos (by omega)))
  have h5 := nbits_of_lt h4
  unfold topD
  rw [e1, if_neg (dm_ne hc), e2]
  omega
theorem end_big {c w : Int} (hE : mkE c (-w) = 0) (hw : 0 ≤ w) (hc : 2 ^ (2049 + w).toNat ≤ c.natAbs) : endB (mkM c (-w)) (mkX c (-w)) = false := by
  have hp := Nat.pow_pos (n := (2049 + w).toNat) (show 0 < 2 by omega)
  have h0 : c ≠ 0 := by omega
  have h1 := nbits_lt c.natAbs
  have h2 := (Nat.pow_lt_pow_iff_right (a := 2) (by omega)).1 (Nat.lt_of_le_of_lt hc h1)
  unfold endB
  rw [topD_mk hE h0, decide_eq_false (by omega)]
  rfl
theorem big_dv {c w : Int} (hw : 0 ≤ w) (h : dv 1 2049 ≤ dv c (-w)) : 2 ^ (2049 + w).toNat ≤ c.natAbs := by
  rw [dv_at (m := 1) (show -w ≤ 2049 by omega), dv_le, Int.one_mul, pow_cast, show (2049 - -w).toNat = (2049 + w).toNat by omega] at h
  omega
theorem en_big {lo hi X : Rat} {w : Int} (hw : 0 ≤ w ∧ w ≤ 4096) (h1 : lo ≤ X) (h2 : X ≤ hi) (hX : dv 1 2049 ≤ X ∨ dv 1 2049 ≤ -X) : enE lo hi w = 3 := by
  unfold enE
  rw [if_pos hw]
  unfold ecE
  rw [if_neg]
  rintro ⟨a, b, c⟩
  unfold smB at c
  simp only [Bool.and_eq_true] at c
  rcases hX with h | h
  · have := end_big b hw.1 (big_dv hw.1 (Rat.le_trans h (Rat.le_trans h2 (cei_ge hi w))))
    rw [this] at c; exact absurd c.2 (by decide)
  · have h3 : dv 1 2049 ≤ dv (-(flr lo w)) (-w) := by
      rw [dv_neg]
      have := flr_le lo w
      grind
    have h4 := big_dv hw.1 h3
    rw [Int.natAbs_neg] at h4
    have := end_big a hw.1 h4
    rw [this] at c; exact absurd c.1.2 (by decide)
theorem pw_between (m e n f k : Int) : (pwL m e n f k ≤ dv m e ^ k ∧ dv m e ^ k ≤ pwH m e n f k) ∧ (pwL m e n f k ≤ dv n f ^ k ∧ dv n f ^ k ≤ pwH m e n f k) := by
  have a := qmin_both (dv m e ^ k) (dv n f ^ k)
  have b := qmax_both (dv m e ^ k) (dv n f ^ k)
  have c := qmin_both (qmin (dv m e ^ k) (dv n f ^ k)) 0
  have d := qmax_both (qmax (dv m e ^ k) (dv n f ^ k)) 0
  unfold pwL pwH
  split
  · exact ⟨⟨Rat.le_trans c.1 a.1, Rat.le_trans b.1 d.1⟩, ⟨Rat.le_trans c.1 a.2, Rat.le_trans b.2 d.1⟩⟩
  · exact ⟨⟨a.1, b.1⟩, ⟨a.2, b.2⟩⟩
theorem tl_abs {m e k : Int} (h : tlB m e k = true) : dv 1 2049 ≤ dv m e ^ k ∨ dv 1 2049 ≤ -(dv m e ^ k) := by
  have hb := tl_big h
  obtain ⟨s1, s2⟩ := zp_sign (m := m) (e := e) (k := k)
  by_cases q : m < 0 ∧ k % 2 ≠ 0
  · right; rw [s1 q]; grind
  · left; rw [s2 q]; exact hb
theorem tl_en {m e n f k w : Int} (hw : 0 ≤ w ∧ w ≤ 4096) (h : tlB m e k = true ∨ tlB n f k = true) : enE (pwL m e n f k) (pwH m e n f k) w = 3 := by
  obtain ⟨⟨a, b⟩, ⟨c, d⟩⟩ := pw_between m e n f k
  rcases h with h | h
  · exact en_big hw a b (tl_abs h)
  · exact en_big hw c d (tl_abs h)
def pqE (m e n f k w : Int) : Int := if (0 ≤ w ∧ w ≤ 4096) ∧ -64 ≤ k ∧ k ≤ 64 then (if k < 0 ∧ m = 0 ∧ n = 0 then 2 else if k < 0 ∧ m ≤ 0 ∧ 0 ≤ n then 5 else enE (pwL m e n f k) (pwH m e n f k) w) else 1
def pqV (x m e n f k w : Int) : Int := if ((0 ≤ w ∧ w ≤ 4096) ∧ -64 ≤ k ∧ k ≤ 64) ∧ ¬ (k < 0 ∧ m ≤ 0 ∧ 0 ≤ n) then x else 0
def pqT (m e n f k w : Int) : V := .tup [.agg [.bool (decide (pqV (enM (pwL m e n f k) (pwH m e n f k) w) m e n f k w < 0)), N (pqV (enM (pwL m e n f k) (pwH m e n f k) w) m e n f k w).natAbs, .int .i64 (pqV (enX (pwL m e n f k) (pwH m e n f k) w) m e n f k w),
  .bool (decide (pqV (enN (pwL m e n f k) (pwH m e n f k) w) m e n f k w < 0)), N (pqV (enN (pwL m e n f k) (pwH m e n f k) w) m e n f k w).natAbs, .int .i64 (pqV (enF (pwL m e n f k) (pwH m e n f k) w) m e n f k w)], .int .i64 (pqE m e n f k w)]
theorem pq_bad {m e n f k w c : Int} (h : ¬ (((0 ≤ w ∧ w ≤ 4096) ∧ -64 ≤ k ∧ k ≤ 64) ∧ ¬ (k < 0 ∧ m ≤ 0 ∧ 0 ≤ n))) (hc : c = pqE m e n f k w) : vsub (.tup [.agg [.bool false, .nil, .int .i64 0, .bool false, .nil, .int .i64 0], .int .i64 c]) (pqT m e n f k w) := by
  unfold pqT
  have z : ∀ x, pqV x m e n f k w = 0 := fun x => by unfold pqV; rw [if_neg h]
  rw [z, z, z, z, ← hc]
  exact vsub_w0 c
theorem pq_1 {m e n f k w : Int} (h : ¬ ((0 ≤ w ∧ w ≤ 4096) ∧ -64 ≤ k ∧ k ≤ 64)) : 1 = pqE m e n f k w := by unfold pqE; rw [if_neg h]
theorem pq_2 {m e n f k w : Int} (h : (0 ≤ w ∧ w ≤ 4096) ∧ -64 ≤ k ∧ k ≤ 64) (hk : k < 0 ∧ m = 0 ∧ n = 0) : 2 = pqE m e n f k w := by unfold pqE; rw [if_pos h, if_pos hk]
theorem pq_5 {m e n f k w : Int} (h : (0 ≤ w ∧ w ≤ 4096) ∧ -64 ≤ k ∧ k ≤ 64) (hk : ¬ (k < 0 ∧ m = 0 ∧ n = 0)) (h2 : k < 0 ∧ m ≤ 0 ∧ 0 ≤ n) : 5 = pqE m e n f k w := by unfold pqE; rw [if_pos h, if_neg hk, if_pos h2]
theorem pq_ok {m e n f k w : Int} (h : (0 ≤ w ∧ w ≤ 4096) ∧ -64 ≤ k ∧ k ≤ 64) (hk : ¬ (k < 0 ∧ m ≤ 0 ∧ 0 ≤ n)) : pqT m e n f k w = enV (pwL m e n f k) (pwH m e n f k) w := by
  have e1 : pqE m e n f k w = enE (pwL m e n f k) (pwH m e n f k) w := by unfold pqE; rw [if_pos h, if_neg (by omega), if_neg hk]
  have z : ∀ x, pqV x m e n f k w = x := fun x => by unfold pqV; rw [if_pos ⟨h, hk⟩]
  unfold pqT enV
  rw [z, z, z, z, e1]
theorem pq_3 {m e n f k w : Int} (h : (0 ≤ w ∧ w ≤ 4096) ∧ -64 ≤ k ∧ k ≤ 64) (hk : ¬ (k < 0 ∧ m ≤ 0 ∧ 0 ≤ n)) (ht : tlB m e k = true ∨ tlB n f k = true) :
    vsub (.tup [.agg [.bool false, .nil, .int .i64 0, .bool false, .nil, .int .i64 0], .int .i64 3]) (pqT m e n f k w) := by
  have e3 := tl_en (e := e) (f := f) h.1 ht
  obtain ⟨a, b, c, d, g⟩ := en_no h.1 (show enE (pwL m e n f k) (pwH m e n f k) w ≠ 0 by omega)
  rw [pq_ok h hk]
  unfold enV
  rw [a, b, c, d, g]
  exact vsub_w0 3
theorem pq_vec {m e n f k w : Int} {a b c d : Int} (h : (0 ≤ w ∧ w ≤ 4096) ∧ -64 ≤ k ∧ k ≤ 64) (hk : ¬ (k < 0 ∧ m ≤ 0 ∧ 0 ≤ n)) (ho : PwO m e n f k a b c d) :
    vsub (ecT (mkM (pwR a b k w false) (-w)) (mkX (pwR a b k w false) (-w)) (mkM (pwR c d k w true) (-w)) (mkX (pwR c d k w true) (-w)) (mkE (pwR a b k w false) (-w)) (mkE (pwR c d k w true) (-w))) (pqT m e n f k w) := by
  rw [pq_ok h hk]
  exact en_vec ho.1 ho.2 h.1
theorem ord_sign {m e n f : Int} (h : dv m e ≤ dv n f) : (n < 0 → m < 0) ∧ (n ≤ 0 → m ≤ 0) := by
  refine ⟨fun q => ?_, fun q => ?_⟩
  · have := dv_lt0 (e := f).2 q; exact dv_lt0.1 (by grind : dv m e < 0)
  · have := dv_le0 (e := f).2 q; exact dv_le0.1 (Rat.le_trans h this)
theorem pq_facts (m e n f k w : Int) : (L (pqV (enM (pwL m e n f k) (pwH m e n f k) w) m e n f k w).natAbs ≤ 400 ∧ L (pqV (enN (pwL m e n f k) (pwH m e n f k) w) m e n f k w).natAbs ≤ 400) ∧ (-8192 ≤ pqV (enX (pwL m e n f k) (pwH m e n f k) w) m e n f k w ∧ pqV (enX (pwL m e n f k) (pwH m e n f k) w) m e n f k w ≤ 2048) ∧
    (-8192 ≤ pqV (enF (pwL m e n f k) (pwH m e n f k) w) m e n f k w ∧ pqV (enF (pwL m e n f k) (pwH m e n f k) w) m e n f k w ≤ 2048) ∧ 0 ≤ pqE m e n f k w ∧ pqE m e n f k w ≤ 5 := by
  have h := en_sz (pwL m e n f k) (pwH m e n f k) w
  have h2 := en_facts (pwL m e n f k) (pwH m e n f k) w
  have zl : L (0 : Int).natAbs = 0 := L_zero
  refine ⟨?_, ?_, ?_, ?_⟩
  · unfold pqV; split <;> omega
  · unfold pqV; split <;> omega
  · unfold pqV; split <;> omega
  · unfold pqE; repeat' split
    all_goals omega
abbrev pcT (a b c d k w : Int) : V := ecT (mkM (pwR a b k w false) (-w)) (mkX (pwR a b k w false) (-w)) (mkM (pwR c d k w true) (-w)) (mkX (pwR c d k w true) (-w)) (mkE (pwR a b k w false) (-w)) (mkE (pwR c d k w true) (-w))
end Go.Proofs.YtmbpoibhamlkbaaGreatDoor
