/-
  Lower layers: what functions of the program compute, and plain facts. Conditions: as the theorems say.
-/
import Derived.Lib.BitFns
import Derived.Lib.TrailingZeros
import Derived.Test.YtekcladflnieeaaGreatDoorPaF
set_option linter.unusedVariables false
set_option linter.unusedSimpArgs false
namespace Go.Proofs.YtekcladflnieeaaGreatDoor
open Go.RowKit
set_option maxRecDepth 100000
def nat_size_0_mk (l : List Nat) (x : Int) : St := ⟨mkS 19 [(0, (.val (.sl 1 (U l)))), (3, (.val (.int .i64 x)))], []⟩
def nat_size_0_I (l : List Nat) (x : Int) : Prop := 0 ≤ x ∧ x ≤ l.length ∧ val l = val (l.take (x).toNat)
def nat_size_0_mu (_ : List Nat) (x : Int) : Nat := (x).toNat
def nat_size_0_ex (l : List Nat) (y : Int) : Ex × St := (.exit 0, ⟨mkS 19 [(0, (.val (.sl 1 (U l)))), (3, (.val (.int .i64 y)))], []⟩)
def nat_size_0_J (l : List Nat) (y : Int) : Prop := y = ((limbs (val l)).length : Int)
abbrev nat_size_0_N (l : List Nat) := NX (nat_size_0_mk l) (nat_size_0_I l) (nat_size_0_mu l) (nat_size_0_ex l) (nat_size_0_J l)
theorem nat_size_0 (l : List Nat) (c0 : Dig l)(c1 : l.length ≤ 1073741824) (x0 : Int) (hI : nat_size_0_I l x0) : LoopOk Tryz.prog Amb (loopN Tryz.f207 0) (nat_size_0_mk l x0) (fun e st_ => ∃ y, nat_size_0_J l y ∧ nat_size_0_ex l y = (e, st_)) :=
  loop_ob hP hAmb ⟨[0, 3], 0, []⟩ (nat_size_0_mk l) (nat_size_0_I l) (nat_size_0_mu l) (nat_size_0_ex l) (nat_size_0_J l) x0 hI (fun n => .lit <| .both (.lits 3 <| .yes <| .lit <| .yes <| .lit <| .yes <| .lits 3 <| .both (.lit <| .yes <| .fin2 ⟨[0, 3], 0, []⟩) (.fin2 ⟨[0, 3], 0, []⟩)) (.lits 7 <| .fin2 ⟨[0, 3], 0, []⟩)) (by
    rintro n hI
    have hI : 0 ≤ n ∧ n ≤ l.length ∧ val l = val (l.take (n).toNat) := hI
    obtain ⟨h1, h2, h3⟩ := hI
    have e0 := U_len l
    exact cast_ob (aI True.intro (aI (fun (h101 : (iGt n 0) = true) => have _gh101 := iGt_t h101; aI (fits_i64 oA : (fits .i64 (n - 1)) = true) (aI (inB_mk oA : (inB (n - 1) ((U l).length)) = true) (aI (ld_U oA : (Nat.blt ((n - 1).toNat) (U l).length && isIntK .u32 (nth (U l) ((n - 1).toNat) .unk)) = true) (aI (fun (h102 : (iEq (gi l ((n - 1).toNat)) 0) = true) => have _gh102 := iEq_t h102; aI (fits_i64 oA : (fits .i64 (n - 1)) = true) (aI tT ((nx_next (n - 1) (show 0 ≤ (n - 1) ∧ (n - 1) ≤ l.length ∧ val l = val (l.take ((n - 1)).toNat) from ⟨by omega, by omega, size_step oO oO h3 (by assumption)⟩) (show (n - 1).toNat < n.toNat by omega) : nat_size_0_N l n .normal (nat_size_0_mk l (n - 1)))))) (fun (h103 : (iEq (gi l ((n - 1).toNat)) 0) = false) => have _gh103 := iEq_f h103; aI tT ((nx_exit 0 ((nat_size_0_ex l n).2) n (show n = ((limbs (val l)).length : Int) from size_end c0 h1 h2 h3 (by first | exact .inl oO | exact .inr (by assumption))) rfl : nat_size_0_N l n (.exit 0) ((nat_size_0_ex l n).2)))))))) (fun (h104 : (iGt n 0) = false) => have _gh104 := iGt_f h104; aI tT ((nx_exit 0 ((nat_size_0_ex l n).2) n (show n = ((limbs (val l)).length : Int) from size_end c0 h1 h2 h3 (by first | exact .inl oO | exact .inr (by assumption))) rfl : nat_size_0_N l n (.exit 0) ((nat_size_0_ex l n).2)))))) (by kernel_rfl))
theorem nat_size (l : List Nat) (c0 : Dig l) (c1 : l.length ≤ 1073741824) : Impl Tryz.prog Amb 207 [(.sl 1 (U l))] (.int .i64 ((limbs (val l)).length : Int)) := by
  exact impl_ob hP hAmb Tryz.func207 (by kernel_rfl) (.loop ⟨[0, 3], 0, []⟩ ((nat_size_0_mk l ((U l).length : Int))) (Int) (nat_size_0_ex l) (nat_size_0_J l) (fun y => .lit <| .ret))
    (cast_ob (aI True.intro (aI tT (aI (rfl : (nat_size_0_mk l ((U l).length : Int)) = (nat_size_0_mk l ((U l).length : Int))) (aI (nat_size_0 l c0 c1 ((U l).length : Int) (show 0 ≤ ((U l).length : Int) ∧ ((U l).length : Int) ≤ l.length ∧ val l = val (l.take (((U l).length : Int)).toNat) from ⟨by omega, by rw [U_len]; omega, by rw [U_len]; simp⟩)) (fun y (hJ : nat_size_0_J l y) => have hJ : y = ((limbs (val l)).length : Int) := hJ; have j1 := hJ; (vsub_of (by rw [hJ]) : vsub (.int .i64 y) (.int .i64 ((limbs (val l)).length : Int)))))))) (by kernel_rfl))
theorem nat_sizeN (n : Nat) (c0 : L n ≤ 1073741824) : Impl Tryz.prog Amb 207 [N n] (.int .i64 (L n : Int)) := by
  have h := nat_size (limbs n) (dig_limbs n) c0
  rwa [val_limbs] at h
theorem clone_u32 (c : List V) (c0 : c.all isCell = true) (c1 : c.length ≤ 1073741824) : Impl Tryz.prog Amb 215 [(.sl 1 c)] (.sl 1 c) := by
  exact impl_ob hP hAmb Tryz.func215 (by kernel_rfl) (.both (.both (.lits 2 <| .ret) (.lit <| .yes <| .yes <| .ret)) (.lit <| .yes <| .yes <| .ret))
    (cast_ob (aI True.intro (aI (fun (h1 : Nat.beq c.length 0 = true) => aI ((by rw [show c = [] from List.eq_nil_of_length_eq_zero (Nat.eq_of_beq_eq_true h1)]; exact vsub_nil 1 : vsub .nil (.sl 1 c))) (aI (and_mk (and_mk (and_mk (rfl) (by first | assumption | exact U_cells _)) (st_ok oA)) (by first | rfl | (simp <;> omega) | (rw [L_len]; simp)) : (true && c.all isCell && Nat.ble (0 + c.length) 1073741824 && Nat.beq ([] : List V).length 0) = true) (aI (ok_res oA : ((true && Nat.ble (0 + (0 + c.length)) (([] : List V) ++ c).length) && true) = true) (vsub_of (by simp) : vsub (.sl 1 (List.take (0 + c.length) (List.drop 0 (([] : List V) ++ c)))) (.sl 1 c))))) (fun (h2 : Nat.beq c.length 0 = false) => aI (and_mk (and_mk (and_mk (rfl) (by first | assumption | exact U_cells _)) (st_ok oA)) (by first | rfl | (simp <;> omega) | (rw [L_len]; simp)) : (true && c.all isCell && Nat.ble (0 + c.length) 1073741824 && Nat.beq ([] : List V).length 0) = true) (aI (ok_res oA : ((true && Nat.ble (0 + (0 + c.length)) (([] : List V) ++ c).length) && true) = true) (vsub_of (by simp) : vsub (.sl 1 (List.take (0 + c.length) (List.drop 0 (([] : List V) ++ c)))) (.sl 1 c)))))) (by kernel_rfl))
theorem nat_sizeC (c : List V) (l : List Nat) (c0 : c = U l) (c1 : Dig l) (c2 : l.length ≤ 1073741824) : Impl Tryz.prog Amb 207 [.sl 1 c] (.int .i64 ((limbs (val l)).length : Int)) := by
  subst c0
  exact nat_size l c1 c2
theorem nat_Trim (l : List Nat) (c0 : Dig l) (c1 : l.length ≤ 1073741824) : Impl Tryz.prog Amb 151 [(.sl 1 (U l))] (N (val l)) := by
  have e0 := cut_lim c0
  have e1 := limbs_len_le c0
  have e2 := U_len l
  exact impl_ob hP hAmb Tryz.func151 (by kernel_rfl) (.lit <| .call (.int .i64 ((limbs (val l)).length : Int)) <| .yes <| .lit <| .call (.sl 1 (List.take ((((limbs (val l)).length : Int) - 0).toNat) (List.drop 0 (U l)))) <| .lit <| .ret)
    (cast_ob (aI True.intro (aI (nat_size l oA oA) (aI (and_mk (and_mk (rfl) (iLe_mk oA)) (iLe_mk oA) : ((true && (iLe (0 : Int) ((limbs (val l)).length : Int))) && (iLe ((limbs (val l)).length : Int) ((U l).length : Int))) = true) (aI (clone_u32 (List.take ((((limbs (val l)).length : Int) - 0).toNat) (List.drop 0 (U l))) (by rw [cut_lim c0]; exact U_cells _) (by rw [cut_lim c0]; exact Nat.le_trans (Nat.le_of_eq (lim_len _)) oO)) ((vsub_of (congrArg (V.sl 1) (cut_lim c0)) : vsub (.sl 1 (List.take ((((limbs (val l)).length : Int) - 0).toNat) (List.drop 0 (U l)))) (N (val l)))))))) (by kernel_rfl))
theorem nat_TrimN (n : Nat) (c0 : L n ≤ 1073741824) : Impl Tryz.prog Amb 151 [N n] (N n) := by
  have h := nat_Trim (limbs n) (dig_limbs n) c0
  rwa [val_limbs] at h
theorem nat_Trim2 (x y : Int) (c0 : 0 ≤ x ∧ x < 4294967296) (c1 : 0 ≤ y ∧ y < 4294967296) : Impl Tryz.prog Amb 151 [.sl 1 [.int .u32 x, .int .u32 y]] (N (x + 4294967296 * y).toNat) := by
  have h := nat_Trim [x.toNat, y.toNat] (fun d hd => by
    rcases List.mem_cons.1 hd with rfl | hd
    · omega
    · rcases List.mem_cons.1 hd with rfl | hd
      · omega
      · cases hd) (by simp)
  have e : U [x.toNat, y.toNat] = [.int .u32 x, .int .u32 y] := by
    simp only [U, List.map_cons, List.map_nil]
    rw [Int.toNat_of_nonneg c0.1, Int.toNat_of_nonneg c1.1]
  have v : val [x.toNat, y.toNat] = (x + 4294967296 * y).toNat := by simp only [val]; omega
  rwa [e, v] at h
theorem nat_Of (x : Int) (c0 : (0 : Int) ≤ x ∧ x < 18446744073709551616) : Impl Tryz.prog Amb 152 [(.int .u64 x)] (N ((x).toNat)) := by
  have e0 := wrap_u32 x
  have e1 := wrap_u32 (x / 4294967296)
  exact impl_ob hP hAmb Tryz.func152 (by kernel_rfl) (.lit <| .no <| .lits 2 <| .no <| .lit <| .call (N (((IntKind.wrap .u32 x) + 4294967296 * (IntKind.wrap .u32 (Int.fdiv x (2 ^ 32)))).toNat)) <| .lit <| .ret)
    (cast_ob (aI True.intro (aI (nat_Trim2 (IntKind.wrap .u32 x) (IntKind.wrap .u32 (Int.fdiv x (2 ^ 32))) (by rw [wrap_u32]; omega) (by rw [wrap_u32, fdiv_B]; omega)) ((vsub_of (congrArg N (by rw [wrap_u32, wrap_u32, fdiv_B]; omega)) : vsub (N (((IntKind.wrap .u32 x) + 4294967296 * (IntKind.wrap .u32 (Int.fdiv x (2 ^ 32)))).toNat)) (N ((x).toNat)))))) (by kernel_rfl))
theorem nat_places (n : Int) (c0 : 0 ≤ n ∧ n ≤ 1048576) : Impl Tryz.prog Amb 206 [(.int .i64 n)] (.int .i64 n) := by
  exact impl_ob hP hAmb Tryz.func206 (by kernel_rfl) (.lits 3 <| .ret)
    (cast_ob (aI True.intro ((vsub_of (congrArg (V.int .i64) (by unfold iMin iMax; split <;> split <;> omega)) : vsub (.int .i64 (iMin (iMax n (0 : Int)) (1048576 : Int))) (.int .i64 n)))) (by kernel_rfl))
def nat_Cmp_0_mk (a b : Nat) (x : Int) : St := ⟨mkS 46 [(0, (.val (N a))), (1, (.val (N b))), (4, (.val (.int .i64 0))), (7, (.val (.int .i64 x)))], []⟩
def nat_Cmp_0_I (a b : Nat) (x : Int) : Prop := -1 ≤ x ∧ x < L a ∧ (limbs a).drop (x + 1).toNat = (limbs b).drop (x + 1).toNat
def nat_Cmp_0_mu (_ _ : Nat) (x : Int) : Nat := (x + 1).toNat
def nat_Cmp_0_ex (_ _ : Nat) (y : (Int) ⊕ (Unit)) : Ex × St := Sum.elim (fun (y : Int) => (.ret, ⟨mkS 46 [(4, (.val (.int .i64 y)))], []⟩)) (fun (y : Unit) => (.exit 1, ⟨mkS 46 [], []⟩)) y
def nat_Cmp_0_J (a b : Nat) (y : (Int) ⊕ (Unit)) : Prop := Sum.elim (fun (y : Int) => y = cmpN a b) (fun (y : Unit) => a = b) y
abbrev nat_Cmp_0_N (a b : Nat) := NX (nat_Cmp_0_mk a b) (nat_Cmp_0_I a b) (nat_Cmp_0_mu a b) (nat_Cmp_0_ex a b) (nat_Cmp_0_J a b)
theorem nat_Cmp_0 (a b : Nat) (c0 : L a = L b)(c1 : L a ≤ 1073741824) (x0 : Int) (hI : nat_Cmp_0_I a b x0) : LoopOk Tryz.prog Amb (loopN Tryz.f216 0) (nat_Cmp_0_mk a b x0) (fun e st_ => ∃ y, nat_Cmp_0_J a b y ∧ nat_Cmp_0_ex a b y = (e, st_)) :=
  loop_ob hP hAmb ⟨[0, 1, 4, 7], 0, []⟩ (nat_Cmp_0_mk a b) (nat_Cmp_0_I a b) (nat_Cmp_0_mu a b) (nat_Cmp_0_ex a b) (nat_Cmp_0_J a b) x0 hI (fun i => .lit <| .both (.yes <| .yes <| .yes <| .yes <| .lit <| .both (.fin2 ⟨[4], 0, []⟩) (.yes <| .yes <| .yes <| .yes <| .lit <| .both (.fin2 ⟨[4], 0, []⟩) (.lit <| .yes <| .fin2 ⟨[0, 1, 4, 7], 0, []⟩))) (.fin2 ⟨[], 0, []⟩)) (by
    rintro i hI
    have hI : -1 ≤ i ∧ i < L a ∧ (limbs a).drop (i + 1).toNat = (limbs b).drop (i + 1).toNat := hI
    obtain ⟨h1, h2, h3⟩ := hI
    have e0 := L_len a
    have e1 := L_len b
    have h4 : 0 ≤ i → (limbs a).drop (i.toNat + 1) = (limbs b).drop (i.toNat + 1) := fun h => by rw [show i.toNat + 1 = (i + 1).toNat by omega]; exact h3
    exact cast_ob (aI True.intro (aI (fun (h101 : (iGe i 0) = true) => have _gh101 := iGe_t h101; aI (inB_mk oA : (inB i ((lim a).length)) = true) (aI (ld_L oA : (Nat.blt i.toNat (lim a).length && isIntK .u32 (nth (lim a) i.toNat .unk)) = true) (aI (inB_mk oA : (inB i ((lim b).length)) = true) (aI (ld_L oA : (Nat.blt i.toNat (lim b).length && isIntK .u32 (nth (lim b) i.toNat .unk)) = true) (aI (fun (h102 : (iLt (gi (limbs a) i.toNat) (gi (limbs b) i.toNat)) = true) => have _gh102 := iLt_t h102; aI tT ((nx_ret ((nat_Cmp_0_ex a b (.inl (-1))).2) (.inl (-1)) (show (-1) = cmpN a b from (cmpN_lt (cmp_lt oO oO (h4 oO) (by assumption))).symm) rfl : nat_Cmp_0_N a b i .ret ((nat_Cmp_0_ex a b (.inl (-1))).2)))) (fun (h103 : (iLt (gi (limbs a) i.toNat) (gi (limbs b) i.toNat)) = false) => have _gh103 := iLt_f h103; aI (inB_mk oA : (inB i ((lim a).length)) = true) (aI (ld_L oA : (Nat.blt i.toNat (lim a).length && isIntK .u32 (nth (lim a) i.toNat .unk)) = true) (aI (inB_mk oA : (inB i ((lim b).length)) = true) (aI (ld_L oA : (Nat.blt i.toNat (lim b).length && isIntK .u32 (nth (lim b) i.toNat .unk)) = true) (aI (fun (h104 : (iGt (gi (limbs a) i.toNat) (gi (limbs b) i.toNat)) = true) => have _gh104 := iGt_t h104; aI tT ((nx_ret ((nat_Cmp_0_ex a b (.inl 1)).2) (.inl 1) (show 1 = cmpN a b from (cmpN_gt (cmp_lt oO oO (h4 oO).symm (by assumption))).symm) rfl : nat_Cmp_0_N a b i .ret ((nat_Cmp_0_ex a b (.inl 1)).2)))) (fun (h105 : (iGt (gi (limbs a) i.toNat) (gi (limbs b) i.toNat)) = false) => have _gh105 := iGt_f h105; aI (fits_i64 oA : (fits .i64 (i - 1)) = true) (aI tT ((nx_next (i - 1) (show -1 ≤ (i - 1) ∧ (i - 1) < L a ∧ (limbs a).drop ((i - 1) + 1).toNat = (limbs b).drop ((i - 1) + 1).toNat from ⟨by omega, by omega, by rw [show (i - 1 + 1).toNat = i.toNat by omega]; exact cmp_step oO oO (h4 oO) (by unfold gi at *; omega)⟩) (show (i - 1 + 1).toNat < (i + 1).toNat by omega) : nat_Cmp_0_N a b i .normal (nat_Cmp_0_mk a b (i - 1)))))))))))))))) (fun (h106 : (iGe i 0) = false) => have _gh106 := iGe_f h106; aI tT ((nx_exit 1 ((nat_Cmp_0_ex a b (.inr ())).2) (.inr ()) (show a = b from limbs_ext (by rw [← show (i + 1).toNat = 0 by omega]; exact h3)) rfl : nat_Cmp_0_N a b i (.exit 1) ((nat_Cmp_0_ex a b (.inr ())).2)))))) (by kernel_rfl))
theorem nat_Cmp (a : Nat) (b : Nat) (c0 : L a ≤ 1073741824) (c1 : L b ≤ 1073741824) : Impl Tryz.prog Amb 216 [(N a), (N b)] (.int .i64 (cmpN a b)) := by
  have e0 := L_len a
  have e1 := L_len b
  exact impl_ob hP hAmb Tryz.func216 (by kernel_rfl) (.lit <| .call (.int .i64 (L a : Int)) <| .lit <| .call (.int .i64 (L b : Int)) <| .lit <| .both (.lit <| .ret) (.lit <| .both (.lit <| .ret) (.lit <| .yes <| .loop2 ⟨[0, 1, 4, 7], 0, []⟩ ((nat_Cmp_0_mk a b ((L a : Int) - 1))) (Int) (Unit) (nat_Cmp_0_ex a b) (nat_Cmp_0_J a b) (fun y => .lit <| .ret) (fun y => .lit <| .ret))))
    (cast_ob (aI True.intro (aI (nat_sizeN a oA) (aI (nat_sizeN b oA) (aI (fun (h1 : (iLt (L a : Int) (L b : Int)) = true) => have _gh1 := iLt_t h1; (vsub_of (congrArg (V.int .i64) (cmpN_lt (L_lt_of oO)).symm) : vsub (.int .i64 (-1)) (.int .i64 (cmpN a b)))) (fun (h2 : (iLt (L a : Int) (L b : Int)) = false) => have _gh2 := iLt_f h2; aI (fun (h3 : (iGt (L a : Int) (L b : Int)) = true) => have _gh3 := iGt_t h3; (vsub_of (congrArg (V.int .i64) (cmpN_gt (L_lt_of oO)).symm) : vsub (.int .i64 1) (.int .i64 (cmpN a b)))) (fun (h4 : (iGt (L a : Int) (L b : Int)) = false) => have _gh4 := iGt_f h4; aI (fits_i64 oA : (fits .i64 ((L a : Int) - 1)) = true) (aI tT (aI (rfl : (nat_Cmp_0_mk a b ((L a : Int) - 1)) = (nat_Cmp_0_mk a b ((L a : Int) - 1))) (aI (nat_Cmp_0 a b oO c0 ((L a : Int) - 1) (show -1 ≤ ((L a : Int) - 1) ∧ ((L a : Int) - 1) < L a ∧ (limbs a).drop (((L a : Int) - 1) + 1).toNat = (limbs b).drop (((L a : Int) - 1) + 1).toNat from ⟨by omega, by omega, by rw [List.drop_eq_nil_of_le (by unfold L at *; omega), List.drop_eq_nil_of_le (by unfold L at *; omega)]⟩)) (aI (fun (y : Int) (hJ : nat_Cmp_0_J a b (.inl y)) => have hJ : y = cmpN a b := hJ; (vsub_of (congrArg (V.int .i64) hJ) : vsub (.int .i64 y) (.int .i64 (cmpN a b)))) (fun (y : Unit) (hJ : nat_Cmp_0_J a b (.inr y)) => have hJ : a = b := hJ; (vsub_of (congrArg (V.int .i64) (cmpN_eq hJ).symm) : vsub (.int .i64 0) (.int .i64 (cmpN a b)))))))))))))) (by kernel_rfl))
end Go.Proofs.YtekcladflnieeaaGreatDoor


namespace Go.Proofs.YtekcladflnieeaaGreatDoor
theorem B_pow (k : Nat) : (4294967296 : Nat) ^ k = 2 ^ (32 * k) := by rw [show (4294967296 : Nat) = 2 ^ 32 from rfl, ← Nat.pow_mul]
theorem tdiv32 {n : Int} (h : 0 ≤ n) : Int.tdiv n 32 = n / 32 := Int.tdiv_eq_ediv_of_nonneg h
theorem wRem32 {n : Int} (h : 0 ≤ n) : wRem n 32 = n % 32 := Int.tmod_eq_emod_of_nonneg h
theorem pow_cast (k : Nat) : (2 : Int) ^ k = ((2 ^ k : Nat) : Int) := by simp
theorem shl_bound {x r : Nat} (hx : x < 4294967296) (hr : r < 32) : x * 2 ^ r < 9223372036854775808 := by
  have h2 : 2 ^ r ≤ 2 ^ 31 := Nat.pow_le_pow_right (by omega) (by omega)
  calc x * 2 ^ r ≤ x * 2 ^ 31 := Nat.mul_le_mul_left _ h2
    _ < _ := by omega
theorem or_add {p q r : Nat} (hp : p < 2 ^ r) : p ||| 2 ^ r * q = p + 2 ^ r * q := by
  rw [Nat.or_comm, ← Nat.two_pow_add_eq_or_of_lt hp, Nat.add_comm]
theorem set2 (l : List Nat) {k k' k2 k2' : Nat} {w w2 : Int} {d d2 : Nat} (h1 : k = k') (h2 : w = (d : Int)) (h3 : k2 = k2') (h4 : w2 = (d2 : Int)) :
    List.set (List.set (U l) k (.int .u32 w)) k2 (.int .u32 w2) = U ((l.set k' d).set k2' d2) := by
  rw [setU l h1 h2, setU _ h3 h4]
theorem min_rest {n : Int} (h : 0 ≤ n) : min (wRem n (32 : Int)).toNat (IntKind.bits .u64) = n.toNat % 32 := by
  rw [wRem32 h, show IntKind.bits .u64 = 64 from rfl]; omega
theorem shl_word (a k : Nat) {n : Int} (h : 0 ≤ n) : 0 ≤ gi (limbs a) k * 2 ^ (min (wRem n (32 : Int)).toNat (IntKind.bits .u64)) ∧ gi (limbs a) k * 2 ^ (min (wRem n (32 : Int)).toNat (IntKind.bits .u64)) < 9223372036854775808 := by
  rw [min_rest h, gi_eq, pow_cast, ← Int.natCast_mul]
  have := shl_bound (dig_get (dig_limbs a) k) (show n.toNat % 32 < 32 by omega)
  omega
theorem wrap_pos (x : Int) : IntKind.wrap .u32 x = ((IntKind.wrap .u32 x).toNat : Int) := by rw [wrap_u32]; omega
theorem wOr_pos (x y : Int) : wOr .u32 x y = ((wOr .u32 x y).toNat : Int) := wrap_pos _
def ShlInv (a n : Nat) (i : Int) (out : List Nat) : Prop :=
  0 ≤ i ∧ i ≤ L a ∧ out.length = L a + n / 32 + 1 ∧ Dig out ∧ val (out.take (i.toNat + n / 32 + 1)) = val ((limbs a).take i.toNat) * 2 ^ n ∧ out.getD (i.toNat + n / 32) 0 < 2 ^ (n % 32)
theorem shl_init (a n : Nat) : ShlInv a n 0 (List.replicate (L a + n / 32 + 1) 0) := by
  refine ⟨by omega, by omega, by simp, dig_rep _, ?_, ?_⟩
  · rw [List.take_replicate, val_rep]; simp [val]
  · rw [List.getD_eq_getElem?_getD, List.getElem?_replicate]
    have := Nat.two_pow_pos (n % 32)
    split <;> simpa using this
theorem shl_next {a n : Nat} {i p y : Int} {out : List Nat} (h : ShlInv a n i out) (hi : i < L a) (hp : p = gi out (i.toNat + n / 32)) (hy : y = gi (limbs a) i.toNat * 2 ^ (n % 32)) :
    ShlInv a n (i + 1) ((out.set (i.toNat + n / 32) (wOr .u32 p (IntKind.wrap .u32 y)).toNat).set (i.toNat + n / 32 + 1) (IntKind.wrap .u32 (Int.fdiv y (2 ^ 32))).toNat) := by
  obtain ⟨h0, h1, h2, h3, h4, h5⟩ := h
  have gx := dig_get (dig_limbs a) i.toNat
  have gp := dig_get h3 (i.toNat + n / 32)
  rw [gi_eq] at hp hy
  have htk := take_succ_val out (i.toNat + n / 32)
  have hta := take_succ_val (limbs a) i.toNat
  generalize (limbs a).getD i.toNat 0 = x at *
  have hsum := h5
  generalize hP : out.getD (i.toNat + n / 32) 0 = P at *
  have hr : n % 32 < 32 := by omega
  have hb := shl_bound gx hr
  have hyN : y = ((x * 2 ^ (n % 32) : Nat) : Int) := by rw [hy, pow_cast]; simp
  generalize hY : x * 2 ^ (n % 32) = Y at *
  subst hyN
  subst hp
  have e1 : IntKind.wrap .u32 ((Y : Nat) : Int) = ((Y % 4294967296 : Nat) : Int) := by rw [wrap_u32]; omega
  have e2 : IntKind.wrap .u32 (Int.fdiv ((Y : Nat) : Int) (2 ^ 32)) = ((Y / 4294967296 : Nat) : Int) := by rw [fdiv_B, wrap_u32]; omega
  have hlo : Y % 4294967296 = 2 ^ (n % 32) * (x % 2 ^ (32 - n % 32)) := by
    rw [← hY, Nat.mul_comm x, show (4294967296 : Nat) = 2 ^ (n % 32) * 2 ^ (32 - n % 32) by rw [← Nat.pow_add, show n % 32 + (32 - n % 32) = 32 by omega], Nat.mul_mod_mul_left]
  have e3 : wOr .u32 ((P : Nat) : Int) ((Y % 4294967296 : Nat) : Int) = ((P + Y % 4294967296 : Nat) : Int) := by
    rw [wOr_nat gp (Nat.mod_lt _ (by omega)), hlo, or_add h5]
  have hsumlt : P + Y % 4294967296 < 4294967296 := by
    have : P ||| Y % 4294967296 < 2 ^ 32 := Nat.or_lt_two_pow (by omega) (by omega)
    rw [hlo, or_add h5, ← hlo] at this
    omega
  have hhi : Y / 4294967296 < 2 ^ (n % 32) := by
    rw [← hY]
    apply Nat.div_lt_of_lt_mul
    exact Nat.mul_lt_mul_of_pos_right gx (Nat.two_pow_pos _)
  rw [e1, e2, e3, Int.toNat_natCast, Int.toNat_natCast]
  refine ⟨by omega, by omega, by simpa using h2, dig_set (dig_set h3 hsumlt _) (by omega) _, ?_, ?_⟩
  · rw [show (i + 1).toNat = i.toNat + 1 by omega, show i.toNat + 1 + n / 32 + 1 = (i.toNat + n / 32 + 1) + 1 by omega, set_val _ _ (by simp; omega), set_val _ _ (by omega), hta]
    rw [Nat.add_mul, ← h4, htk]
    have hB : 4294967296 ^ i.toNat * x * 2 ^ n = 4294967296 ^ (i.toNat + n / 32) * Y := by
      rw [← hY, B_pow, B_pow, Nat.mul_add, Nat.pow_add, Nat.mul_assoc, Nat.mul_assoc, Nat.mul_left_comm (2 ^ (32 * (n / 32))), ← Nat.pow_add, show 32 * (n / 32) + n % 32 = n by omega]
    rw [hB, Nat.pow_succ, Nat.mul_assoc (4294967296 ^ _), Nat.mul_add, Nat.add_assoc, Nat.add_assoc, Nat.add_assoc, ← Nat.mul_add (4294967296 ^ _) (Y % 4294967296), Nat.mod_add_div]
  · rw [show (i + 1).toNat + n / 32 = i.toNat + n / 32 + 1 by omega, set_getD _ _ (by simp; omega)]
    exact hhi
theorem shl_end {a n : Nat} {out : List Nat} (h : ShlInv a n (L a : Int) out) : Dig out ∧ out.length = L a + n / 32 + 1 ∧ val out = a * 2 ^ n := by
  obtain ⟨h0, h1, h2, h3, h4, h5⟩ := h
  refine ⟨h3, h2, ?_⟩
  rw [Int.toNat_natCast, val_lim a (Nat.le_refl _), val_all out (by omega)] at h4
  exact h4
theorem fdiv_pow (s : Int) (k : Nat) : Int.fdiv s (2 ^ k) = s / ((2 ^ k : Nat) : Int) := by
  rw [Int.fdiv_eq_ediv_of_nonneg _ (by rw [pow_cast]; exact Int.natCast_nonneg _), pow_cast]
theorem drop_val (l : List Nat) (k : Nat) (hD : Dig l) : val (l.drop k) = val l / 4294967296 ^ k := by
  by_cases h : k ≤ l.length
  · have e := val_append (l.take k) (l.drop k)
    rw [List.take_append_drop, List.length_take, Nat.min_eq_left h] at e
    have hl := val_lt (dig_take hD k)
    rw [List.length_take, Nat.min_eq_left h] at hl
    rw [e, Nat.add_mul_div_left _ _ (Nat.pow_pos (by omega)), Nat.div_eq_of_lt hl, Nat.zero_add]
  · have hl := val_lt hD
    rw [List.drop_eq_nil_of_le (by omega), Nat.div_eq_of_lt]
    · rfl
    · exact Nat.lt_of_lt_of_le hl (Nat.pow_le_pow_right (by omega) (by omega))
theorem digit_eq (l : List Nat) (k : Nat) (hD : Dig l) : l.getD k 0 = val l / 4294967296 ^ k % 4294967296 := by
  rw [← drop_val l k hD]
  by_cases h : k < l.length
  · rw [List.drop_eq_getElem_cons h, val, List.getD_eq_getElem?_getD, List.getElem?_eq_getElem h]
    have := hD _ (List.getElem_mem h)
    simp only [Option.getD_some]
    omega
  · rw [List.drop_eq_nil_of_le (by omega), List.getD_eq_getElem?_getD, List.getElem?_eq_none (by omega)]
    rfl
theorem limb_eq (a k : Nat) : (limbs a).getD k 0 = a / 4294967296 ^ k % 4294967296 := by
  rw [digit_eq _ _ (dig_limbs a), val_limbs]
theorem shr_digit (a n i : Nat) : a / 2 ^ n / 4294967296 ^ i % 4294967296 =
    ((limbs a).getD (i + n / 32) 0 + (limbs a).getD (i + n / 32 + 1) 0 * 4294967296) / 2 ^ (n % 32) % 4294967296 := by
  rw [limb_eq, limb_eq, Nat.pow_succ, ← Nat.div_div_eq_div_mul a]
  have e : a / 2 ^ n / 4294967296 ^ i = a / 4294967296 ^ (i + n / 32) / 2 ^ (n % 32) := by
    rw [Nat.div_div_eq_div_mul, Nat.div_div_eq_div_mul, B_pow, B_pow, ← Nat.pow_add, ← Nat.pow_add]
    congr 2
    omega
  rw [e]
  generalize a / 4294967296 ^ (i + n / 32) = q
  have hr : 2 ^ (n % 32) * 2 ^ (32 - n % 32) = 4294967296 := by rw [← Nat.pow_add, show n % 32 + (32 - n % 32) = 32 by omega]
  have hq : q = (q % 4294967296 + q / 4294967296 % 4294967296 * 4294967296) + 2 ^ (n % 32) * (2 ^ (32 - n % 32) * (4294967296 * (q / 4294967296 / 4294967296))) := by
    rw [← Nat.mul_assoc, hr]; omega
  conv => lhs; rw [hq]
  rw [Nat.add_mul_div_left _ _ (Nat.two_pow_pos _), Nat.mul_left_comm, Nat.add_mul_mod_self_left]
theorem shr_zero {a n : Nat} (hw : L a ≤ n / 32) : a / 2 ^ n = 0 := by
  apply Nat.div_eq_of_lt
  refine Nat.lt_of_lt_of_le (L_lt a) ?_
  rw [B_pow]
  exact Nat.pow_le_pow_right (by omega) (by omega)
theorem ofInt64 {a : Int} (h : 0 ≤ a) : (BitVec.ofInt 64 a).toNat = a.toNat % 18446744073709551616 := by
  obtain ⟨n, rfl⟩ := Int.eq_ofNat_of_zero_le h
  rw [BitVec.ofInt_natCast, BitVec.toNat_ofNat, Int.toNat_natCast]
theorem wOr_64 {a b : Nat} (ha : a < 4294967296) (hb : b < 4294967296) : wOr .u64 (a : Int) ((b : Int) * 4294967296) = (a : Int) + (b : Int) * 4294967296 := by
  have e : (b : Int) * 4294967296 = ((4294967296 * b : Nat) : Int) := by omega
  have h1 : a ||| 4294967296 * b = a + 4294967296 * b := or_add (r := 32) ha
  rw [e]
  show IntKind.wrap .u64 ((BitVec.ofInt 64 (a : Int) ||| BitVec.ofInt 64 ((4294967296 * b : Nat) : Int)).toNat : Int) = _
  rw [BitVec.toNat_or, ofInt64 (by omega), ofInt64 (by omega), wrap_u64, Int.toNat_natCast, Int.toNat_natCast, Nat.mod_eq_of_lt (show a < 18446744073709551616 by omega), Nat.mod_eq_of_lt (by omega), h1]
  omega
theorem wOr_gi (a k k2 : Nat) : wOr .u64 (gi (limbs a) k) (gi (limbs a) k2 * 2 ^ 32) = gi (limbs a) k + gi (limbs a) k2 * 4294967296 := by
  rw [gi_eq, gi_eq]
  exact wOr_64 (dig_get (dig_limbs a) k) (dig_get (dig_limbs a) k2)
def nbits (n : Nat) : Nat := if n = 0 then 0 else Nat.log2 n + 1
theorem nbits_of {n k : Nat} (h1 : 2 ^ k ≤ n) (h2 : n < 2 ^ (k + 1)) : nbits n = k + 1 := by
  have h0 : n ≠ 0 := by have := Nat.two_pow_pos k; omega
  unfold nbits
  rw [if_neg h0]
  have := (Nat.log2_eq_iff h0).2 ⟨h1, h2⟩
  omega
theorem nbits_lt (n : Nat) : n < 2 ^ nbits n := by
  unfold nbits
  split
  · omega
  · exact Nat.lt_log2_self
theorem nbits_le {n : Nat} (h : n ≠ 0) : 2 ^ (nbits n - 1) ≤ n := by
  unfold nbits
  rw [if_neg h]
  exact Nat.log2_self_le h
theorem nbits_zero : nbits 0 = 0 := rfl
theorem nbits_pos {n : Nat} (h : n ≠ 0) : 0 < nbits n := by unfold nbits; rw [if_neg h]; omega
theorem bitLenAux_eq : ∀ (f x : Nat), x < 2 ^ f → Lib.bitLenAux f x = nbits x
  | 0, x, h => by have : x = 0 := by simpa using h
                  subst this; rfl
  | f + 1, x, h => by
    by_cases h0 : x = 0
    · subst h0; simp [Lib.bitLenAux, nbits]
    · rw [Lib.bitLenAux, if_neg h0, bitLenAux_eq f (x / 2) (by rw [Nat.pow_succ] at h; omega)]
      by_cases h1 : x / 2 = 0
      · have : x = 1 := by omega
        subst this; rfl
      · have a1 := nbits_le h1
        have a2 := nbits_lt (x / 2)
        have a3 := nbits_pos h1
        rw [Nat.add_comm]
        refine (nbits_of ?_ ?_).symm
        · rw [show nbits (x / 2) = nbits (x / 2) - 1 + 1 by omega, Nat.pow_succ]; omega
        · rw [Nat.pow_succ]; omega
theorem bitLen_eq {x : Nat} (h : x < 4294967296) : Lib.bitLen x = nbits x := bitLenAux_eq 64 x (by omega)
theorem bits_top {a : Nat} (h : a ≠ 0) : nbits a = 32 * (L a - 1) + nbits ((limbs a).getD (L a - 1) 0) := by
  have hp := L_pos h
  have hlow := L_low h
  have hlt := L_lt a
  rw [limb_eq]
  have hq : a / 4294967296 ^ (L a - 1) % 4294967296 = a / 4294967296 ^ (L a - 1) := by
    apply Nat.mod_eq_of_lt
    apply Nat.div_lt_of_lt_mul
    rw [← Nat.pow_succ, show (L a - 1).succ = L a by omega]
    exact hlt
  rw [hq]
  have h0 : a / 4294967296 ^ (L a - 1) ≠ 0 := by
    have := Nat.div_pos hlow (Nat.pow_pos (by omega)); omega
  have a1 := nbits_le h0
  have a2 := nbits_lt (a / 4294967296 ^ (L a - 1))
  have a3 := nbits_pos h0
  generalize hk : nbits (a / 4294967296 ^ (L a - 1)) = k at *
  rw [show 32 * (L a - 1) + k = (32 * (L a - 1) + k - 1) + 1 by omega]
  apply nbits_of
  · rw [show 32 * (L a - 1) + k - 1 = (k - 1) + 32 * (L a - 1) by omega, Nat.pow_add, ← B_pow]
    exact (Nat.le_div_iff_mul_le (Nat.pow_pos (by omega))).1 a1
  · rw [show 32 * (L a - 1) + k - 1 + 1 = k + 32 * (L a - 1) by omega, Nat.pow_add, ← B_pow]
    exact (Nat.div_lt_iff_lt_mul (Nat.pow_pos (by omega))).1 a2
theorem bit_limb (a i : Nat) : a.testBit i = decide ((limbs a).getD (i / 32) 0 / 2 ^ (i % 32) % 2 = 1) := by
  rw [limb_eq, Nat.testBit_eq_decide_div_mod_eq]
  congr 1
  have e : a / 2 ^ i = a / 4294967296 ^ (i / 32) / 2 ^ (i % 32) := by
    rw [Nat.div_div_eq_div_mul, B_pow, ← Nat.pow_add]; congr 2; omega
  rw [e]
  generalize a / 4294967296 ^ (i / 32) = q
  have hr : 2 ^ (i % 32) * 2 ^ (32 - i % 32) = 4294967296 := by rw [← Nat.pow_add, show i % 32 + (32 - i % 32) = 32 by omega]
  have h2 : 2 ^ (32 - i % 32) = 2 * 2 ^ (31 - i % 32) := by rw [← Nat.pow_succ', show (31 - i % 32).succ = 32 - i % 32 by omega]
  have hq : q = q % 4294967296 + 2 ^ (i % 32) * (2 * (2 ^ (31 - i % 32) * (q / 4294967296))) := by
    rw [← Nat.mul_assoc 2, ← h2, ← Nat.mul_assoc, hr]; omega
  conv => lhs; lhs; rw [hq]
  rw [Nat.add_mul_div_left _ _ (Nat.two_pow_pos _), Nat.add_mul_mod_self_left]
theorem top_bits (a : Nat) : 0 < L a → (nbits a : Int) = 32 * ((L a : Int) - 1) + (Lib.bitLen (gi (limbs a) ((L a : Int) - 1).toNat).toNat : Int) ∧ Lib.bitLen (gi (limbs a) ((L a : Int) - 1).toNat).toNat ≤ 32 := by
  intro h
  have h0 : a ≠ 0 := fun e => by subst e; rw [L_zero] at h; omega
  have ht := bits_top h0
  rw [gi_eq, show ((L a : Int) - 1).toNat = L a - 1 by omega, Int.toNat_natCast, bitLen_eq (dig_get (dig_limbs a) _)]
  refine ⟨by omega, ?_⟩
  have h1 := dig_get (dig_limbs a) (L a - 1)
  generalize (limbs a).getD (L a - 1) 0 = x at *
  rcases Nat.lt_or_ge 32 (nbits x) with q | q
  · exfalso
    have hx : x ≠ 0 := fun e => by subst e; rw [nbits_zero] at q; omega
    have := nbits_le hx
    have : 2 ^ 32 ≤ 2 ^ (nbits x - 1) := Nat.pow_le_pow_right (by omega) (by omega)
    omega
  · exact q
def tz (n : Nat) : Nat := if n = 0 then 0 else if n % 2 = 1 then 0 else tz (n / 2) + 1
termination_by n
decreasing_by omega
theorem tz_spec {n : Nat} (h : n ≠ 0) : n % 2 ^ tz n = 0 ∧ n / 2 ^ tz n % 2 = 1 := by
  induction n using Nat.strongRecOn with
  | _ n ih =>
    rw [tz, if_neg h]
    split
    · rename_i h1; simpa [Nat.mod_one] using h1
    · rename_i h1
      obtain ⟨i1, i2⟩ := ih (n / 2) (by omega) (by omega)
      rw [Nat.pow_succ, Nat.mul_comm, ← Nat.div_div_eq_div_mul]
      refine ⟨?_, i2⟩
      rw [Nat.mod_mul, i1, Nat.mul_zero, Nat.add_zero]
      omega
theorem tz_unique {n k : Nat} (h0 : n % 2 ^ k = 0) (h1 : n / 2 ^ k % 2 = 1) : tz n = k := by
  have hn : n ≠ 0 := fun e => by subst e; simp at h1
  obtain ⟨s0, s1⟩ := tz_spec hn
  -- both split n alike
  have key : ∀ {i j : Nat}, n % 2 ^ i = 0 → n / 2 ^ i % 2 = 1 → n % 2 ^ j = 0 → j ≤ i := by
    intro i j a b c
    rcases Nat.lt_or_ge i j with q | q
    · exfalso
      have e : 2 ^ j = 2 ^ i * (2 * 2 ^ (j - i - 1)) := by rw [← Nat.pow_succ', ← Nat.pow_add]; congr 1; omega
      have d : 2 ^ j ∣ n := Nat.dvd_of_mod_eq_zero c
      obtain ⟨m, hm⟩ := d
      rw [e, Nat.mul_assoc] at hm
      rw [hm, Nat.mul_div_cancel_left _ (Nat.two_pow_pos _), Nat.mul_assoc, Nat.mul_mod_right] at b
      omega
    · exact q
  exact Nat.le_antisymm (key h0 h1 s0) (key s0 s1 h0)
end Go.Proofs.YtekcladflnieeaaGreatDoor

namespace Go.Proofs.YtekcladflnieeaaGreatDoor
open Go.RowKit
set_option maxRecDepth 100000
def nat_Shl_0_mk (a : Nat) (n : Int) (x : Int × List V × List V × List Nat) : St := ⟨mkS 66 [(5, (.val (.int .i64 (Int.tdiv n (32 : Int))))), (6, (.val (.int .u64 (wRem n (32 : Int))))), (7, (.osl 0 0 (((((List.take (((L a : Int) - 0).toNat) (List.drop 0 (lim a))).length : Int) + (Int.tdiv n (32 : Int))) + 1).toNat) 1)), (31, (.val (.sl 1 x.2.1))), (32, (.val (.int .i64 ((List.take (((L a : Int) - 0).toNat) (List.drop 0 (lim a))).length : Int)))), (33, (.val (.int .i64 x.1)))], [⟨true, false, x.2.2.1⟩]⟩
def nat_Shl_0_I (a : Nat) (n : Int) (x : Int × List V × List V × List Nat) : Prop := x.2.1 = lim a ∧ x.2.2.1 = U x.2.2.2 ∧ ShlInv a n.toNat x.1 x.2.2.2
def nat_Shl_0_mu (a : Nat) (_ : Int) (x : Int × List V × List V × List Nat) : Nat := ((L a : Int) - x.1).toNat
def nat_Shl_0_ex (a : Nat) (n : Int) (y : List Nat) : Ex × St := (.exit 0, ⟨mkS 66 [(7, (.osl 0 0 (((((List.take (((L a : Int) - 0).toNat) (List.drop 0 (lim a))).length : Int) + (Int.tdiv n (32 : Int))) + 1).toNat) 1))], [⟨true, false, (U y)⟩]⟩)
def nat_Shl_0_J (a : Nat) (n : Int) (y : List Nat) : Prop := ShlInv a n.toNat (L a : Int) y
abbrev nat_Shl_0_N (a : Nat) (n : Int) := NX (nat_Shl_0_mk a n) (nat_Shl_0_I a n) (nat_Shl_0_mu a n) (nat_Shl_0_ex a n) (nat_Shl_0_J a n)
theorem nat_Shl_0 (a : Nat) (n : Int) (c0 : L a ≤ 67108864)(c1 : 0 ≤ n ∧ n ≤ 1048576) (x0 : Int × List V × List V × List Nat) (hI : nat_Shl_0_I a n x0) : LoopOk Tryz.prog Amb (loopN Tryz.f182 0) (nat_Shl_0_mk a n x0) (fun e st_ => ∃ y, nat_Shl_0_J a n y ∧ nat_Shl_0_ex a n y = (e, st_)) :=
  loop_ob hP hAmb ⟨[5, 6, 7, 31, 32, 33], 1, []⟩ (nat_Shl_0_mk a n) (nat_Shl_0_I a n) (nat_Shl_0_mu a n) (nat_Shl_0_ex a n) (nat_Shl_0_J a n) x0 hI (fun (i, s, o, l) => .lit <| .both (.yes <| .yes <| .lit <| .yes <| .yes <| .yes <| .lit <| .yes <| .yes <| .yes <| .lit <| .no <| .lit <| .yes <| .yes <| .lit <| .yes <| .lit <| .yes <| .lits 2 <| .no <| .yes <| .yes <| .lit <| .yes <| .fin2 ⟨[5, 6, 7, 31, 32, 33], 1, []⟩) (.fin2 ⟨[7], 1, []⟩)) (by
    rintro ⟨i, s, o, l⟩ hI
    have hI : s = lim a ∧ o = U l ∧ ShlInv a n.toNat i l := hI
    obtain ⟨rfl, rfl, h1⟩ := hI
    have ⟨p0, p1, p2, _⟩ := h1
    have e0 := L_len a
    have g0 := gi_lt (dig_limbs a) i.toNat
    have g1 := gi_nonneg (limbs a) i.toNat
    have g4 := U_len l
    have t0 := tdiv32 c1.1
    have t1 := wRem32 c1.1
    have e3 : (List.take (((L a : Int) - 0).toNat) (List.drop 0 (lim a))).length = L a := by rw [cut_self, L_len]
    have hb := shl_word a i.toNat c1.1
    exact cast_ob (aI True.intro (aI (fun (h101 : (iLt i ((List.take (((L a : Int) - 0).toNat) (List.drop 0 (lim a))).length : Int)) = true) => have _gh101 := iLt_t h101; aI (inB_mk oA : (inB i ((lim a).length)) = true) (aI (ld_L oA : (Nat.blt i.toNat (lim a).length && isIntK .u32 (nth (lim a) i.toNat .unk)) = true) (aI (fits_u64 oA : (fits .u64 (gi (limbs a) i.toNat)) = true) (aI (iLe_mk oA : (iLe 0 (wRem n (32 : Int))) = true) (aI (fits_u64 oA : (fits .u64 ((gi (limbs a) i.toNat) * 2 ^ (min (wRem n (32 : Int)).toNat (IntKind.bits .u64)))) = true) (aI (fits_i64 oA : (fits .i64 (i + (Int.tdiv n (32 : Int)))) = true) (aI (inB_mk oA : (inB (i + (Int.tdiv n (32 : Int))) (((((List.take (((L a : Int) - 0).toNat) (List.drop 0 (lim a))).length : Int) + (Int.tdiv n (32 : Int))) + 1).toNat)) = true) (aI (ld_U oA : (Nat.blt (0 + (i + (Int.tdiv n (32 : Int))).toNat) (U l).length && isIntK .u32 (nth (U l) (0 + (i + (Int.tdiv n (32 : Int))).toNat) .unk)) = true) (aI (inB_mk oA : (inB (i + (Int.tdiv n (32 : Int))) (((((List.take (((L a : Int) - 0).toNat) (List.drop 0 (lim a))).length : Int) + (Int.tdiv n (32 : Int))) + 1).toNat)) = true) (aI (st_ok oA : (Nat.ble ((0 + (i + (Int.tdiv n (32 : Int))).toNat) + 1) (U l).length) = true) (aI (fits_i64 oA : (fits .i64 (i + (Int.tdiv n (32 : Int)))) = true) (aI (fits_i64 oA : (fits .i64 ((i + (Int.tdiv n (32 : Int))) + 1)) = true) (aI (inB_mk oA : (inB ((i + (Int.tdiv n (32 : Int))) + 1) (((((List.take (((L a : Int) - 0).toNat) (List.drop 0 (lim a))).length : Int) + (Int.tdiv n (32 : Int))) + 1).toNat)) = true) (aI (st_ok oA : (Nat.ble ((0 + ((i + (Int.tdiv n (32 : Int))) + 1).toNat) + 1) (List.set (U l) (0 + (i + (Int.tdiv n (32 : Int))).toNat) (.int .u32 (wOr .u32 (gi l (0 + (i + (Int.tdiv n (32 : Int))).toNat)) (IntKind.wrap .u32 ((gi (limbs a) i.toNat) * 2 ^ (min (wRem n (32 : Int)).toNat (IntKind.bits .u64))))))).length) = true) (aI (fits_i64 oA : (fits .i64 (i + 1)) = true) (aI tT ((nx_next ((i + 1), (lim a), (List.set (List.set (U l) (0 + (i + (Int.tdiv n (32 : Int))).toNat) (.int .u32 (wOr .u32 (gi l (0 + (i + (Int.tdiv n (32 : Int))).toNat)) (IntKind.wrap .u32 ((gi (limbs a) i.toNat) * 2 ^ (min (wRem n (32 : Int)).toNat (IntKind.bits .u64))))))) (0 + ((i + (Int.tdiv n (32 : Int))) + 1).toNat) (.int .u32 (IntKind.wrap .u32 (Int.fdiv ((gi (limbs a) i.toNat) * 2 ^ (min (wRem n (32 : Int)).toNat (IntKind.bits .u64))) (2 ^ 32))))), ((l.set (i.toNat + n.toNat / 32) (wOr .u32 (gi l (0 + (i + (Int.tdiv n (32 : Int))).toNat)) (IntKind.wrap .u32 ((gi (limbs a) i.toNat) * 2 ^ (min (wRem n (32 : Int)).toNat (IntKind.bits .u64))))).toNat).set (i.toNat + n.toNat / 32 + 1) (IntKind.wrap .u32 (Int.fdiv ((gi (limbs a) i.toNat) * 2 ^ (min (wRem n (32 : Int)).toNat (IntKind.bits .u64))) (2 ^ 32))).toNat)) (show (lim a) = lim a ∧ (List.set (List.set (U l) (0 + (i + (Int.tdiv n (32 : Int))).toNat) (.int .u32 (wOr .u32 (gi l (0 + (i + (Int.tdiv n (32 : Int))).toNat)) (IntKind.wrap .u32 ((gi (limbs a) i.toNat) * 2 ^ (min (wRem n (32 : Int)).toNat (IntKind.bits .u64))))))) (0 + ((i + (Int.tdiv n (32 : Int))) + 1).toNat) (.int .u32 (IntKind.wrap .u32 (Int.fdiv ((gi (limbs a) i.toNat) * 2 ^ (min (wRem n (32 : Int)).toNat (IntKind.bits .u64))) (2 ^ 32))))) = U ((l.set (i.toNat + n.toNat / 32) (wOr .u32 (gi l (0 + (i + (Int.tdiv n (32 : Int))).toNat)) (IntKind.wrap .u32 ((gi (limbs a) i.toNat) * 2 ^ (min (wRem n (32 : Int)).toNat (IntKind.bits .u64))))).toNat).set (i.toNat + n.toNat / 32 + 1) (IntKind.wrap .u32 (Int.fdiv ((gi (limbs a) i.toNat) * 2 ^ (min (wRem n (32 : Int)).toNat (IntKind.bits .u64))) (2 ^ 32))).toNat) ∧ ShlInv a n.toNat (i + 1) ((l.set (i.toNat + n.toNat / 32) (wOr .u32 (gi l (0 + (i + (Int.tdiv n (32 : Int))).toNat)) (IntKind.wrap .u32 ((gi (limbs a) i.toNat) * 2 ^ (min (wRem n (32 : Int)).toNat (IntKind.bits .u64))))).toNat).set (i.toNat + n.toNat / 32 + 1) (IntKind.wrap .u32 (Int.fdiv ((gi (limbs a) i.toNat) * 2 ^ (min (wRem n (32 : Int)).toNat (IntKind.bits .u64))) (2 ^ 32))).toNat) from ⟨rfl, set2 _ oO (wOr_pos _ _) oO (wrap_pos _), shl_next h1 oO (by rw [show 0 + (i + Int.tdiv n 32).toNat = i.toNat + n.toNat / 32 by omega]) (by rw [min_rest c1.1])⟩) (show ((L a : Int) - (i + 1)).toNat < ((L a : Int) - i).toNat by omega) : nat_Shl_0_N a n (i, (lim a), (U l), l) .normal (nat_Shl_0_mk a n ((i + 1), (lim a), (List.set (List.set (U l) (0 + (i + (Int.tdiv n (32 : Int))).toNat) (.int .u32 (wOr .u32 (gi l (0 + (i + (Int.tdiv n (32 : Int))).toNat)) (IntKind.wrap .u32 ((gi (limbs a) i.toNat) * 2 ^ (min (wRem n (32 : Int)).toNat (IntKind.bits .u64))))))) (0 + ((i + (Int.tdiv n (32 : Int))) + 1).toNat) (.int .u32 (IntKind.wrap .u32 (Int.fdiv ((gi (limbs a) i.toNat) * 2 ^ (min (wRem n (32 : Int)).toNat (IntKind.bits .u64))) (2 ^ 32))))), ((l.set (i.toNat + n.toNat / 32) (wOr .u32 (gi l (0 + (i + (Int.tdiv n (32 : Int))).toNat)) (IntKind.wrap .u32 ((gi (limbs a) i.toNat) * 2 ^ (min (wRem n (32 : Int)).toNat (IntKind.bits .u64))))).toNat).set (i.toNat + n.toNat / 32 + 1) (IntKind.wrap .u32 (Int.fdiv ((gi (limbs a) i.toNat) * 2 ^ (min (wRem n (32 : Int)).toNat (IntKind.bits .u64))) (2 ^ 32))).toNat))))))))))))))))))))) (fun (h102 : (iLt i ((List.take (((L a : Int) - 0).toNat) (List.drop 0 (lim a))).length : Int)) = false) => have _gh102 := iLt_f h102; aI tT ((nx_exit 0 ((nat_Shl_0_ex a n l).2) l (show ShlInv a n.toNat (L a : Int) l from (show i = (L a : Int) by omega) ▸ h1) rfl : nat_Shl_0_N a n (i, (lim a), (U l), l) (.exit 0) ((nat_Shl_0_ex a n l).2)))))) (by kernel_rfl))
theorem nat_Shl (a : Nat) (n : Int) (c0 : L a ≤ 67108864) (c1 : (0 : Int) ≤ n ∧ n ≤ 1048576) : Impl Tryz.prog Amb 182 [(N a), (.int .i64 n)] (N (a * 2 ^ (n).toNat)) := by
  have e0 := L_len a
  have e3 : (List.take (((L a : Int) - 0).toNat) (List.drop 0 (lim a))).length = L a := by rw [cut_self, L_len]
  have t0 := tdiv32 c1.1
  have t1 := wRem32 c1.1
  exact impl_ob hP hAmb Tryz.func182 (by kernel_rfl) (.lit <| .call (.int .i64 n) <| .lit <| .call (.int .i64 (L a : Int)) <| .yes <| .lit <| .both (.lit <| .ret) (.lit <| .yes <| .lits 2 <| .yes <| .lit <| .yes <| .lit <| .yes <| .yes <| .loop ⟨[5, 6, 7, 31, 32, 33], 1, []⟩ ((nat_Shl_0_mk a n (0, (List.take (((L a : Int) - 0).toNat) (List.drop 0 (lim a))), (List.replicate (((((List.take (((L a : Int) - 0).toNat) (List.drop 0 (lim a))).length : Int) + (Int.tdiv n (32 : Int))) + 1).toNat) (.int .u32 0)), (List.replicate (L a + n.toNat / 32 + 1) 0)))) (List Nat) (nat_Shl_0_ex a n) (nat_Shl_0_J a n) (fun y => .yes <| .call (.int .i64 ((limbs (val y)).length : Int)) <| .yes <| .yes <| .ret)))
    (cast_ob (aI True.intro (aI (nat_places n oA) (aI (nat_sizeN a oA) (aI (and_mk (and_mk (rfl) (iLe_mk oA)) (iLe_mk oA) : ((true && (iLe (0 : Int) (L a : Int))) && (iLe (L a : Int) ((lim a).length : Int))) = true) (aI (fun (h1 : (iEq ((List.take (((L a : Int) - 0).toNat) (List.drop 0 (lim a))).length : Int) 0) = true) => have _gh1 := iEq_t h1; (by have : a = 0 := Decidable.byContradiction (fun h => by have := L_pos h; omega); subst this; rw [Nat.zero_mul]; show vsub .nil (.sl 1 (U (limbs 0))); rw [limbs_zero]; exact vsub_nil 1 : vsub .nil (N (a * 2 ^ (n).toNat)))) (fun (h2 : (iEq ((List.take (((L a : Int) - 0).toNat) (List.drop 0 (lim a))).length : Int) 0) = false) => have _gh2 := iEq_f h2; aI (fits_i64 oA : (fits .i64 (Int.tdiv n (32 : Int))) = true) (aI (fits_u64 oA : (fits .u64 (wRem n (32 : Int))) = true) (aI (fits_i64 oA : (fits .i64 (((List.take (((L a : Int) - 0).toNat) (List.drop 0 (lim a))).length : Int) + (Int.tdiv n (32 : Int)))) = true) (aI (fits_i64 oA : (fits .i64 ((((List.take (((L a : Int) - 0).toNat) (List.drop 0 (lim a))).length : Int) + (Int.tdiv n (32 : Int))) + 1)) = true) (aI (mk_ok oA : (((iEq ((((List.take (((L a : Int) - 0).toNat) (List.drop 0 (lim a))).length : Int) + (Int.tdiv n (32 : Int))) + 1) ((((List.take (((L a : Int) - 0).toNat) (List.drop 0 (lim a))).length : Int) + (Int.tdiv n (32 : Int))) + 1)) && (iLe 0 ((((List.take (((L a : Int) - 0).toNat) (List.drop 0 (lim a))).length : Int) + (Int.tdiv n (32 : Int))) + 1))) && (iLe ((((List.take (((L a : Int) - 0).toNat) (List.drop 0 (lim a))).length : Int) + (Int.tdiv n (32 : Int))) + 1) 1073741824)) = true) (aI tT (aI (rfl : (nat_Shl_0_mk a n (0, (List.take (((L a : Int) - 0).toNat) (List.drop 0 (lim a))), (List.replicate (((((List.take (((L a : Int) - 0).toNat) (List.drop 0 (lim a))).length : Int) + (Int.tdiv n (32 : Int))) + 1).toNat) (.int .u32 0)), (List.replicate (L a + n.toNat / 32 + 1) 0))) = (nat_Shl_0_mk a n (0, (List.take (((L a : Int) - 0).toNat) (List.drop 0 (lim a))), (List.replicate (((((List.take (((L a : Int) - 0).toNat) (List.drop 0 (lim a))).length : Int) + (Int.tdiv n (32 : Int))) + 1).toNat) (.int .u32 0)), (List.replicate (L a + n.toNat / 32 + 1) 0)))) (aI (nat_Shl_0 a n c0 c1 (0, (List.take (((L a : Int) - 0).toNat) (List.drop 0 (lim a))), (List.replicate (((((List.take (((L a : Int) - 0).toNat) (List.drop 0 (lim a))).length : Int) + (Int.tdiv n (32 : Int))) + 1).toNat) (.int .u32 0)), (List.replicate (L a + n.toNat / 32 + 1) 0)) (show (List.take (((L a : Int) - 0).toNat) (List.drop 0 (lim a))) = lim a ∧ (List.replicate (((((List.take (((L a : Int) - 0).toNat) (List.drop 0 (lim a))).length : Int) + (Int.tdiv n (32 : Int))) + 1).toNat) (.int .u32 0)) = U (List.replicate (L a + n.toNat / 32 + 1) 0) ∧ ShlInv a n.toNat 0 (List.replicate (L a + n.toNat / 32 + 1) 0) from ⟨cut_self a, by rw [show (((((List.take (((L a : Int) - 0).toNat) (List.drop 0 (lim a))).length : Int) + (Int.tdiv n (32 : Int))) + 1).toNat) = L a + n.toNat / 32 + 1 by omega]; exact U_rep _, shl_init _ _⟩)) (fun y (hJ : nat_Shl_0_J a n y) => have hJ : ShlInv a n.toNat (L a : Int) y := hJ; have ⟨q0, q1, q2⟩ := shl_end hJ; have q5 := U_len y; have q6 := limbs_len_le q0; aI (ok_arg oA : ((true && Nat.ble (0 + (((((List.take (((L a : Int) - 0).toNat) (List.drop 0 (lim a))).length : Int) + (Int.tdiv n (32 : Int))) + 1).toNat)) (U y).length) && true) = true) (aI (nat_sizeC (List.take (((((List.take (((L a : Int) - 0).toNat) (List.drop 0 (lim a))).length : Int) + (Int.tdiv n (32 : Int))) + 1).toNat) (List.drop 0 (U y))) y (tkU rfl oO) q0 oO) (aI (and_mk (and_mk (and_mk (rfl) (iLe_mk oA)) (iLe_mk oA)) (rfl) : (((true && (iLe (0 : Int) ((limbs (val y)).length : Int))) && (iLe ((limbs (val y)).length : Int) ((((((List.take (((L a : Int) - 0).toNat) (List.drop 0 (lim a))).length : Int) + (Int.tdiv n (32 : Int))) + 1).toNat) : Int))) && true) = true) (aI (ok_res oA : ((true && Nat.ble (0 + (((limbs (val y)).length : Int) - 0).toNat) (U y).length) && true) = true) (vsub_of (congrArg (V.sl 1) (fin_lim rfl q0 q2)) : vsub (.sl 1 (List.take ((((limbs (val y)).length : Int) - 0).toNat) (List.drop 0 (U y)))) (N (a * 2 ^ (n).toNat)))))))))))))))))))) (by kernel_rfl))
theorem nat_Bits (a : Nat) (c0 : L a ≤ 67108864) : Impl Tryz.prog Amb 150 [(N a)] (.int .i64 (nbits a : Int)) := by
  have e0 := L_len a
  have g0 := gi_lt (dig_limbs a) ((L a : Int) - 1).toNat
  have g1 := gi_nonneg (limbs a) ((L a : Int) - 1).toNat
  have b0 := top_bits a
  exact impl_ob hP hAmb Tryz.func150 (by kernel_rfl) (.lit <| .call (.int .i64 (L a : Int)) <| .lit <| .both (.lit <| .ret) (.lit <| .yes <| .lit <| .yes <| .lit <| .yes <| .yes <| .yes <| .lit <| .call (.int .i64 (Lib.bitLen ((gi (limbs a) (((L a : Int) - 1).toNat))).toNat : Int)) <| .lit <| .yes <| .lit <| .ret))
    (cast_ob (aI True.intro (aI (nat_sizeN a oA) (aI (fun (h1 : (iEq (L a : Int) 0) = true) => have _gh1 := iEq_t h1; (vsub_of (congrArg (V.int .i64) (by rw [show a = 0 from Decidable.byContradiction fun h => by have := L_pos h; omega]; rfl)) : vsub (.int .i64 0) (.int .i64 (nbits a : Int)))) (fun (h2 : (iEq (L a : Int) 0) = false) => have _gh2 := iEq_f h2; aI (fits_i64 oA : (fits .i64 ((L a : Int) - 1)) = true) (aI (fits_i64 oA : (fits .i64 ((32 : Int) * ((L a : Int) - 1))) = true) (aI (fits_i64 oA : (fits .i64 ((L a : Int) - 1)) = true) (aI (inB_mk oA : (inB ((L a : Int) - 1) ((lim a).length)) = true) (aI (ld_L oA : (Nat.blt (((L a : Int) - 1).toNat) (lim a).length && isIntK .u32 (nth (lim a) (((L a : Int) - 1).toNat) .unk)) = true) (aI (len32 (gi (limbs a) (((L a : Int) - 1).toNat)) oA) (aI (fits_i64 oA : (fits .i64 (((32 : Int) * ((L a : Int) - 1)) + (Lib.bitLen ((gi (limbs a) (((L a : Int) - 1).toNat))).toNat : Int))) = true) ((vsub_of (congrArg (V.int .i64) (by have := b0; omega)) : vsub (.int .i64 (((32 : Int) * ((L a : Int) - 1)) + (Lib.bitLen ((gi (limbs a) (((L a : Int) - 1).toNat))).toNat : Int))) (.int .i64 (nbits a : Int)))))))))))))) (by kernel_rfl))
end Go.Proofs.YtekcladflnieeaaGreatDoor



namespace Go.Proofs.YtekcladflnieeaaGreatDoor
def sgn (b : Bool) (a : Nat) : Int := if b then -(a : Int) else a
theorem sgn_nat {p : Prop} [Decidable p] {a : Nat} {z : Int} (h1 : p → z = -(a : Int)) (h2 : ¬ p → z = (a : Int)) : sgn (decide p) a = z := by
  unfold sgn
  by_cases h : p
  · simp [h, h1 h]
  · simp [h, h2 h]
theorem sgn_t (a : Nat) : sgn true a = -(a : Int) := rfl
theorem sgn_f (a : Nat) : sgn false a = (a : Int) := rfl
theorem sgn_abs (b : Bool) (a : Nat) : (sgn b a).natAbs = a := by unfold sgn; split <;> omega
theorem bEq_t {p q : Prop} [Decidable p] [Decidable q] (h : bEq (decide p) (decide q) = true) : p ↔ q := by
  unfold bEq at h; simpa using h
theorem bEq_f {p q : Prop} [Decidable p] [Decidable q] (h : bEq (decide p) (decide q) = false) : ¬ (p ↔ q) := by
  unfold bEq at h; simpa using h
theorem Z_mk {b : Bool} {n : Nat} {z : Int} (hb : b = decide (z < 0)) (hn : n = z.natAbs) : V.agg [.bool b, N n] = Z z := by subst hb; subst hn; rfl
theorem Z_of {x y : Int} (h : x = y) : vsub (Z x) (Z y) := vsub_of (congrArg Z h)
theorem L_abs_add (x y : Int) : L (x + y).natAbs ≤ max (L x.natAbs) (L y.natAbs) + 1 := by
  have h := L_add x.natAbs y.natAbs
  have := L_mono (show (x + y).natAbs ≤ x.natAbs + y.natAbs by omega)
  omega
theorem L_abs_neg (x : Int) : L (-x).natAbs = L x.natAbs := by rw [Int.natAbs_neg]
def cmpI (x y : Int) : Int := if x < y then -1 else if y < x then 1 else 0
theorem L_pos_iff (n : Nat) : 0 < L n ↔ 0 < n := by
  constructor
  · intro h; rcases Nat.eq_zero_or_pos n with q | q
    · subst q; rw [L_zero] at h; omega
    · exact q
  · intro h; exact L_pos (by omega)
theorem nbits_zero_iff (n : Nat) : nbits n = 0 ↔ n = 0 := by unfold nbits; split <;> omega
theorem sgn_shl (x : Int) (k : Nat) : sgn (decide (x < 0)) (x.natAbs * 2 ^ k) = x * 2 ^ k := by
  have h : ((x.natAbs * 2 ^ k : Nat) : Int) = ((x.natAbs : Nat) : Int) * 2 ^ k := by rw [Int.natCast_mul, pow_cast]
  refine sgn_nat (fun hx => ?_) (fun hx => ?_)
  · rw [h, show ((x.natAbs : Nat) : Int) = -x by omega, Int.neg_mul, Int.neg_neg]
  · rw [h, show ((x.natAbs : Nat) : Int) = x by omega]
theorem nat_ret1 {b : Bool} (hb : b = true) (a : Nat) : vsub (.agg [.bool (iGt ((lim a).length : Int) 0), N a]) (Z (sgn b a)) := by
  subst hb
  refine vsub_of (Z_mk ?_ (sgn_abs _ _).symm)
  have := L_pos_iff a
  have := L_len a
  rw [sgn_t]
  by_cases h : 0 < a
  · rw [iGt_mk (by omega)]; exact (decide_eq_true (by omega)).symm
  · rw [iGt_mkF (by omega)]; exact (decide_eq_false (by omega)).symm
theorem nat_ret2 {b : Bool} (hb : b = false) (a : Nat) : vsub (.agg [.bool false, N a]) (Z (sgn b a)) := by
  subst hb
  refine vsub_of (Z_mk ?_ (sgn_abs _ _).symm)
  rw [sgn_f]
  exact (decide_eq_false (by omega)).symm
theorem of_neg {n : Int} (h : n < 0) : vsub (.agg [.bool true, N ((0 - (n + 1)) + 1).toNat]) (Z n) := vsub_of (Z_mk (decide_eq_true h).symm (by omega))
theorem of_pos {n : Int} (h : 0 ≤ n) : vsub (.agg [.bool false, N n.toNat]) (Z n) := vsub_of (Z_mk (decide_eq_false (by omega)).symm (by omega))
end Go.Proofs.YtekcladflnieeaaGreatDoor

namespace Go.Proofs.YtekcladflnieeaaGreatDoor
open Go.RowKit
set_option maxRecDepth 100000
theorem int_Nat (b : Bool) (a : Nat) (c0 : L a ≤ 67108864) : Impl Tryz.prog Amb 89 [(.bool b), (N a)] (zV (sgn b a)) := by
  exact impl_ob hP hAmb Tryz.func89 (by kernel_rfl) (.lit <| .call (N a) <| .both (.lits 7 <| .ret) (.lits 6 <| .ret))
    (cast_ob (aI True.intro (aI (nat_TrimN a oA) (aI (fun (h1 : b = true) => (nat_ret1 h1 a : vsub (.agg [(.bool (iGt ((lim a).length : Int) 0)), (N a)]) (zV (sgn b a)))) (fun (h2 : b = false) => (nat_ret2 h2 a : vsub (.agg [(.bool false), (N a)]) (zV (sgn b a))))))) (by kernel_rfl))
theorem int_Of (n : Int) (c0 : (-9223372036854775808 : Int) ≤ n ∧ n ≤ 9223372036854775807) : Impl Tryz.prog Amb 90 [(.int .i64 n)] (zV n) := by
  exact impl_ob hP hAmb Tryz.func90 (by kernel_rfl) (.lit <| .both (.lit <| .yes <| .lit <| .yes <| .lit <| .yes <| .lit <| .yes <| .lit <| .call (N (((((0 : Int) - (n + 1)) + 1)).toNat)) <| .lits 3 <| .ret) (.lit <| .yes <| .lit <| .call (N ((n).toNat)) <| .lits 3 <| .ret))
    (cast_ob (aI True.intro (aI (fun (h1 : (iLt n 0) = true) => have _gh1 := iLt_t h1; aI (fits_i64 oA : (fits .i64 (n + 1)) = true) (aI (fits_i64 oA : (fits .i64 ((0 : Int) - (n + 1))) = true) (aI (fits_u64 oA : (fits .u64 ((0 : Int) - (n + 1))) = true) (aI (fits_u64 oA : (fits .u64 (((0 : Int) - (n + 1)) + 1)) = true) (aI (nat_Of (((0 : Int) - (n + 1)) + 1) oA) ((of_neg oO : vsub (.agg [(.bool true), (N (((((0 : Int) - (n + 1)) + 1)).toNat))]) (zV n)))))))) (fun (h2 : (iLt n 0) = false) => have _gh2 := iLt_f h2; aI (fits_u64 oA : (fits .u64 n) = true) (aI (nat_Of n oA) ((of_pos oO : vsub (.agg [(.bool false), (N ((n).toNat))]) (zV n))))))) (by kernel_rfl))
theorem int_Sign (x : Int) (c0 : L (x).natAbs ≤ 67108864) : Impl Tryz.prog Amb 142 [(zV x)] (.int .i64 ((x).sign)) := by
  exact impl_ob hP hAmb Tryz.func142 (by kernel_rfl) (.lits 2 <| .call (.int .i64 (nbits x.natAbs : Int)) <| .lit <| .both (.lit <| .ret) (.lit <| .both (.lit <| .ret) (.lit <| .ret)))
    (cast_ob (aI True.intro (aI (nat_Bits x.natAbs oA) (aI (fun (h1 : (iEq (nbits x.natAbs : Int) 0) = true) => have _gh1 := iEq_t h1; (vsub_of (congrArg (V.int .i64) (by rw [show x = 0 by have := (nbits_zero_iff x.natAbs).1 oO; omega]; rfl)) : vsub (.int .i64 0) (.int .i64 ((x).sign)))) (fun (h2 : (iEq (nbits x.natAbs : Int) 0) = false) => have _gh2 := iEq_f h2; aI (fun (h3 : (decide (x < 0)) = true) => have _gh3 := of_decide_eq_true h3; (vsub_of (congrArg (V.int .i64) (Int.sign_eq_neg_one_of_neg oO).symm) : vsub (.int .i64 (-1)) (.int .i64 ((x).sign)))) (fun (h4 : (decide (x < 0)) = false) => have _gh4 := of_decide_eq_false h4; (vsub_of (congrArg (V.int .i64) (Int.sign_eq_one_of_pos (by have := (nbits_zero_iff x.natAbs).2; omega)).symm) : vsub (.int .i64 1) (.int .i64 ((x).sign)))))))) (by kernel_rfl))
theorem int_Cmp (x : Int) (y : Int) (c0 : L (x).natAbs ≤ 67108864) (c1 : L (y).natAbs ≤ 67108864) : Impl Tryz.prog Amb 154 [(zV x), (zV y)] (.int .i64 (cmpI x y)) := by
  exact impl_ob hP hAmb Tryz.func154 (by kernel_rfl) (.lit <| .both (.lits 3 <| .both (.lits 3 <| .call (.int .i64 (cmpN y.natAbs x.natAbs)) <| .lit <| .ret) (.lit <| .both (.lit <| .ret) (.lit <| .both (.lit <| .ret) (.lits 3 <| .call (.int .i64 (cmpN x.natAbs y.natAbs)) <| .lit <| .ret)))) (.lits 4 <| .both (.lit <| .ret) (.lit <| .both (.lit <| .ret) (.lits 3 <| .call (.int .i64 (cmpN x.natAbs y.natAbs)) <| .lit <| .ret))))
    (cast_ob (aI True.intro (aI (fun (h1 : (decide (x < 0)) = true) => have _gh1 := of_decide_eq_true h1; aI (fun (h2 : (decide (y < 0)) = true) => have _gh2 := of_decide_eq_true h2; aI (nat_Cmp y.natAbs x.natAbs oA oA) ((vsub_of (congrArg (V.int .i64) (by unfold cmpI; (try unfold cmpN); repeat' split <;> omega)) : vsub (.int .i64 (cmpN y.natAbs x.natAbs)) (.int .i64 (cmpI x y))))) (fun (h3 : (decide (y < 0)) = false) => have _gh3 := of_decide_eq_false h3; aI (fun (h4 : (decide (x < 0)) = true) => have _gh4 := of_decide_eq_true h4; (vsub_of (congrArg (V.int .i64) (by unfold cmpI; (try unfold cmpN); repeat' split <;> omega)) : vsub (.int .i64 (-1)) (.int .i64 (cmpI x y)))) (fun (h5 : (decide (x < 0)) = false) => have _gh5 := of_decide_eq_false h5; aI (fun (h6 : (decide (y < 0)) = true) => have _gh6 := of_decide_eq_true h6; (vsub_of (congrArg (V.int .i64) (by unfold cmpI; (try unfold cmpN); repeat' split <;> omega)) : vsub (.int .i64 1) (.int .i64 (cmpI x y)))) (fun (h7 : (decide (y < 0)) = false) => have _gh7 := of_decide_eq_false h7; aI (nat_Cmp x.natAbs y.natAbs oA oA) ((vsub_of (congrArg (V.int .i64) (by unfold cmpI; (try unfold cmpN); repeat' split <;> omega)) : vsub (.int .i64 (cmpN x.natAbs y.natAbs)) (.int .i64 (cmpI x y)))))))) (fun (h8 : (decide (x < 0)) = false) => have _gh8 := of_decide_eq_false h8; aI (fun (h9 : (decide (x < 0)) = true) => have _gh9 := of_decide_eq_true h9; (vsub_of (congrArg (V.int .i64) (by unfold cmpI; (try unfold cmpN); repeat' split <;> omega)) : vsub (.int .i64 (-1)) (.int .i64 (cmpI x y)))) (fun (h10 : (decide (x < 0)) = false) => have _gh10 := of_decide_eq_false h10; aI (fun (h11 : (decide (y < 0)) = true) => have _gh11 := of_decide_eq_true h11; (vsub_of (congrArg (V.int .i64) (by unfold cmpI; (try unfold cmpN); repeat' split <;> omega)) : vsub (.int .i64 1) (.int .i64 (cmpI x y)))) (fun (h12 : (decide (y < 0)) = false) => have _gh12 := of_decide_eq_false h12; aI (nat_Cmp x.natAbs y.natAbs oA oA) ((vsub_of (congrArg (V.int .i64) (by unfold cmpI; (try unfold cmpN); repeat' split <;> omega)) : vsub (.int .i64 (cmpN x.natAbs y.natAbs)) (.int .i64 (cmpI x y))))))))) (by kernel_rfl))
theorem int_Shl (x : Int) (n : Int) (c0 : L (x).natAbs ≤ 33554432) (c1 : (0 : Int) ≤ n ∧ n ≤ 1048576) : Impl Tryz.prog Amb 170 [(zV x), (.int .i64 n)] (zV (x * 2 ^ (n).toNat)) := by
  have l0 := L_shl x.natAbs n.toNat
  exact impl_ob hP hAmb Tryz.func170 (by kernel_rfl) (.lits 3 <| .call (N (x.natAbs * 2 ^ (n).toNat)) <| .lit <| .call (zV (sgn (decide (x < 0)) (x.natAbs * 2 ^ (n).toNat))) <| .lits 2 <| .ret)
    (cast_ob (aI True.intro (aI (nat_Shl x.natAbs n oA oA) (aI (int_Nat (decide (x < 0)) (x.natAbs * 2 ^ (n).toNat) oA) ((Z_of (sgn_shl x _) : vsub (zV (sgn (decide (x < 0)) (x.natAbs * 2 ^ (n).toNat))) (zV (x * 2 ^ (n).toNat))))))) (by kernel_rfl))
end Go.Proofs.YtekcladflnieeaaGreatDoor

namespace Go.Proofs.YtekcladflnieeaaGreatDoor
theorem gi_digit (a : Nat) (i : Nat) : gi (limbs a) i = ((a / 4294967296 ^ i % 4294967296 : Nat) : Int) := by rw [gi_eq, limb_eq]
theorem mod_succ (a i : Nat) : a % 4294967296 ^ (i + 1) = a % 4294967296 ^ i + 4294967296 ^ i * (a / 4294967296 ^ i % 4294967296) := by
  rw [Nat.pow_succ, Nat.mod_mul]
theorem mod_all {a k : Nat} (h : L a ≤ k) : a % 4294967296 ^ k = a := Nat.mod_eq_of_lt (Nat.lt_of_lt_of_le (L_lt a) (Nat.pow_le_pow_right (by omega) h))
theorem U_snoc (l : List Nat) (d : Int) (h : 0 ≤ d) : U l ++ [V.int .u32 d] = U (l ++ [d.toNat]) := by
  rw [← U_append]; simp [U]; omega
theorem val_snoc (l : List Nat) (d : Nat) : val (l ++ [d]) = val l + 4294967296 ^ l.length * d := by rw [val_append]; simp [val]
theorem dig_snoc {l : List Nat} (h : Dig l) {d : Nat} (hd : d < 4294967296) : Dig (l ++ [d]) := dig_append h fun x hx => by simp at hx; omega
theorem pow_pos' (i : Nat) : 0 < (4294967296 : Nat) ^ i := Nat.pow_pos (by omega)
theorem rcmp_init (a b n : Nat) (ha : L a ≤ n) (hb : L b ≤ n) : a / 4294967296 ^ n = b / 4294967296 ^ n := by
  rw [Nat.div_eq_of_lt (Nat.lt_of_lt_of_le (L_lt a) (Nat.pow_le_pow_right (by omega) ha)), Nat.div_eq_of_lt (Nat.lt_of_lt_of_le (L_lt b) (Nat.pow_le_pow_right (by omega) hb))]
theorem div_split (a i : Nat) : a / 4294967296 ^ i = a / 4294967296 ^ (i + 1) * 4294967296 + a / 4294967296 ^ i % 4294967296 := by
  rw [Nat.pow_succ, ← Nat.div_div_eq_div_mul]; omega
theorem rcmp_step {a b i : Nat} (h : a / 4294967296 ^ (i + 1) = b / 4294967296 ^ (i + 1)) (hd : gi (limbs a) i = gi (limbs b) i) : a / 4294967296 ^ i = b / 4294967296 ^ i := by
  rw [gi_digit, gi_digit] at hd
  rw [div_split a, div_split b]; omega
theorem rcmp_lt {a b i : Nat} (h : a / 4294967296 ^ (i + 1) = b / 4294967296 ^ (i + 1)) (hd : gi (limbs a) i < gi (limbs b) i) : a < b := by
  rw [gi_digit, gi_digit] at hd
  have h1 := div_split a i
  have h2 := div_split b i
  refine Decidable.byContradiction fun hn => ?_
  have := Nat.div_le_div_right (c := 4294967296 ^ i) (Nat.not_lt.1 hn)
  omega
theorem rcmp_end {a b : Nat} (h : a / 4294967296 ^ 0 = b / 4294967296 ^ 0) : a = b := by simpa using h
def RAdd (a b : Nat) (i c : Int) (l : List Nat) : Prop :=
  0 ≤ i ∧ 0 ≤ c ∧ c ≤ 1 ∧ l.length = i.toNat ∧ Dig l ∧ val l + 4294967296 ^ i.toNat * c.toNat = a % 4294967296 ^ i.toNat + b % 4294967296 ^ i.toNat
theorem radd_init (a b : Nat) : RAdd a b 0 0 [] := ⟨by omega, by omega, by omega, rfl, (fun _ h => nomatch h), by simp [val, Nat.mod_one]⟩
theorem radd_next {a b : Nat} {i c s : Int} {l : List Nat} (h : RAdd a b i c l) (hs : s = c + gi (limbs a) i.toNat + gi (limbs b) i.toNat) :
    RAdd a b (i + 1) (Int.fdiv s (2 ^ 32)) (l ++ [(IntKind.wrap .u32 s).toNat]) := by
  obtain ⟨h0, h1, h2, h3, h4, h5⟩ := h
  rw [gi_digit, gi_digit] at hs
  rw [wrap_u32, fdiv_B]
  have da := Nat.mod_lt (a / 4294967296 ^ i.toNat) (show 0 < 4294967296 by omega)
  have db := Nat.mod_lt (b / 4294967296 ^ i.toNat) (show 0 < 4294967296 by omega)
  have hi : (i + 1).toNat = i.toNat + 1 := by omega
  refine ⟨by omega, by omega, by omega, by simp; omega, dig_snoc h4 (by omega), ?_⟩
  rw [hi, mod_succ, mod_succ, val_snoc, h3, Nat.pow_succ]
  generalize hx : a / 4294967296 ^ i.toNat % 4294967296 = x at *
  generalize hy : b / 4294967296 ^ i.toNat % 4294967296 = y at *
  have e1 : (s % 4294967296).toNat + 4294967296 * (s / 4294967296).toNat = c.toNat + x + y := by omega
  generalize (4294967296 : Nat) ^ i.toNat = p at *
  calc _ = val l + p * ((s % 4294967296).toNat + 4294967296 * (s / 4294967296).toNat) := by rw [Nat.mul_add, Nat.mul_assoc]; omega
    _ = val l + p * c.toNat + p * x + p * y := by rw [e1, Nat.mul_add, Nat.mul_add]; omega
    _ = _ := by omega
theorem radd_end {a b : Nat} {i c : Int} {l : List Nat} (h : RAdd a b i c l) (ha : L a < i) (hb : L b < i) : Dig l ∧ l.length = i.toNat ∧ val l = a + b := by
  obtain ⟨h0, h1, h2, h3, h4, h5⟩ := h
  refine ⟨h4, h3, ?_⟩
  rw [mod_all (by omega), mod_all (by omega)] at h5
  have la : a < 4294967296 ^ (i.toNat - 1) := Nat.lt_of_lt_of_le (L_lt a) (Nat.pow_le_pow_right (by omega) (by omega))
  have lb : b < 4294967296 ^ (i.toNat - 1) := Nat.lt_of_lt_of_le (L_lt b) (Nat.pow_le_pow_right (by omega) (by omega))
  have e : 2 * 4294967296 ^ (i.toNat - 1) ≤ (4294967296 : Nat) ^ i.toNat := by
    obtain ⟨k, hk⟩ : ∃ k, i.toNat = k + 1 := ⟨i.toNat - 1, by omega⟩
    rw [hk, Nat.add_sub_cancel, Nat.pow_succ, Nat.mul_comm]
    exact Nat.mul_le_mul_left _ (by omega)
  generalize (4294967296 : Nat) ^ (i.toNat - 1) = p at *
  generalize (4294967296 : Nat) ^ i.toNat = q at *
  have : c.toNat = 0 := by
    refine Decidable.byContradiction fun hn => ?_
    have : q * 1 ≤ q * c.toNat := Nat.mul_le_mul_left _ (by omega)
    omega
  rw [this] at h5
  omega
def RSub (a b : Nat) (i c : Int) (l : List Nat) : Prop :=
  0 ≤ i ∧ 0 ≤ c ∧ c ≤ 1 ∧ l.length = i.toNat ∧ Dig l ∧ val l + b % 4294967296 ^ i.toNat = a % 4294967296 ^ i.toNat + 4294967296 ^ i.toNat * c.toNat
theorem rsub_init (a b : Nat) : RSub a b 0 0 [] := ⟨by omega, by omega, by omega, rfl, (fun _ h => nomatch h), by simp [val, Nat.mod_one]⟩
theorem rsub_next {a b : Nat} {i c c' x y : Int} {l : List Nat} (h : RSub a b i c l) (hy : y = gi (limbs b) i.toNat + c)
    (hx : (gi (limbs a) i.toNat < y ∧ x = gi (limbs a) i.toNat + 4294967296 ∧ c' = 1) ∨ (y ≤ gi (limbs a) i.toNat ∧ x = gi (limbs a) i.toNat ∧ c' = 0)) :
    RSub a b (i + 1) c' (l ++ [(IntKind.wrap .u32 (x - y)).toNat]) := by
  obtain ⟨h0, h1, h2, h3, h4, h5⟩ := h
  rw [gi_digit] at hy hx
  rw [wrap_u32]
  have da := Nat.mod_lt (a / 4294967296 ^ i.toNat) (show 0 < 4294967296 by omega)
  have db := Nat.mod_lt (b / 4294967296 ^ i.toNat) (show 0 < 4294967296 by omega)
  have hi : (i + 1).toNat = i.toNat + 1 := by omega
  refine ⟨by omega, by omega, by omega, by simp; omega, dig_snoc h4 (by omega), ?_⟩
  rw [hi, mod_succ, mod_succ, val_snoc, h3, Nat.pow_succ]
  generalize hx : a / 4294967296 ^ i.toNat % 4294967296 = p at *
  generalize hy : b / 4294967296 ^ i.toNat % 4294967296 = q at *
  have e1 : ((x - y) % 4294967296).toNat + q + c.toNat = p + 4294967296 * c'.toNat := by omega
  generalize (4294967296 : Nat) ^ i.toNat = B at *
  have e2 : B * ((x - y) % 4294967296).toNat + B * q + B * c.toNat = B * p + B * 4294967296 * c'.toNat := by
    rw [← Nat.mul_add, ← Nat.mul_add, e1, Nat.mul_add, Nat.mul_assoc]
  omega
theorem rsub_end {a b : Nat} {i c : Int} {l : List Nat} (h : RSub a b i c l) (ha : L a ≤ i) (hab : b ≤ a) : Dig l ∧ l.length = i.toNat ∧ val l = a - b := by
  obtain ⟨h0, h1, h2, h3, h4, h5⟩ := h
  refine ⟨h4, h3, ?_⟩
  have := L_mono hab
  rw [mod_all (by omega), mod_all (by omega)] at h5
  have hl := val_lt h4
  rw [h3] at hl
  generalize (4294967296 : Nat) ^ i.toNat = p at *
  have : c.toNat = 0 := by
    refine Decidable.byContradiction fun hn => ?_
    have : p * 1 ≤ p * c.toNat := Nat.mul_le_mul_left _ (by omega)
    omega
  rw [this] at h5
  omega
theorem or_lo {d c : Int} {r : Nat} (hd : 0 ≤ d ∧ d < 4294967296) (hr : r < 32) (hc : 0 ≤ c ∧ c < 2 ^ r) : wOr .u64 (d * 2 ^ r) c = d * 2 ^ r + c := by
  obtain ⟨d, rfl⟩ := Int.eq_ofNat_of_zero_le hd.1
  obtain ⟨c, rfl⟩ := Int.eq_ofNat_of_zero_le hc.1
  have hc' : c < 2 ^ r := by have := hc.2; rw [pow_cast] at this; omega
  have hd' : d < 4294967296 := by omega
  have hb := shl_bound hd' hr
  rw [pow_cast, ← Int.natCast_mul]
  unfold wOr
  show IntKind.wrap .u64 (BitVec.ofInt 64 _ ||| BitVec.ofInt 64 _).toNat = _
  rw [BitVec.toNat_or, ofInt64 (by omega), ofInt64 (by omega), wrap_u64]
  have hp : 2 ^ r ≤ 2 ^ 31 := Nat.pow_le_pow_right (by omega) (by omega)
  rw [Int.toNat_natCast, Int.toNat_natCast, Nat.mod_eq_of_lt (by omega), Nat.mod_eq_of_lt (by omega), Nat.or_comm, Nat.mul_comm d, or_add hc']
  rw [Nat.mul_comm (2 ^ r) d] at *
  omega
def RShl (a n : Nat) (i c : Int) (l : List Nat) : Prop :=
  0 ≤ i ∧ 0 ≤ c ∧ c < 2 ^ (n % 32) ∧ l.length = n / 32 + i.toNat ∧ Dig l ∧ val l + 4294967296 ^ (n / 32 + i.toNat) * c.toNat = a % 4294967296 ^ i.toNat * 2 ^ n
theorem rshl_init (a n : Nat) : RShl a n 0 0 (List.replicate (n / 32) 0) := by
  refine ⟨by omega, by omega, ?_, by simp, dig_rep _, by simp [val_rep, Nat.mod_one]⟩
  rw [pow_cast]; have := Nat.pow_pos (n := n % 32) (show 0 < 2 by omega); omega
theorem rshl_next {a n : Nat} {i c x : Int} {l : List Nat} (h : RShl a n i c l) (hx : x = gi (limbs a) i.toNat * 2 ^ (n % 32) + c) :
    RShl a n (i + 1) (Int.fdiv x (2 ^ 32)) (l ++ [(IntKind.wrap .u32 x).toNat]) := by
  obtain ⟨h0, h1, h2, h3, h4, h5⟩ := h
  rw [gi_digit] at hx
  rw [wrap_u32, fdiv_B]
  have hi : (i + 1).toNat = i.toNat + 1 := by omega
  have da := Nat.mod_lt (a / 4294967296 ^ i.toNat) (show 0 < 4294967296 by omega)
  rw [pow_cast] at h2 hx
  have hp : 0 < 2 ^ (n % 32) := Nat.pow_pos (by omega)
  have hpp : (4294967296 : Nat) ^ (n / 32) * 2 ^ (n % 32) = 2 ^ n := by rw [B_pow, ← Nat.pow_add, show 32 * (n / 32) + n % 32 = n by omega]
  have e3 : (4294967296 : Nat) ^ (n / 32 + i.toNat) = 4294967296 ^ (n / 32) * 4294967296 ^ i.toNat := Nat.pow_add ..
  generalize hd : a / 4294967296 ^ i.toNat % 4294967296 = d at *
  have hxn : x = ((d * 2 ^ (n % 32) + c.toNat : Nat) : Int) := by rw [hx]; push_cast; omega
  have hxb : d * 2 ^ (n % 32) + c.toNat < 4294967296 * 2 ^ (n % 32) := by
    have : (d + 1) * 2 ^ (n % 32) ≤ 4294967296 * 2 ^ (n % 32) := Nat.mul_le_mul_right _ (by omega)
    rw [Nat.add_mul] at this
    omega
  generalize hX : d * 2 ^ (n % 32) + c.toNat = X at *
  have hq : X / 4294967296 < 2 ^ (n % 32) := Nat.div_lt_of_lt_mul hxb
  refine ⟨by omega, by omega, by rw [pow_cast]; omega, by simp; omega, dig_snoc h4 (by omega), ?_⟩
  rw [hi, mod_succ, hd, val_snoc, h3, show n / 32 + (i.toNat + 1) = n / 32 + i.toNat + 1 by omega, Nat.pow_succ]
  have e1 : (x % 4294967296).toNat + 4294967296 * (x / 4294967296).toNat = X := by omega
  have e2 : (4294967296 : Nat) ^ (n / 32 + i.toNat) * (x % 4294967296).toNat + 4294967296 ^ (n / 32 + i.toNat) * 4294967296 * (x / 4294967296).toNat = 4294967296 ^ (n / 32 + i.toNat) * X := by
    rw [← e1, Nat.mul_add, Nat.mul_assoc]
  rw [Nat.add_assoc, e2, ← hX, Nat.mul_add, Nat.add_mul, ← h5]
  have e4 : 4294967296 ^ (n / 32 + i.toNat) * (d * 2 ^ (n % 32)) = 4294967296 ^ i.toNat * d * 2 ^ n := by
    rw [e3, ← hpp]
    simp only [Nat.mul_comm, Nat.mul_left_comm, Nat.mul_assoc]
  omega
theorem rshl_end {a n : Nat} {i c : Int} {l : List Nat} (h : RShl a n i c l) (ha : L a < i) : Dig l ∧ l.length = n / 32 + i.toNat ∧ val l = a * 2 ^ n := by
  obtain ⟨h0, h1, h2, h3, h4, h5⟩ := h
  refine ⟨h4, h3, ?_⟩
  rw [mod_all (by omega)] at h5
  have la : a < 4294967296 ^ (i.toNat - 1) := Nat.lt_of_lt_of_le (L_lt a) (Nat.pow_le_pow_right (by omega) (by omega))
  have hpp : (2 : Nat) ^ n ≤ 4294967296 ^ (n / 32 + 1) := by rw [B_pow]; exact Nat.pow_le_pow_right (by omega) (by omega)
  have e : (4294967296 : Nat) ^ (n / 32 + i.toNat) = 4294967296 ^ (i.toNat - 1) * 4294967296 ^ (n / 32 + 1) := by rw [← Nat.pow_add, show i.toNat - 1 + (n / 32 + 1) = n / 32 + i.toNat by omega]
  have hlt : a * 2 ^ n < 4294967296 ^ (n / 32 + i.toNat) := by
    rw [e]
    exact Nat.lt_of_lt_of_le ((Nat.mul_lt_mul_right (Nat.pow_pos (by omega))).2 la) (Nat.mul_le_mul_left _ hpp)
  generalize (4294967296 : Nat) ^ (n / 32 + i.toNat) = p at *
  have : c.toNat = 0 := by
    refine Decidable.byContradiction fun hn => ?_
    have : p * 1 ≤ p * c.toNat := Nat.mul_le_mul_left _ (by omega)
    omega
  rw [this] at h5
  omega
def RShr (a n : Nat) (i : Int) (l : List Nat) : Prop :=
  (n / 32 : Nat) ≤ i ∧ l.length = i.toNat - n / 32 ∧ Dig l ∧ val l = a / 2 ^ n % 4294967296 ^ (i.toNat - n / 32)
theorem rshr_init (a n : Nat) : RShr a n ((n / 32 : Nat) : Int) [] := ⟨by omega, by simp, (fun _ h => nomatch h), by simp [val, Nat.mod_one]⟩
theorem fdiv_min {n : Int} (h : 0 ≤ n) (x : Int) : Int.fdiv x (2 ^ (min (wRem n (32 : Int)).toNat (IntKind.bits .u64))) = x / ((2 ^ (n.toNat % 32) : Nat) : Int) := by
  rw [min_rest h, fdiv_pow]
theorem rshr_next {a : Nat} {n i x : Int} {l : List Nat} (hn : 0 ≤ n) (h : RShr a n.toNat i l)
    (hx : x = wOr .u64 (gi (limbs a) i.toNat) (gi (limbs a) (i + 1).toNat * 2 ^ 32)) :
    RShr a n.toNat (i + 1) (l ++ [(IntKind.wrap .u32 (Int.fdiv x (2 ^ (min (wRem n (32 : Int)).toNat (IntKind.bits .u64))))).toNat]) := by
  obtain ⟨h1, h2, h3, h4⟩ := h
  have hi : (i + 1).toNat = i.toNat + 1 := by omega
  rw [wOr_gi, hi, gi_eq, gi_eq] at hx
  have hd := shr_digit a n.toNat (i.toNat - n.toNat / 32)
  have hk : i.toNat - n.toNat / 32 + n.toNat / 32 = i.toNat := by omega
  rw [hk] at hd
  rw [fdiv_min hn]
  have hw : (IntKind.wrap .u32 (x / ((2 ^ (n.toNat % 32) : Nat) : Int))).toNat = a / 2 ^ n.toNat / 4294967296 ^ (i.toNat - n.toNat / 32) % 4294967296 := by
    rw [hd, hx]
    generalize (limbs a).getD i.toNat 0 = y
    generalize (limbs a).getD (i.toNat + 1) 0 = z
    rw [wrap_u32, show (y : Int) + (z : Int) * 4294967296 = ((y + z * 4294967296 : Nat) : Int) by omega]
    generalize y + z * 4294967296 = Y
    rw [← Int.natCast_ediv]
    omega
  rw [hw]
  refine ⟨by omega, by simp; omega, dig_snoc h3 (Nat.mod_lt _ (by omega)), ?_⟩
  rw [hi, show i.toNat + 1 - n.toNat / 32 = i.toNat - n.toNat / 32 + 1 by omega, mod_succ, val_snoc, h2, h4]
theorem rshr_end {a n : Nat} {i : Int} {l : List Nat} (h : RShr a n i l) (ha : L a ≤ i) : Dig l ∧ l.length = i.toNat - n / 32 ∧ val l = a / 2 ^ n := by
  obtain ⟨h1, h2, h3, h4⟩ := h
  refine ⟨h3, h2, ?_⟩
  rw [h4]
  refine Nat.mod_eq_of_lt (Nat.div_lt_of_lt_mul ?_)
  have : (4294967296 : Nat) ^ i.toNat ≤ 2 ^ n * 4294967296 ^ (i.toNat - n / 32) := by
    rw [B_pow, B_pow, ← Nat.pow_add]
    exact Nat.pow_le_pow_right (by omega) (by omega)
  exact Nat.lt_of_lt_of_le (Nat.lt_of_lt_of_le (L_lt a) (Nat.pow_le_pow_right (by omega) (by omega))) this
theorem trim_cut {l : List Nat} (h : Dig l) {y : Int} (hy : y = ((limbs (val l)).length : Int)) : List.take ((y - 0).toNat) (List.drop 0 (U l)) = lim (val l) := by rw [hy]; exact cut_lim h
theorem trim_cells {l : List Nat} (h : Dig l) {y : Int} (hy : y = ((limbs (val l)).length : Int)) : (List.take ((y - 0).toNat) (List.drop 0 (U l))).all isCell = true := by rw [trim_cut h hy]; exact U_cells _
theorem trim_len {l : List Nat} (h : Dig l) {y : Int} (hy : y = ((limbs (val l)).length : Int)) : (List.take ((y - 0).toNat) (List.drop 0 (U l))).length = L (val l) := by rw [trim_cut h hy, L_len]
theorem trim_ret {c : List V} {n : Nat} (h : c = lim n) : V.sl 1 (List.take (0 + c.length) (List.drop 0 (([] : List V) ++ c))) = N n := by rw [h]; simp [N]
theorem cmpN_range (a b : Nat) : (cmpN a b = -1 ∧ a < b) ∨ (cmpN a b = 1 ∧ b < a) ∨ (cmpN a b = 0 ∧ a = b) := by
  unfold cmpN
  split
  · exact .inl ⟨rfl, by assumption⟩
  · split
    · exact .inr (.inl ⟨rfl, by assumption⟩)
    · exact .inr (.inr ⟨rfl, by omega⟩)
theorem iMax_range (a b : Int) : a ≤ iMax a b ∧ b ≤ iMax a b ∧ (iMax a b = a ∨ iMax a b = b) := by
  unfold iMax; split <;> omega
theorem L_top (a : Nat) : L a = 0 ∨ gi (limbs a) (L a - 1) ≠ 0 := by
  by_cases h : a = 0
  · exact .inl (by rw [h, L_zero])
  · refine .inr ?_
    have h1 := L_pos h
    have h2 := L_low h
    have h3 := L_lt a
    rw [gi_digit]
    have e : (4294967296 : Nat) ^ L a = 4294967296 ^ (L a - 1) * 4294967296 := by
      obtain ⟨k, hk⟩ : ∃ k, L a = k + 1 := ⟨L a - 1, by omega⟩
      rw [hk, Nat.add_sub_cancel, Nat.pow_succ]
    rw [e] at h3
    have h4 : a / 4294967296 ^ (L a - 1) < 4294967296 := Nat.div_lt_of_lt_mul h3
    rw [Nat.mod_eq_of_lt h4]
    have : 0 < a / 4294967296 ^ (L a - 1) := Nat.div_pos h2 (pow_pos' _)
    omega
theorem gi_top (a : Nat) (h : 0 < L a) : gi (limbs a) ((L a : Int) - 1).toNat ≠ 0 := by
  have := L_top a
  rw [show ((L a : Int) - 1).toNat = L a - 1 by omega]
  omega
theorem wrap_nn (x : Int) : 0 ≤ IntKind.wrap .u32 x := by rw [wrap_u32]; omega
theorem U_one (d : Int) (h : 0 ≤ d) : [V.int .u32 d] = U ([d.toNat] : List Nat) := by simp [U]; omega
theorem shl_c {r : Nat} (hr : r < 32) {c : Int} (h : c < 2 ^ r) : c < 4294967296 := by
  rw [pow_cast] at h
  have := Nat.pow_le_pow_right (show 0 < 2 by omega) (Nat.le_of_lt hr)
  omega
theorem testBit_mod (a i : Nat) : a.testBit i = decide (a / 2 ^ i % 2 = 1) := by
  rw [Nat.testBit_eq_decide_div_mod_eq]
theorem bit1 {a : Nat} {i : Int} (h : 0 ≤ i) : iEq (wRem (Int.fdiv (gi (limbs a) (Int.tdiv i (32 : Int)).toNat) (2 ^ (min (wRem i (32 : Int)).toNat (IntKind.bits .u64)))) 2) 1 = a.testBit i.toNat := by
  rw [fdiv_min h, tdiv32 h, show (i / 32).toNat = i.toNat / 32 by omega, bit_limb, gi_eq]
  rw [← Int.natCast_ediv]
  generalize (limbs a).getD (i.toNat / 32) 0 / 2 ^ (i.toNat % 32) = x
  unfold wRem iEq
  rw [Int.tmod_eq_emod_of_nonneg (by omega)]
  by_cases hx : x % 2 = 1
  · rw [show ((x : Int) % 2) = 1 by omega]; simp [hx]
  · rw [show ((x : Int) % 2) = 0 by omega]; simp [hx]
theorem bits1_step {a : Nat} {n : Int} (h0 : 0 < n) (h : a < 2 ^ n.toNat) (hb : a.testBit (n - 1).toNat = false) : a < 2 ^ (n - 1).toNat := by
  rw [testBit_mod] at hb
  have hb := of_decide_eq_false hb
  obtain ⟨k, hk⟩ : ∃ k, n.toNat = k + 1 := ⟨n.toNat - 1, by omega⟩
  rw [hk, Nat.pow_succ] at h
  have e : (n - 1).toNat = k := by omega
  rw [e] at hb ⊢
  refine Decidable.byContradiction fun hn => hb ?_
  have h1 : a / 2 ^ k < 2 := Nat.div_lt_of_lt_mul h
  have h2 : 0 < a / 2 ^ k := Nat.div_pos (by omega) (Nat.pow_pos (by omega))
  omega
theorem bits1_end {a : Nat} {n : Int} (h0 : 0 ≤ n) (h : a < 2 ^ n.toNat) (hb : n ≤ 0 ∨ a.testBit (n - 1).toNat = true) : n = (nbits a : Int) := by
  by_cases hn : n ≤ 0
  · have : n = 0 := by omega
    subst this
    have : a = 0 := by simpa using h
    subst this
    rfl
  · have hb := hb.resolve_left hn
    rw [testBit_mod] at hb
    have hb := of_decide_eq_true hb
    obtain ⟨k, hk⟩ : ∃ k, n.toNat = k + 1 := ⟨n.toNat - 1, by omega⟩
    have e : (n - 1).toNat = k := by omega
    rw [e] at hb
    rw [hk] at h
    have h2 : 2 ^ k ≤ a := by
      refine Decidable.byContradiction fun q => ?_
      rw [Nat.div_eq_of_lt (by omega)] at hb
      cases hb
    rw [nbits_of h2 h]
    omega
theorem zer1_step {a : Nat} {i : Int} (h0 : 0 ≤ i) (h : a % 2 ^ i.toNat = 0) (hb : a.testBit i.toNat = false) : a % 2 ^ (i + 1).toNat = 0 := by
  rw [testBit_mod] at hb
  have hb := of_decide_eq_false hb
  rw [show (i + 1).toNat = i.toNat + 1 by omega, Nat.pow_succ, Nat.mod_mul, h]
  have : a / 2 ^ i.toNat % 2 = 0 := by omega
  rw [this, Nat.mul_zero]
theorem zer1_hit {a : Nat} {i : Int} (h0 : 0 ≤ i) (h : a % 2 ^ i.toNat = 0) (hb : a.testBit i.toNat = true) : i = (tz a : Int) := by
  rw [testBit_mod] at hb
  rw [tz_unique h (of_decide_eq_true hb)]
  omega
theorem zer1_end {a : Nat} (h : a % 2 ^ (32 * L a) = 0) : tz a = 0 := by
  have := L_lt a
  rw [B_pow] at this
  rw [Nat.mod_eq_of_lt this] at h
  rw [h, tz, if_pos rfl]
theorem nbits_L (a : Nat) : nbits a ≤ 32 * L a := by
  by_cases h : a = 0
  · rw [h]; simp [nbits]
  · have h1 := nbits_le h
    have h2 := L_lt a
    rw [B_pow] at h2
    have : nbits a - 1 < 32 * L a := (Nat.pow_lt_pow_iff_right (by omega)).1 (Nat.lt_of_le_of_lt h1 h2)
    omega
theorem tz_lt {a : Nat} (h : a ≠ 0) : tz a < nbits a := by
  obtain ⟨h1, h2⟩ := tz_spec h
  have h3 := nbits_lt a
  have : 2 ^ tz a ≤ a := by
    refine Decidable.byContradiction fun q => ?_
    rw [Nat.div_eq_of_lt (by omega)] at h2
    cases h2
  exact (Nat.pow_lt_pow_iff_right (by omega)).1 (Nat.lt_of_le_of_lt this h3)
theorem tz_L (a : Nat) : tz a ≤ 32 * L a := by
  by_cases h : a = 0
  · rw [h]; simp [tz]
  · have := tz_lt h; have := nbits_L a; omega
theorem L_val {l : List Nat} (h : Dig l) : L (val l) ≤ l.length := limbs_len_le h
end Go.Proofs.YtekcladflnieeaaGreatDoor
