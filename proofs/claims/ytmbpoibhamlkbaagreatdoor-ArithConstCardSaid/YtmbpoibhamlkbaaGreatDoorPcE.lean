/-
  Lower layers: what functions of the program compute, and plain facts. Conditions: as the theorems say.
-/
import Derived.Lib.BitFns
import Derived.Lib.TrailingZeros
import Derived.Test.YtmbpoibhamlkbaaGreatDoorPcD
namespace Go.Proofs.YtmbpoibhamlkbaaGreatDoor
open Go.RowKit
set_option maxRecDepth 100000

def nat_size_0_mk (l : List Nat) (x : Int) : St := ⟨mkS 19 [(0, (.val (.sl 1 (U l)))), (3, (.val (.int .i64 x)))], []⟩
def nat_size_0_I (l : List Nat) (x : Int) : Prop := 0 ≤ x ∧ x ≤ l.length ∧ val l = val (l.take (x).toNat)
def nat_size_0_mu (l : List Nat) (x : Int) : Nat := (x).toNat
def nat_size_0_ex (l : List Nat) (y : Int) : Ex × St := (.exit 0, ⟨mkS 19 [(0, (.val (.sl 1 (U l)))), (3, (.val (.int .i64 y)))], []⟩)
def nat_size_0_J (l : List Nat) (y : Int) : Prop := y = ((limbs (val l)).length : Int)
theorem nat_size_0 (l : List Nat) (c0 : Dig l)(c1 : l.length ≤ 1073741824) (x0 : Int) (hI : nat_size_0_I l x0) : LoopOk Tryz.prog Amb (loopN Tryz.f183 0) (nat_size_0_mk l x0) (fun e st_ => ∃ y, nat_size_0_J l y ∧ nat_size_0_ex l y = (e, st_)) :=
  loop_ob hP hAmb ⟨[0, 3], 0, []⟩ (nat_size_0_mk l) (nat_size_0_I l) (nat_size_0_mu l) (nat_size_0_ex l) (nat_size_0_J l) x0 hI (fun n => .lit <| .both (.lits 3 <| .yes <| .lit <| .yes <| .lit <| .yes <| .lits 3 <| .both (.lit <| .yes <| .fin2 ⟨[0, 3], 0, []⟩) (.fin2 ⟨[0, 3], 0, []⟩)) (.lits 7 <| .fin2 ⟨[0, 3], 0, []⟩)) (by
    rintro n hI
    have hI : 0 ≤ n ∧ n ≤ l.length ∧ val l = val (l.take (n).toNat) := hI
    obtain ⟨h1, h2, h3⟩ := hI
    have e0 := U_len l
    exact cast_ob (And.intro True.intro (And.intro (fun (h101 : (iGt n 0) = true) => have _gh101 := iGt_t h101; And.intro (fits_i64 (by first | omega | (simp <;> omega)) : (fits .i64 (n - 1)) = true) (And.intro (inB_mk (by first | omega | (simp <;> omega)) : (inB (n - 1) ((U l).length)) = true) (And.intro (ld_U (by first | omega | (simp <;> omega)) : (Nat.blt ((n - 1).toNat) (U l).length && isIntK .u32 (nth (U l) ((n - 1).toNat) .unk)) = true) (And.intro (fun (h102 : (iEq (gi l ((n - 1).toNat)) 0) = true) => have _gh102 := iEq_t h102; And.intro (fits_i64 (by first | omega | (simp <;> omega)) : (fits .i64 (n - 1)) = true) (And.intro (rfl : true = true) ((nx_next (n - 1) (show 0 ≤ (n - 1) ∧ (n - 1) ≤ l.length ∧ val l = val (l.take ((n - 1)).toNat) from ⟨by omega, by omega, size_step (by omega) (by omega) h3 (by assumption)⟩) (show (n - 1).toNat < n.toNat by omega) : NX (nat_size_0_mk l) (nat_size_0_I l) (nat_size_0_mu l) (nat_size_0_ex l) (nat_size_0_J l) n .normal (nat_size_0_mk l (n - 1)))))) (fun (h103 : (iEq (gi l ((n - 1).toNat)) 0) = false) => have _gh103 := iEq_f h103; And.intro (rfl : true = true) ((nx_exit 0 ((nat_size_0_ex l n).2) n (show n = ((limbs (val l)).length : Int) from size_end c0 h1 h2 h3 (by first | exact .inl (by omega) | exact .inr (by assumption))) rfl : NX (nat_size_0_mk l) (nat_size_0_I l) (nat_size_0_mu l) (nat_size_0_ex l) (nat_size_0_J l) n (.exit 0) ((nat_size_0_ex l n).2)))))))) (fun (h104 : (iGt n 0) = false) => have _gh104 := iGt_f h104; And.intro (rfl : true = true) ((nx_exit 0 ((nat_size_0_ex l n).2) n (show n = ((limbs (val l)).length : Int) from size_end c0 h1 h2 h3 (by first | exact .inl (by omega) | exact .inr (by assumption))) rfl : NX (nat_size_0_mk l) (nat_size_0_I l) (nat_size_0_mu l) (nat_size_0_ex l) (nat_size_0_J l) n (.exit 0) ((nat_size_0_ex l n).2)))))) (by kernel_rfl))

theorem nat_size (l : List Nat) (c0 : Dig l) (c1 : l.length ≤ 1073741824) : Impl Tryz.prog Amb 183 [(.sl 1 (U l))] (.int .i64 ((limbs (val l)).length : Int)) := by
  exact impl_ob hP hAmb Tryz.func183 (by kernel_rfl) (.loop ⟨[0, 3], 0, []⟩ ((nat_size_0_mk l ((U l).length : Int))) (Int) (nat_size_0_ex l) (nat_size_0_J l) (fun y => .lit <| .ret))
    (cast_ob (And.intro True.intro (And.intro (rfl : true = true) (And.intro (rfl : (nat_size_0_mk l ((U l).length : Int)) = (nat_size_0_mk l ((U l).length : Int))) (And.intro (nat_size_0 l c0 c1 ((U l).length : Int) (show 0 ≤ ((U l).length : Int) ∧ ((U l).length : Int) ≤ l.length ∧ val l = val (l.take (((U l).length : Int)).toNat) from ⟨by omega, by rw [U_len]; omega, by rw [U_len]; simp⟩)) (fun y (hJ : nat_size_0_J l y) => have hJ : y = ((limbs (val l)).length : Int) := hJ; have j1 := hJ; (vsub_of (by rw [hJ]) : vsub (.int .i64 y) (.int .i64 ((limbs (val l)).length : Int)))))))) (by kernel_rfl))

theorem nat_sizeN (n : Nat) (c0 : L n ≤ 1073741824) : Impl Tryz.prog Amb 183 [N n] (.int .i64 (L n : Int)) := by
  have h := nat_size (limbs n) (dig_limbs n) c0
  rwa [val_limbs] at h

theorem clone_u32 (c : List V) (c0 : c.all isCell = true) (c1 : c.length ≤ 1073741824) : Impl Tryz.prog Amb 215 [(.sl 1 c)] (.sl 1 c) := by
  exact impl_ob hP hAmb Tryz.func215 (by kernel_rfl) (.both (.both (.lits 2 <| .ret) (.lit <| .yes <| .yes <| .ret)) (.lit <| .yes <| .yes <| .ret))
    (cast_ob (And.intro True.intro (And.intro (fun (h1 : Nat.beq c.length 0 = true) => And.intro ((by rw [show c = [] from List.eq_nil_of_length_eq_zero (Nat.eq_of_beq_eq_true h1)]; exact vsub_nil 1 : vsub .nil (.sl 1 c))) (And.intro (and_mk (and_mk (and_mk (rfl) (by first | assumption | exact U_cells _)) (st_ok (by first | omega | (simp <;> omega)))) (by first | rfl | (simp <;> omega)) : (true && c.all isCell && Nat.ble (0 + c.length) 1073741824 && Nat.beq ([] : List V).length 0) = true) (And.intro (ok_res (by first | omega | (simp <;> omega)) : ((true && Nat.ble (0 + (0 + c.length)) (([] : List V) ++ c).length) && true) = true) (vsub_of (by simp) : vsub (.sl 1 (List.take (0 + c.length) (List.drop 0 (([] : List V) ++ c)))) (.sl 1 c))))) (fun (h2 : Nat.beq c.length 0 = false) => And.intro (and_mk (and_mk (and_mk (rfl) (by first | assumption | exact U_cells _)) (st_ok (by first | omega | (simp <;> omega)))) (by first | rfl | (simp <;> omega)) : (true && c.all isCell && Nat.ble (0 + c.length) 1073741824 && Nat.beq ([] : List V).length 0) = true) (And.intro (ok_res (by first | omega | (simp <;> omega)) : ((true && Nat.ble (0 + (0 + c.length)) (([] : List V) ++ c).length) && true) = true) (vsub_of (by simp) : vsub (.sl 1 (List.take (0 + c.length) (List.drop 0 (([] : List V) ++ c)))) (.sl 1 c)))))) (by kernel_rfl))

theorem nat_sizeC (c : List V) (l : List Nat) (c0 : c = U l) (c1 : Dig l) (c2 : l.length ≤ 1073741824) : Impl Tryz.prog Amb 183 [.sl 1 c] (.int .i64 ((limbs (val l)).length : Int)) := by
  subst c0
  exact nat_size l c1 c2

theorem nat_Trim (l : List Nat) (c0 : Dig l) (c1 : l.length ≤ 1073741824) : Impl Tryz.prog Amb 182 [(.sl 1 (U l))] (N (val l)) := by
  have e0 := cut_lim c0
  have e1 := limbs_len_le c0
  have e2 := U_len l
  exact impl_ob hP hAmb Tryz.func182 (by kernel_rfl) (.lit <| .call (.int .i64 ((limbs (val l)).length : Int)) <| .yes <| .lit <| .call (.sl 1 (List.take ((((limbs (val l)).length : Int) - 0).toNat) (List.drop 0 (U l)))) <| .lit <| .ret)
    (cast_ob (And.intro True.intro (And.intro (nat_size l (by first | omega | (simp <;> omega)) (by first | omega | (simp <;> omega))) (And.intro (and_mk (and_mk (rfl) (iLe_mk (by first | omega | (simp <;> omega)))) (iLe_mk (by first | omega | (simp <;> omega))) : ((true && (iLe (0 : Int) ((limbs (val l)).length : Int))) && (iLe ((limbs (val l)).length : Int) ((U l).length : Int))) = true) (And.intro (clone_u32 (List.take ((((limbs (val l)).length : Int) - 0).toNat) (List.drop 0 (U l))) (by rw [cut_lim c0]; exact U_cells _) (by rw [cut_lim c0]; exact Nat.le_trans (Nat.le_of_eq (lim_len _)) (by omega))) ((vsub_of (congrArg (V.sl 1) (cut_lim c0)) : vsub (.sl 1 (List.take ((((limbs (val l)).length : Int) - 0).toNat) (List.drop 0 (U l)))) (N (val l)))))))) (by kernel_rfl))

theorem nat_TrimN (n : Nat) (c0 : L n ≤ 1073741824) : Impl Tryz.prog Amb 182 [N n] (N n) := by
  have h := nat_Trim (limbs n) (dig_limbs n) c0
  rwa [val_limbs] at h
theorem nat_Trim2 (x y : Int) (c0 : 0 ≤ x ∧ x < 4294967296) (c1 : 0 ≤ y ∧ y < 4294967296) : Impl Tryz.prog Amb 182 [.sl 1 [.int .u32 x, .int .u32 y]] (N (x + 4294967296 * y).toNat) := by
  have h := nat_Trim [x.toNat, y.toNat] (fun d hd => by
    rcases List.mem_cons.1 hd with rfl | hd
    · omega
    · rcases List.mem_cons.1 hd with rfl | hd
      · omega
      · cases hd) (by simp)
  have e : U [x.toNat, y.toNat] = [.int .u32 x, .int .u32 y] := by
    simp only [U, List.map_cons, List.map_nil]
    rw [Int.toNat_of_nonneg c0.1, Int.toNat_of_nonneg c1.1]
  have v : val [x.toNat, y.toNat] = (x + 4294967296 * y).toNat := by simp only [val]; omega
  rwa [e, v] at h

theorem nat_Of (x : Int) (c0 : (0 : Int) ≤ x ∧ x < 18446744073709551616) : Impl Tryz.prog Amb 154 [(.int .u64 x)] (N ((x).toNat)) := by
  have e0 := wrap_u32 x
  have e1 := wrap_u32 (x / 4294967296)
  exact impl_ob hP hAmb Tryz.func154 (by kernel_rfl) (.lit <| .no <| .lits 2 <| .no <| .lit <| .call (N (((IntKind.wrap .u32 x) + 4294967296 * (IntKind.wrap .u32 (Int.fdiv x (2 ^ 32)))).toNat)) <| .lit <| .ret)
    (cast_ob (And.intro True.intro (And.intro (nat_Trim2 (IntKind.wrap .u32 x) (IntKind.wrap .u32 (Int.fdiv x (2 ^ 32))) (by rw [wrap_u32]; omega) (by rw [wrap_u32, fdiv_B]; omega)) ((vsub_of (congrArg N (by rw [wrap_u32, wrap_u32, fdiv_B]; omega)) : vsub (N (((IntKind.wrap .u32 x) + 4294967296 * (IntKind.wrap .u32 (Int.fdiv x (2 ^ 32)))).toNat)) (N ((x).toNat)))))) (by kernel_rfl))

theorem nat_places (n : Int) (c0 : 0 ≤ n ∧ n ≤ 1048576) : Impl Tryz.prog Amb 186 [(.int .i64 n)] (.int .i64 n) := by
  exact impl_ob hP hAmb Tryz.func186 (by kernel_rfl) (.lits 3 <| .ret)
    (cast_ob (And.intro True.intro ((vsub_of (congrArg (V.int .i64) (by unfold iMin iMax; split <;> split <;> omega)) : vsub (.int .i64 (iMin (iMax n (0 : Int)) (1048576 : Int))) (.int .i64 n)))) (by kernel_rfl))

theorem nat_Valid (n : Nat) (c0 : L n ≤ 1073741824) : Impl Tryz.prog Amb 217 [(N n)] (.bool true) := by
  exact impl_ob hP hAmb Tryz.func217 (by kernel_rfl) (.lit <| .call (.int .i64 (L n : Int)) <| .lits 2 <| .ret)
    (cast_ob (And.intro True.intro (And.intro (nat_sizeN n (by first | omega | (simp <;> omega))) ((vsub_of (congrArg V.bool (iEq_mk (by rw [L_len]))) : vsub (.bool (iEq (L n : Int) ((lim n).length : Int))) (.bool true))))) (by kernel_rfl))

def nat_Cmp_0_mk (a b : Nat) (x : Int) : St := ⟨mkS 46 [(0, (.val (N a))), (1, (.val (N b))), (4, (.val (.int .i64 0))), (7, (.val (.int .i64 x)))], []⟩
def nat_Cmp_0_I (a b : Nat) (x : Int) : Prop := -1 ≤ x ∧ x < L a ∧ (limbs a).drop (x + 1).toNat = (limbs b).drop (x + 1).toNat
def nat_Cmp_0_mu (a b : Nat) (x : Int) : Nat := (x + 1).toNat
def nat_Cmp_0_ex (a b : Nat) (y : (Int) ⊕ (Unit)) : Ex × St := Sum.elim (fun (y : Int) => (.ret, ⟨mkS 46 [(4, (.val (.int .i64 y)))], []⟩)) (fun (y : Unit) => (.exit 1, ⟨mkS 46 [], []⟩)) y
def nat_Cmp_0_J (a b : Nat) (y : (Int) ⊕ (Unit)) : Prop := Sum.elim (fun (y : Int) => y = cmpN a b) (fun (y : Unit) => a = b) y
theorem nat_Cmp_0 (a b : Nat) (c0 : L a = L b)(c1 : L a ≤ 1073741824) (x0 : Int) (hI : nat_Cmp_0_I a b x0) : LoopOk Tryz.prog Amb (loopN Tryz.f136 0) (nat_Cmp_0_mk a b x0) (fun e st_ => ∃ y, nat_Cmp_0_J a b y ∧ nat_Cmp_0_ex a b y = (e, st_)) :=
  loop_ob hP hAmb ⟨[0, 1, 4, 7], 0, []⟩ (nat_Cmp_0_mk a b) (nat_Cmp_0_I a b) (nat_Cmp_0_mu a b) (nat_Cmp_0_ex a b) (nat_Cmp_0_J a b) x0 hI (fun i => .lit <| .both (.yes <| .yes <| .yes <| .yes <| .lit <| .both (.fin2 ⟨[4], 0, []⟩) (.yes <| .yes <| .yes <| .yes <| .lit <| .both (.fin2 ⟨[4], 0, []⟩) (.lit <| .yes <| .fin2 ⟨[0, 1, 4, 7], 0, []⟩))) (.fin2 ⟨[], 0, []⟩)) (by
    rintro i hI
    have hI : -1 ≤ i ∧ i < L a ∧ (limbs a).drop (i + 1).toNat = (limbs b).drop (i + 1).toNat := hI
    obtain ⟨h1, h2, h3⟩ := hI
    have e0 := L_len a
    have e1 := L_len b
    have h4 : 0 ≤ i → (limbs a).drop (i.toNat + 1) = (limbs b).drop (i.toNat + 1) := fun h => by rw [show i.toNat + 1 = (i + 1).toNat by omega]; exact h3
    exact cast_ob (And.intro True.intro (And.intro (fun (h101 : (iGe i 0) = true) => have _gh101 := iGe_t h101; And.intro (inB_mk (by first | omega | (simp <;> omega)) : (inB i ((lim a).length)) = true) (And.intro (ld_L (by first | omega | (simp <;> omega)) : (Nat.blt i.toNat (lim a).length && isIntK .u32 (nth (lim a) i.toNat .unk)) = true) (And.intro (inB_mk (by first | omega | (simp <;> omega)) : (inB i ((lim b).length)) = true) (And.intro (ld_L (by first | omega | (simp <;> omega)) : (Nat.blt i.toNat (lim b).length && isIntK .u32 (nth (lim b) i.toNat .unk)) = true) (And.intro (fun (h102 : (iLt (gi (limbs a) i.toNat) (gi (limbs b) i.toNat)) = true) => have _gh102 := iLt_t h102; And.intro (rfl : true = true) ((nx_ret ((nat_Cmp_0_ex a b (.inl (-1))).2) (.inl (-1)) (show (-1) = cmpN a b from (cmpN_lt (cmp_lt (by omega) (by omega) (h4 (by omega)) (by assumption))).symm) rfl : NX (nat_Cmp_0_mk a b) (nat_Cmp_0_I a b) (nat_Cmp_0_mu a b) (nat_Cmp_0_ex a b) (nat_Cmp_0_J a b) i .ret ((nat_Cmp_0_ex a b (.inl (-1))).2)))) (fun (h103 : (iLt (gi (limbs a) i.toNat) (gi (limbs b) i.toNat)) = false) => have _gh103 := iLt_f h103; And.intro (inB_mk (by first | omega | (simp <;> omega)) : (inB i ((lim a).length)) = true) (And.intro (ld_L (by first | omega | (simp <;> omega)) : (Nat.blt i.toNat (lim a).length && isIntK .u32 (nth (lim a) i.toNat .unk)) = true) (And.intro (inB_mk (by first | omega | (simp <;> omega)) : (inB i ((lim b).length)) = true) (And.intro (ld_L (by first | omega | (simp <;> omega)) : (Nat.blt i.toNat (lim b).length && isIntK .u32 (nth (lim b) i.toNat .unk)) = true) (And.intro (fun (h104 : (iGt (gi (limbs a) i.toNat) (gi (limbs b) i.toNat)) = true) => have _gh104 := iGt_t h104; And.intro (rfl : true = true) ((nx_ret ((nat_Cmp_0_ex a b (.inl 1)).2) (.inl 1) (show 1 = cmpN a b from (cmpN_gt (cmp_lt (by omega) (by omega) (h4 (by omega)).symm (by assumption))).symm) rfl : NX (nat_Cmp_0_mk a b) (nat_Cmp_0_I a b) (nat_Cmp_0_mu a b) (nat_Cmp_0_ex a b) (nat_Cmp_0_J a b) i .ret ((nat_Cmp_0_ex a b (.inl 1)).2)))) (fun (h105 : (iGt (gi (limbs a) i.toNat) (gi (limbs b) i.toNat)) = false) => have _gh105 := iGt_f h105; And.intro (fits_i64 (by first | omega | (simp <;> omega)) : (fits .i64 (i - 1)) = true) (And.intro (rfl : true = true) ((nx_next (i - 1) (show -1 ≤ (i - 1) ∧ (i - 1) < L a ∧ (limbs a).drop ((i - 1) + 1).toNat = (limbs b).drop ((i - 1) + 1).toNat from ⟨by omega, by omega, by rw [show (i - 1 + 1).toNat = i.toNat by omega]; exact cmp_step (by omega) (by omega) (h4 (by omega)) (by unfold gi at *; omega)⟩) (show (i - 1 + 1).toNat < (i + 1).toNat by omega) : NX (nat_Cmp_0_mk a b) (nat_Cmp_0_I a b) (nat_Cmp_0_mu a b) (nat_Cmp_0_ex a b) (nat_Cmp_0_J a b) i .normal (nat_Cmp_0_mk a b (i - 1)))))))))))))))) (fun (h106 : (iGe i 0) = false) => have _gh106 := iGe_f h106; And.intro (rfl : true = true) ((nx_exit 1 ((nat_Cmp_0_ex a b (.inr ())).2) (.inr ()) (show a = b from limbs_ext (by rw [← show (i + 1).toNat = 0 by omega]; exact h3)) rfl : NX (nat_Cmp_0_mk a b) (nat_Cmp_0_I a b) (nat_Cmp_0_mu a b) (nat_Cmp_0_ex a b) (nat_Cmp_0_J a b) i (.exit 1) ((nat_Cmp_0_ex a b (.inr ())).2)))))) (by kernel_rfl))

theorem nat_Cmp (a : Nat) (b : Nat) (c0 : L a ≤ 1073741824) (c1 : L b ≤ 1073741824) : Impl Tryz.prog Amb 136 [(N a), (N b)] (.int .i64 (cmpN a b)) := by
  have e0 := L_len a
  have e1 := L_len b
  exact impl_ob hP hAmb Tryz.func136 (by kernel_rfl) (.lit <| .call (.int .i64 (L a : Int)) <| .lit <| .call (.int .i64 (L b : Int)) <| .lit <| .both (.lit <| .ret) (.lit <| .both (.lit <| .ret) (.lit <| .yes <| .loop2 ⟨[0, 1, 4, 7], 0, []⟩ ((nat_Cmp_0_mk a b ((L a : Int) - 1))) (Int) (Unit) (nat_Cmp_0_ex a b) (nat_Cmp_0_J a b) (fun y => .lit <| .ret) (fun y => .lit <| .ret))))
    (cast_ob (And.intro True.intro (And.intro (nat_sizeN a (by first | omega | (simp <;> omega))) (And.intro (nat_sizeN b (by first | omega | (simp <;> omega))) (And.intro (fun (h1 : (iLt (L a : Int) (L b : Int)) = true) => have _gh1 := iLt_t h1; (vsub_of (congrArg (V.int .i64) (cmpN_lt (L_lt_of (by omega))).symm) : vsub (.int .i64 (-1)) (.int .i64 (cmpN a b)))) (fun (h2 : (iLt (L a : Int) (L b : Int)) = false) => have _gh2 := iLt_f h2; And.intro (fun (h3 : (iGt (L a : Int) (L b : Int)) = true) => have _gh3 := iGt_t h3; (vsub_of (congrArg (V.int .i64) (cmpN_gt (L_lt_of (by omega))).symm) : vsub (.int .i64 1) (.int .i64 (cmpN a b)))) (fun (h4 : (iGt (L a : Int) (L b : Int)) = false) => have _gh4 := iGt_f h4; And.intro (fits_i64 (by first | omega | (simp <;> omega)) : (fits .i64 ((L a : Int) - 1)) = true) (And.intro (rfl : true = true) (And.intro (rfl : (nat_Cmp_0_mk a b ((L a : Int) - 1)) = (nat_Cmp_0_mk a b ((L a : Int) - 1))) (And.intro (nat_Cmp_0 a b (by omega) c0 ((L a : Int) - 1) (show -1 ≤ ((L a : Int) - 1) ∧ ((L a : Int) - 1) < L a ∧ (limbs a).drop (((L a : Int) - 1) + 1).toNat = (limbs b).drop (((L a : Int) - 1) + 1).toNat from ⟨by omega, by omega, by rw [List.drop_eq_nil_of_le (by unfold L at *; omega), List.drop_eq_nil_of_le (by unfold L at *; omega)]⟩)) (And.intro (fun (y : Int) (hJ : nat_Cmp_0_J a b (.inl y)) => have hJ : y = cmpN a b := hJ; (vsub_of (congrArg (V.int .i64) hJ) : vsub (.int .i64 y) (.int .i64 (cmpN a b)))) (fun (y : Unit) (hJ : nat_Cmp_0_J a b (.inr y)) => have hJ : a = b := hJ; (vsub_of (congrArg (V.int .i64) (cmpN_eq hJ).symm) : vsub (.int .i64 0) (.int .i64 (cmpN a b)))))))))))))) (by kernel_rfl))

theorem cloneO_u32 (c : List V) (c0 : c.all isPrim = true) (c1 : c.all isCell = true) (c2 : c.length ≤ 1073741824) (c3 : c.length ≠ 0) : ImplO Tryz.prog Amb 215 [(.sl 1 c)] 1 (0 + c.length) c := by
  exact implO_ob hP hAmb Tryz.func215 (by kernel_rfl) (by assumption) (.no <| .lit <| .yes <| .fin2 ⟨[2], 2, []⟩)
    (cast_ob (And.intro True.intro (And.intro (beq_no c3 : Nat.beq c.length 0 = false) (And.intro (and_mk (and_mk (and_mk (rfl) (by first | assumption | exact U_cells _)) (st_ok (by first | omega | (simp <;> omega)))) (by first | rfl | (simp <;> omega)) : (true && c.all isCell && Nat.ble (0 + c.length) 1073741824 && Nat.beq ([] : List V).length 0) = true) (And.intro (rfl : true = true) (⟨.inl rfl, 1, 2, rfl, rfl, rfl, ⟨[], by simp [bx, nth]⟩⟩ : EndO Tryz.f215.results 1 (0 + c.length) c .ret ⟨mkS 8 [(2, (.osl 1 0 (0 + c.length) 1))], [⟨false, false, ([] : List V)⟩, ⟨true, false, (([] : List V) ++ c)⟩]⟩))))) (by kernel_rfl))

end Go.Proofs.YtmbpoibhamlkbaaGreatDoor

namespace Go.Proofs.YtmbpoibhamlkbaaGreatDoor
open Go.RowKit
set_option maxRecDepth 100000

def nat_Add_0_mk (a b : Nat) (x : Int × Int × List V × List Nat) : St := ⟨mkS 60 [(0, (.val (N a))), (1, (.val (N b))), (5, (.osl 0 0 ((((lim a).length : Int) + 1).toNat) 1)), (6, (.val (.int .u64 x.2.1))), (20, (.val (N a))), (21, (.val (.int .i64 ((lim a).length : Int)))), (22, (.val (.int .i64 x.1)))], [⟨true, false, x.2.2.1⟩]⟩
def nat_Add_0_I (a b : Nat) (x : Int × Int × List V × List Nat) : Prop := x.2.2.1 = U x.2.2.2 ∧ AddInv a b x.1 x.2.1 x.2.2.2
def nat_Add_0_mu (a b : Nat) (x : Int × Int × List V × List Nat) : Nat := ((L a : Int) - x.1).toNat
def nat_Add_0_ex (a b : Nat) (y : Int × List Nat) : Ex × St := (.exit 0, ⟨mkS 60 [(0, (.val (N a))), (5, (.osl 0 0 ((((lim a).length : Int) + 1).toNat) 1)), (6, (.val (.int .u64 y.1)))], [⟨true, false, (U y.2)⟩]⟩)
def nat_Add_0_J (a b : Nat) (y : Int × List Nat) : Prop := AddInv a b (L a : Int) y.1 y.2
theorem nat_Add_0 (a b : Nat) (c0 : L a ≤ 1073741824) (x0 : Int × Int × List V × List Nat) (hI : nat_Add_0_I a b x0) : LoopOk Tryz.prog Amb (loopN Tryz.f153 0) (nat_Add_0_mk a b x0) (fun e st_ => ∃ y, nat_Add_0_J a b y ∧ nat_Add_0_ex a b y = (e, st_)) :=
  loop_ob hP hAmb ⟨[0, 1, 5, 6, 20, 21, 22], 1, []⟩ (nat_Add_0_mk a b) (nat_Add_0_I a b) (nat_Add_0_mu a b) (nat_Add_0_ex a b) (nat_Add_0_J a b) x0 hI (fun (i, c, o, l) => .lit <| .both (.yes <| .yes <| .lit <| .yes <| .lit <| .yes <| .lit <| .both (.yes <| .yes <| .lit <| .yes <| .lit <| .yes <| .lit <| .no <| .yes <| .yes <| .lits 2 <| .yes <| .fin2 ⟨[0, 1, 5, 6, 20, 21, 22], 1, []⟩) (.lit <| .no <| .yes <| .yes <| .lits 2 <| .yes <| .fin2 ⟨[0, 1, 5, 6, 20, 21, 22], 1, []⟩)) (.fin2 ⟨[0, 5, 6], 1, []⟩)) (by
    rintro ⟨i, c, o, l⟩ hI
    have hI : o = U l ∧ AddInv a b i c l := hI
    obtain ⟨rfl, h1⟩ := hI
    have ⟨p0, p1, p2, p3, p4, _⟩ := h1
    have e0 := L_len a
    have e1 := L_len b
    have g0 := gi_lt (dig_limbs a) i.toNat
    have g1 := gi_nonneg (limbs a) i.toNat
    have g2 := gi_lt (dig_limbs b) i.toNat
    have g3 := gi_nonneg (limbs b) i.toNat
    have g4 := U_len l
    exact cast_ob (And.intro True.intro (And.intro (fun (h101 : (iLt i ((lim a).length : Int)) = true) => have _gh101 := iLt_t h101; And.intro (inB_mk (by first | omega | (simp <;> omega)) : (inB i ((lim a).length)) = true) (And.intro (ld_L (by first | omega | (simp <;> omega)) : (Nat.blt i.toNat (lim a).length && isIntK .u32 (nth (lim a) i.toNat .unk)) = true) (And.intro (fits_u64 (by first | omega | (simp <;> omega)) : (fits .u64 (gi (limbs a) i.toNat)) = true) (And.intro (fits_u64 (by first | omega | (simp <;> omega)) : (fits .u64 (c + (gi (limbs a) i.toNat))) = true) (And.intro (fun (h102 : (iLt i ((lim b).length : Int)) = true) => have _gh102 := iLt_t h102; And.intro (inB_mk (by first | omega | (simp <;> omega)) : (inB i ((lim b).length)) = true) (And.intro (ld_L (by first | omega | (simp <;> omega)) : (Nat.blt i.toNat (lim b).length && isIntK .u32 (nth (lim b) i.toNat .unk)) = true) (And.intro (fits_u64 (by first | omega | (simp <;> omega)) : (fits .u64 (gi (limbs b) i.toNat)) = true) (And.intro (fits_u64 (by first | omega | (simp <;> omega)) : (fits .u64 ((c + (gi (limbs a) i.toNat)) + (gi (limbs b) i.toNat))) = true) (And.intro (inB_mk (by first | omega | (simp <;> omega)) : (inB i ((((lim a).length : Int) + 1).toNat)) = true) (And.intro (st_ok (by first | omega | (simp <;> omega)) : (Nat.ble ((0 + i.toNat) + 1) (U l).length) = true) (And.intro (fits_i64 (by first | omega | (simp <;> omega)) : (fits .i64 (i + 1)) = true) (And.intro (rfl : true = true) ((nx_next ((i + 1), (Int.fdiv ((c + (gi (limbs a) i.toNat)) + (gi (limbs b) i.toNat)) (2 ^ 32)), (List.set (U l) (0 + i.toNat) (.int .u32 (IntKind.wrap .u32 ((c + (gi (limbs a) i.toNat)) + (gi (limbs b) i.toNat))))), (l.set i.toNat (IntKind.wrap .u32 ((c + (gi (limbs a) i.toNat)) + (gi (limbs b) i.toNat))).toNat)) (show (List.set (U l) (0 + i.toNat) (.int .u32 (IntKind.wrap .u32 ((c + (gi (limbs a) i.toNat)) + (gi (limbs b) i.toNat))))) = U (l.set i.toNat (IntKind.wrap .u32 ((c + (gi (limbs a) i.toNat)) + (gi (limbs b) i.toNat))).toNat) ∧ AddInv a b (i + 1) (Int.fdiv ((c + (gi (limbs a) i.toNat)) + (gi (limbs b) i.toNat)) (2 ^ 32)) (l.set i.toNat (IntKind.wrap .u32 ((c + (gi (limbs a) i.toNat)) + (gi (limbs b) i.toNat))).toNat) from ⟨setU _ (by omega) (by rw [wrap_u32]; omega), add_next h1 (by omega) (by first | rfl | (rw [gi_out (show (limbs b).length ≤ i.toNat from (show L b ≤ i.toNat by omega))]; omega))⟩) (show ((L a : Int) - (i + 1)).toNat < ((L a : Int) - i).toNat by omega) : NX (nat_Add_0_mk a b) (nat_Add_0_I a b) (nat_Add_0_mu a b) (nat_Add_0_ex a b) (nat_Add_0_J a b) (i, c, (U l), l) .normal (nat_Add_0_mk a b ((i + 1), (Int.fdiv ((c + (gi (limbs a) i.toNat)) + (gi (limbs b) i.toNat)) (2 ^ 32)), (List.set (U l) (0 + i.toNat) (.int .u32 (IntKind.wrap .u32 ((c + (gi (limbs a) i.toNat)) + (gi (limbs b) i.toNat))))), (l.set i.toNat (IntKind.wrap .u32 ((c + (gi (limbs a) i.toNat)) + (gi (limbs b) i.toNat))).toNat))))))))))))) (fun (h103 : (iLt i ((lim b).length : Int)) = false) => have _gh103 := iLt_f h103; And.intro (inB_mk (by first | omega | (simp <;> omega)) : (inB i ((((lim a).length : Int) + 1).toNat)) = true) (And.intro (st_ok (by first | omega | (simp <;> omega)) : (Nat.ble ((0 + i.toNat) + 1) (U l).length) = true) (And.intro (fits_i64 (by first | omega | (simp <;> omega)) : (fits .i64 (i + 1)) = true) (And.intro (rfl : true = true) ((nx_next ((i + 1), (Int.fdiv (c + (gi (limbs a) i.toNat)) (2 ^ 32)), (List.set (U l) (0 + i.toNat) (.int .u32 (IntKind.wrap .u32 (c + (gi (limbs a) i.toNat))))), (l.set i.toNat (IntKind.wrap .u32 (c + (gi (limbs a) i.toNat))).toNat)) (show (List.set (U l) (0 + i.toNat) (.int .u32 (IntKind.wrap .u32 (c + (gi (limbs a) i.toNat))))) = U (l.set i.toNat (IntKind.wrap .u32 (c + (gi (limbs a) i.toNat))).toNat) ∧ AddInv a b (i + 1) (Int.fdiv (c + (gi (limbs a) i.toNat)) (2 ^ 32)) (l.set i.toNat (IntKind.wrap .u32 (c + (gi (limbs a) i.toNat))).toNat) from ⟨setU _ (by omega) (by rw [wrap_u32]; omega), add_next h1 (by omega) (by first | rfl | (rw [gi_out (show (limbs b).length ≤ i.toNat from (show L b ≤ i.toNat by omega))]; omega))⟩) (show ((L a : Int) - (i + 1)).toNat < ((L a : Int) - i).toNat by omega) : NX (nat_Add_0_mk a b) (nat_Add_0_I a b) (nat_Add_0_mu a b) (nat_Add_0_ex a b) (nat_Add_0_J a b) (i, c, (U l), l) .normal (nat_Add_0_mk a b ((i + 1), (Int.fdiv (c + (gi (limbs a) i.toNat)) (2 ^ 32)), (List.set (U l) (0 + i.toNat) (.int .u32 (IntKind.wrap .u32 (c + (gi (limbs a) i.toNat))))), (l.set i.toNat (IntKind.wrap .u32 (c + (gi (limbs a) i.toNat))).toNat)))))))))))))) (fun (h104 : (iLt i ((lim a).length : Int)) = false) => have _gh104 := iLt_f h104; And.intro (rfl : true = true) ((nx_exit 0 ((nat_Add_0_ex a b (c, l)).2) (c, l) (show AddInv a b (L a : Int) c l from (show i = (L a : Int) by omega) ▸ h1) rfl : NX (nat_Add_0_mk a b) (nat_Add_0_I a b) (nat_Add_0_mu a b) (nat_Add_0_ex a b) (nat_Add_0_J a b) (i, c, (U l), l) (.exit 0) ((nat_Add_0_ex a b (c, l)).2)))))) (by kernel_rfl))

theorem nat_Add (a : Nat) (b : Nat) (c0 : L a ≤ 33554432) (c1 : L b ≤ 33554432) : Impl Tryz.prog Amb 153 [(N a), (N b)] (N (a + b)) := by
  have e0 := L_len a
  have e1 := L_len b
  exact impl_ob hP hAmb Tryz.func153 (by kernel_rfl) (.lit <| .both (.lit <| .yes <| .yes <| .loop ⟨[0, 1, 5, 6, 20, 21, 22], 1, []⟩ ((nat_Add_0_mk b a (0, 0, (List.replicate ((((lim b).length : Int) + 1).toNat) (.int .u32 0)), (List.replicate (L b + 1) 0)))) (Int × List Nat) (nat_Add_0_ex b a) (nat_Add_0_J b a) (fun y => .lit <| .no <| .yes <| .yes <| .yes <| .call (.int .i64 ((limbs (val (y.2.set (L b) y.1.toNat))).length : Int)) <| .yes <| .yes <| .ret)) (.lit <| .yes <| .yes <| .loop ⟨[0, 1, 5, 6, 20, 21, 22], 1, []⟩ ((nat_Add_0_mk a b (0, 0, (List.replicate ((((lim a).length : Int) + 1).toNat) (.int .u32 0)), (List.replicate (L a + 1) 0)))) (Int × List Nat) (nat_Add_0_ex a b) (nat_Add_0_J a b) (fun y => .lit <| .no <| .yes <| .yes <| .yes <| .call (.int .i64 ((limbs (val (y.2.set (L a) y.1.toNat))).length : Int)) <| .yes <| .yes <| .ret)))
    (cast_ob (And.intro True.intro (And.intro (fun (h1 : (iLt ((lim a).length : Int) ((lim b).length : Int)) = true) => have _gh1 := iLt_t h1; And.intro (fits_i64 (by first | omega | (simp <;> omega)) : (fits .i64 (((lim b).length : Int) + 1)) = true) (And.intro (mk_ok (by first | omega | (simp <;> omega)) : (((iEq (((lim b).length : Int) + 1) (((lim b).length : Int) + 1)) && (iLe 0 (((lim b).length : Int) + 1))) && (iLe (((lim b).length : Int) + 1) 1073741824)) = true) (And.intro (rfl : true = true) (And.intro (rfl : (nat_Add_0_mk b a (0, 0, (List.replicate ((((lim b).length : Int) + 1).toNat) (.int .u32 0)), (List.replicate (L b + 1) 0))) = (nat_Add_0_mk b a (0, 0, (List.replicate ((((lim b).length : Int) + 1).toNat) (.int .u32 0)), (List.replicate (L b + 1) 0)))) (And.intro (nat_Add_0 b a (by omega) (0, 0, (List.replicate ((((lim b).length : Int) + 1).toNat) (.int .u32 0)), (List.replicate (L b + 1) 0)) (show (List.replicate ((((lim b).length : Int) + 1).toNat) (.int .u32 0)) = U (List.replicate (L b + 1) 0) ∧ AddInv b a 0 0 (List.replicate (L b + 1) 0) from ⟨by rw [L_len]; exact U_rep _, add_init _ _⟩)) (fun y (hJ : nat_Add_0_J b a y) => have hJ : AddInv b a (L b : Int) y.1 y.2 := hJ; have ⟨_, _, q2, q3, q4, _⟩ := hJ; have q5 := U_len y.2; have q6 := limbs_len_le (add_end (by omega) hJ).1; have q7 := (add_end (by omega) hJ).2.1; And.intro (inB_mk (by first | omega | (simp <;> omega)) : (inB ((lim b).length : Int) ((((lim b).length : Int) + 1).toNat)) = true) (And.intro (st_ok (by first | omega | (simp <;> omega)) : (Nat.ble ((0 + ((lim b).length : Int).toNat) + 1) (U y.2).length) = true) (And.intro (ok_arg (by first | omega | (simp <;> omega)) : ((true && Nat.ble (0 + (((lim b).length : Int) + 1).toNat) (List.set (U y.2) (0 + ((lim b).length : Int).toNat) (.int .u32 (IntKind.wrap .u32 y.1))).length) && true) = true) (And.intro (nat_sizeC (List.take ((((lim b).length : Int) + 1).toNat) (List.drop 0 (List.set (U y.2) (0 + ((lim b).length : Int).toNat) (.int .u32 (IntKind.wrap .u32 y.1))))) (y.2.set (L b) y.1.toNat) (tkU (setU y.2 (show _ = L b by omega) (by rw [wrap_u32]; omega)) (by rw [(add_end (by omega) hJ).2.1]; omega)) (add_end (by omega) hJ).1 (by rw [(add_end (by omega) hJ).2.1]; omega)) (And.intro (and_mk (and_mk (and_mk (rfl) (iLe_mk (by first | omega | (simp <;> omega)))) (iLe_mk (by first | omega | (simp <;> omega)))) (rfl) : (((true && (iLe (0 : Int) ((limbs (val (y.2.set (L b) y.1.toNat))).length : Int))) && (iLe ((limbs (val (y.2.set (L b) y.1.toNat))).length : Int) ((((lim b).length : Int) + 1).toNat : Int))) && true) = true) (And.intro (ok_res (by first | omega | (simp <;> omega)) : ((true && Nat.ble (0 + (((limbs (val (y.2.set (L b) y.1.toNat))).length : Int) - 0).toNat) (List.set (U y.2) (0 + ((lim b).length : Int).toNat) (.int .u32 (IntKind.wrap .u32 y.1))).length) && true) = true) (vsub_of (congrArg (V.sl 1) (fin_lim (setU y.2 (show _ = L b by omega) (by rw [wrap_u32]; omega)) (add_end (by omega) hJ).1 (by rw [(add_end (by omega) hJ).2.2] <;> omega))) : vsub (.sl 1 (List.take ((((limbs (val (y.2.set (L b) y.1.toNat))).length : Int) - 0).toNat) (List.drop 0 (List.set (U y.2) (0 + ((lim b).length : Int).toNat) (.int .u32 (IntKind.wrap .u32 y.1)))))) (N (a + b)))))))))))))) (fun (h2 : (iLt ((lim a).length : Int) ((lim b).length : Int)) = false) => have _gh2 := iLt_f h2; And.intro (fits_i64 (by first | omega | (simp <;> omega)) : (fits .i64 (((lim a).length : Int) + 1)) = true) (And.intro (mk_ok (by first | omega | (simp <;> omega)) : (((iEq (((lim a).length : Int) + 1) (((lim a).length : Int) + 1)) && (iLe 0 (((lim a).length : Int) + 1))) && (iLe (((lim a).length : Int) + 1) 1073741824)) = true) (And.intro (rfl : true = true) (And.intro (rfl : (nat_Add_0_mk a b (0, 0, (List.replicate ((((lim a).length : Int) + 1).toNat) (.int .u32 0)), (List.replicate (L a + 1) 0))) = (nat_Add_0_mk a b (0, 0, (List.replicate ((((lim a).length : Int) + 1).toNat) (.int .u32 0)), (List.replicate (L a + 1) 0)))) (And.intro (nat_Add_0 a b (by omega) (0, 0, (List.replicate ((((lim a).length : Int) + 1).toNat) (.int .u32 0)), (List.replicate (L a + 1) 0)) (show (List.replicate ((((lim a).length : Int) + 1).toNat) (.int .u32 0)) = U (List.replicate (L a + 1) 0) ∧ AddInv a b 0 0 (List.replicate (L a + 1) 0) from ⟨by rw [L_len]; exact U_rep _, add_init _ _⟩)) (fun y (hJ : nat_Add_0_J a b y) => have hJ : AddInv a b (L a : Int) y.1 y.2 := hJ; have ⟨_, _, q2, q3, q4, _⟩ := hJ; have q5 := U_len y.2; have q6 := limbs_len_le (add_end (by omega) hJ).1; have q7 := (add_end (by omega) hJ).2.1; And.intro (inB_mk (by first | omega | (simp <;> omega)) : (inB ((lim a).length : Int) ((((lim a).length : Int) + 1).toNat)) = true) (And.intro (st_ok (by first | omega | (simp <;> omega)) : (Nat.ble ((0 + ((lim a).length : Int).toNat) + 1) (U y.2).length) = true) (And.intro (ok_arg (by first | omega | (simp <;> omega)) : ((true && Nat.ble (0 + (((lim a).length : Int) + 1).toNat) (List.set (U y.2) (0 + ((lim a).length : Int).toNat) (.int .u32 (IntKind.wrap .u32 y.1))).length) && true) = true) (And.intro (nat_sizeC (List.take ((((lim a).length : Int) + 1).toNat) (List.drop 0 (List.set (U y.2) (0 + ((lim a).length : Int).toNat) (.int .u32 (IntKind.wrap .u32 y.1))))) (y.2.set (L a) y.1.toNat) (tkU (setU y.2 (show _ = L a by omega) (by rw [wrap_u32]; omega)) (by rw [(add_end (by omega) hJ).2.1]; omega)) (add_end (by omega) hJ).1 (by rw [(add_end (by omega) hJ).2.1]; omega)) (And.intro (and_mk (and_mk (and_mk (rfl) (iLe_mk (by first | omega | (simp <;> omega)))) (iLe_mk (by first | omega | (simp <;> omega)))) (rfl) : (((true && (iLe (0 : Int) ((limbs (val (y.2.set (L a) y.1.toNat))).length : Int))) && (iLe ((limbs (val (y.2.set (L a) y.1.toNat))).length : Int) ((((lim a).length : Int) + 1).toNat : Int))) && true) = true) (And.intro (ok_res (by first | omega | (simp <;> omega)) : ((true && Nat.ble (0 + (((limbs (val (y.2.set (L a) y.1.toNat))).length : Int) - 0).toNat) (List.set (U y.2) (0 + ((lim a).length : Int).toNat) (.int .u32 (IntKind.wrap .u32 y.1))).length) && true) = true) (vsub_of (congrArg (V.sl 1) (fin_lim (setU y.2 (show _ = L a by omega) (by rw [wrap_u32]; omega)) (add_end (by omega) hJ).1 (by rw [(add_end (by omega) hJ).2.2] <;> omega))) : vsub (.sl 1 (List.take ((((limbs (val (y.2.set (L a) y.1.toNat))).length : Int) - 0).toNat) (List.drop 0 (List.set (U y.2) (0 + ((lim a).length : Int).toNat) (.int .u32 (IntKind.wrap .u32 y.1)))))) (N (a + b)))))))))))))))) (by kernel_rfl))

theorem bits_Sub32 (x : Int) (y : Int) (b : Int) (c0 : 0 ≤ x ∧ x < 4294967296) (c1 : 0 ≤ y ∧ y < 4294967296) (c2 : 0 ≤ b ∧ b ≤ 1) : Impl Tryz.prog Amb 214 [(.int .u32 x), (.int .u32 y), (.int .u32 b)] (.tup [(.int .u32 ((x - y - b) % 4294967296)), (.int .u32 (if x < y + b then 1 else 0))]) := by
  exact impl_ob hP hAmb Tryz.func214 (by kernel_rfl) (.lit <| .no <| .lit <| .no <| .lits 8 <| .ret)
    (cast_ob (And.intro True.intro ((by rw [sub32_eq ⟨c0.1, c0.2, c1.1, c1.2, c2.1, c2.2⟩, show IntKind.wrap .u32 (IntKind.wrap .u32 (x - y) - b) = (x - y - b) % 4294967296 by rw [wrap_u32, wrap_u32]; omega]; exact vsub_refl _ : vsub (.tup [(.int .u32 (IntKind.wrap .u32 ((IntKind.wrap .u32 (x - y)) - b))), (.int .u32 (Int.fdiv (wOr .u32 (wAnd .u32 (wXor .u32 (4294967295 : Int) x) y) (wAnd .u32 (wXor .u32 (4294967295 : Int) (wXor .u32 x y)) (IntKind.wrap .u32 ((IntKind.wrap .u32 (x - y)) - b)))) (2 ^ 31)))]) (.tup [(.int .u32 ((x - y - b) % 4294967296)), (.int .u32 (if x < y + b then 1 else 0))])))) (by kernel_rfl))

def nat_Sub_0_mk (a b : Nat) (x : Int × Int × List V × List Nat) : St := ⟨mkS 48 [(0, (.val (N a))), (1, (.val (N b))), (6, (.osl 0 0 ((L a : Int).toNat) 1)), (7, (.val (.int .u32 x.2.1))), (18, (.val (.int .i64 ((L a : Int).toNat : Int)))), (19, (.val (.int .i64 x.1)))], [⟨true, false, x.2.2.1⟩]⟩
def nat_Sub_0_I (a b : Nat) (x : Int × Int × List V × List Nat) : Prop := x.2.2.1 = U x.2.2.2 ∧ SubInv a b x.1 x.2.1 x.2.2.2
def nat_Sub_0_mu (a b : Nat) (x : Int × Int × List V × List Nat) : Nat := ((L a : Int) - x.1).toNat
def nat_Sub_0_ex (a b : Nat) (y : Int × List Nat) : Ex × St := (.exit 0, ⟨mkS 48 [(6, (.osl 0 0 ((L a : Int).toNat) 1))], [⟨true, false, (U y.2)⟩]⟩)
def nat_Sub_0_J (a b : Nat) (y : Int × List Nat) : Prop := SubInv a b (L a : Int) y.1 y.2
theorem nat_Sub_0 (a b : Nat) (c0 : L a ≤ 1073741824) (x0 : Int × Int × List V × List Nat) (hI : nat_Sub_0_I a b x0) : LoopOk Tryz.prog Amb (loopN Tryz.f181 0) (nat_Sub_0_mk a b x0) (fun e st_ => ∃ y, nat_Sub_0_J a b y ∧ nat_Sub_0_ex a b y = (e, st_)) :=
  loop_ob hP hAmb ⟨[0, 1, 6, 7, 18, 19], 1, []⟩ (nat_Sub_0_mk a b) (nat_Sub_0_I a b) (nat_Sub_0_mu a b) (nat_Sub_0_ex a b) (nat_Sub_0_J a b) x0 hI (fun (i, c, o, l) => .lit <| .both (.lit <| .both (.yes <| .yes <| .yes <| .yes <| .lit <| .call (.tup [(.int .u32 (((gi (limbs a) i.toNat) - (gi (limbs b) i.toNat) - c) % 4294967296)), (.int .u32 (if (gi (limbs a) i.toNat) < (gi (limbs b) i.toNat) + c then 1 else 0))]) <| .yes <| .yes <| .lit <| .yes <| .fin2 ⟨[0, 1, 6, 7, 18, 19], 1, []⟩) (.yes <| .yes <| .lit <| .call (.tup [(.int .u32 (((gi (limbs a) i.toNat) - 0 - c) % 4294967296)), (.int .u32 (if (gi (limbs a) i.toNat) < 0 + c then 1 else 0))]) <| .yes <| .yes <| .lit <| .yes <| .fin2 ⟨[0, 1, 6, 7, 18, 19], 1, []⟩)) (.fin2 ⟨[6], 1, []⟩)) (by
    rintro ⟨i, c, o, l⟩ hI
    have hI : o = U l ∧ SubInv a b i c l := hI
    obtain ⟨rfl, h1⟩ := hI
    have ⟨p0, p1, p2, p3, p4, _⟩ := h1
    have e0 := L_len a
    have e1 := L_len b
    have g0 := gi_lt (dig_limbs a) i.toNat
    have g1 := gi_nonneg (limbs a) i.toNat
    have g2 := gi_lt (dig_limbs b) i.toNat
    have g3 := gi_nonneg (limbs b) i.toNat
    have g4 := U_len l
    exact cast_ob (And.intro True.intro (And.intro (fun (h101 : (iLt i ((L a : Int).toNat : Int)) = true) => have _gh101 := iLt_t h101; And.intro (fun (h102 : (iLt i ((lim b).length : Int)) = true) => have _gh102 := iLt_t h102; And.intro (inB_mk (by first | omega | (simp <;> omega)) : (inB i ((lim b).length)) = true) (And.intro (ld_L (by first | omega | (simp <;> omega)) : (Nat.blt i.toNat (lim b).length && isIntK .u32 (nth (lim b) i.toNat .unk)) = true) (And.intro (inB_mk (by first | omega | (simp <;> omega)) : (inB i ((lim a).length)) = true) (And.intro (ld_L (by first | omega | (simp <;> omega)) : (Nat.blt i.toNat (lim a).length && isIntK .u32 (nth (lim a) i.toNat .unk)) = true) (And.intro (bits_Sub32 (gi (limbs a) i.toNat) (gi (limbs b) i.toNat) c (by first | omega | (simp <;> omega)) (by first | omega | (simp <;> omega)) (by first | omega | (simp <;> omega))) (And.intro (inB_mk (by first | omega | (simp <;> omega)) : (inB i ((L a : Int).toNat)) = true) (And.intro (st_ok (by first | omega | (simp <;> omega)) : (Nat.ble ((0 + i.toNat) + 1) (U l).length) = true) (And.intro (fits_i64 (by first | omega | (simp <;> omega)) : (fits .i64 (i + 1)) = true) (And.intro (rfl : true = true) ((nx_next ((i + 1), (if (gi (limbs a) i.toNat) < (gi (limbs b) i.toNat) + c then 1 else 0), (List.set (U l) (0 + i.toNat) (.int .u32 (((gi (limbs a) i.toNat) - (gi (limbs b) i.toNat) - c) % 4294967296))), (l.set i.toNat (((gi (limbs a) i.toNat) - (gi (limbs b) i.toNat) - c) % 4294967296).toNat)) (show (List.set (U l) (0 + i.toNat) (.int .u32 (((gi (limbs a) i.toNat) - (gi (limbs b) i.toNat) - c) % 4294967296))) = U (l.set i.toNat (((gi (limbs a) i.toNat) - (gi (limbs b) i.toNat) - c) % 4294967296).toNat) ∧ SubInv a b (i + 1) (if (gi (limbs a) i.toNat) < (gi (limbs b) i.toNat) + c then 1 else 0) (l.set i.toNat (((gi (limbs a) i.toNat) - (gi (limbs b) i.toNat) - c) % 4294967296).toNat) from ⟨setU _ (by omega) (by omega), by first | exact sub_next h1 (by omega) rfl | exact sub_next h1 (by omega) (gi_out (show (limbs b).length ≤ i.toNat from (show L b ≤ i.toNat by omega))).symm⟩) (show ((L a : Int) - (i + 1)).toNat < ((L a : Int) - i).toNat by omega) : NX (nat_Sub_0_mk a b) (nat_Sub_0_I a b) (nat_Sub_0_mu a b) (nat_Sub_0_ex a b) (nat_Sub_0_J a b) (i, c, (U l), l) .normal (nat_Sub_0_mk a b ((i + 1), (if (gi (limbs a) i.toNat) < (gi (limbs b) i.toNat) + c then 1 else 0), (List.set (U l) (0 + i.toNat) (.int .u32 (((gi (limbs a) i.toNat) - (gi (limbs b) i.toNat) - c) % 4294967296))), (l.set i.toNat (((gi (limbs a) i.toNat) - (gi (limbs b) i.toNat) - c) % 4294967296).toNat)))))))))))))) (fun (h103 : (iLt i ((lim b).length : Int)) = false) => have _gh103 := iLt_f h103; And.intro (inB_mk (by first | omega | (simp <;> omega)) : (inB i ((lim a).length)) = true) (And.intro (ld_L (by first | omega | (simp <;> omega)) : (Nat.blt i.toNat (lim a).length && isIntK .u32 (nth (lim a) i.toNat .unk)) = true) (And.intro (bits_Sub32 (gi (limbs a) i.toNat) 0 c (by first | omega | (simp <;> omega)) (by first | omega | (simp <;> omega)) (by first | omega | (simp <;> omega))) (And.intro (inB_mk (by first | omega | (simp <;> omega)) : (inB i ((L a : Int).toNat)) = true) (And.intro (st_ok (by first | omega | (simp <;> omega)) : (Nat.ble ((0 + i.toNat) + 1) (U l).length) = true) (And.intro (fits_i64 (by first | omega | (simp <;> omega)) : (fits .i64 (i + 1)) = true) (And.intro (rfl : true = true) ((nx_next ((i + 1), (if (gi (limbs a) i.toNat) < 0 + c then 1 else 0), (List.set (U l) (0 + i.toNat) (.int .u32 (((gi (limbs a) i.toNat) - 0 - c) % 4294967296))), (l.set i.toNat (((gi (limbs a) i.toNat) - 0 - c) % 4294967296).toNat)) (show (List.set (U l) (0 + i.toNat) (.int .u32 (((gi (limbs a) i.toNat) - 0 - c) % 4294967296))) = U (l.set i.toNat (((gi (limbs a) i.toNat) - 0 - c) % 4294967296).toNat) ∧ SubInv a b (i + 1) (if (gi (limbs a) i.toNat) < 0 + c then 1 else 0) (l.set i.toNat (((gi (limbs a) i.toNat) - 0 - c) % 4294967296).toNat) from ⟨setU _ (by omega) (by omega), by first | exact sub_next h1 (by omega) rfl | exact sub_next h1 (by omega) (gi_out (show (limbs b).length ≤ i.toNat from (show L b ≤ i.toNat by omega))).symm⟩) (show ((L a : Int) - (i + 1)).toNat < ((L a : Int) - i).toNat by omega) : NX (nat_Sub_0_mk a b) (nat_Sub_0_I a b) (nat_Sub_0_mu a b) (nat_Sub_0_ex a b) (nat_Sub_0_J a b) (i, c, (U l), l) .normal (nat_Sub_0_mk a b ((i + 1), (if (gi (limbs a) i.toNat) < 0 + c then 1 else 0), (List.set (U l) (0 + i.toNat) (.int .u32 (((gi (limbs a) i.toNat) - 0 - c) % 4294967296))), (l.set i.toNat (((gi (limbs a) i.toNat) - 0 - c) % 4294967296).toNat))))))))))))) (fun (h104 : (iLt i ((L a : Int).toNat : Int)) = false) => have _gh104 := iLt_f h104; And.intro (rfl : true = true) ((nx_exit 0 ((nat_Sub_0_ex a b (c, l)).2) (c, l) (show SubInv a b (L a : Int) c l from (show i = (L a : Int) by omega) ▸ h1) rfl : NX (nat_Sub_0_mk a b) (nat_Sub_0_I a b) (nat_Sub_0_mu a b) (nat_Sub_0_ex a b) (nat_Sub_0_J a b) (i, c, (U l), l) (.exit 0) ((nat_Sub_0_ex a b (c, l)).2)))))) (by kernel_rfl))

theorem nat_Sub (a : Nat) (b : Nat) (c0 : L a ≤ 67108864) (c1 : L b ≤ 67108864) (c2 : b ≤ a) : Impl Tryz.prog Amb 181 [(N a), (N b)] (.tup [(N (a - b)), (.bool true)]) := by
  have e0 := L_len a
  have e1 := L_len b
  have e2 : 0 ≤ cmpN a b := by unfold cmpN; split <;> (try split) <;> omega
  exact impl_ob hP hAmb Tryz.func181 (by kernel_rfl) (.lit <| .call (.int .i64 (cmpN a b)) <| .lit <| .no <| .lit <| .call (.int .i64 (L a : Int)) <| .yes <| .loop ⟨[0, 1, 6, 7, 18, 19], 1, []⟩ ((nat_Sub_0_mk a b (0, 0, (List.replicate ((L a : Int).toNat) (.int .u32 0)), (List.replicate (L a) 0)))) (Int × List Nat) (nat_Sub_0_ex a b) (nat_Sub_0_J a b) (fun y => .yes <| .call (.int .i64 ((limbs (val y.2)).length : Int)) <| .yes <| .yes <| .ret))
    (cast_ob (And.intro True.intro (And.intro (nat_Cmp a b (by first | omega | (simp <;> omega)) (by first | omega | (simp <;> omega))) (And.intro (iLt_mkF (by omega) : (iLt (cmpN a b) 0) = false) (And.intro (nat_sizeN a (by first | omega | (simp <;> omega))) (And.intro (mk_ok (by first | omega | (simp <;> omega)) : (((iEq (L a : Int) (L a : Int)) && (iLe 0 (L a : Int))) && (iLe (L a : Int) 1073741824)) = true) (And.intro (rfl : true = true) (And.intro (rfl : (nat_Sub_0_mk a b (0, 0, (List.replicate ((L a : Int).toNat) (.int .u32 0)), (List.replicate (L a) 0))) = (nat_Sub_0_mk a b (0, 0, (List.replicate ((L a : Int).toNat) (.int .u32 0)), (List.replicate (L a) 0)))) (And.intro (nat_Sub_0 a b (by omega) (0, 0, (List.replicate ((L a : Int).toNat) (.int .u32 0)), (List.replicate (L a) 0)) (show (List.replicate ((L a : Int).toNat) (.int .u32 0)) = U (List.replicate (L a) 0) ∧ SubInv a b 0 0 (List.replicate (L a) 0) from ⟨U_rep _, sub_init _ _⟩)) (fun y (hJ : nat_Sub_0_J a b y) => have hJ : SubInv a b (L a : Int) y.1 y.2 := hJ; have ⟨_, _, q2, q3, q4, _⟩ := hJ; have q5 := U_len y.2; have q6 := limbs_len_le (sub_end c2 hJ).1; have q7 := (sub_end c2 hJ).2.1; And.intro (ok_arg (by first | omega | (simp <;> omega)) : ((true && Nat.ble (0 + (L a : Int).toNat) (U y.2).length) && true) = true) (And.intro (nat_sizeC (List.take ((L a : Int).toNat) (List.drop 0 (U y.2))) y.2 (tkU rfl (by omega)) (sub_end c2 hJ).1 (by omega)) (And.intro (and_mk (and_mk (and_mk (rfl) (iLe_mk (by first | omega | (simp <;> omega)))) (iLe_mk (by first | omega | (simp <;> omega)))) (rfl) : (((true && (iLe (0 : Int) ((limbs (val y.2)).length : Int))) && (iLe ((limbs (val y.2)).length : Int) ((L a : Int).toNat : Int))) && true) = true) (And.intro (ok_res (by first | omega | (simp <;> omega)) : ((true && Nat.ble (0 + (((limbs (val y.2)).length : Int) - 0).toNat) (U y.2).length) && (true && true)) = true) (vsub_tup2 (vsub_of (congrArg (V.sl 1) (fin_lim rfl (sub_end c2 hJ).1 (sub_end c2 hJ).2.2))) (vsub_refl _) : vsub (.tup [(.sl 1 (List.take ((((limbs (val y.2)).length : Int) - 0).toNat) (List.drop 0 (U y.2)))), (.bool true)]) (.tup [(N (a - b)), (.bool true)])))))))))))))) (by kernel_rfl))

end Go.Proofs.YtmbpoibhamlkbaaGreatDoor

namespace Go.Proofs.YtmbpoibhamlkbaaGreatDoor

theorem B_pow (k : Nat) : (4294967296 : Nat) ^ k = 2 ^ (32 * k) := by rw [show (4294967296 : Nat) = 2 ^ 32 from rfl, ← Nat.pow_mul]
theorem tdiv32 {n : Int} (h : 0 ≤ n) : Int.tdiv n 32 = n / 32 := Int.tdiv_eq_ediv_of_nonneg h
theorem wRem32 {n : Int} (h : 0 ≤ n) : wRem n 32 = n % 32 := Int.tmod_eq_emod_of_nonneg h
theorem pow_cast (k : Nat) : (2 : Int) ^ k = ((2 ^ k : Nat) : Int) := by simp
theorem shl_bound {x r : Nat} (hx : x < 4294967296) (hr : r < 32) : x * 2 ^ r < 9223372036854775808 := by
  have h2 : 2 ^ r ≤ 2 ^ 31 := Nat.pow_le_pow_right (by omega) (by omega)
  calc x * 2 ^ r ≤ x * 2 ^ 31 := Nat.mul_le_mul_left _ h2
    _ < _ := by omega
theorem or_add {p q r : Nat} (hp : p < 2 ^ r) : p ||| 2 ^ r * q = p + 2 ^ r * q := by
  rw [Nat.or_comm, ← Nat.two_pow_add_eq_or_of_lt hp, Nat.add_comm]
theorem set2 (l : List Nat) {k k' k2 k2' : Nat} {w w2 : Int} {d d2 : Nat} (h1 : k = k') (h2 : w = (d : Int)) (h3 : k2 = k2') (h4 : w2 = (d2 : Int)) :
    List.set (List.set (U l) k (.int .u32 w)) k2 (.int .u32 w2) = U ((l.set k' d).set k2' d2) := by
  rw [setU l h1 h2, setU _ h3 h4]

theorem min_rest {n : Int} (h : 0 ≤ n) : min (wRem n (32 : Int)).toNat (IntKind.bits .u64) = n.toNat % 32 := by
  rw [wRem32 h, show IntKind.bits .u64 = 64 from rfl]; omega
theorem shl_word (a k : Nat) {n : Int} (h : 0 ≤ n) : 0 ≤ gi (limbs a) k * 2 ^ (min (wRem n (32 : Int)).toNat (IntKind.bits .u64)) ∧ gi (limbs a) k * 2 ^ (min (wRem n (32 : Int)).toNat (IntKind.bits .u64)) < 9223372036854775808 := by
  rw [min_rest h, gi_eq, pow_cast, ← Int.natCast_mul]
  have := shl_bound (dig_get (dig_limbs a) k) (show n.toNat % 32 < 32 by omega)
  omega
theorem wrap_pos (x : Int) : IntKind.wrap .u32 x = ((IntKind.wrap .u32 x).toNat : Int) := by rw [wrap_u32]; omega
theorem wOr_pos (x y : Int) : wOr .u32 x y = ((wOr .u32 x y).toNat : Int) := wrap_pos _
def ShlInv (a n : Nat) (i : Int) (out : List Nat) : Prop :=
  0 ≤ i ∧ i ≤ L a ∧ out.length = L a + n / 32 + 1 ∧ Dig out ∧ val (out.take (i.toNat + n / 32 + 1)) = val ((limbs a).take i.toNat) * 2 ^ n ∧ out.getD (i.toNat + n / 32) 0 < 2 ^ (n % 32)
theorem shl_init (a n : Nat) : ShlInv a n 0 (List.replicate (L a + n / 32 + 1) 0) := by
  refine ⟨by omega, by omega, by simp, dig_rep _, ?_, ?_⟩
  · rw [List.take_replicate, val_rep]; simp [val]
  · rw [List.getD_eq_getElem?_getD, List.getElem?_replicate]
    have := Nat.two_pow_pos (n % 32)
    split <;> simpa using this
theorem shl_next {a n : Nat} {i p y : Int} {out : List Nat} (h : ShlInv a n i out) (hi : i < L a) (hp : p = gi out (i.toNat + n / 32)) (hy : y = gi (limbs a) i.toNat * 2 ^ (n % 32)) :
    ShlInv a n (i + 1) ((out.set (i.toNat + n / 32) (wOr .u32 p (IntKind.wrap .u32 y)).toNat).set (i.toNat + n / 32 + 1) (IntKind.wrap .u32 (Int.fdiv y (2 ^ 32))).toNat) := by
  obtain ⟨h0, h1, h2, h3, h4, h5⟩ := h
  have gx := dig_get (dig_limbs a) i.toNat
  have gp := dig_get h3 (i.toNat + n / 32)
  rw [gi_eq] at hp hy
  have htk := take_succ_val out (i.toNat + n / 32)
  have hta := take_succ_val (limbs a) i.toNat
  generalize (limbs a).getD i.toNat 0 = x at *
  have hsum := h5
  generalize hP : out.getD (i.toNat + n / 32) 0 = P at *
  have hr : n % 32 < 32 := by omega
  have hb := shl_bound gx hr
  have hyN : y = ((x * 2 ^ (n % 32) : Nat) : Int) := by rw [hy, pow_cast]; simp
  generalize hY : x * 2 ^ (n % 32) = Y at *
  subst hyN
  subst hp
  have e1 : IntKind.wrap .u32 ((Y : Nat) : Int) = ((Y % 4294967296 : Nat) : Int) := by rw [wrap_u32]; omega
  have e2 : IntKind.wrap .u32 (Int.fdiv ((Y : Nat) : Int) (2 ^ 32)) = ((Y / 4294967296 : Nat) : Int) := by rw [fdiv_B, wrap_u32]; omega
  have hlo : Y % 4294967296 = 2 ^ (n % 32) * (x % 2 ^ (32 - n % 32)) := by
    rw [← hY, Nat.mul_comm x, show (4294967296 : Nat) = 2 ^ (n % 32) * 2 ^ (32 - n % 32) by rw [← Nat.pow_add, show n % 32 + (32 - n % 32) = 32 by omega], Nat.mul_mod_mul_left]
  have e3 : wOr .u32 ((P : Nat) : Int) ((Y % 4294967296 : Nat) : Int) = ((P + Y % 4294967296 : Nat) : Int) := by
    rw [wOr_nat gp (Nat.mod_lt _ (by omega)), hlo, or_add h5]
  have hsumlt : P + Y % 4294967296 < 4294967296 := by
    have : P ||| Y % 4294967296 < 2 ^ 32 := Nat.or_lt_two_pow (by omega) (by omega)
    rw [hlo, or_add h5, ← hlo] at this
    omega
  have hhi : Y / 4294967296 < 2 ^ (n % 32) := by
    rw [← hY]
    apply Nat.div_lt_of_lt_mul
    exact Nat.mul_lt_mul_of_pos_right gx (Nat.two_pow_pos _)
  rw [e1, e2, e3, Int.toNat_natCast, Int.toNat_natCast]
  refine ⟨by omega, by omega, by simpa using h2, dig_set (dig_set h3 hsumlt _) (by omega) _, ?_, ?_⟩
  · rw [show (i + 1).toNat = i.toNat + 1 by omega, show i.toNat + 1 + n / 32 + 1 = (i.toNat + n / 32 + 1) + 1 by omega, set_val _ _ (by simp; omega), set_val _ _ (by omega), hta]
    rw [Nat.add_mul, ← h4, htk]
    have hB : 4294967296 ^ i.toNat * x * 2 ^ n = 4294967296 ^ (i.toNat + n / 32) * Y := by
      rw [← hY, B_pow, B_pow, Nat.mul_add, Nat.pow_add, Nat.mul_assoc, Nat.mul_assoc, Nat.mul_left_comm (2 ^ (32 * (n / 32))), ← Nat.pow_add, show 32 * (n / 32) + n % 32 = n by omega]
    rw [hB, Nat.pow_succ, Nat.mul_assoc (4294967296 ^ _), Nat.mul_add, Nat.add_assoc, Nat.add_assoc, Nat.add_assoc, ← Nat.mul_add (4294967296 ^ _) (Y % 4294967296), Nat.mod_add_div]
  · rw [show (i + 1).toNat + n / 32 = i.toNat + n / 32 + 1 by omega, set_getD _ _ (by simp; omega)]
    exact hhi
theorem shl_end {a n : Nat} {out : List Nat} (h : ShlInv a n (L a : Int) out) : Dig out ∧ out.length = L a + n / 32 + 1 ∧ val out = a * 2 ^ n := by
  obtain ⟨h0, h1, h2, h3, h4, h5⟩ := h
  refine ⟨h3, h2, ?_⟩
  rw [Int.toNat_natCast, val_lim a (Nat.le_refl _), val_all out (by omega)] at h4
  exact h4

/-! ### right -/
theorem fdiv_pow (s : Int) (k : Nat) : Int.fdiv s (2 ^ k) = s / ((2 ^ k : Nat) : Int) := by
  rw [Int.fdiv_eq_ediv_of_nonneg _ (by rw [pow_cast]; exact Int.natCast_nonneg _), pow_cast]
theorem drop_val (l : List Nat) (k : Nat) (hD : Dig l) : val (l.drop k) = val l / 4294967296 ^ k := by
  by_cases h : k ≤ l.length
  · have e := val_append (l.take k) (l.drop k)
    rw [List.take_append_drop, List.length_take, Nat.min_eq_left h] at e
    have hl := val_lt (dig_take hD k)
    rw [List.length_take, Nat.min_eq_left h] at hl
    rw [e, Nat.add_mul_div_left _ _ (Nat.pow_pos (by omega)), Nat.div_eq_of_lt hl, Nat.zero_add]
  · have hl := val_lt hD
    rw [List.drop_eq_nil_of_le (by omega), Nat.div_eq_of_lt]
    · rfl
    · exact Nat.lt_of_lt_of_le hl (Nat.pow_le_pow_right (by omega) (by omega))
theorem digit_eq (l : List Nat) (k : Nat) (hD : Dig l) : l.getD k 0 = val l / 4294967296 ^ k % 4294967296 := by
  rw [← drop_val l k hD]
  by_cases h : k < l.length
  · rw [List.drop_eq_getElem_cons h, val, List.getD_eq_getElem?_getD, List.getElem?_eq_getElem h]
    have := hD _ (List.getElem_mem h)
    simp only [Option.getD_some]
    omega
  · rw [List.drop_eq_nil_of_le (by omega), List.getD_eq_getElem?_getD, List.getElem?_eq_none (by omega)]
    rfl
theorem limb_eq (a k : Nat) : (limbs a).getD k 0 = a / 4294967296 ^ k % 4294967296 := by
  rw [digit_eq _ _ (dig_limbs a), val_limbs]
def ShrInv (a n : Nat) (i : Int) (out : List Nat) : Prop :=
  0 ≤ i ∧ i ≤ ((L a - n / 32 : Nat) : Int) ∧ out.length = L a - n / 32 ∧ Dig out ∧ val (out.take i.toNat) = a / 2 ^ n % 4294967296 ^ i.toNat
theorem shr_init (a n : Nat) : ShrInv a n 0 (List.replicate (L a - n / 32) 0) := ⟨by omega, by omega, by simp, dig_rep _, by simp [val, Nat.mod_one]⟩
/-- a digit of the shifted number -/
theorem shr_digit (a n i : Nat) : a / 2 ^ n / 4294967296 ^ i % 4294967296 =
    ((limbs a).getD (i + n / 32) 0 + (limbs a).getD (i + n / 32 + 1) 0 * 4294967296) / 2 ^ (n % 32) % 4294967296 := by
  rw [limb_eq, limb_eq, Nat.pow_succ, ← Nat.div_div_eq_div_mul a]
  have e : a / 2 ^ n / 4294967296 ^ i = a / 4294967296 ^ (i + n / 32) / 2 ^ (n % 32) := by
    rw [Nat.div_div_eq_div_mul, Nat.div_div_eq_div_mul, B_pow, B_pow, ← Nat.pow_add, ← Nat.pow_add]
    congr 2
    omega
  rw [e]
  generalize a / 4294967296 ^ (i + n / 32) = q
  have hr : 2 ^ (n % 32) * 2 ^ (32 - n % 32) = 4294967296 := by rw [← Nat.pow_add, show n % 32 + (32 - n % 32) = 32 by omega]
  have hq : q = (q % 4294967296 + q / 4294967296 % 4294967296 * 4294967296) + 2 ^ (n % 32) * (2 ^ (32 - n % 32) * (4294967296 * (q / 4294967296 / 4294967296))) := by
    rw [← Nat.mul_assoc, hr]; omega
  conv => lhs; rw [hq]
  rw [Nat.add_mul_div_left _ _ (Nat.two_pow_pos _), Nat.mul_left_comm, Nat.add_mul_mod_self_left]
theorem shr_next {a n : Nat} {i y : Int} {out : List Nat} (h : ShrInv a n i out) (hi : i < ((L a - n / 32 : Nat) : Int))
    (hy : y = gi (limbs a) (i.toNat + n / 32) + gi (limbs a) (i.toNat + n / 32 + 1) * 4294967296) :
    ShrInv a n (i + 1) (out.set i.toNat (IntKind.wrap .u32 (Int.fdiv y (2 ^ (n % 32)))).toNat) := by
  obtain ⟨h0, h1, h2, h3, h4⟩ := h
  rw [gi_eq, gi_eq] at hy
  have hd := shr_digit a n i.toNat
  have hyN : y = (((limbs a).getD (i.toNat + n / 32) 0 + (limbs a).getD (i.toNat + n / 32 + 1) 0 * 4294967296 : Nat) : Int) := by rw [hy]; simp
  rw [hyN]
  generalize (limbs a).getD (i.toNat + n / 32) 0 + (limbs a).getD (i.toNat + n / 32 + 1) 0 * 4294967296 = Y at *
  have e1 : IntKind.wrap .u32 (Int.fdiv (Y : Int) (2 ^ (n % 32))) = ((Y / 2 ^ (n % 32) % 4294967296 : Nat) : Int) := by rw [fdiv_pow, wrap_u32]; simp
  rw [e1, Int.toNat_natCast, ← hd]
  refine ⟨by omega, by omega, by simpa using h2, dig_set h3 (by omega) _, ?_⟩
  rw [show (i + 1).toNat = i.toNat + 1 by omega, set_val _ _ (by omega), h4, Nat.pow_succ, Nat.mod_mul]
theorem shr_end {a n : Nat} {out : List Nat} (h : ShrInv a n ((L a - n / 32 : Nat) : Int) out) (hw : n / 32 < L a) : Dig out ∧ out.length = L a - n / 32 ∧ val out = a / 2 ^ n := by
  obtain ⟨h0, h1, h2, h3, h4⟩ := h
  refine ⟨h3, h2, ?_⟩
  rw [Int.toNat_natCast, val_all out (by omega), Nat.mod_eq_of_lt] at h4
  · exact h4
  · apply Nat.div_lt_of_lt_mul
    refine Nat.lt_of_lt_of_le (L_lt a) ?_
    rw [B_pow, B_pow, ← Nat.pow_add]
    exact Nat.pow_le_pow_right (by omega) (by omega)
theorem shr_zero {a n : Nat} (hw : L a ≤ n / 32) : a / 2 ^ n = 0 := by
  apply Nat.div_eq_of_lt
  refine Nat.lt_of_lt_of_le (L_lt a) ?_
  rw [B_pow]
  exact Nat.pow_le_pow_right (by omega) (by omega)
/-! ### words of 64 -/
theorem ofInt64 {a : Int} (h : 0 ≤ a) : (BitVec.ofInt 64 a).toNat = a.toNat % 18446744073709551616 := by
  obtain ⟨n, rfl⟩ := Int.eq_ofNat_of_zero_le h
  rw [BitVec.ofInt_natCast, BitVec.toNat_ofNat, Int.toNat_natCast]
theorem wOr_64 {a b : Nat} (ha : a < 4294967296) (hb : b < 4294967296) : wOr .u64 (a : Int) ((b : Int) * 4294967296) = (a : Int) + (b : Int) * 4294967296 := by
  have e : (b : Int) * 4294967296 = ((4294967296 * b : Nat) : Int) := by omega
  have h1 : a ||| 4294967296 * b = a + 4294967296 * b := or_add (r := 32) ha
  rw [e]
  show IntKind.wrap .u64 ((BitVec.ofInt 64 (a : Int) ||| BitVec.ofInt 64 ((4294967296 * b : Nat) : Int)).toNat : Int) = _
  rw [BitVec.toNat_or, ofInt64 (by omega), ofInt64 (by omega), wrap_u64, Int.toNat_natCast, Int.toNat_natCast, Nat.mod_eq_of_lt (show a < 18446744073709551616 by omega), Nat.mod_eq_of_lt (by omega), h1]
  omega
theorem wOr_gi (a k k2 : Nat) : wOr .u64 (gi (limbs a) k) (gi (limbs a) k2 * 2 ^ 32) = gi (limbs a) k + gi (limbs a) k2 * 4294967296 := by
  rw [gi_eq, gi_eq]
  exact wOr_64 (dig_get (dig_limbs a) k) (dig_get (dig_limbs a) k2)

/-! ### low digits -/
theorem low_all {a n : Nat} (hw : L a ≤ n / 32) : a % 2 ^ n = a := by
  apply Nat.mod_eq_of_lt
  refine Nat.lt_of_lt_of_le (L_lt a) ?_
  rw [B_pow]
  exact Nat.pow_le_pow_right (by omega) (by omega)
theorem low_word {x r : Nat} (hx : x < 4294967296) (hr : r < 32) : wAnd .u32 (x : Int) (2 ^ r - 1) = ((x % 2 ^ r : Nat) : Int) := by
  have h1 : (2 : Int) ^ r - 1 = ((2 ^ r - 1 : Nat) : Int) := by have := Nat.two_pow_pos r; rw [pow_cast]; omega
  have h2 : 2 ^ r ≤ 2 ^ 31 := Nat.pow_le_pow_right (by omega) (by omega)
  rw [h1, wAnd_nat hx (by omega), Nat.and_two_pow_sub_one_eq_mod]
theorem low_val {a n : Nat} (hw : n / 32 < L a) : val (((limbs a).take (n / 32 + 1)).set (n / 32) ((limbs a).getD (n / 32) 0 % 2 ^ (n % 32))) = a % 2 ^ n := by
  have hl : ((limbs a).take (n / 32 + 1)).length = n / 32 + 1 := by rw [List.length_take]; unfold L at hw; omega
  rw [← val_all (((limbs a).take (n / 32 + 1)).set (n / 32) _) (n := n / 32 + 1) (by simp; omega), set_val _ _ (by omega), List.take_take, Nat.min_eq_left (by omega)]
  have hs := take_succ_val (limbs a) (n / 32)
  have e := val_append ((limbs a).take (n / 32)) ((limbs a).drop (n / 32))
  rw [List.take_append_drop, val_limbs, List.length_take, Nat.min_eq_left (by unfold L at hw; omega), drop_val _ _ (dig_limbs a), val_limbs] at e
  have hlt := val_lt (dig_take (dig_limbs a) (n / 32))
  rw [List.length_take, Nat.min_eq_left (by unfold L at hw; omega)] at hlt
  rw [limb_eq]
  generalize val ((limbs a).take (n / 32)) = t at *
  have hn : 2 ^ n = 4294967296 ^ (n / 32) * 2 ^ (n % 32) := by rw [B_pow, ← Nat.pow_add]; congr 1; omega
  rw [hn, Nat.mod_mul]
  have h1 : a % 4294967296 ^ (n / 32) = t := by
    have := congrArg (· % 4294967296 ^ (n / 32)) e
    simp only [Nat.add_mul_mod_self_left] at this
    rw [this, Nat.mod_eq_of_lt hlt]
  rw [h1]
  have hr : 2 ^ (32 - n % 32) * 2 ^ (n % 32) = 4294967296 := by rw [← Nat.pow_add, show 32 - n % 32 + n % 32 = 32 by omega]
  rw [← hr, Nat.mod_mul_left_mod]

/-! ### numbers of digits -/
def nbits (n : Nat) : Nat := if n = 0 then 0 else Nat.log2 n + 1
theorem nbits_of {n k : Nat} (h1 : 2 ^ k ≤ n) (h2 : n < 2 ^ (k + 1)) : nbits n = k + 1 := by
  have h0 : n ≠ 0 := by have := Nat.two_pow_pos k; omega
  unfold nbits
  rw [if_neg h0]
  have := (Nat.log2_eq_iff h0).2 ⟨h1, h2⟩
  omega
theorem nbits_lt (n : Nat) : n < 2 ^ nbits n := by
  unfold nbits
  split
  · omega
  · exact Nat.lt_log2_self
theorem nbits_le {n : Nat} (h : n ≠ 0) : 2 ^ (nbits n - 1) ≤ n := by
  unfold nbits
  rw [if_neg h]
  exact Nat.log2_self_le h
theorem nbits_zero : nbits 0 = 0 := rfl
theorem nbits_pos {n : Nat} (h : n ≠ 0) : 0 < nbits n := by unfold nbits; rw [if_neg h]; omega
theorem bitLenAux_eq : ∀ (f x : Nat), x < 2 ^ f → Lib.bitLenAux f x = nbits x
  | 0, x, h => by have : x = 0 := by simpa using h
                  subst this; rfl
  | f + 1, x, h => by
    by_cases h0 : x = 0
    · subst h0; simp [Lib.bitLenAux, nbits]
    · rw [Lib.bitLenAux, if_neg h0, bitLenAux_eq f (x / 2) (by rw [Nat.pow_succ] at h; omega)]
      by_cases h1 : x / 2 = 0
      · have : x = 1 := by omega
        subst this; rfl
      · have a1 := nbits_le h1
        have a2 := nbits_lt (x / 2)
        have a3 := nbits_pos h1
        rw [Nat.add_comm]
        refine (nbits_of ?_ ?_).symm
        · rw [show nbits (x / 2) = nbits (x / 2) - 1 + 1 by omega, Nat.pow_succ]; omega
        · rw [Nat.pow_succ]; omega
theorem bitLen_eq {x : Nat} (h : x < 4294967296) : Lib.bitLen x = nbits x := bitLenAux_eq 64 x (by omega)
theorem bits_top {a : Nat} (h : a ≠ 0) : nbits a = 32 * (L a - 1) + nbits ((limbs a).getD (L a - 1) 0) := by
  have hp := L_pos h
  have hlow := L_low h
  have hlt := L_lt a
  rw [limb_eq]
  have hq : a / 4294967296 ^ (L a - 1) % 4294967296 = a / 4294967296 ^ (L a - 1) := by
    apply Nat.mod_eq_of_lt
    apply Nat.div_lt_of_lt_mul
    rw [← Nat.pow_succ, show (L a - 1).succ = L a by omega]
    exact hlt
  rw [hq]
  have h0 : a / 4294967296 ^ (L a - 1) ≠ 0 := by
    have := Nat.div_pos hlow (Nat.pow_pos (by omega)); omega
  have a1 := nbits_le h0
  have a2 := nbits_lt (a / 4294967296 ^ (L a - 1))
  have a3 := nbits_pos h0
  generalize hk : nbits (a / 4294967296 ^ (L a - 1)) = k at *
  rw [show 32 * (L a - 1) + k = (32 * (L a - 1) + k - 1) + 1 by omega]
  apply nbits_of
  · rw [show 32 * (L a - 1) + k - 1 = (k - 1) + 32 * (L a - 1) by omega, Nat.pow_add, ← B_pow]
    exact (Nat.le_div_iff_mul_le (Nat.pow_pos (by omega))).1 a1
  · rw [show 32 * (L a - 1) + k - 1 + 1 = k + 32 * (L a - 1) by omega, Nat.pow_add, ← B_pow]
    exact (Nat.div_lt_iff_lt_mul (Nat.pow_pos (by omega))).1 a2
theorem bit_limb (a i : Nat) : a.testBit i = decide ((limbs a).getD (i / 32) 0 / 2 ^ (i % 32) % 2 = 1) := by
  rw [limb_eq, Nat.testBit_eq_decide_div_mod_eq]
  congr 1
  have e : a / 2 ^ i = a / 4294967296 ^ (i / 32) / 2 ^ (i % 32) := by
    rw [Nat.div_div_eq_div_mul, B_pow, ← Nat.pow_add]; congr 2; omega
  rw [e]
  generalize a / 4294967296 ^ (i / 32) = q
  have hr : 2 ^ (i % 32) * 2 ^ (32 - i % 32) = 4294967296 := by rw [← Nat.pow_add, show i % 32 + (32 - i % 32) = 32 by omega]
  have h2 : 2 ^ (32 - i % 32) = 2 * 2 ^ (31 - i % 32) := by rw [← Nat.pow_succ', show (31 - i % 32).succ = 32 - i % 32 by omega]
  have hq : q = q % 4294967296 + 2 ^ (i % 32) * (2 * (2 ^ (31 - i % 32) * (q / 4294967296))) := by
    rw [← Nat.mul_assoc 2, ← h2, ← Nat.mul_assoc, hr]; omega
  conv => lhs; lhs; rw [hq]
  rw [Nat.add_mul_div_left _ _ (Nat.two_pow_pos _), Nat.add_mul_mod_self_left]

theorem top_bits (a : Nat) : 0 < L a → (nbits a : Int) = 32 * ((L a : Int) - 1) + (Lib.bitLen (gi (limbs a) ((L a : Int) - 1).toNat).toNat : Int) ∧ Lib.bitLen (gi (limbs a) ((L a : Int) - 1).toNat).toNat ≤ 32 := by
  intro h
  have h0 : a ≠ 0 := fun e => by subst e; rw [L_zero] at h; omega
  have ht := bits_top h0
  rw [gi_eq, show ((L a : Int) - 1).toNat = L a - 1 by omega, Int.toNat_natCast, bitLen_eq (dig_get (dig_limbs a) _)]
  refine ⟨by omega, ?_⟩
  have h1 := dig_get (dig_limbs a) (L a - 1)
  generalize (limbs a).getD (L a - 1) 0 = x at *
  rcases Nat.lt_or_ge 32 (nbits x) with q | q
  · exfalso
    have hx : x ≠ 0 := fun e => by subst e; rw [nbits_zero] at q; omega
    have := nbits_le hx
    have : 2 ^ 32 ≤ 2 ^ (nbits x - 1) := Nat.pow_le_pow_right (by omega) (by omega)
    omega
  · exact q
theorem min_rest32 {n : Int} (h : 0 ≤ n) : min (wRem n (32 : Int)).toNat (IntKind.bits .u32) = n.toNat % 32 := by
  rw [wRem32 h, show IntKind.bits .u32 = 32 from rfl]; omega
theorem bit_t {a : Nat} {i : Int} (h : 0 ≤ i) :
    iEq (wAnd .u32 (Int.fdiv (gi (limbs a) (Int.tdiv i (32 : Int)).toNat) (2 ^ (min (wRem i (32 : Int)).toNat (IntKind.bits .u32)))) (1 : Int)) 1 = a.testBit i.toNat := by
  rw [min_rest32 h, tdiv32 h, show (i / 32).toNat = i.toNat / 32 by omega, gi_eq, fdiv_pow, bit_limb]
  have hx := dig_get (dig_limbs a) (i.toNat / 32)
  generalize (limbs a).getD (i.toNat / 32) 0 = x at *
  have hq : x / 2 ^ (i.toNat % 32) ≤ x := Nat.div_le_self _ _
  rw [← Int.natCast_ediv]
  have := wAnd_nat (a := x / 2 ^ (i.toNat % 32)) (b := 1) (by omega) (by omega)
  rw [show (1 : Int) = ((1 : Nat) : Int) from rfl, this, Nat.and_one_is_mod]
  unfold iEq
  rw [Bool.eq_iff_iff]
  simp only [beq_iff_eq, decide_eq_true_eq]
  omega
theorem bit_f {a : Nat} {i : Int} (h0 : 0 ≤ i) (h : L a ≤ i.toNat / 32) : a.testBit i.toNat = false := by
  rw [bit_limb, List.getD_eq_getElem?_getD, List.getElem?_eq_none (show (limbs a).length ≤ i.toNat / 32 from h)]
  simp
theorem low_mask {n : Int} (h : 0 ≤ n) {x : Int} (hx : 0 ≤ x ∧ x < 4294967296) : wAnd .u32 x ((1 : Int) * 2 ^ (min (wRem n (32 : Int)).toNat (IntKind.bits .u32)) - 1) = ((x.toNat % 2 ^ (n.toNat % 32) : Nat) : Int) := by
  rw [min_rest32 h, Int.one_mul]
  have := low_word (x := x.toNat) (r := n.toNat % 32) (by omega) (by omega)
  rwa [Int.toNat_of_nonneg hx.1] at this
theorem mask_ok {n : Int} (h : 0 ≤ n) : 1 ≤ (1 : Int) * 2 ^ (min (wRem n (32 : Int)).toNat (IntKind.bits .u32)) ∧ (1 : Int) * 2 ^ (min (wRem n (32 : Int)).toNat (IntKind.bits .u32)) ≤ 2147483648 := by
  rw [min_rest32 h, Int.one_mul, pow_cast]
  have h1 := Nat.two_pow_pos (n.toNat % 32)
  have h2 : 2 ^ (n.toNat % 32) ≤ 2 ^ 31 := Nat.pow_le_pow_right (by omega) (by omega)
  omega
theorem low_cut {a : Nat} {n : Int} (hn : 0 ≤ n) (h : n.toNat / 32 < L a) : (List.take ((((Int.tdiv n (32 : Int)) + 1) - 0).toNat) (List.drop 0 (lim a))) = U ((limbs a).take (n.toNat / 32 + 1)) := by
  rw [tdiv32 hn, show ((n / 32 + 1) - 0).toNat = n.toNat / 32 + 1 by omega, List.drop_zero]; exact U_take _ _
theorem low_len {a : Nat} {n : Int} (hn : 0 ≤ n) (h : n.toNat / 32 < L a) : (List.take ((((Int.tdiv n (32 : Int)) + 1) - 0).toNat) (List.drop 0 (lim a))).length = n.toNat / 32 + 1 := by
  rw [low_cut hn h, U_len, List.length_take]; unfold L at h; omega
theorem low_ld {a : Nat} {n : Int} (hn : 0 ≤ n) (h : n.toNat / 32 < L a) :
    (Nat.blt (0 + (Int.tdiv n (32 : Int)).toNat) (List.take ((((Int.tdiv n (32 : Int)) + 1) - 0).toNat) (List.drop 0 (lim a))).length && isIntK .u32 (nth (List.take ((((Int.tdiv n (32 : Int)) + 1) - 0).toNat) (List.drop 0 (lim a))) (0 + (Int.tdiv n (32 : Int)).toNat) .unk)) = true := by
  rw [low_cut hn h]
  refine ld_U ?_
  rw [List.length_take, tdiv32 hn]; unfold L at h; omega
theorem low_set {a : Nat} {n : Int} (hn : 0 ≤ n) (h : n.toNat / 32 < L a) :
    List.set (List.take ((((Int.tdiv n (32 : Int)) + 1) - 0).toNat) (List.drop 0 (lim a))) (0 + (Int.tdiv n (32 : Int)).toNat) (.int .u32 (wAnd .u32 (intV (nth (List.take ((((Int.tdiv n (32 : Int)) + 1) - 0).toNat) (List.drop 0 (lim a))) (0 + (Int.tdiv n (32 : Int)).toNat) .unk)) (((1 : Int) * 2 ^ (min (wRem n (32 : Int)).toNat (IntKind.bits .u32))) - 1))) = U (((limbs a).take (n.toNat / 32 + 1)).set (n.toNat / 32) ((limbs a).getD (n.toNat / 32) 0 % 2 ^ (n.toNat % 32))) := by
  have hk : 0 + (Int.tdiv n (32 : Int)).toNat = n.toNat / 32 := by rw [tdiv32 hn]; omega
  rw [low_cut hn h, hk]
  have e : intV (nth (U ((limbs a).take (n.toNat / 32 + 1))) (n.toNat / 32) .unk) = gi (limbs a) (n.toNat / 32) := by
    show gi ((limbs a).take (n.toNat / 32 + 1)) (n.toNat / 32) = _
    rw [gi_eq, gi_eq, List.getD_eq_getElem?_getD, List.getD_eq_getElem?_getD, List.getElem?_take, if_pos (by omega)]
  rw [e, low_mask hn ⟨gi_nonneg _ _, gi_lt (dig_limbs a) _⟩, gi_eq, Int.toNat_natCast]
  exact setU _ rfl rfl
theorem low_dig {a : Nat} {n : Int} (h : n.toNat / 32 < L a) : Dig (((limbs a).take (n.toNat / 32 + 1)).set (n.toNat / 32) ((limbs a).getD (n.toNat / 32) 0 % 2 ^ (n.toNat % 32))) ∧ (((limbs a).take (n.toNat / 32 + 1)).set (n.toNat / 32) ((limbs a).getD (n.toNat / 32) 0 % 2 ^ (n.toNat % 32))).length = n.toNat / 32 + 1 ∧ val (((limbs a).take (n.toNat / 32 + 1)).set (n.toNat / 32) ((limbs a).getD (n.toNat / 32) 0 % 2 ^ (n.toNat % 32))) = a % 2 ^ n.toNat := by
  refine ⟨dig_set (dig_take (dig_limbs a) _) (Nat.lt_of_le_of_lt (Nat.mod_le _ _) (dig_get (dig_limbs a) _)) _, ?_, low_val h⟩
  rw [List.length_set, List.length_take]; unfold L at h; omega
/-! ### zeros below -/
def tz (n : Nat) : Nat := if n = 0 then 0 else if n % 2 = 1 then 0 else tz (n / 2) + 1
termination_by n
decreasing_by omega
theorem tz_spec {n : Nat} (h : n ≠ 0) : n % 2 ^ tz n = 0 ∧ n / 2 ^ tz n % 2 = 1 := by
  induction n using Nat.strongRecOn with
  | _ n ih =>
    rw [tz, if_neg h]
    split
    · rename_i h1; simpa [Nat.mod_one] using h1
    · rename_i h1
      obtain ⟨i1, i2⟩ := ih (n / 2) (by omega) (by omega)
      rw [Nat.pow_succ, Nat.mul_comm, ← Nat.div_div_eq_div_mul]
      refine ⟨?_, i2⟩
      rw [Nat.mod_mul, i1, Nat.mul_zero, Nat.add_zero]
      omega
theorem tz_unique {n k : Nat} (h0 : n % 2 ^ k = 0) (h1 : n / 2 ^ k % 2 = 1) : tz n = k := by
  have hn : n ≠ 0 := fun e => by subst e; simp at h1
  obtain ⟨s0, s1⟩ := tz_spec hn
  -- both split n alike
  have key : ∀ {i j : Nat}, n % 2 ^ i = 0 → n / 2 ^ i % 2 = 1 → n % 2 ^ j = 0 → j ≤ i := by
    intro i j a b c
    rcases Nat.lt_or_ge i j with q | q
    · exfalso
      have e : 2 ^ j = 2 ^ i * (2 * 2 ^ (j - i - 1)) := by rw [← Nat.pow_succ', ← Nat.pow_add]; congr 1; omega
      have d : 2 ^ j ∣ n := Nat.dvd_of_mod_eq_zero c
      obtain ⟨m, hm⟩ := d
      rw [e, Nat.mul_assoc] at hm
      rw [hm, Nat.mul_div_cancel_left _ (Nat.two_pow_pos _), Nat.mul_assoc, Nat.mul_mod_right] at b
      omega
    · exact q
  exact Nat.le_antisymm (key h0 h1 s0) (key s0 s1 h0)
theorem ctz_eq {x : Nat} (h0 : x ≠ 0) (h : x < 4294967296) : Lib.ctz 32 x = tz x ∧ tz x < 32 := by
  obtain ⟨m, h1, h2⟩ := Lib.ctzFrom_spec 32 x (by omega) h
  have e : Lib.ctz 32 x = Lib.ctzFrom 32 x := by unfold Lib.ctz; rw [if_neg h0]
  have t : tz x = Lib.ctzFrom 32 x := by
    generalize Lib.ctzFrom 32 x = k at *
    apply tz_unique
    · rw [h1]; exact Nat.mul_mod_right _ _
    · rw [h1, Nat.mul_div_cancel_left _ (Nat.two_pow_pos _)]; omega
  rw [e, t]; exact ⟨rfl, h2⟩
theorem tz_limb {a i : Nat} (hz : (limbs a).take i = List.replicate i 0) (hi : i < L a) (hx : (limbs a).getD i 0 ≠ 0) : tz a = 32 * i + tz ((limbs a).getD i 0) := by
  have e := at_split (limbs a) i hi
  rw [val_limbs, hz, val_rep, Nat.zero_add] at e
  obtain ⟨s0, s1⟩ := tz_spec hx
  have hlt := (ctz_eq hx (dig_get (dig_limbs a) i)).2
  generalize (limbs a).getD i 0 = x at *
  generalize val ((limbs a).drop (i + 1)) = r at *
  generalize tz x = k at *
  have hs : (4294967296 : Nat) = 2 ^ k * (2 * 2 ^ (31 - k)) := by rw [← Nat.pow_succ', ← Nat.pow_add, show k + (31 - k).succ = 32 by omega]
  obtain ⟨y, rfl⟩ := Nat.dvd_of_mod_eq_zero s0
  have e2 : 2 ^ k * y + 4294967296 * r = 2 ^ k * (y + 2 * (2 ^ (31 - k) * r)) := by rw [Nat.mul_add, hs]; simp only [Nat.mul_assoc]
  rw [e2, B_pow, ← Nat.mul_assoc, ← Nat.pow_add] at e
  rw [Nat.mul_div_cancel_left _ (Nat.two_pow_pos _)] at s1
  apply tz_unique
  · rw [e]; exact Nat.mul_mod_right _ _
  · rw [e, Nat.mul_div_cancel_left _ (Nat.two_pow_pos _)]; omega
theorem zeros_step {a i : Nat} (hz : (limbs a).take i = List.replicate i 0) (hi : i < L a) (hx : gi (limbs a) i = 0) : (limbs a).take (i + 1) = List.replicate (i + 1) 0 := by
  have hi' : i < (limbs a).length := hi
  rw [gi_eq] at hx
  rw [List.take_succ_eq_append_getElem hi', hz, List.replicate_succ']
  rw [List.getD_eq_getElem?_getD, List.getElem?_eq_getElem hi'] at hx
  simp only [Option.getD_some] at hx
  rw [show (limbs a)[i] = 0 by omega]
theorem zeros_end {a : Nat} (hz : (limbs a).take (L a) = List.replicate (L a) 0) : tz a = 0 := by
  have : a = 0 := by
    have h := congrArg val hz
    rwa [val_lim a (Nat.le_refl _), val_rep] at h
  subst this; rw [tz]; rfl
theorem zeros_hit {a : Nat} {i : Int} (h0 : 0 ≤ i) (hz : (limbs a).take i.toNat = List.replicate i.toNat 0) (hi : i < L a) (hx : gi (limbs a) i.toNat ≠ 0) :
    32 * i + (Lib.ctz 32 (gi (limbs a) i.toNat).toNat : Int) = (tz a : Int) ∧ Lib.ctz 32 (gi (limbs a) i.toNat).toNat < 32 := by
  rw [gi_eq] at hx
  have hx' : (limbs a).getD i.toNat 0 ≠ 0 := by omega
  have h1 := ctz_eq hx' (dig_get (dig_limbs a) _)
  rw [gi_eq, Int.toNat_natCast, tz_limb hz (by omega) hx', h1.1]
  refine ⟨by omega, by omega⟩
end Go.Proofs.YtmbpoibhamlkbaaGreatDoor

namespace Go.Proofs.YtmbpoibhamlkbaaGreatDoor
open Go.RowKit
set_option maxRecDepth 100000

def nat_Shl_0_mk (a : Nat) (n : Int) (x : Int × List V × List V × List Nat) : St := ⟨mkS 66 [(5, (.val (.int .i64 (Int.tdiv n (32 : Int))))), (6, (.val (.int .u64 (wRem n (32 : Int))))), (7, (.osl 0 0 (((((List.take (((L a : Int) - 0).toNat) (List.drop 0 (lim a))).length : Int) + (Int.tdiv n (32 : Int))) + 1).toNat) 1)), (31, (.val (.sl 1 x.2.1))), (32, (.val (.int .i64 ((List.take (((L a : Int) - 0).toNat) (List.drop 0 (lim a))).length : Int)))), (33, (.val (.int .i64 x.1)))], [⟨true, false, x.2.2.1⟩]⟩
def nat_Shl_0_I (a : Nat) (n : Int) (x : Int × List V × List V × List Nat) : Prop := x.2.1 = lim a ∧ x.2.2.1 = U x.2.2.2 ∧ ShlInv a n.toNat x.1 x.2.2.2
def nat_Shl_0_mu (a : Nat) (n : Int) (x : Int × List V × List V × List Nat) : Nat := ((L a : Int) - x.1).toNat
def nat_Shl_0_ex (a : Nat) (n : Int) (y : List Nat) : Ex × St := (.exit 0, ⟨mkS 66 [(7, (.osl 0 0 (((((List.take (((L a : Int) - 0).toNat) (List.drop 0 (lim a))).length : Int) + (Int.tdiv n (32 : Int))) + 1).toNat) 1))], [⟨true, false, (U y)⟩]⟩)
def nat_Shl_0_J (a : Nat) (n : Int) (y : List Nat) : Prop := ShlInv a n.toNat (L a : Int) y
theorem nat_Shl_0 (a : Nat) (n : Int) (c0 : L a ≤ 67108864)(c1 : 0 ≤ n ∧ n ≤ 1048576) (x0 : Int × List V × List V × List Nat) (hI : nat_Shl_0_I a n x0) : LoopOk Tryz.prog Amb (loopN Tryz.f148 0) (nat_Shl_0_mk a n x0) (fun e st_ => ∃ y, nat_Shl_0_J a n y ∧ nat_Shl_0_ex a n y = (e, st_)) :=
  loop_ob hP hAmb ⟨[5, 6, 7, 31, 32, 33], 1, []⟩ (nat_Shl_0_mk a n) (nat_Shl_0_I a n) (nat_Shl_0_mu a n) (nat_Shl_0_ex a n) (nat_Shl_0_J a n) x0 hI (fun (i, s, o, l) => .lit <| .both (.yes <| .yes <| .lit <| .yes <| .yes <| .yes <| .lit <| .yes <| .yes <| .yes <| .lit <| .no <| .lit <| .yes <| .yes <| .lit <| .yes <| .lit <| .yes <| .lits 2 <| .no <| .yes <| .yes <| .lit <| .yes <| .fin2 ⟨[5, 6, 7, 31, 32, 33], 1, []⟩) (.fin2 ⟨[7], 1, []⟩)) (by
    rintro ⟨i, s, o, l⟩ hI
    have hI : s = lim a ∧ o = U l ∧ ShlInv a n.toNat i l := hI
    obtain ⟨rfl, rfl, h1⟩ := hI
    have ⟨p0, p1, p2, _⟩ := h1
    have e0 := L_len a
    have g0 := gi_lt (dig_limbs a) i.toNat
    have g1 := gi_nonneg (limbs a) i.toNat
    have g4 := U_len l
    have t0 := tdiv32 c1.1
    have t1 := wRem32 c1.1
    have e3 : (List.take (((L a : Int) - 0).toNat) (List.drop 0 (lim a))).length = L a := by rw [cut_self, L_len]
    have hb := shl_word a i.toNat c1.1
    exact cast_ob (And.intro True.intro (And.intro (fun (h101 : (iLt i ((List.take (((L a : Int) - 0).toNat) (List.drop 0 (lim a))).length : Int)) = true) => have _gh101 := iLt_t h101; And.intro (inB_mk (by first | omega | (simp <;> omega)) : (inB i ((lim a).length)) = true) (And.intro (ld_L (by first | omega | (simp <;> omega)) : (Nat.blt i.toNat (lim a).length && isIntK .u32 (nth (lim a) i.toNat .unk)) = true) (And.intro (fits_u64 (by first | omega | (simp <;> omega)) : (fits .u64 (gi (limbs a) i.toNat)) = true) (And.intro (iLe_mk (by first | omega | (simp <;> omega)) : (iLe 0 (wRem n (32 : Int))) = true) (And.intro (fits_u64 (by first | omega | (simp <;> omega)) : (fits .u64 ((gi (limbs a) i.toNat) * 2 ^ (min (wRem n (32 : Int)).toNat (IntKind.bits .u64)))) = true) (And.intro (fits_i64 (by first | omega | (simp <;> omega)) : (fits .i64 (i + (Int.tdiv n (32 : Int)))) = true) (And.intro (inB_mk (by first | omega | (simp <;> omega)) : (inB (i + (Int.tdiv n (32 : Int))) (((((List.take (((L a : Int) - 0).toNat) (List.drop 0 (lim a))).length : Int) + (Int.tdiv n (32 : Int))) + 1).toNat)) = true) (And.intro (ld_U (by first | omega | (simp <;> omega)) : (Nat.blt (0 + (i + (Int.tdiv n (32 : Int))).toNat) (U l).length && isIntK .u32 (nth (U l) (0 + (i + (Int.tdiv n (32 : Int))).toNat) .unk)) = true) (And.intro (inB_mk (by first | omega | (simp <;> omega)) : (inB (i + (Int.tdiv n (32 : Int))) (((((List.take (((L a : Int) - 0).toNat) (List.drop 0 (lim a))).length : Int) + (Int.tdiv n (32 : Int))) + 1).toNat)) = true) (And.intro (st_ok (by first | omega | (simp <;> omega)) : (Nat.ble ((0 + (i + (Int.tdiv n (32 : Int))).toNat) + 1) (U l).length) = true) (And.intro (fits_i64 (by first | omega | (simp <;> omega)) : (fits .i64 (i + (Int.tdiv n (32 : Int)))) = true) (And.intro (fits_i64 (by first | omega | (simp <;> omega)) : (fits .i64 ((i + (Int.tdiv n (32 : Int))) + 1)) = true) (And.intro (inB_mk (by first | omega | (simp <;> omega)) : (inB ((i + (Int.tdiv n (32 : Int))) + 1) (((((List.take (((L a : Int) - 0).toNat) (List.drop 0 (lim a))).length : Int) + (Int.tdiv n (32 : Int))) + 1).toNat)) = true) (And.intro (st_ok (by first | omega | (simp <;> omega)) : (Nat.ble ((0 + ((i + (Int.tdiv n (32 : Int))) + 1).toNat) + 1) (List.set (U l) (0 + (i + (Int.tdiv n (32 : Int))).toNat) (.int .u32 (wOr .u32 (gi l (0 + (i + (Int.tdiv n (32 : Int))).toNat)) (IntKind.wrap .u32 ((gi (limbs a) i.toNat) * 2 ^ (min (wRem n (32 : Int)).toNat (IntKind.bits .u64))))))).length) = true) (And.intro (fits_i64 (by first | omega | (simp <;> omega)) : (fits .i64 (i + 1)) = true) (And.intro (rfl : true = true) ((nx_next ((i + 1), (lim a), (List.set (List.set (U l) (0 + (i + (Int.tdiv n (32 : Int))).toNat) (.int .u32 (wOr .u32 (gi l (0 + (i + (Int.tdiv n (32 : Int))).toNat)) (IntKind.wrap .u32 ((gi (limbs a) i.toNat) * 2 ^ (min (wRem n (32 : Int)).toNat (IntKind.bits .u64))))))) (0 + ((i + (Int.tdiv n (32 : Int))) + 1).toNat) (.int .u32 (IntKind.wrap .u32 (Int.fdiv ((gi (limbs a) i.toNat) * 2 ^ (min (wRem n (32 : Int)).toNat (IntKind.bits .u64))) (2 ^ 32))))), ((l.set (i.toNat + n.toNat / 32) (wOr .u32 (gi l (0 + (i + (Int.tdiv n (32 : Int))).toNat)) (IntKind.wrap .u32 ((gi (limbs a) i.toNat) * 2 ^ (min (wRem n (32 : Int)).toNat (IntKind.bits .u64))))).toNat).set (i.toNat + n.toNat / 32 + 1) (IntKind.wrap .u32 (Int.fdiv ((gi (limbs a) i.toNat) * 2 ^ (min (wRem n (32 : Int)).toNat (IntKind.bits .u64))) (2 ^ 32))).toNat)) (show (lim a) = lim a ∧ (List.set (List.set (U l) (0 + (i + (Int.tdiv n (32 : Int))).toNat) (.int .u32 (wOr .u32 (gi l (0 + (i + (Int.tdiv n (32 : Int))).toNat)) (IntKind.wrap .u32 ((gi (limbs a) i.toNat) * 2 ^ (min (wRem n (32 : Int)).toNat (IntKind.bits .u64))))))) (0 + ((i + (Int.tdiv n (32 : Int))) + 1).toNat) (.int .u32 (IntKind.wrap .u32 (Int.fdiv ((gi (limbs a) i.toNat) * 2 ^ (min (wRem n (32 : Int)).toNat (IntKind.bits .u64))) (2 ^ 32))))) = U ((l.set (i.toNat + n.toNat / 32) (wOr .u32 (gi l (0 + (i + (Int.tdiv n (32 : Int))).toNat)) (IntKind.wrap .u32 ((gi (limbs a) i.toNat) * 2 ^ (min (wRem n (32 : Int)).toNat (IntKind.bits .u64))))).toNat).set (i.toNat + n.toNat / 32 + 1) (IntKind.wrap .u32 (Int.fdiv ((gi (limbs a) i.toNat) * 2 ^ (min (wRem n (32 : Int)).toNat (IntKind.bits .u64))) (2 ^ 32))).toNat) ∧ ShlInv a n.toNat (i + 1) ((l.set (i.toNat + n.toNat / 32) (wOr .u32 (gi l (0 + (i + (Int.tdiv n (32 : Int))).toNat)) (IntKind.wrap .u32 ((gi (limbs a) i.toNat) * 2 ^ (min (wRem n (32 : Int)).toNat (IntKind.bits .u64))))).toNat).set (i.toNat + n.toNat / 32 + 1) (IntKind.wrap .u32 (Int.fdiv ((gi (limbs a) i.toNat) * 2 ^ (min (wRem n (32 : Int)).toNat (IntKind.bits .u64))) (2 ^ 32))).toNat) from ⟨rfl, set2 _ (by omega) (wOr_pos _ _) (by omega) (wrap_pos _), shl_next h1 (by omega) (by rw [show 0 + (i + Int.tdiv n 32).toNat = i.toNat + n.toNat / 32 by omega]) (by rw [min_rest c1.1])⟩) (show ((L a : Int) - (i + 1)).toNat < ((L a : Int) - i).toNat by omega) : NX (nat_Shl_0_mk a n) (nat_Shl_0_I a n) (nat_Shl_0_mu a n) (nat_Shl_0_ex a n) (nat_Shl_0_J a n) (i, (lim a), (U l), l) .normal (nat_Shl_0_mk a n ((i + 1), (lim a), (List.set (List.set (U l) (0 + (i + (Int.tdiv n (32 : Int))).toNat) (.int .u32 (wOr .u32 (gi l (0 + (i + (Int.tdiv n (32 : Int))).toNat)) (IntKind.wrap .u32 ((gi (limbs a) i.toNat) * 2 ^ (min (wRem n (32 : Int)).toNat (IntKind.bits .u64))))))) (0 + ((i + (Int.tdiv n (32 : Int))) + 1).toNat) (.int .u32 (IntKind.wrap .u32 (Int.fdiv ((gi (limbs a) i.toNat) * 2 ^ (min (wRem n (32 : Int)).toNat (IntKind.bits .u64))) (2 ^ 32))))), ((l.set (i.toNat + n.toNat / 32) (wOr .u32 (gi l (0 + (i + (Int.tdiv n (32 : Int))).toNat)) (IntKind.wrap .u32 ((gi (limbs a) i.toNat) * 2 ^ (min (wRem n (32 : Int)).toNat (IntKind.bits .u64))))).toNat).set (i.toNat + n.toNat / 32 + 1) (IntKind.wrap .u32 (Int.fdiv ((gi (limbs a) i.toNat) * 2 ^ (min (wRem n (32 : Int)).toNat (IntKind.bits .u64))) (2 ^ 32))).toNat))))))))))))))))))))) (fun (h102 : (iLt i ((List.take (((L a : Int) - 0).toNat) (List.drop 0 (lim a))).length : Int)) = false) => have _gh102 := iLt_f h102; And.intro (rfl : true = true) ((nx_exit 0 ((nat_Shl_0_ex a n l).2) l (show ShlInv a n.toNat (L a : Int) l from (show i = (L a : Int) by omega) ▸ h1) rfl : NX (nat_Shl_0_mk a n) (nat_Shl_0_I a n) (nat_Shl_0_mu a n) (nat_Shl_0_ex a n) (nat_Shl_0_J a n) (i, (lim a), (U l), l) (.exit 0) ((nat_Shl_0_ex a n l).2)))))) (by kernel_rfl))

theorem nat_Shl (a : Nat) (n : Int) (c0 : L a ≤ 67108864) (c1 : (0 : Int) ≤ n ∧ n ≤ 1048576) : Impl Tryz.prog Amb 148 [(N a), (.int .i64 n)] (N (a * 2 ^ (n).toNat)) := by
  have e0 := L_len a
  have e3 : (List.take (((L a : Int) - 0).toNat) (List.drop 0 (lim a))).length = L a := by rw [cut_self, L_len]
  have t0 := tdiv32 c1.1
  have t1 := wRem32 c1.1
  exact impl_ob hP hAmb Tryz.func148 (by kernel_rfl) (.lit <| .call (.int .i64 n) <| .lit <| .call (.int .i64 (L a : Int)) <| .yes <| .lit <| .both (.lit <| .ret) (.lit <| .yes <| .lits 2 <| .yes <| .lit <| .yes <| .lit <| .yes <| .yes <| .loop ⟨[5, 6, 7, 31, 32, 33], 1, []⟩ ((nat_Shl_0_mk a n (0, (List.take (((L a : Int) - 0).toNat) (List.drop 0 (lim a))), (List.replicate (((((List.take (((L a : Int) - 0).toNat) (List.drop 0 (lim a))).length : Int) + (Int.tdiv n (32 : Int))) + 1).toNat) (.int .u32 0)), (List.replicate (L a + n.toNat / 32 + 1) 0)))) (List Nat) (nat_Shl_0_ex a n) (nat_Shl_0_J a n) (fun y => .yes <| .call (.int .i64 ((limbs (val y)).length : Int)) <| .yes <| .yes <| .ret)))
    (cast_ob (And.intro True.intro (And.intro (nat_places n (by first | omega | (simp <;> omega))) (And.intro (nat_sizeN a (by first | omega | (simp <;> omega))) (And.intro (and_mk (and_mk (rfl) (iLe_mk (by first | omega | (simp <;> omega)))) (iLe_mk (by first | omega | (simp <;> omega))) : ((true && (iLe (0 : Int) (L a : Int))) && (iLe (L a : Int) ((lim a).length : Int))) = true) (And.intro (fun (h1 : (iEq ((List.take (((L a : Int) - 0).toNat) (List.drop 0 (lim a))).length : Int) 0) = true) => have _gh1 := iEq_t h1; (by have : a = 0 := Decidable.byContradiction (fun h => by have := L_pos h; omega); subst this; rw [Nat.zero_mul]; show vsub .nil (.sl 1 (U (limbs 0))); rw [limbs_zero]; exact vsub_nil 1 : vsub .nil (N (a * 2 ^ (n).toNat)))) (fun (h2 : (iEq ((List.take (((L a : Int) - 0).toNat) (List.drop 0 (lim a))).length : Int) 0) = false) => have _gh2 := iEq_f h2; And.intro (fits_i64 (by first | omega | (simp <;> omega)) : (fits .i64 (Int.tdiv n (32 : Int))) = true) (And.intro (fits_u64 (by first | omega | (simp <;> omega)) : (fits .u64 (wRem n (32 : Int))) = true) (And.intro (fits_i64 (by first | omega | (simp <;> omega)) : (fits .i64 (((List.take (((L a : Int) - 0).toNat) (List.drop 0 (lim a))).length : Int) + (Int.tdiv n (32 : Int)))) = true) (And.intro (fits_i64 (by first | omega | (simp <;> omega)) : (fits .i64 ((((List.take (((L a : Int) - 0).toNat) (List.drop 0 (lim a))).length : Int) + (Int.tdiv n (32 : Int))) + 1)) = true) (And.intro (mk_ok (by first | omega | (simp <;> omega)) : (((iEq ((((List.take (((L a : Int) - 0).toNat) (List.drop 0 (lim a))).length : Int) + (Int.tdiv n (32 : Int))) + 1) ((((List.take (((L a : Int) - 0).toNat) (List.drop 0 (lim a))).length : Int) + (Int.tdiv n (32 : Int))) + 1)) && (iLe 0 ((((List.take (((L a : Int) - 0).toNat) (List.drop 0 (lim a))).length : Int) + (Int.tdiv n (32 : Int))) + 1))) && (iLe ((((List.take (((L a : Int) - 0).toNat) (List.drop 0 (lim a))).length : Int) + (Int.tdiv n (32 : Int))) + 1) 1073741824)) = true) (And.intro (rfl : true = true) (And.intro (rfl : (nat_Shl_0_mk a n (0, (List.take (((L a : Int) - 0).toNat) (List.drop 0 (lim a))), (List.replicate (((((List.take (((L a : Int) - 0).toNat) (List.drop 0 (lim a))).length : Int) + (Int.tdiv n (32 : Int))) + 1).toNat) (.int .u32 0)), (List.replicate (L a + n.toNat / 32 + 1) 0))) = (nat_Shl_0_mk a n (0, (List.take (((L a : Int) - 0).toNat) (List.drop 0 (lim a))), (List.replicate (((((List.take (((L a : Int) - 0).toNat) (List.drop 0 (lim a))).length : Int) + (Int.tdiv n (32 : Int))) + 1).toNat) (.int .u32 0)), (List.replicate (L a + n.toNat / 32 + 1) 0)))) (And.intro (nat_Shl_0 a n c0 c1 (0, (List.take (((L a : Int) - 0).toNat) (List.drop 0 (lim a))), (List.replicate (((((List.take (((L a : Int) - 0).toNat) (List.drop 0 (lim a))).length : Int) + (Int.tdiv n (32 : Int))) + 1).toNat) (.int .u32 0)), (List.replicate (L a + n.toNat / 32 + 1) 0)) (show (List.take (((L a : Int) - 0).toNat) (List.drop 0 (lim a))) = lim a ∧ (List.replicate (((((List.take (((L a : Int) - 0).toNat) (List.drop 0 (lim a))).length : Int) + (Int.tdiv n (32 : Int))) + 1).toNat) (.int .u32 0)) = U (List.replicate (L a + n.toNat / 32 + 1) 0) ∧ ShlInv a n.toNat 0 (List.replicate (L a + n.toNat / 32 + 1) 0) from ⟨cut_self a, by rw [show (((((List.take (((L a : Int) - 0).toNat) (List.drop 0 (lim a))).length : Int) + (Int.tdiv n (32 : Int))) + 1).toNat) = L a + n.toNat / 32 + 1 by omega]; exact U_rep _, shl_init _ _⟩)) (fun y (hJ : nat_Shl_0_J a n y) => have hJ : ShlInv a n.toNat (L a : Int) y := hJ; have ⟨q0, q1, q2⟩ := shl_end hJ; have q5 := U_len y; have q6 := limbs_len_le q0; And.intro (ok_arg (by first | omega | (simp <;> omega)) : ((true && Nat.ble (0 + (((((List.take (((L a : Int) - 0).toNat) (List.drop 0 (lim a))).length : Int) + (Int.tdiv n (32 : Int))) + 1).toNat)) (U y).length) && true) = true) (And.intro (nat_sizeC (List.take (((((List.take (((L a : Int) - 0).toNat) (List.drop 0 (lim a))).length : Int) + (Int.tdiv n (32 : Int))) + 1).toNat) (List.drop 0 (U y))) y (tkU rfl (by omega)) q0 (by omega)) (And.intro (and_mk (and_mk (and_mk (rfl) (iLe_mk (by first | omega | (simp <;> omega)))) (iLe_mk (by first | omega | (simp <;> omega)))) (rfl) : (((true && (iLe (0 : Int) ((limbs (val y)).length : Int))) && (iLe ((limbs (val y)).length : Int) ((((((List.take (((L a : Int) - 0).toNat) (List.drop 0 (lim a))).length : Int) + (Int.tdiv n (32 : Int))) + 1).toNat) : Int))) && true) = true) (And.intro (ok_res (by first | omega | (simp <;> omega)) : ((true && Nat.ble (0 + (((limbs (val y)).length : Int) - 0).toNat) (U y).length) && true) = true) (vsub_of (congrArg (V.sl 1) (fin_lim rfl q0 q2)) : vsub (.sl 1 (List.take ((((limbs (val y)).length : Int) - 0).toNat) (List.drop 0 (U y)))) (N (a * 2 ^ (n).toNat)))))))))))))))))))) (by kernel_rfl))

def nat_Shr_0_mk (a : Nat) (n : Int) (x : Int × List V × List Nat) : St := ⟨mkS 68 [(0, (.val (N a))), (5, (.val (.int .i64 (Int.tdiv n (32 : Int))))), (6, (.val (.int .u64 (wRem n (32 : Int))))), (7, (.osl 0 0 ((((lim a).length : Int) - (Int.tdiv n (32 : Int))).toNat) 1)), (27, (.val (.int .i64 (((((lim a).length : Int) - (Int.tdiv n (32 : Int))).toNat) : Int)))), (28, (.val (.int .i64 x.1)))], [⟨true, false, x.2.1⟩]⟩
def nat_Shr_0_I (a : Nat) (n : Int) (x : Int × List V × List Nat) : Prop := x.2.1 = U x.2.2 ∧ ShrInv a n.toNat x.1 x.2.2
def nat_Shr_0_mu (a : Nat) (n : Int) (x : Int × List V × List Nat) : Nat := (((L a - n.toNat / 32 : Nat) : Int) - x.1).toNat
def nat_Shr_0_ex (a : Nat) (n : Int) (y : List Nat) : Ex × St := (.exit 0, ⟨mkS 68 [(7, (.osl 0 0 ((((lim a).length : Int) - (Int.tdiv n (32 : Int))).toNat) 1))], [⟨true, false, (U y)⟩]⟩)
def nat_Shr_0_J (a : Nat) (n : Int) (y : List Nat) : Prop := ShrInv a n.toNat ((L a - n.toNat / 32 : Nat) : Int) y
theorem nat_Shr_0 (a : Nat) (n : Int) (c0 : L a ≤ 67108864)(c1 : 0 ≤ n ∧ n ≤ 1048576)(c2 : n.toNat / 32 < L a) (x0 : Int × List V × List Nat) (hI : nat_Shr_0_I a n x0) : LoopOk Tryz.prog Amb (loopN Tryz.f139 0) (nat_Shr_0_mk a n x0) (fun e st_ => ∃ y, nat_Shr_0_J a n y ∧ nat_Shr_0_ex a n y = (e, st_)) :=
  loop_ob hP hAmb ⟨[0, 5, 6, 7, 27, 28], 1, []⟩ (nat_Shr_0_mk a n) (nat_Shr_0_I a n) (nat_Shr_0_mu a n) (nat_Shr_0_ex a n) (nat_Shr_0_J a n) x0 hI (fun (i, o, l) => .lit <| .both (.lit <| .yes <| .yes <| .yes <| .lit <| .yes <| .lit <| .yes <| .lit <| .yes <| .lit <| .both (.lit <| .yes <| .lit <| .yes <| .yes <| .yes <| .lit <| .yes <| .lit <| .yes <| .lit <| .yes <| .lit <| .no <| .yes <| .yes <| .lit <| .yes <| .fin2 ⟨[0, 5, 6, 7, 27, 28], 1, []⟩) (.yes <| .lit <| .no <| .yes <| .yes <| .lit <| .yes <| .fin2 ⟨[0, 5, 6, 7, 27, 28], 1, []⟩)) (.fin2 ⟨[7], 1, []⟩)) (by
    rintro ⟨i, o, l⟩ hI
    have hI : o = U l ∧ ShrInv a n.toNat i l := hI
    obtain ⟨rfl, h1⟩ := hI
    have ⟨p0, p1, p2, _⟩ := h1
    have e0 := L_len a
    have g4 := U_len l
    have t0 := tdiv32 c1.1
    have t1 := wRem32 c1.1
    have k1 : (i + (Int.tdiv n (32 : Int))).toNat = i.toNat + n.toNat / 32 := by omega
    have k2 : ((i + (Int.tdiv n (32 : Int))) + 1).toNat = i.toNat + n.toNat / 32 + 1 := by omega
    have g0 := gi_lt (dig_limbs a) (i + (Int.tdiv n (32 : Int))).toNat
    have g1 := gi_nonneg (limbs a) (i + (Int.tdiv n (32 : Int))).toNat
    have g2 := gi_lt (dig_limbs a) ((i + (Int.tdiv n (32 : Int))) + 1).toNat
    have g3 := gi_nonneg (limbs a) ((i + (Int.tdiv n (32 : Int))) + 1).toNat
    exact cast_ob (And.intro True.intro (And.intro (fun (h101 : (iLt i (((((lim a).length : Int) - (Int.tdiv n (32 : Int))).toNat) : Int)) = true) => have _gh101 := iLt_t h101; And.intro (fits_i64 (by first | omega | (simp <;> omega)) : (fits .i64 (i + (Int.tdiv n (32 : Int)))) = true) (And.intro (inB_mk (by first | omega | (simp <;> omega)) : (inB (i + (Int.tdiv n (32 : Int))) ((lim a).length)) = true) (And.intro (ld_L (by first | omega | (simp <;> omega)) : (Nat.blt ((i + (Int.tdiv n (32 : Int))).toNat) (lim a).length && isIntK .u32 (nth (lim a) ((i + (Int.tdiv n (32 : Int))).toNat) .unk)) = true) (And.intro (fits_u64 (by first | omega | (simp <;> omega)) : (fits .u64 (gi (limbs a) ((i + (Int.tdiv n (32 : Int))).toNat))) = true) (And.intro (fits_i64 (by first | omega | (simp <;> omega)) : (fits .i64 (i + (Int.tdiv n (32 : Int)))) = true) (And.intro (fits_i64 (by first | omega | (simp <;> omega)) : (fits .i64 ((i + (Int.tdiv n (32 : Int))) + 1)) = true) (And.intro (fun (h102 : (iLt ((i + (Int.tdiv n (32 : Int))) + 1) ((lim a).length : Int)) = true) => have _gh102 := iLt_t h102; And.intro (fits_i64 (by first | omega | (simp <;> omega)) : (fits .i64 (i + (Int.tdiv n (32 : Int)))) = true) (And.intro (fits_i64 (by first | omega | (simp <;> omega)) : (fits .i64 ((i + (Int.tdiv n (32 : Int))) + 1)) = true) (And.intro (inB_mk (by first | omega | (simp <;> omega)) : (inB ((i + (Int.tdiv n (32 : Int))) + 1) ((lim a).length)) = true) (And.intro (ld_L (by first | omega | (simp <;> omega)) : (Nat.blt (((i + (Int.tdiv n (32 : Int))) + 1).toNat) (lim a).length && isIntK .u32 (nth (lim a) (((i + (Int.tdiv n (32 : Int))) + 1).toNat) .unk)) = true) (And.intro (fits_u64 (by first | omega | (simp <;> omega)) : (fits .u64 (gi (limbs a) (((i + (Int.tdiv n (32 : Int))) + 1).toNat))) = true) (And.intro (fits_u64 (by first | omega | (simp <;> omega)) : (fits .u64 ((gi (limbs a) (((i + (Int.tdiv n (32 : Int))) + 1).toNat)) * 2 ^ 32)) = true) (And.intro (iLe_mk (by first | omega | (simp <;> omega)) : (iLe 0 (wRem n (32 : Int))) = true) (And.intro (inB_mk (by first | omega | (simp <;> omega)) : (inB i ((((lim a).length : Int) - (Int.tdiv n (32 : Int))).toNat)) = true) (And.intro (st_ok (by first | omega | (simp <;> omega)) : (Nat.ble ((0 + i.toNat) + 1) (U l).length) = true) (And.intro (fits_i64 (by first | omega | (simp <;> omega)) : (fits .i64 (i + 1)) = true) (And.intro (rfl : true = true) ((nx_next ((i + 1), (List.set (U l) (0 + i.toNat) (.int .u32 (IntKind.wrap .u32 (Int.fdiv (wOr .u64 (gi (limbs a) ((i + (Int.tdiv n (32 : Int))).toNat)) ((gi (limbs a) (((i + (Int.tdiv n (32 : Int))) + 1).toNat)) * 2 ^ 32)) (2 ^ (min (wRem n (32 : Int)).toNat (IntKind.bits .u64))))))), (l.set i.toNat (IntKind.wrap .u32 (Int.fdiv (wOr .u64 (gi (limbs a) ((i + (Int.tdiv n (32 : Int))).toNat)) ((gi (limbs a) (((i + (Int.tdiv n (32 : Int))) + 1).toNat)) * 2 ^ 32)) (2 ^ (min (wRem n (32 : Int)).toNat (IntKind.bits .u64))))).toNat)) (show (List.set (U l) (0 + i.toNat) (.int .u32 (IntKind.wrap .u32 (Int.fdiv (wOr .u64 (gi (limbs a) ((i + (Int.tdiv n (32 : Int))).toNat)) ((gi (limbs a) (((i + (Int.tdiv n (32 : Int))) + 1).toNat)) * 2 ^ 32)) (2 ^ (min (wRem n (32 : Int)).toNat (IntKind.bits .u64))))))) = U (l.set i.toNat (IntKind.wrap .u32 (Int.fdiv (wOr .u64 (gi (limbs a) ((i + (Int.tdiv n (32 : Int))).toNat)) ((gi (limbs a) (((i + (Int.tdiv n (32 : Int))) + 1).toNat)) * 2 ^ 32)) (2 ^ (min (wRem n (32 : Int)).toNat (IntKind.bits .u64))))).toNat) ∧ ShrInv a n.toNat (i + 1) (l.set i.toNat (IntKind.wrap .u32 (Int.fdiv (wOr .u64 (gi (limbs a) ((i + (Int.tdiv n (32 : Int))).toNat)) ((gi (limbs a) (((i + (Int.tdiv n (32 : Int))) + 1).toNat)) * 2 ^ 32)) (2 ^ (min (wRem n (32 : Int)).toNat (IntKind.bits .u64))))).toNat) from ⟨setU _ (by omega) (wrap_pos _), by rw [min_rest c1.1]; exact shr_next h1 (by omega) (by first | (rw [k1, k2]; exact wOr_gi _ _ _) | (rw [k1, gi_out (show (limbs a).length ≤ i.toNat + n.toNat / 32 + 1 from (show L a ≤ i.toNat + n.toNat / 32 + 1 by omega))]; omega))⟩) (show (((L a - n.toNat / 32 : Nat) : Int) - (i + 1)).toNat < (((L a - n.toNat / 32 : Nat) : Int) - i).toNat by omega) : NX (nat_Shr_0_mk a n) (nat_Shr_0_I a n) (nat_Shr_0_mu a n) (nat_Shr_0_ex a n) (nat_Shr_0_J a n) (i, (U l), l) .normal (nat_Shr_0_mk a n ((i + 1), (List.set (U l) (0 + i.toNat) (.int .u32 (IntKind.wrap .u32 (Int.fdiv (wOr .u64 (gi (limbs a) ((i + (Int.tdiv n (32 : Int))).toNat)) ((gi (limbs a) (((i + (Int.tdiv n (32 : Int))) + 1).toNat)) * 2 ^ 32)) (2 ^ (min (wRem n (32 : Int)).toNat (IntKind.bits .u64))))))), (l.set i.toNat (IntKind.wrap .u32 (Int.fdiv (wOr .u64 (gi (limbs a) ((i + (Int.tdiv n (32 : Int))).toNat)) ((gi (limbs a) (((i + (Int.tdiv n (32 : Int))) + 1).toNat)) * 2 ^ 32)) (2 ^ (min (wRem n (32 : Int)).toNat (IntKind.bits .u64))))).toNat)))))))))))))))) (fun (h103 : (iLt ((i + (Int.tdiv n (32 : Int))) + 1) ((lim a).length : Int)) = false) => have _gh103 := iLt_f h103; And.intro (iLe_mk (by first | omega | (simp <;> omega)) : (iLe 0 (wRem n (32 : Int))) = true) (And.intro (inB_mk (by first | omega | (simp <;> omega)) : (inB i ((((lim a).length : Int) - (Int.tdiv n (32 : Int))).toNat)) = true) (And.intro (st_ok (by first | omega | (simp <;> omega)) : (Nat.ble ((0 + i.toNat) + 1) (U l).length) = true) (And.intro (fits_i64 (by first | omega | (simp <;> omega)) : (fits .i64 (i + 1)) = true) (And.intro (rfl : true = true) ((nx_next ((i + 1), (List.set (U l) (0 + i.toNat) (.int .u32 (IntKind.wrap .u32 (Int.fdiv (gi (limbs a) ((i + (Int.tdiv n (32 : Int))).toNat)) (2 ^ (min (wRem n (32 : Int)).toNat (IntKind.bits .u64))))))), (l.set i.toNat (IntKind.wrap .u32 (Int.fdiv (gi (limbs a) ((i + (Int.tdiv n (32 : Int))).toNat)) (2 ^ (min (wRem n (32 : Int)).toNat (IntKind.bits .u64))))).toNat)) (show (List.set (U l) (0 + i.toNat) (.int .u32 (IntKind.wrap .u32 (Int.fdiv (gi (limbs a) ((i + (Int.tdiv n (32 : Int))).toNat)) (2 ^ (min (wRem n (32 : Int)).toNat (IntKind.bits .u64))))))) = U (l.set i.toNat (IntKind.wrap .u32 (Int.fdiv (gi (limbs a) ((i + (Int.tdiv n (32 : Int))).toNat)) (2 ^ (min (wRem n (32 : Int)).toNat (IntKind.bits .u64))))).toNat) ∧ ShrInv a n.toNat (i + 1) (l.set i.toNat (IntKind.wrap .u32 (Int.fdiv (gi (limbs a) ((i + (Int.tdiv n (32 : Int))).toNat)) (2 ^ (min (wRem n (32 : Int)).toNat (IntKind.bits .u64))))).toNat) from ⟨setU _ (by omega) (wrap_pos _), by rw [min_rest c1.1]; exact shr_next h1 (by omega) (by first | (rw [k1, k2]; exact wOr_gi _ _ _) | (rw [k1, gi_out (show (limbs a).length ≤ i.toNat + n.toNat / 32 + 1 from (show L a ≤ i.toNat + n.toNat / 32 + 1 by omega))]; omega))⟩) (show (((L a - n.toNat / 32 : Nat) : Int) - (i + 1)).toNat < (((L a - n.toNat / 32 : Nat) : Int) - i).toNat by omega) : NX (nat_Shr_0_mk a n) (nat_Shr_0_I a n) (nat_Shr_0_mu a n) (nat_Shr_0_ex a n) (nat_Shr_0_J a n) (i, (U l), l) .normal (nat_Shr_0_mk a n ((i + 1), (List.set (U l) (0 + i.toNat) (.int .u32 (IntKind.wrap .u32 (Int.fdiv (gi (limbs a) ((i + (Int.tdiv n (32 : Int))).toNat)) (2 ^ (min (wRem n (32 : Int)).toNat (IntKind.bits .u64))))))), (l.set i.toNat (IntKind.wrap .u32 (Int.fdiv (gi (limbs a) ((i + (Int.tdiv n (32 : Int))).toNat)) (2 ^ (min (wRem n (32 : Int)).toNat (IntKind.bits .u64))))).toNat))))))))))))))))) (fun (h104 : (iLt i (((((lim a).length : Int) - (Int.tdiv n (32 : Int))).toNat) : Int)) = false) => have _gh104 := iLt_f h104; And.intro (rfl : true = true) ((nx_exit 0 ((nat_Shr_0_ex a n l).2) l (show ShrInv a n.toNat ((L a - n.toNat / 32 : Nat) : Int) l from (show i = ((L a - n.toNat / 32 : Nat) : Int) by omega) ▸ h1) rfl : NX (nat_Shr_0_mk a n) (nat_Shr_0_I a n) (nat_Shr_0_mu a n) (nat_Shr_0_ex a n) (nat_Shr_0_J a n) (i, (U l), l) (.exit 0) ((nat_Shr_0_ex a n l).2)))))) (by kernel_rfl))

theorem nat_Shr (a : Nat) (n : Int) (c0 : L a ≤ 67108864) (c1 : (0 : Int) ≤ n ∧ n ≤ 1048576) : Impl Tryz.prog Amb 139 [(N a), (.int .i64 n)] (N (a / 2 ^ (n).toNat)) := by
  have e0 := L_len a
  have t0 := tdiv32 c1.1
  have t1 := wRem32 c1.1
  exact impl_ob hP hAmb Tryz.func139 (by kernel_rfl) (.lit <| .call (.int .i64 n) <| .lit <| .yes <| .lits 2 <| .yes <| .lit <| .both (.lit <| .ret) (.lit <| .yes <| .yes <| .loop ⟨[0, 5, 6, 7, 27, 28], 1, []⟩ ((nat_Shr_0_mk a n (0, (List.replicate ((((lim a).length : Int) - (Int.tdiv n (32 : Int))).toNat) (.int .u32 0)), (List.replicate (L a - n.toNat / 32) 0)))) (List Nat) (nat_Shr_0_ex a n) (nat_Shr_0_J a n) (fun y => .yes <| .call (.int .i64 ((limbs (val y)).length : Int)) <| .yes <| .yes <| .ret)))
    (cast_ob (And.intro True.intro (And.intro (nat_places n (by first | omega | (simp <;> omega))) (And.intro (fits_i64 (by first | omega | (simp <;> omega)) : (fits .i64 (Int.tdiv n (32 : Int))) = true) (And.intro (fits_u64 (by first | omega | (simp <;> omega)) : (fits .u64 (wRem n (32 : Int))) = true) (And.intro (fun (h1 : (iGe (Int.tdiv n (32 : Int)) ((lim a).length : Int)) = true) => have _gh1 := iGe_t h1; (by rw [shr_zero (show L a ≤ n.toNat / 32 by omega)]; show vsub .nil (.sl 1 (U (limbs 0))); rw [limbs_zero]; exact vsub_nil 1 : vsub .nil (N (a / 2 ^ (n).toNat)))) (fun (h2 : (iGe (Int.tdiv n (32 : Int)) ((lim a).length : Int)) = false) => have _gh2 := iGe_f h2; And.intro (fits_i64 (by first | omega | (simp <;> omega)) : (fits .i64 (((lim a).length : Int) - (Int.tdiv n (32 : Int)))) = true) (And.intro (mk_ok (by first | omega | (simp <;> omega)) : (((iEq (((lim a).length : Int) - (Int.tdiv n (32 : Int))) (((lim a).length : Int) - (Int.tdiv n (32 : Int)))) && (iLe 0 (((lim a).length : Int) - (Int.tdiv n (32 : Int))))) && (iLe (((lim a).length : Int) - (Int.tdiv n (32 : Int))) 1073741824)) = true) (And.intro (rfl : true = true) (And.intro (rfl : (nat_Shr_0_mk a n (0, (List.replicate ((((lim a).length : Int) - (Int.tdiv n (32 : Int))).toNat) (.int .u32 0)), (List.replicate (L a - n.toNat / 32) 0))) = (nat_Shr_0_mk a n (0, (List.replicate ((((lim a).length : Int) - (Int.tdiv n (32 : Int))).toNat) (.int .u32 0)), (List.replicate (L a - n.toNat / 32) 0)))) (And.intro (nat_Shr_0 a n (by omega) c1 (by omega) (0, (List.replicate ((((lim a).length : Int) - (Int.tdiv n (32 : Int))).toNat) (.int .u32 0)), (List.replicate (L a - n.toNat / 32) 0)) (show (List.replicate ((((lim a).length : Int) - (Int.tdiv n (32 : Int))).toNat) (.int .u32 0)) = U (List.replicate (L a - n.toNat / 32) 0) ∧ ShrInv a n.toNat 0 (List.replicate (L a - n.toNat / 32) 0) from ⟨by rw [show ((((lim a).length : Int) - (Int.tdiv n (32 : Int))).toNat) = L a - n.toNat / 32 by omega]; exact U_rep _, shr_init _ _⟩)) (fun y (hJ : nat_Shr_0_J a n y) => have hJ : ShrInv a n.toNat ((L a - n.toNat / 32 : Nat) : Int) y := hJ; have ⟨q0, q1, q2⟩ := shr_end hJ (by omega); have q5 := U_len y; have q6 := limbs_len_le q0; And.intro (ok_arg (by first | omega | (simp <;> omega)) : ((true && Nat.ble (0 + ((((lim a).length : Int) - (Int.tdiv n (32 : Int))).toNat)) (U y).length) && true) = true) (And.intro (nat_sizeC (List.take ((((lim a).length : Int) - (Int.tdiv n (32 : Int))).toNat) (List.drop 0 (U y))) y (tkU rfl (by omega)) q0 (by omega)) (And.intro (and_mk (and_mk (and_mk (rfl) (iLe_mk (by first | omega | (simp <;> omega)))) (iLe_mk (by first | omega | (simp <;> omega)))) (rfl) : (((true && (iLe (0 : Int) ((limbs (val y)).length : Int))) && (iLe ((limbs (val y)).length : Int) (((((lim a).length : Int) - (Int.tdiv n (32 : Int))).toNat) : Int))) && true) = true) (And.intro (ok_res (by first | omega | (simp <;> omega)) : ((true && Nat.ble (0 + (((limbs (val y)).length : Int) - 0).toNat) (U y).length) && true) = true) (vsub_of (congrArg (V.sl 1) (fin_lim rfl q0 q2)) : vsub (.sl 1 (List.take ((((limbs (val y)).length : Int) - 0).toNat) (List.drop 0 (U y)))) (N (a / 2 ^ (n).toNat))))))))))))))))) (by kernel_rfl))

theorem nat_Bits (a : Nat) (c0 : L a ≤ 67108864) : Impl Tryz.prog Amb 184 [(N a)] (.int .i64 (nbits a : Int)) := by
  have e0 := L_len a
  have g0 := gi_lt (dig_limbs a) ((L a : Int) - 1).toNat
  have g1 := gi_nonneg (limbs a) ((L a : Int) - 1).toNat
  have b0 := top_bits a
  exact impl_ob hP hAmb Tryz.func184 (by kernel_rfl) (.lit <| .call (.int .i64 (L a : Int)) <| .lit <| .both (.lit <| .ret) (.lit <| .yes <| .lit <| .yes <| .lit <| .yes <| .yes <| .yes <| .lit <| .call (.int .i64 (Lib.bitLen ((gi (limbs a) (((L a : Int) - 1).toNat))).toNat : Int)) <| .lit <| .yes <| .lit <| .ret))
    (cast_ob (And.intro True.intro (And.intro (nat_sizeN a (by first | omega | (simp <;> omega))) (And.intro (fun (h1 : (iEq (L a : Int) 0) = true) => have _gh1 := iEq_t h1; (vsub_of (congrArg (V.int .i64) (by rw [show a = 0 from Decidable.byContradiction fun h => by have := L_pos h; omega]; rfl)) : vsub (.int .i64 0) (.int .i64 (nbits a : Int)))) (fun (h2 : (iEq (L a : Int) 0) = false) => have _gh2 := iEq_f h2; And.intro (fits_i64 (by first | omega | (simp <;> omega)) : (fits .i64 ((L a : Int) - 1)) = true) (And.intro (fits_i64 (by first | omega | (simp <;> omega)) : (fits .i64 ((32 : Int) * ((L a : Int) - 1))) = true) (And.intro (fits_i64 (by first | omega | (simp <;> omega)) : (fits .i64 ((L a : Int) - 1)) = true) (And.intro (inB_mk (by first | omega | (simp <;> omega)) : (inB ((L a : Int) - 1) ((lim a).length)) = true) (And.intro (ld_L (by first | omega | (simp <;> omega)) : (Nat.blt (((L a : Int) - 1).toNat) (lim a).length && isIntK .u32 (nth (lim a) (((L a : Int) - 1).toNat) .unk)) = true) (And.intro (len32 (gi (limbs a) (((L a : Int) - 1).toNat)) (by first | omega | (simp <;> omega))) (And.intro (fits_i64 (by first | omega | (simp <;> omega)) : (fits .i64 (((32 : Int) * ((L a : Int) - 1)) + (Lib.bitLen ((gi (limbs a) (((L a : Int) - 1).toNat))).toNat : Int))) = true) ((vsub_of (congrArg (V.int .i64) (by have := b0; omega)) : vsub (.int .i64 (((32 : Int) * ((L a : Int) - 1)) + (Lib.bitLen ((gi (limbs a) (((L a : Int) - 1).toNat))).toNat : Int))) (.int .i64 (nbits a : Int)))))))))))))) (by kernel_rfl))

theorem nat_Bit (a : Nat) (i : Int) (c0 : L a ≤ 67108864) (c1 : (0 : Int) ≤ i ∧ i ≤ 1000000000000) : Impl Tryz.prog Amb 188 [(N a), (.int .i64 i)] (.bool (a.testBit (i).toNat)) := by
  have e0 := L_len a
  have t0 := tdiv32 c1.1
  have t1 := wRem32 c1.1
  exact impl_ob hP hAmb Tryz.func188 (by kernel_rfl) (.lit <| .both (.lits 2 <| .yes <| .lits 5 <| .both (.lits 3 <| .yes <| .lit <| .yes <| .lit <| .yes <| .lits 4 <| .yes <| .lits 6 <| .ret) (.lits 11 <| .ret)) (.lits 17 <| .ret))
    (cast_ob (And.intro True.intro (And.intro (fun (h1 : (iGe i 0) = true) => have _gh1 := iGe_t h1; And.intro (fits_i64 (by first | omega | (simp <;> omega)) : (fits .i64 (Int.tdiv i (32 : Int))) = true) (And.intro (fun (h2 : (iLt (Int.tdiv i (32 : Int)) ((lim a).length : Int)) = true) => have _gh2 := iLt_t h2; And.intro (fits_i64 (by first | omega | (simp <;> omega)) : (fits .i64 (Int.tdiv i (32 : Int))) = true) (And.intro (inB_mk (by first | omega | (simp <;> omega)) : (inB (Int.tdiv i (32 : Int)) ((lim a).length)) = true) (And.intro (ld_L (by first | omega | (simp <;> omega)) : (Nat.blt ((Int.tdiv i (32 : Int)).toNat) (lim a).length && isIntK .u32 (nth (lim a) ((Int.tdiv i (32 : Int)).toNat) .unk)) = true) (And.intro (iLe_mk (by first | omega | (simp <;> omega)) : (iLe 0 (wRem i (32 : Int))) = true) ((vsub_of (congrArg V.bool (bit_t c1.1)) : vsub (.bool (iEq (wAnd .u32 (Int.fdiv (gi (limbs a) ((Int.tdiv i (32 : Int)).toNat)) (2 ^ (min (wRem i (32 : Int)).toNat (IntKind.bits .u32)))) (1 : Int)) 1)) (.bool (a.testBit (i).toNat)))))))) (fun (h3 : (iLt (Int.tdiv i (32 : Int)) ((lim a).length : Int)) = false) => have _gh3 := iLt_f h3; (vsub_of (congrArg V.bool (bit_f c1.1 (by omega)).symm) : vsub (.bool false) (.bool (a.testBit (i).toNat)))))) (fun (h4 : (iGe i 0) = false) => have _gh4 := iGe_f h4; (absurd c1.1 (by omega) : vsub (.bool false) (.bool (a.testBit (i).toNat)))))) (by kernel_rfl))

def nat_Zeros_0_mk (a : Nat) (x : Int) : St := ⟨mkS 20 [(5, (.val (N a))), (6, (.val (.int .i64 ((lim a).length : Int)))), (7, (.val (.int .i64 x)))], []⟩
def nat_Zeros_0_I (a : Nat) (x : Int) : Prop := 0 ≤ x ∧ x ≤ L a ∧ (limbs a).take (x).toNat = List.replicate (x).toNat 0
def nat_Zeros_0_mu (a : Nat) (x : Int) : Nat := ((L a : Int) - x).toNat
def nat_Zeros_0_ex (a : Nat) (y : (Int) ⊕ (Unit)) : Ex × St := Sum.elim (fun (y : Int) => (.ret, ⟨mkS 20 [(2, (.val (.int .i64 y)))], []⟩)) (fun (y : Unit) => (.exit 0, ⟨mkS 20 [], []⟩)) y
def nat_Zeros_0_J (a : Nat) (y : (Int) ⊕ (Unit)) : Prop := Sum.elim (fun (y : Int) => y = (tz a : Int)) (fun (y : Unit) => tz a = 0) y
theorem nat_Zeros_0 (a : Nat) (c1 : L a ≤ 1073741824) (x0 : Int) (hI : nat_Zeros_0_I a x0) : LoopOk Tryz.prog Amb (loopN Tryz.f138 0) (nat_Zeros_0_mk a x0) (fun e st_ => ∃ y, nat_Zeros_0_J a y ∧ nat_Zeros_0_ex a y = (e, st_)) :=
  loop_ob hP hAmb ⟨[5, 6, 7], 0, []⟩ (nat_Zeros_0_mk a) (nat_Zeros_0_I a) (nat_Zeros_0_mu a) (nat_Zeros_0_ex a) (nat_Zeros_0_J a) x0 hI (fun i => .lit <| .both (.yes <| .yes <| .lit <| .both (.lit <| .yes <| .lit <| .call (.int .i64 (Lib.ctz 32 ((gi (limbs a) i.toNat)).toNat : Int)) <| .lit <| .yes <| .fin2 ⟨[2], 0, []⟩) (.lit <| .yes <| .fin2 ⟨[5, 6, 7], 0, []⟩)) (.fin2 ⟨[], 0, []⟩)) (by
    rintro i hI
    have hI : 0 ≤ i ∧ i ≤ L a ∧ (limbs a).take (i).toNat = List.replicate (i).toNat 0 := hI
    obtain ⟨h1, h2, h3⟩ := hI
    have e0 := L_len a
    have g0 := gi_lt (dig_limbs a) i.toNat
    have g1 := gi_nonneg (limbs a) i.toNat
    have z1 : i < L a → gi (limbs a) i.toNat ≠ 0 → Lib.ctz 32 (gi (limbs a) i.toNat).toNat < 32 := fun p q => (zeros_hit h1 h3 p q).2
    exact cast_ob (And.intro True.intro (And.intro (fun (h101 : (iLt i ((lim a).length : Int)) = true) => have _gh101 := iLt_t h101; And.intro (inB_mk (by first | omega | (have := z1 (by omega) (by assumption); omega)) : (inB i ((lim a).length)) = true) (And.intro (ld_L (by first | omega | (have := z1 (by omega) (by assumption); omega)) : (Nat.blt i.toNat (lim a).length && isIntK .u32 (nth (lim a) i.toNat .unk)) = true) (And.intro (fun (h102 : (iNe (gi (limbs a) i.toNat) 0) = true) => have _gh102 := iNe_t h102; And.intro (fits_i64 (by first | omega | (have := z1 (by omega) (by assumption); omega)) : (fits .i64 ((32 : Int) * i)) = true) (And.intro (tz32 (gi (limbs a) i.toNat) (by first | omega | (have := z1 (by omega) (by assumption); omega))) (And.intro (fits_i64 (by first | omega | (have := z1 (by omega) (by assumption); omega)) : (fits .i64 (((32 : Int) * i) + (Lib.ctz 32 ((gi (limbs a) i.toNat)).toNat : Int))) = true) (And.intro (rfl : true = true) ((nx_ret ((nat_Zeros_0_ex a (.inl (((32 : Int) * i) + (Lib.ctz 32 ((gi (limbs a) i.toNat)).toNat : Int)))).2) (.inl (((32 : Int) * i) + (Lib.ctz 32 ((gi (limbs a) i.toNat)).toNat : Int))) (show (((32 : Int) * i) + (Lib.ctz 32 ((gi (limbs a) i.toNat)).toNat : Int)) = (tz a : Int) from (zeros_hit h1 h3 (by omega) (by assumption)).1) rfl : NX (nat_Zeros_0_mk a) (nat_Zeros_0_I a) (nat_Zeros_0_mu a) (nat_Zeros_0_ex a) (nat_Zeros_0_J a) i .ret ((nat_Zeros_0_ex a (.inl (((32 : Int) * i) + (Lib.ctz 32 ((gi (limbs a) i.toNat)).toNat : Int)))).2))))))) (fun (h103 : (iNe (gi (limbs a) i.toNat) 0) = false) => have _gh103 := iNe_f h103; And.intro (fits_i64 (by first | omega | (have := z1 (by omega) (by assumption); omega)) : (fits .i64 (i + 1)) = true) (And.intro (rfl : true = true) ((nx_next (i + 1) (show 0 ≤ (i + 1) ∧ (i + 1) ≤ L a ∧ (limbs a).take ((i + 1)).toNat = List.replicate ((i + 1)).toNat 0 from ⟨by omega, by omega, by rw [show (i + 1).toNat = i.toNat + 1 by omega]; exact zeros_step h3 (by omega) (by assumption)⟩) (show ((L a : Int) - (i + 1)).toNat < ((L a : Int) - i).toNat by omega) : NX (nat_Zeros_0_mk a) (nat_Zeros_0_I a) (nat_Zeros_0_mu a) (nat_Zeros_0_ex a) (nat_Zeros_0_J a) i .normal (nat_Zeros_0_mk a (i + 1))))))))) (fun (h104 : (iLt i ((lim a).length : Int)) = false) => have _gh104 := iLt_f h104; And.intro (rfl : true = true) ((nx_exit 0 ((nat_Zeros_0_ex a (.inr ())).2) (.inr ()) (show tz a = 0 from zeros_end (by rw [show L a = i.toNat by omega]; exact h3)) rfl : NX (nat_Zeros_0_mk a) (nat_Zeros_0_I a) (nat_Zeros_0_mu a) (nat_Zeros_0_ex a) (nat_Zeros_0_J a) i (.exit 0) ((nat_Zeros_0_ex a (.inr ())).2)))))) (by kernel_rfl))

theorem nat_Zeros (a : Nat) (c0 : L a ≤ 67108864) : Impl Tryz.prog Amb 138 [(N a)] (.int .i64 (tz a : Int)) := by
  have e0 := L_len a
  exact impl_ob hP hAmb Tryz.func138 (by kernel_rfl) (.loop2 ⟨[5, 6, 7], 0, []⟩ ((nat_Zeros_0_mk a (0 : Int))) (Int) (Unit) (nat_Zeros_0_ex a) (nat_Zeros_0_J a) (fun y => .lit <| .ret) (fun y => .lit <| .ret))
    (cast_ob (And.intro True.intro (And.intro (rfl : true = true) (And.intro (rfl : (nat_Zeros_0_mk a (0 : Int)) = (nat_Zeros_0_mk a (0 : Int))) (And.intro (nat_Zeros_0 a (by omega) (0 : Int) (show 0 ≤ (0 : Int) ∧ (0 : Int) ≤ L a ∧ (limbs a).take ((0 : Int)).toNat = List.replicate ((0 : Int)).toNat 0 from ⟨by omega, by omega, by simp⟩)) (And.intro (fun (y : Int) (hJ : nat_Zeros_0_J a (.inl y)) => have hJ : y = (tz a : Int) := hJ; (vsub_of (congrArg (V.int .i64) hJ) : vsub (.int .i64 y) (.int .i64 (tz a : Int)))) (fun (y : Unit) (hJ : nat_Zeros_0_J a (.inr y)) => have hJ : tz a = 0 := hJ; (vsub_of (congrArg (V.int .i64) (by rw [show tz a = 0 from hJ]; rfl)) : vsub (.int .i64 0) (.int .i64 (tz a : Int))))))))) (by kernel_rfl))

theorem nat_Low (a : Nat) (n : Int) (c0 : L a ≤ 67108864) (c1 : (0 : Int) ≤ n ∧ n ≤ 1048576) : Impl Tryz.prog Amb 193 [(N a), (.int .i64 n)] (N (a % 2 ^ (n).toNat)) := by
  have e0 := L_len a
  have t0 := tdiv32 c1.1
  have t1 := wRem32 c1.1
  have mk := mask_ok c1.1
  have h5 := fun h => low_len (a := a) c1.1 h
  exact impl_ob hP hAmb Tryz.func193 (by kernel_rfl) (.lit <| .call (.int .i64 n) <| .lit <| .yes <| .lits 2 <| .yes <| .lit <| .both (.lit <| .call (N a) <| .lit <| .ret) (.lit <| .yes <| .yes <| .lit <| .callO 1 (0 + (List.take ((((Int.tdiv n (32 : Int)) + 1) - 0).toNat) (List.drop 0 (lim a))).length) (List.take ((((Int.tdiv n (32 : Int)) + 1) - 0).toNat) (List.drop 0 (lim a))) <| .yes <| .yes <| .yes <| .yes <| .lit <| .yes <| .lit <| .yes <| .yes <| .yes <| .call (.int .i64 ((limbs (val (((limbs a).take (n.toNat / 32 + 1)).set (n.toNat / 32) ((limbs a).getD (n.toNat / 32) 0 % 2 ^ (n.toNat % 32))))).length : Int)) <| .yes <| .yes <| .ret))
    (cast_ob (And.intro True.intro (And.intro (nat_places n (by first | omega | (have := low_len c1.1 (show n.toNat / 32 < L a by omega); have := (low_dig (show n.toNat / 32 < L a by omega)).2.1; have := limbs_len_le (low_dig (show n.toNat / 32 < L a by omega)).1; first | omega | (rw [List.length_set]; omega)))) (And.intro (fits_i64 (by first | omega | (have := low_len c1.1 (show n.toNat / 32 < L a by omega); have := (low_dig (show n.toNat / 32 < L a by omega)).2.1; have := limbs_len_le (low_dig (show n.toNat / 32 < L a by omega)).1; first | omega | (rw [List.length_set]; omega))) : (fits .i64 (Int.tdiv n (32 : Int))) = true) (And.intro (fits_u64 (by first | omega | (have := low_len c1.1 (show n.toNat / 32 < L a by omega); have := (low_dig (show n.toNat / 32 < L a by omega)).2.1; have := limbs_len_le (low_dig (show n.toNat / 32 < L a by omega)).1; first | omega | (rw [List.length_set]; omega))) : (fits .u64 (wRem n (32 : Int))) = true) (And.intro (fun (h1 : (iGe (Int.tdiv n (32 : Int)) ((lim a).length : Int)) = true) => have _gh1 := iGe_t h1; And.intro (nat_TrimN a (by first | omega | (have := low_len c1.1 (show n.toNat / 32 < L a by omega); have := (low_dig (show n.toNat / 32 < L a by omega)).2.1; have := limbs_len_le (low_dig (show n.toNat / 32 < L a by omega)).1; first | omega | (rw [List.length_set]; omega)))) ((vsub_of (congrArg N (low_all (show L a ≤ n.toNat / 32 by omega)).symm) : vsub (N a) (N (a % 2 ^ (n).toNat))))) (fun (h2 : (iGe (Int.tdiv n (32 : Int)) ((lim a).length : Int)) = false) => have _gh2 := iGe_f h2; And.intro (fits_i64 (by first | omega | (have := low_len c1.1 (show n.toNat / 32 < L a by omega); have := (low_dig (show n.toNat / 32 < L a by omega)).2.1; have := limbs_len_le (low_dig (show n.toNat / 32 < L a by omega)).1; first | omega | (rw [List.length_set]; omega))) : (fits .i64 ((Int.tdiv n (32 : Int)) + 1)) = true) (And.intro (and_mk (and_mk (rfl) (iLe_mk (by first | omega | (have := low_len c1.1 (show n.toNat / 32 < L a by omega); have := (low_dig (show n.toNat / 32 < L a by omega)).2.1; have := limbs_len_le (low_dig (show n.toNat / 32 < L a by omega)).1; first | omega | (rw [List.length_set]; omega))))) (iLe_mk (by first | omega | (have := low_len c1.1 (show n.toNat / 32 < L a by omega); have := (low_dig (show n.toNat / 32 < L a by omega)).2.1; have := limbs_len_le (low_dig (show n.toNat / 32 < L a by omega)).1; first | omega | (rw [List.length_set]; omega)))) : ((true && (iLe (0 : Int) ((Int.tdiv n (32 : Int)) + 1))) && (iLe ((Int.tdiv n (32 : Int)) + 1) ((lim a).length : Int))) = true) (And.intro (cloneO_u32 (List.take ((((Int.tdiv n (32 : Int)) + 1) - 0).toNat) (List.drop 0 (lim a))) (by rw [low_cut c1.1 (by omega)]; exact U_prim _) (by rw [low_cut c1.1 (by omega)]; exact U_cells _) (by rw [low_len c1.1 (by omega)]; omega) (by rw [low_len c1.1 (by omega)]; omega)) (And.intro (inB_mk (by first | omega | (have := low_len c1.1 (show n.toNat / 32 < L a by omega); have := (low_dig (show n.toNat / 32 < L a by omega)).2.1; have := limbs_len_le (low_dig (show n.toNat / 32 < L a by omega)).1; first | omega | (rw [List.length_set]; omega))) : (inB (Int.tdiv n (32 : Int)) (0 + (List.take ((((Int.tdiv n (32 : Int)) + 1) - 0).toNat) (List.drop 0 (lim a))).length)) = true) (And.intro (low_ld c1.1 (by omega) : (Nat.blt (0 + (Int.tdiv n (32 : Int)).toNat) (List.take ((((Int.tdiv n (32 : Int)) + 1) - 0).toNat) (List.drop 0 (lim a))).length && isIntK .u32 (nth (List.take ((((Int.tdiv n (32 : Int)) + 1) - 0).toNat) (List.drop 0 (lim a))) (0 + (Int.tdiv n (32 : Int)).toNat) .unk)) = true) (And.intro (iLe_mk (by first | omega | (have := low_len c1.1 (show n.toNat / 32 < L a by omega); have := (low_dig (show n.toNat / 32 < L a by omega)).2.1; have := limbs_len_le (low_dig (show n.toNat / 32 < L a by omega)).1; first | omega | (rw [List.length_set]; omega))) : (iLe 0 (wRem n (32 : Int))) = true) (And.intro (fits_u32 (by first | omega | (have := low_len c1.1 (show n.toNat / 32 < L a by omega); have := (low_dig (show n.toNat / 32 < L a by omega)).2.1; have := limbs_len_le (low_dig (show n.toNat / 32 < L a by omega)).1; first | omega | (rw [List.length_set]; omega))) : (fits .u32 ((1 : Int) * 2 ^ (min (wRem n (32 : Int)).toNat (IntKind.bits .u32)))) = true) (And.intro (fits_u32 (by first | omega | (have := low_len c1.1 (show n.toNat / 32 < L a by omega); have := (low_dig (show n.toNat / 32 < L a by omega)).2.1; have := limbs_len_le (low_dig (show n.toNat / 32 < L a by omega)).1; first | omega | (rw [List.length_set]; omega))) : (fits .u32 (((1 : Int) * 2 ^ (min (wRem n (32 : Int)).toNat (IntKind.bits .u32))) - 1)) = true) (And.intro (inB_mk (by first | omega | (have := low_len c1.1 (show n.toNat / 32 < L a by omega); have := (low_dig (show n.toNat / 32 < L a by omega)).2.1; have := limbs_len_le (low_dig (show n.toNat / 32 < L a by omega)).1; first | omega | (rw [List.length_set]; omega))) : (inB (Int.tdiv n (32 : Int)) (0 + (List.take ((((Int.tdiv n (32 : Int)) + 1) - 0).toNat) (List.drop 0 (lim a))).length)) = true) (And.intro (st_ok (by first | omega | (have := low_len c1.1 (show n.toNat / 32 < L a by omega); have := (low_dig (show n.toNat / 32 < L a by omega)).2.1; have := limbs_len_le (low_dig (show n.toNat / 32 < L a by omega)).1; first | omega | (rw [List.length_set]; omega))) : (Nat.ble ((0 + (Int.tdiv n (32 : Int)).toNat) + 1) (List.take ((((Int.tdiv n (32 : Int)) + 1) - 0).toNat) (List.drop 0 (lim a))).length) = true) (And.intro (ok_arg (by first | omega | (have := low_len c1.1 (show n.toNat / 32 < L a by omega); have := (low_dig (show n.toNat / 32 < L a by omega)).2.1; have := limbs_len_le (low_dig (show n.toNat / 32 < L a by omega)).1; first | omega | (rw [List.length_set]; omega))) : ((true && Nat.ble (0 + (0 + (List.take ((((Int.tdiv n (32 : Int)) + 1) - 0).toNat) (List.drop 0 (lim a))).length)) (List.set (List.take ((((Int.tdiv n (32 : Int)) + 1) - 0).toNat) (List.drop 0 (lim a))) (0 + (Int.tdiv n (32 : Int)).toNat) (.int .u32 (wAnd .u32 (intV (nth (List.take ((((Int.tdiv n (32 : Int)) + 1) - 0).toNat) (List.drop 0 (lim a))) (0 + (Int.tdiv n (32 : Int)).toNat) .unk)) (((1 : Int) * 2 ^ (min (wRem n (32 : Int)).toNat (IntKind.bits .u32))) - 1)))).length) && true) = true) (And.intro (nat_sizeC (List.take (0 + (List.take ((((Int.tdiv n (32 : Int)) + 1) - 0).toNat) (List.drop 0 (lim a))).length) (List.drop 0 (List.set (List.take ((((Int.tdiv n (32 : Int)) + 1) - 0).toNat) (List.drop 0 (lim a))) (0 + (Int.tdiv n (32 : Int)).toNat) (.int .u32 (wAnd .u32 (intV (nth (List.take ((((Int.tdiv n (32 : Int)) + 1) - 0).toNat) (List.drop 0 (lim a))) (0 + (Int.tdiv n (32 : Int)).toNat) .unk)) (((1 : Int) * 2 ^ (min (wRem n (32 : Int)).toNat (IntKind.bits .u32))) - 1)))))) (((limbs a).take (n.toNat / 32 + 1)).set (n.toNat / 32) ((limbs a).getD (n.toNat / 32) 0 % 2 ^ (n.toNat % 32))) (tkU (low_set c1.1 (by omega)) (by rw [low_len c1.1 (by omega), (low_dig (by omega)).2.1]; omega)) (low_dig (by omega)).1 (by rw [(low_dig (by omega)).2.1]; omega)) (And.intro (and_mk (and_mk (and_mk (rfl) (iLe_mk (by first | omega | (have := low_len c1.1 (show n.toNat / 32 < L a by omega); have := (low_dig (show n.toNat / 32 < L a by omega)).2.1; have := limbs_len_le (low_dig (show n.toNat / 32 < L a by omega)).1; first | omega | (rw [List.length_set]; omega))))) (iLe_mk (by first | omega | (have := low_len c1.1 (show n.toNat / 32 < L a by omega); have := (low_dig (show n.toNat / 32 < L a by omega)).2.1; have := limbs_len_le (low_dig (show n.toNat / 32 < L a by omega)).1; first | omega | (rw [List.length_set]; omega))))) (rfl) : (((true && (iLe (0 : Int) ((limbs (val (((limbs a).take (n.toNat / 32 + 1)).set (n.toNat / 32) ((limbs a).getD (n.toNat / 32) 0 % 2 ^ (n.toNat % 32))))).length : Int))) && (iLe ((limbs (val (((limbs a).take (n.toNat / 32 + 1)).set (n.toNat / 32) ((limbs a).getD (n.toNat / 32) 0 % 2 ^ (n.toNat % 32))))).length : Int) ((0 + (List.take ((((Int.tdiv n (32 : Int)) + 1) - 0).toNat) (List.drop 0 (lim a))).length) : Int))) && true) = true) (And.intro (ok_res (by first | omega | (have := low_len c1.1 (show n.toNat / 32 < L a by omega); have := (low_dig (show n.toNat / 32 < L a by omega)).2.1; have := limbs_len_le (low_dig (show n.toNat / 32 < L a by omega)).1; first | omega | (rw [List.length_set]; omega))) : ((true && Nat.ble (0 + (((limbs (val (((limbs a).take (n.toNat / 32 + 1)).set (n.toNat / 32) ((limbs a).getD (n.toNat / 32) 0 % 2 ^ (n.toNat % 32))))).length : Int) - 0).toNat) (List.set (List.take ((((Int.tdiv n (32 : Int)) + 1) - 0).toNat) (List.drop 0 (lim a))) (0 + (Int.tdiv n (32 : Int)).toNat) (.int .u32 (wAnd .u32 (intV (nth (List.take ((((Int.tdiv n (32 : Int)) + 1) - 0).toNat) (List.drop 0 (lim a))) (0 + (Int.tdiv n (32 : Int)).toNat) .unk)) (((1 : Int) * 2 ^ (min (wRem n (32 : Int)).toNat (IntKind.bits .u32))) - 1)))).length) && true) = true) (vsub_of (congrArg (V.sl 1) (fin_lim (low_set c1.1 (by omega)) (low_dig (by omega)).1 (low_dig (by omega)).2.2)) : vsub (.sl 1 (List.take ((((limbs (val (((limbs a).take (n.toNat / 32 + 1)).set (n.toNat / 32) ((limbs a).getD (n.toNat / 32) 0 % 2 ^ (n.toNat % 32))))).length : Int) - 0).toNat) (List.drop 0 (List.set (List.take ((((Int.tdiv n (32 : Int)) + 1) - 0).toNat) (List.drop 0 (lim a))) (0 + (Int.tdiv n (32 : Int)).toNat) (.int .u32 (wAnd .u32 (intV (nth (List.take ((((Int.tdiv n (32 : Int)) + 1) - 0).toNat) (List.drop 0 (lim a))) (0 + (Int.tdiv n (32 : Int)).toNat) .unk)) (((1 : Int) * 2 ^ (min (wRem n (32 : Int)).toNat (IntKind.bits .u32))) - 1))))))) (N (a % 2 ^ (n).toNat)))))))))))))))))))))) (by kernel_rfl))

end Go.Proofs.YtmbpoibhamlkbaaGreatDoor

namespace Go.Proofs.YtmbpoibhamlkbaaGreatDoor

def MulIn (b i : Nat) (x : Int) (l0 : List Nat) (k c : Int) (l : List Nat) : Prop :=
  0 ≤ k ∧ k ≤ L b ∧ 0 ≤ c ∧ c < 4294967296 ∧ l.length = l0.length ∧ Dig l ∧ (∀ j, i + k.toNat ≤ j → l.getD j 0 = l0.getD j 0) ∧
  val (l.take (i + k.toNat)) + 4294967296 ^ (i + k.toNat) * c.toNat = val (l0.take (i + k.toNat)) + 4294967296 ^ i * (x.toNat * val ((limbs b).take k.toNat))
theorem mulin_init (b i : Nat) (x : Int) {l0 : List Nat} (h : Dig l0) : MulIn b i x l0 0 0 l0 := ⟨by omega, by omega, by omega, by omega, rfl, h, fun _ _ => rfl, by simp [val]⟩
theorem mul_bound {x y z c : Int} (hx : 0 ≤ x ∧ x < 4294967296) (hy : 0 ≤ y ∧ y < 4294967296) (hz : 0 ≤ z ∧ z < 4294967296) (hc : 0 ≤ c ∧ c < 4294967296) :
    0 ≤ x * y ∧ x * y ≤ 18446744065119617025 ∧ 0 ≤ c + (x * y + z) ∧ c + (x * y + z) ≤ 18446744073709551615 := by
  have h1 : 0 ≤ x * y := Int.mul_nonneg hx.1 hy.1
  have h2 : x * y ≤ 4294967295 * 4294967295 := Int.mul_le_mul (by omega) (by omega) hy.1 (by omega)
  omega
theorem mulin_next {b i : Nat} {x k c s : Int} {l0 l : List Nat} (h : MulIn b i x l0 k c l) (hk : k < L b) (hx : 0 ≤ x ∧ x < 4294967296) (hlen : i + k.toNat < l0.length)
    (hs : s = c + (x * gi (limbs b) k.toNat + gi l (i + k.toNat))) :
    MulIn b i x l0 (k + 1) (Int.fdiv s (2 ^ 32)) (l.set (i + k.toNat) (IntKind.wrap .u32 s).toNat) := by
  obtain ⟨h0, h1, h2, h3, h4, h5, h6, h7⟩ := h
  have hb := mul_bound hx ⟨gi_nonneg (limbs b) k.toNat, gi_lt (dig_limbs b) k.toNat⟩ ⟨gi_nonneg l (i + k.toNat), gi_lt h5 (i + k.toNat)⟩ ⟨h2, h3⟩
  have hl := h6 (i + k.toNat) (Nat.le_refl _)
  rw [gi_eq, gi_eq] at hb
  rw [gi_eq, gi_eq] at hs
  have hb1 := take_succ_val (limbs b) k.toNat
  have hb2 := take_succ_val l0 (i + k.toNat)
  rw [hl] at hs hb
  generalize (limbs b).getD k.toNat 0 = y at *
  generalize l0.getD (i + k.toNat) 0 = z at *
  obtain ⟨x, rfl⟩ := Int.eq_ofNat_of_zero_le hx.1
  obtain ⟨c, rfl⟩ := Int.eq_ofNat_of_zero_le h2
  have hsN : s = ((c + (x * y + z) : Nat) : Int) := by rw [hs]; simp
  rw [← hs] at hb
  generalize hS : c + (x * y + z) = S at *
  subst hsN
  have e1 : IntKind.wrap .u32 ((S : Nat) : Int) = ((S % 4294967296 : Nat) : Int) := by rw [wrap_u32]; omega
  rw [e1, fdiv_B, Int.toNat_natCast]
  refine ⟨by omega, by omega, by omega, by omega, by simpa using h4, dig_set h5 (by omega) _, ?_, ?_⟩
  · intro j hj
    rw [set_getD_ne _ _ (by omega)]
    exact h6 j (by omega)
  · rw [show i + (k + 1).toNat = i + k.toNat + 1 by omega, set_val _ _ (by omega), hb2, show (k + 1).toNat = k.toNat + 1 by omega, hb1]
    simp only [Int.toNat_natCast] at h7 ⊢
    rw [show ((S : Int) / 4294967296).toNat = S / 4294967296 by omega, Nat.pow_succ, Nat.mul_assoc (4294967296 ^ _), Nat.add_assoc, ← Nat.mul_add, Nat.mod_add_div, ← hS]
    rw [Nat.mul_add (4294967296 ^ (i + k.toNat)) c, ← Nat.add_assoc, h7, Nat.mul_add x, Nat.mul_add (4294967296 ^ i)]
    have e2 : 4294967296 ^ i * (x * (4294967296 ^ k.toNat * y)) = 4294967296 ^ (i + k.toNat) * (x * y) := by
      rw [Nat.pow_add, Nat.mul_left_comm x, Nat.mul_assoc]
    rw [e2, Nat.mul_add (4294967296 ^ (i + k.toNat)) (x * y)]
    omega
def MulInv (a b : Nat) (i : Int) (l : List Nat) : Prop :=
  0 ≤ i ∧ i ≤ L a ∧ l.length = L a + L b ∧ Dig l ∧ val (l.take (i.toNat + L b)) = val ((limbs a).take i.toNat) * b
theorem mul_init (a b : Nat) : MulInv a b 0 (List.replicate (L a + L b) 0) := by
  refine ⟨by omega, by omega, by simp, dig_rep _, ?_⟩
  rw [List.take_replicate, val_rep]; simp [val]
theorem mul_next {a b : Nat} {i x c : Int} {l0 l : List Nat} (h : MulInv a b i l0) (hi : i < L a) (hx : x = gi (limbs a) i.toNat) (hin : MulIn b i.toNat x l0 (L b : Int) c l) :
    MulInv a b (i + 1) (l.set (i.toNat + L b) (IntKind.wrap .u32 c).toNat) := by
  obtain ⟨h0, h1, h2, h3, h4⟩ := h
  obtain ⟨_, _, g2, g3, g4, g5, _, g7⟩ := hin
  have ht := take_succ_val (limbs a) i.toNat
  rw [gi_eq] at hx
  generalize (limbs a).getD i.toNat 0 = X at *
  subst hx
  rw [Int.toNat_natCast, Int.toNat_natCast, val_lim b (Nat.le_refl _), h4] at g7
  have e1 : (IntKind.wrap .u32 c).toNat = c.toNat := by rw [wrap_u32]; omega
  rw [e1]
  refine ⟨by omega, by omega, by simp; omega, dig_set g5 (by omega) _, ?_⟩
  rw [show (i + 1).toNat + L b = i.toNat + L b + 1 by omega, set_val _ _ (by omega), g7, show (i + 1).toNat = i.toNat + 1 by omega, ht, Nat.add_mul, Nat.mul_assoc]
theorem mul_end {a b : Nat} {l : List Nat} (h : MulInv a b (L a : Int) l) : Dig l ∧ l.length = L a + L b ∧ val l = a * b := by
  obtain ⟨h0, h1, h2, h3, h4⟩ := h
  refine ⟨h3, h2, ?_⟩
  rw [Int.toNat_natCast, val_lim a (Nat.le_refl _), val_all l (by omega)] at h4
  exact h4

/-! ### division by a limb -/
def SmInv (a d : Nat) (i r : Int) (q : List Nat) : Prop :=
  -1 ≤ i ∧ i < L a ∧ q.length = L a ∧ Dig q ∧ r = ((a / 4294967296 ^ (i + 1).toNat % d : Nat) : Int) ∧ val (q.drop (i + 1).toNat) = a / 4294967296 ^ (i + 1).toNat / d
theorem sm_init (a d : Nat) : SmInv a d ((L a : Int) - 1) 0 (List.replicate (L a) 0) := by
  have : a / 4294967296 ^ L a = 0 := Nat.div_eq_of_lt (L_lt a)
  refine ⟨by omega, by omega, by simp, dig_rep _, ?_, ?_⟩
  · rw [show ((L a : Int) - 1 + 1).toNat = L a by omega, this]; simp
  · rw [show ((L a : Int) - 1 + 1).toNat = L a by omega, this]; simp [val]
theorem wOr_lo {x : Nat} {r : Int} (hr : 0 ≤ r ∧ r < 4294967296) (hx : x < 4294967296) : wOr .u64 (r * 2 ^ 32) (x : Int) = r * 4294967296 + (x : Int) := by
  obtain ⟨r, rfl⟩ := Int.eq_ofNat_of_zero_le hr.1
  have h1 : 4294967296 * r ||| x = 4294967296 * r + x := by rw [Nat.or_comm, or_add (r := 32) hx, Nat.add_comm]
  have e : (r : Int) * 2 ^ 32 = ((4294967296 * r : Nat) : Int) := by omega
  rw [e]
  show IntKind.wrap .u64 ((BitVec.ofInt 64 ((4294967296 * r : Nat) : Int) ||| BitVec.ofInt 64 (x : Int)).toNat : Int) = _
  rw [BitVec.toNat_or, ofInt64 (by omega), ofInt64 (by omega), wrap_u64, Int.toNat_natCast, Int.toNat_natCast, Nat.mod_eq_of_lt (show x < 18446744073709551616 by omega), Nat.mod_eq_of_lt (by omega), h1]
  omega
theorem sm_word {a d : Nat} {i r : Int} {q : List Nat} (h : SmInv a d i r q) (hd : 0 < d) (hd2 : d < 4294967296) :
    wOr .u64 (r * 2 ^ 32) (gi (limbs a) i.toNat) = r * 4294967296 + gi (limbs a) i.toNat ∧ 0 ≤ r ∧ r < d ∧ 0 ≤ gi (limbs a) i.toNat ∧ gi (limbs a) i.toNat < 4294967296 := by
  have hm := Nat.mod_lt (a / 4294967296 ^ (i + 1).toNat) hd
  have hr := h.2.2.2.2.1
  refine ⟨?_, by omega, by omega, gi_nonneg _ _, gi_lt (dig_limbs a) _⟩
  rw [gi_eq]
  exact wOr_lo (by omega) (dig_get (dig_limbs a) _)
theorem sm_next {a d : Nat} {i r s : Int} {q : List Nat} (h : SmInv a d i r q) (hi : 0 ≤ i) (hd : 0 < d) (hd2 : d < 4294967296) (hs : s = r * 4294967296 + gi (limbs a) i.toNat) :
    SmInv a d (i - 1) (wRem s (d : Int)) (q.set i.toNat (IntKind.wrap .u32 (Int.tdiv s (d : Int))).toNat) ∧ 0 ≤ Int.tdiv s (d : Int) ∧ Int.tdiv s (d : Int) < 4294967296 := by
  obtain ⟨h0, h1, h2, h3, h4, h5⟩ := h
  rw [gi_eq, limb_eq] at hs
  rw [show (i + 1).toNat = i.toNat + 1 by omega, Nat.pow_succ, ← Nat.div_div_eq_div_mul] at h4 h5
  have hV : a / 4294967296 ^ i.toNat = a / 4294967296 ^ i.toNat % 4294967296 + 4294967296 * (a / 4294967296 ^ i.toNat / 4294967296) := by omega
  generalize a / 4294967296 ^ i.toNat / 4294967296 = V at *
  have hx : a / 4294967296 ^ i.toNat % 4294967296 < 4294967296 := Nat.mod_lt _ (by omega)
  have hle : (i - 1 + 1).toNat = i.toNat := by omega
  generalize hA : a / 4294967296 ^ i.toNat = A at *
  generalize A % 4294967296 = x at *
  have hm := Nat.mod_lt V hd
  have hdm := Nat.div_add_mod V d
  generalize hQ : V / d = Q at *
  generalize hR : V % d = R at *
  have hsN : s = ((R * 4294967296 + x : Nat) : Int) := by rw [hs, h4]; simp
  generalize hS : R * 4294967296 + x = S at *
  subst hsN
  have hq : S / d < 4294967296 := by
    apply Nat.div_lt_of_lt_mul
    have : (R + 1) * 4294967296 ≤ d * 4294967296 := Nat.mul_le_mul_right _ hm
    omega
  have hAS : A = S + d * (4294967296 * Q) := by
    rw [hV, ← hdm, ← hS, Nat.mul_add, Nat.mul_left_comm 4294967296 d]; omega
  have t1 : Int.tdiv ((S : Nat) : Int) (d : Int) = ((S / d : Nat) : Int) := by rw [Int.tdiv_eq_ediv_of_nonneg (Int.natCast_nonneg _), Int.natCast_ediv]
  have t2 : wRem ((S : Nat) : Int) (d : Int) = ((S % d : Nat) : Int) := by unfold wRem; rw [Int.tmod_eq_emod_of_nonneg (Int.natCast_nonneg _), Int.natCast_emod]
  have d1 : A / d = S / d + 4294967296 * Q := by rw [hAS, Nat.add_mul_div_left _ _ hd]
  have d2 : A % d = S % d := by rw [hAS, Nat.add_mul_mod_self_left]
  rw [t1, t2]
  generalize S / d = D at *
  generalize S % d = M at *
  have e1 : IntKind.wrap .u32 ((D : Nat) : Int) = ((D : Nat) : Int) := by rw [wrap_u32]; omega
  rw [e1, Int.toNat_natCast]
  refine ⟨⟨by omega, by omega, by simpa using h2, dig_set h3 hq _, ?_, ?_⟩, by omega, by omega⟩
  · rw [hle, hA, d2]
  · rw [hle, hA, d1]
    have hl : i.toNat < (q.set i.toNat D).length := by simp; omega
    rw [List.drop_eq_getElem_cons hl, val, List.getElem_set_self, List.drop_set_of_lt (by omega), h5]
theorem sm_end {a d : Nat} {r : Int} {q : List Nat} (h : SmInv a d (-1) r q) : Dig q ∧ q.length = L a ∧ val q = a / d ∧ r = ((a % d : Nat) : Int) := by
  obtain ⟨h0, h1, h2, h3, h4, h5⟩ := h
  refine ⟨h3, h2, ?_, ?_⟩
  · simpa using h5
  · simpa using h4
end Go.Proofs.YtmbpoibhamlkbaaGreatDoor

namespace Go.Proofs.YtmbpoibhamlkbaaGreatDoor
open Go.RowKit
set_option maxRecDepth 100000

theorem nat_TrimC (c : List V) (l : List Nat) (c0 : c = U l) (c1 : Dig l) (c2 : l.length ≤ 1073741824) : Impl Tryz.prog Amb 182 [.sl 1 c] (N (val l)) := by
  subst c0
  exact nat_Trim l c1 c2

def quot_Small_0_mk (a d : Nat) (x : Int × Int × List V × List Nat) : St := ⟨mkS 46 [(0, (.val (N a))), (1, (.val (.int .u32 (d : Int)))), (7, (.osl 0 0 (((lim a).length : Int).toNat) 1)), (8, (.val (.int .u64 x.2.1))), (9, (.val (.int .i64 x.1)))], [⟨true, false, x.2.2.1⟩]⟩
def quot_Small_0_I (a d : Nat) (x : Int × Int × List V × List Nat) : Prop := x.2.2.1 = U x.2.2.2 ∧ SmInv a d x.1 x.2.1 x.2.2.2
def quot_Small_0_mu (a d : Nat) (x : Int × Int × List V × List Nat) : Nat := (x.1 + 1).toNat
def quot_Small_0_ex (a d : Nat) (y : Int × List Nat) : Ex × St := (.exit 0, ⟨mkS 46 [(7, (.osl 0 0 (((lim a).length : Int).toNat) 1)), (8, (.val (.int .u64 y.1)))], [⟨true, false, (U y.2)⟩]⟩)
def quot_Small_0_J (a d : Nat) (y : Int × List Nat) : Prop := SmInv a d (-1) y.1 y.2
theorem quot_Small_0 (a d : Nat) (c0 : L a ≤ 67108864)(c1 : 0 < d)(c2 : d < 4294967296) (x0 : Int × Int × List V × List Nat) (hI : quot_Small_0_I a d x0) : LoopOk Tryz.prog Amb (loopN Tryz.f208 0) (quot_Small_0_mk a d x0) (fun e st_ => ∃ y, quot_Small_0_J a d y ∧ quot_Small_0_ex a d y = (e, st_)) :=
  loop_ob hP hAmb ⟨[0, 1, 7, 8, 9], 1, []⟩ (quot_Small_0_mk a d) (quot_Small_0_I a d) (quot_Small_0_mu a d) (quot_Small_0_ex a d) (quot_Small_0_J a d) x0 hI (fun (i, r, o, l) => .lit <| .both (.lit <| .yes <| .yes <| .yes <| .lit <| .yes <| .lits 2 <| .yes <| .yes <| .yes <| .lit <| .no <| .yes <| .yes <| .lit <| .yes <| .yes <| .lit <| .yes <| .fin2 ⟨[0, 1, 7, 8, 9], 1, []⟩) (.fin2 ⟨[7, 8], 1, []⟩)) (by
    rintro ⟨i, r, o, l⟩ hI
    have hI : o = U l ∧ SmInv a d i r l := hI
    obtain ⟨rfl, h1⟩ := hI
    have ⟨p0, p1, p2, _⟩ := h1
    have e0 := L_len a
    have g4 := U_len l
    have hw := sm_word h1 c1 c2
    have hn := fun hi => (sm_next h1 hi c1 c2 hw.1).2
    exact cast_ob (And.intro True.intro (And.intro (fun (h101 : (iGe i 0) = true) => have _gh101 := iGe_t h101; And.intro (fits_u64 (by first | omega | (have := hn (by omega); omega) | (simp <;> omega)) : (fits .u64 (r * 2 ^ 32)) = true) (And.intro (inB_mk (by first | omega | (have := hn (by omega); omega) | (simp <;> omega)) : (inB i ((lim a).length)) = true) (And.intro (ld_L (by first | omega | (have := hn (by omega); omega) | (simp <;> omega)) : (Nat.blt i.toNat (lim a).length && isIntK .u32 (nth (lim a) i.toNat .unk)) = true) (And.intro (fits_u64 (by first | omega | (have := hn (by omega); omega) | (simp <;> omega)) : (fits .u64 (gi (limbs a) i.toNat)) = true) (And.intro (fits_u64 (by first | omega | (have := hn (by omega); omega) | (simp <;> omega)) : (fits .u64 (d : Int)) = true) (And.intro (and_mk (rfl) (iNe_mk (by first | omega | (have := hn (by omega); omega) | (simp <;> omega))) : (true && (iNe (d : Int) 0)) = true) (And.intro (fits_u64 (by first | omega | (have := hn (by omega); omega) | (simp <;> omega)) : (fits .u64 (Int.tdiv (wOr .u64 (r * 2 ^ 32) (gi (limbs a) i.toNat)) (d : Int))) = true) (And.intro (inB_mk (by first | omega | (have := hn (by omega); omega) | (simp <;> omega)) : (inB i (((lim a).length : Int).toNat)) = true) (And.intro (st_ok (by first | omega | (have := hn (by omega); omega) | (simp <;> omega)) : (Nat.ble ((0 + i.toNat) + 1) (U l).length) = true) (And.intro (fits_u64 (by first | omega | (have := hn (by omega); omega) | (simp <;> omega)) : (fits .u64 (d : Int)) = true) (And.intro (iNe_mk (by first | omega | (have := hn (by omega); omega) | (simp <;> omega)) : (iNe (d : Int) 0) = true) (And.intro (fits_i64 (by first | omega | (have := hn (by omega); omega) | (simp <;> omega)) : (fits .i64 (i - 1)) = true) (And.intro (rfl : true = true) ((nx_next ((i - 1), (wRem (wOr .u64 (r * 2 ^ 32) (gi (limbs a) i.toNat)) (d : Int)), (List.set (U l) (0 + i.toNat) (.int .u32 (IntKind.wrap .u32 (Int.tdiv (wOr .u64 (r * 2 ^ 32) (gi (limbs a) i.toNat)) (d : Int))))), (l.set i.toNat (IntKind.wrap .u32 (Int.tdiv (wOr .u64 (r * 2 ^ 32) (gi (limbs a) i.toNat)) (d : Int))).toNat)) (show (List.set (U l) (0 + i.toNat) (.int .u32 (IntKind.wrap .u32 (Int.tdiv (wOr .u64 (r * 2 ^ 32) (gi (limbs a) i.toNat)) (d : Int))))) = U (l.set i.toNat (IntKind.wrap .u32 (Int.tdiv (wOr .u64 (r * 2 ^ 32) (gi (limbs a) i.toNat)) (d : Int))).toNat) ∧ SmInv a d (i - 1) (wRem (wOr .u64 (r * 2 ^ 32) (gi (limbs a) i.toNat)) (d : Int)) (l.set i.toNat (IntKind.wrap .u32 (Int.tdiv (wOr .u64 (r * 2 ^ 32) (gi (limbs a) i.toNat)) (d : Int))).toNat) from ⟨setU _ (by omega) (wrap_pos _), (sm_next h1 (by omega) c1 c2 hw.1).1⟩) (show (i - 1 + 1).toNat < (i + 1).toNat by omega) : NX (quot_Small_0_mk a d) (quot_Small_0_I a d) (quot_Small_0_mu a d) (quot_Small_0_ex a d) (quot_Small_0_J a d) (i, r, (U l), l) .normal (quot_Small_0_mk a d ((i - 1), (wRem (wOr .u64 (r * 2 ^ 32) (gi (limbs a) i.toNat)) (d : Int)), (List.set (U l) (0 + i.toNat) (.int .u32 (IntKind.wrap .u32 (Int.tdiv (wOr .u64 (r * 2 ^ 32) (gi (limbs a) i.toNat)) (d : Int))))), (l.set i.toNat (IntKind.wrap .u32 (Int.tdiv (wOr .u64 (r * 2 ^ 32) (gi (limbs a) i.toNat)) (d : Int))).toNat)))))))))))))))))) (fun (h102 : (iGe i 0) = false) => have _gh102 := iGe_f h102; And.intro (rfl : true = true) ((nx_exit 0 ((quot_Small_0_ex a d (r, l)).2) (r, l) (show SmInv a d (-1) r l from (show i = -1 by omega) ▸ h1) rfl : NX (quot_Small_0_mk a d) (quot_Small_0_I a d) (quot_Small_0_mu a d) (quot_Small_0_ex a d) (quot_Small_0_J a d) (i, r, (U l), l) (.exit 0) ((quot_Small_0_ex a d (r, l)).2)))))) (by kernel_rfl))

theorem quot_Small (a : Nat) (d : Nat) (c0 : L a ≤ 67108864) (c1 : d ≠ 0) (c2 : d < 4294967296) : Impl Tryz.prog Amb 208 [(N a), (.int .u32 (d : Int))] (.tup [(N (a / d)), (.int .u32 ((a % d : Nat) : Int)), (.bool true)]) := by
  have e0 := L_len a
  exact impl_ob hP hAmb Tryz.func208 (by kernel_rfl) (.lit <| .both (.lit <| .ret) (.yes <| .lit <| .yes <| .loop ⟨[0, 1, 7, 8, 9], 1, []⟩ ((quot_Small_0_mk a d ((((lim a).length : Int) - 1), 0, (List.replicate (((lim a).length : Int).toNat) (.int .u32 0)), (List.replicate (L a) 0)))) (Int × List Nat) (quot_Small_0_ex a d) (quot_Small_0_J a d) (fun y => .yes <| .call (N (val y.2)) <| .lit <| .no <| .lit <| .ret)))
    (cast_ob (And.intro True.intro (And.intro (fun (h1 : (iEq (d : Int) 0) = true) => have _gh1 := iEq_t h1; (absurd (show (d : Int) = 0 by assumption) (by omega) : vsub (.tup [.nil, (.int .u32 0), (.bool false)]) (.tup [(N (a / d)), (.int .u32 ((a % d : Nat) : Int)), (.bool true)]))) (fun (h2 : (iEq (d : Int) 0) = false) => have _gh2 := iEq_f h2; And.intro (mk_ok (by first | omega | (simp <;> omega)) : (((iEq ((lim a).length : Int) ((lim a).length : Int)) && (iLe 0 ((lim a).length : Int))) && (iLe ((lim a).length : Int) 1073741824)) = true) (And.intro (fits_i64 (by first | omega | (simp <;> omega)) : (fits .i64 (((lim a).length : Int) - 1)) = true) (And.intro (rfl : true = true) (And.intro (rfl : (quot_Small_0_mk a d ((((lim a).length : Int) - 1), 0, (List.replicate (((lim a).length : Int).toNat) (.int .u32 0)), (List.replicate (L a) 0))) = (quot_Small_0_mk a d ((((lim a).length : Int) - 1), 0, (List.replicate (((lim a).length : Int).toNat) (.int .u32 0)), (List.replicate (L a) 0)))) (And.intro (quot_Small_0 a d c0 (by omega) c2 ((((lim a).length : Int) - 1), 0, (List.replicate (((lim a).length : Int).toNat) (.int .u32 0)), (List.replicate (L a) 0)) (show (List.replicate (((lim a).length : Int).toNat) (.int .u32 0)) = U (List.replicate (L a) 0) ∧ SmInv a d (((lim a).length : Int) - 1) 0 (List.replicate (L a) 0) from ⟨by rw [show ((lim a).length : Int).toNat = L a by omega]; exact U_rep _, by rw [L_len]; exact sm_init _ _⟩)) (fun y (hJ : quot_Small_0_J a d y) => have hJ : SmInv a d (-1) y.1 y.2 := hJ; have ⟨q0, q1, q2, q3⟩ := sm_end hJ; have q5 := U_len y.2; And.intro (ok_arg (by first | omega | (simp <;> omega)) : ((true && Nat.ble (0 + ((lim a).length : Int).toNat) (U y.2).length) && true) = true) (And.intro (nat_TrimC (List.take (((lim a).length : Int).toNat) (List.drop 0 (U y.2))) y.2 (tkU rfl (by omega)) q0 (by omega)) ((by rw [q2, show IntKind.wrap .u32 y.1 = ((a % d : Nat) : Int) by rw [wrap_u32]; have := Nat.mod_lt a (show 0 < d by omega); omega]; exact vsub_refl _ : vsub (.tup [(N (val y.2)), (.int .u32 (IntKind.wrap .u32 y.1)), (.bool true)]) (.tup [(N (a / d)), (.int .u32 ((a % d : Nat) : Int)), (.bool true)])))))))))))) (by kernel_rfl))

theorem quot_SmallI (a : Nat) (d : Int) (c0 : L a ≤ 67108864) (c1 : 0 < d ∧ d < 4294967296) : Impl Tryz.prog Amb 208 [N a, .int .u32 d] (.tup [N (a / d.toNat), .int .u32 ((a % d.toNat : Nat) : Int), .bool true]) := by
  have h := quot_Small a d.toNat c0 (by omega) (by omega)
  rwa [Int.toNat_of_nonneg (by omega)] at h

def mul_in_mk (a b : Nat) (i xv : Int) (l0 : List Nat) (x : Int × Int × List V × List Nat) : St := ⟨mkS 67 [(1, (.val (N b))), (5, (.osl 0 0 ((((lim a).length : Int) + ((lim b).length : Int)).toNat) 1)), (6, (.val (.int .i64 i))), (7, (.val (.int .u32 xv))), (8, (.val (.int .u64 x.2.1))), (17, (.val (N a))), (18, (.val (.int .i64 ((lim a).length : Int)))), (19, (.val (.int .i64 i))), (24, (.val (N b))), (25, (.val (.int .i64 ((lim b).length : Int)))), (26, (.val (.int .i64 x.1)))], [⟨true, false, x.2.2.1⟩]⟩
def mul_in_I (a b : Nat) (i xv : Int) (l0 : List Nat) (x : Int × Int × List V × List Nat) : Prop := x.2.2.1 = U x.2.2.2 ∧ MulIn b i.toNat xv l0 x.1 x.2.1 x.2.2.2
def mul_in_mu (a b : Nat) (i xv : Int) (l0 : List Nat) (x : Int × Int × List V × List Nat) : Nat := ((L b : Int) - x.1).toNat
def mul_in_ex (a b : Nat) (i xv : Int) (l0 : List Nat) (y : Int × List Nat) : Ex × St := (.exit 2, ⟨mkS 67 [(1, (.val (N b))), (5, (.osl 0 0 ((((lim a).length : Int) + ((lim b).length : Int)).toNat) 1)), (6, (.val (.int .i64 i))), (8, (.val (.int .u64 y.1))), (17, (.val (N a))), (18, (.val (.int .i64 ((lim a).length : Int)))), (19, (.val (.int .i64 i)))], [⟨true, false, (U y.2)⟩]⟩)
def mul_in_J (a b : Nat) (i xv : Int) (l0 : List Nat) (y : Int × List Nat) : Prop := MulIn b i.toNat xv l0 (L b : Int) y.1 y.2
theorem mul_in (a b : Nat) (i xv : Int) (l0 : List Nat) (c0 : L a ≤ 33554432 ∧ L b ≤ 33554432)(c1 : 0 ≤ i ∧ i < L a)(c2 : 0 ≤ xv ∧ xv < 4294967296)(c3 : l0.length = L a + L b) (x0 : Int × Int × List V × List Nat) (hI : mul_in_I a b i xv l0 x0) : LoopOk Tryz.prog Amb (loopN Tryz.f201 1) (mul_in_mk a b i xv l0 x0) (fun e st_ => ∃ y, mul_in_J a b i xv l0 y ∧ mul_in_ex a b i xv l0 y = (e, st_)) :=
  loop_ob hP hAmb ⟨[1, 5, 6, 7, 8, 17, 18, 19, 24, 25, 26], 1, []⟩ (mul_in_mk a b i xv l0) (mul_in_I a b i xv l0) (mul_in_mu a b i xv l0) (mul_in_ex a b i xv l0) (mul_in_J a b i xv l0) x0 hI (fun (k, c, o, l) => .lit <| .both (.yes <| .yes <| .lit <| .yes <| .lit <| .yes <| .lit <| .yes <| .lit <| .yes <| .yes <| .yes <| .lit <| .yes <| .lit <| .yes <| .lit <| .yes <| .lit <| .yes <| .lit <| .no <| .yes <| .yes <| .lits 2 <| .yes <| .fin2 ⟨[1, 5, 6, 7, 8, 17, 18, 19, 24, 25, 26], 1, []⟩) (.fin2 ⟨[1, 5, 6, 8, 17, 18, 19], 1, []⟩)) (by
    rintro ⟨k, c, o, l⟩ hI
    have hI : o = U l ∧ MulIn b i.toNat xv l0 k c l := hI
    obtain ⟨rfl, h1⟩ := hI
    have ⟨p0, p1, p2, p3, p4, p5, _⟩ := h1
    have e0 := L_len a
    have e1 := L_len b
    have g4 := U_len l
    have hik : 0 + (i + k).toNat = i.toNat + k.toNat := by omega
    have hb := mul_bound c2 ⟨gi_nonneg (limbs b) k.toNat, gi_lt (dig_limbs b) k.toNat⟩ ⟨gi_nonneg l (0 + (i + k).toNat), gi_lt p5 _⟩ ⟨p2, p3⟩
    have g0 := gi_nonneg (limbs b) k.toNat
    have g1 := gi_lt (dig_limbs b) k.toNat
    have g2 := gi_nonneg l (0 + (i + k).toNat)
    have g3 := gi_lt p5 (0 + (i + k).toNat)
    exact cast_ob (And.intro True.intro (And.intro (fun (h101 : (iLt k ((lim b).length : Int)) = true) => have _gh101 := iLt_t h101; And.intro (inB_mk (by first | omega | (simp <;> omega)) : (inB k ((lim b).length)) = true) (And.intro (ld_L (by first | omega | (simp <;> omega)) : (Nat.blt k.toNat (lim b).length && isIntK .u32 (nth (lim b) k.toNat .unk)) = true) (And.intro (fits_u64 (by first | omega | (simp <;> omega)) : (fits .u64 xv) = true) (And.intro (fits_u64 (by first | omega | (simp <;> omega)) : (fits .u64 (gi (limbs b) k.toNat)) = true) (And.intro (fits_u64 (by first | omega | (simp <;> omega)) : (fits .u64 (xv * (gi (limbs b) k.toNat))) = true) (And.intro (fits_i64 (by first | omega | (simp <;> omega)) : (fits .i64 (i + k)) = true) (And.intro (inB_mk (by first | omega | (simp <;> omega)) : (inB (i + k) ((((lim a).length : Int) + ((lim b).length : Int)).toNat)) = true) (And.intro (ld_U (by first | omega | (simp <;> omega)) : (Nat.blt (0 + (i + k).toNat) (U l).length && isIntK .u32 (nth (U l) (0 + (i + k).toNat) .unk)) = true) (And.intro (fits_u64 (by first | omega | (simp <;> omega)) : (fits .u64 (gi l (0 + (i + k).toNat))) = true) (And.intro (fits_u64 (by first | omega | (simp <;> omega)) : (fits .u64 ((xv * (gi (limbs b) k.toNat)) + (gi l (0 + (i + k).toNat)))) = true) (And.intro (fits_u64 (by first | omega | (simp <;> omega)) : (fits .u64 (c + ((xv * (gi (limbs b) k.toNat)) + (gi l (0 + (i + k).toNat))))) = true) (And.intro (fits_i64 (by first | omega | (simp <;> omega)) : (fits .i64 (i + k)) = true) (And.intro (inB_mk (by first | omega | (simp <;> omega)) : (inB (i + k) ((((lim a).length : Int) + ((lim b).length : Int)).toNat)) = true) (And.intro (st_ok (by first | omega | (simp <;> omega)) : (Nat.ble ((0 + (i + k).toNat) + 1) (U l).length) = true) (And.intro (fits_i64 (by first | omega | (simp <;> omega)) : (fits .i64 (k + 1)) = true) (And.intro (rfl : true = true) ((nx_next ((k + 1), (Int.fdiv (c + ((xv * (gi (limbs b) k.toNat)) + (gi l (0 + (i + k).toNat)))) (2 ^ 32)), (List.set (U l) (0 + (i + k).toNat) (.int .u32 (IntKind.wrap .u32 (c + ((xv * (gi (limbs b) k.toNat)) + (gi l (0 + (i + k).toNat))))))), (l.set (i.toNat + k.toNat) (IntKind.wrap .u32 (c + ((xv * (gi (limbs b) k.toNat)) + (gi l (0 + (i + k).toNat))))).toNat)) (show (List.set (U l) (0 + (i + k).toNat) (.int .u32 (IntKind.wrap .u32 (c + ((xv * (gi (limbs b) k.toNat)) + (gi l (0 + (i + k).toNat))))))) = U (l.set (i.toNat + k.toNat) (IntKind.wrap .u32 (c + ((xv * (gi (limbs b) k.toNat)) + (gi l (0 + (i + k).toNat))))).toNat) ∧ MulIn b i.toNat xv l0 (k + 1) (Int.fdiv (c + ((xv * (gi (limbs b) k.toNat)) + (gi l (0 + (i + k).toNat)))) (2 ^ 32)) (l.set (i.toNat + k.toNat) (IntKind.wrap .u32 (c + ((xv * (gi (limbs b) k.toNat)) + (gi l (0 + (i + k).toNat))))).toNat) from ⟨setU _ hik (wrap_pos _), mulin_next h1 (by omega) c2 (by omega) (by rw [← hik])⟩) (show ((L b : Int) - (k + 1)).toNat < ((L b : Int) - k).toNat by omega) : NX (mul_in_mk a b i xv l0) (mul_in_I a b i xv l0) (mul_in_mu a b i xv l0) (mul_in_ex a b i xv l0) (mul_in_J a b i xv l0) (k, c, (U l), l) .normal (mul_in_mk a b i xv l0 ((k + 1), (Int.fdiv (c + ((xv * (gi (limbs b) k.toNat)) + (gi l (0 + (i + k).toNat)))) (2 ^ 32)), (List.set (U l) (0 + (i + k).toNat) (.int .u32 (IntKind.wrap .u32 (c + ((xv * (gi (limbs b) k.toNat)) + (gi l (0 + (i + k).toNat))))))), (l.set (i.toNat + k.toNat) (IntKind.wrap .u32 (c + ((xv * (gi (limbs b) k.toNat)) + (gi l (0 + (i + k).toNat))))).toNat))))))))))))))))))))) (fun (h102 : (iLt k ((lim b).length : Int)) = false) => have _gh102 := iLt_f h102; And.intro (rfl : true = true) ((nx_exit 2 ((mul_in_ex a b i xv l0 (c, l)).2) (c, l) (show MulIn b i.toNat xv l0 (L b : Int) c l from (show k = (L b : Int) by omega) ▸ h1) rfl : NX (mul_in_mk a b i xv l0) (mul_in_I a b i xv l0) (mul_in_mu a b i xv l0) (mul_in_ex a b i xv l0) (mul_in_J a b i xv l0) (k, c, (U l), l) (.exit 2) ((mul_in_ex a b i xv l0 (c, l)).2)))))) (by kernel_rfl))

def mul_out_mk (a b : Nat) (x : Int × List V × List Nat) : St := ⟨mkS 67 [(1, (.val (N b))), (5, (.osl 0 0 ((((lim a).length : Int) + ((lim b).length : Int)).toNat) 1)), (17, (.val (N a))), (18, (.val (.int .i64 ((lim a).length : Int)))), (19, (.val (.int .i64 x.1)))], [⟨true, false, x.2.1⟩]⟩
def mul_out_I (a b : Nat) (x : Int × List V × List Nat) : Prop := x.2.1 = U x.2.2 ∧ MulInv a b x.1 x.2.2
def mul_out_mu (a b : Nat) (x : Int × List V × List Nat) : Nat := ((L a : Int) - x.1).toNat
def mul_out_ex (a b : Nat) (y : List Nat) : Ex × St := (.exit 0, ⟨mkS 67 [(5, (.osl 0 0 ((((lim a).length : Int) + ((lim b).length : Int)).toNat) 1))], [⟨true, false, (U y)⟩]⟩)
def mul_out_J (a b : Nat) (y : List Nat) : Prop := MulInv a b (L a : Int) y
theorem mul_out (a b : Nat) (c0 : L a ≤ 33554432 ∧ L b ≤ 33554432) (x0 : Int × List V × List Nat) (hI : mul_out_I a b x0) : LoopOk Tryz.prog Amb (loopN Tryz.f201 0) (mul_out_mk a b x0) (fun e st_ => ∃ y, mul_out_J a b y ∧ mul_out_ex a b y = (e, st_)) :=
  loop_ob hP hAmb ⟨[1, 5, 17, 18, 19], 1, []⟩ (mul_out_mk a b) (mul_out_I a b) (mul_out_mu a b) (mul_out_ex a b) (mul_out_J a b) x0 hI (fun (i, o, l) => .lit <| .both (.yes <| .yes <| .loop ⟨[1, 5, 6, 7, 8, 17, 18, 19, 24, 25, 26], 1, []⟩ ((mul_in_mk a b i (gi (limbs a) i.toNat) l (0, 0, o, l))) (Int × List Nat) (mul_in_ex a b i (gi (limbs a) i.toNat) l) (mul_in_J a b i (gi (limbs a) i.toNat) l) (fun y => .lit <| .yes <| .lit <| .no <| .yes <| .yes <| .lit <| .yes <| .fin2 ⟨[1, 5, 17, 18, 19], 1, []⟩)) (.fin2 ⟨[5], 1, []⟩)) (by
    rintro ⟨i, o, l⟩ hI
    have hI : o = U l ∧ MulInv a b i l := hI
    obtain ⟨rfl, h1⟩ := hI
    have ⟨p0, p1, p2, _⟩ := h1
    have e0 := L_len a
    have e1 := L_len b
    have g4 := U_len l
    exact cast_ob (And.intro True.intro (And.intro (fun (h101 : (iLt i ((lim a).length : Int)) = true) => have _gh101 := iLt_t h101; And.intro (inB_mk (by first | omega | (simp <;> omega)) : (inB i ((lim a).length)) = true) (And.intro (ld_L (by first | omega | (simp <;> omega)) : (Nat.blt i.toNat (lim a).length && isIntK .u32 (nth (lim a) i.toNat .unk)) = true) (And.intro (rfl : true = true) (And.intro (rfl : (mul_in_mk a b i (gi (limbs a) i.toNat) l (0, 0, (U l), l)) = (mul_in_mk a b i (gi (limbs a) i.toNat) l (0, 0, (U l), l))) (And.intro (mul_in a b i (gi (limbs a) i.toNat) l c0 (by omega) (⟨gi_nonneg _ _, gi_lt (dig_limbs a) _⟩) (by omega) (0, 0, (U l), l) (show (U l) = U l ∧ MulIn b i.toNat (gi (limbs a) i.toNat) l 0 0 l from ⟨rfl, mulin_init _ _ _ h1.2.2.2.1⟩)) (fun y (hJ : mul_in_J a b i (gi (limbs a) i.toNat) l y) => have hJ : MulIn b i.toNat (gi (limbs a) i.toNat) l (L b : Int) y.1 y.2 := hJ; have ⟨_, _, y2, y3, y4, _⟩ := hJ; have y5 := U_len y.2; And.intro (fits_i64 (by first | omega | (simp <;> omega)) : (fits .i64 (i + ((lim b).length : Int))) = true) (And.intro (inB_mk (by first | omega | (simp <;> omega)) : (inB (i + ((lim b).length : Int)) ((((lim a).length : Int) + ((lim b).length : Int)).toNat)) = true) (And.intro (st_ok (by first | omega | (simp <;> omega)) : (Nat.ble ((0 + (i + ((lim b).length : Int)).toNat) + 1) (U y.2).length) = true) (And.intro (fits_i64 (by first | omega | (simp <;> omega)) : (fits .i64 (i + 1)) = true) (And.intro (rfl : true = true) ((nx_next ((i + 1), (List.set (U y.2) (0 + (i + ((lim b).length : Int)).toNat) (.int .u32 (IntKind.wrap .u32 y.1))), (y.2.set (i.toNat + L b) (IntKind.wrap .u32 y.1).toNat)) (show (List.set (U y.2) (0 + (i + ((lim b).length : Int)).toNat) (.int .u32 (IntKind.wrap .u32 y.1))) = U (y.2.set (i.toNat + L b) (IntKind.wrap .u32 y.1).toNat) ∧ MulInv a b (i + 1) (y.2.set (i.toNat + L b) (IntKind.wrap .u32 y.1).toNat) from ⟨setU _ (by omega) (wrap_pos _), mul_next h1 (by omega) rfl hJ⟩) (show ((L a : Int) - (i + 1)).toNat < ((L a : Int) - i).toNat by omega) : NX (mul_out_mk a b) (mul_out_I a b) (mul_out_mu a b) (mul_out_ex a b) (mul_out_J a b) (i, (U l), l) .normal (mul_out_mk a b ((i + 1), (List.set (U y.2) (0 + (i + ((lim b).length : Int)).toNat) (.int .u32 (IntKind.wrap .u32 y.1))), (y.2.set (i.toNat + L b) (IntKind.wrap .u32 y.1).toNat))))))))))))))) (fun (h102 : (iLt i ((lim a).length : Int)) = false) => have _gh102 := iLt_f h102; And.intro (rfl : true = true) ((nx_exit 0 ((mul_out_ex a b l).2) l (show MulInv a b (L a : Int) l from (show i = (L a : Int) by omega) ▸ h1) rfl : NX (mul_out_mk a b) (mul_out_I a b) (mul_out_mu a b) (mul_out_ex a b) (mul_out_J a b) (i, (U l), l) (.exit 0) ((mul_out_ex a b l).2)))))) (by kernel_rfl))

theorem prod_Mul (a : Nat) (b : Nat) (c0 : L a ≤ 33554432) (c1 : L b ≤ 33554432) : Impl Tryz.prog Amb 201 [(N a), (N b)] (N (a * b)) := by
  have e0 := L_len a
  have e1 := L_len b
  exact impl_ob hP hAmb Tryz.func201 (by kernel_rfl) (.lit <| .yes <| .yes <| .loop ⟨[1, 5, 17, 18, 19], 1, []⟩ ((mul_out_mk a b (0, (List.replicate ((((lim a).length : Int) + ((lim b).length : Int)).toNat) (.int .u32 0)), (List.replicate (L a + L b) 0)))) (List Nat) (mul_out_ex a b) (mul_out_J a b) (fun y => .yes <| .call (N (val y)) <| .lit <| .ret))
    (cast_ob (And.intro True.intro (And.intro (fits_i64 (by first | omega | (simp <;> omega)) : (fits .i64 (((lim a).length : Int) + ((lim b).length : Int))) = true) (And.intro (mk_ok (by first | omega | (simp <;> omega)) : (((iEq (((lim a).length : Int) + ((lim b).length : Int)) (((lim a).length : Int) + ((lim b).length : Int))) && (iLe 0 (((lim a).length : Int) + ((lim b).length : Int)))) && (iLe (((lim a).length : Int) + ((lim b).length : Int)) 1073741824)) = true) (And.intro (rfl : true = true) (And.intro (rfl : (mul_out_mk a b (0, (List.replicate ((((lim a).length : Int) + ((lim b).length : Int)).toNat) (.int .u32 0)), (List.replicate (L a + L b) 0))) = (mul_out_mk a b (0, (List.replicate ((((lim a).length : Int) + ((lim b).length : Int)).toNat) (.int .u32 0)), (List.replicate (L a + L b) 0)))) (And.intro (mul_out a b (by omega) (0, (List.replicate ((((lim a).length : Int) + ((lim b).length : Int)).toNat) (.int .u32 0)), (List.replicate (L a + L b) 0)) (show (List.replicate ((((lim a).length : Int) + ((lim b).length : Int)).toNat) (.int .u32 0)) = U (List.replicate (L a + L b) 0) ∧ MulInv a b 0 (List.replicate (L a + L b) 0) from ⟨by rw [show ((((lim a).length : Int) + ((lim b).length : Int)).toNat) = L a + L b by omega]; exact U_rep _, mul_init _ _⟩)) (fun y (hJ : mul_out_J a b y) => have hJ : MulInv a b (L a : Int) y := hJ; have ⟨q0, q1, q2⟩ := mul_end hJ; have q5 := U_len y; And.intro (ok_arg (by first | omega | (simp <;> omega)) : ((true && Nat.ble (0 + ((((lim a).length : Int) + ((lim b).length : Int)).toNat)) (U y).length) && true) = true) (And.intro (nat_TrimC (List.take ((((lim a).length : Int) + ((lim b).length : Int)).toNat) (List.drop 0 (U y))) y (tkU rfl (by omega)) q0 (by omega)) ((vsub_of (congrArg N q2) : vsub (N (val y)) (N (a * b)))))))))))) (by kernel_rfl))

end Go.Proofs.YtmbpoibhamlkbaaGreatDoor

namespace Go.Proofs.YtmbpoibhamlkbaaGreatDoor

def sgn (b : Bool) (a : Nat) : Int := if b then -(a : Int) else a
theorem sgn_nat {p : Prop} [Decidable p] {a : Nat} {z : Int} (h1 : p → z = -(a : Int)) (h2 : ¬ p → z = (a : Int)) : sgn (decide p) a = z := by
  unfold sgn
  by_cases h : p
  · simp [h, h1 h]
  · simp [h, h2 h]
theorem sgn_t (a : Nat) : sgn true a = -(a : Int) := rfl
theorem sgn_f (a : Nat) : sgn false a = (a : Int) := rfl
theorem sgn_abs (b : Bool) (a : Nat) : (sgn b a).natAbs = a := by unfold sgn; split <;> omega
theorem bEq_t {p q : Prop} [Decidable p] [Decidable q] (h : bEq (decide p) (decide q) = true) : p ↔ q := by
  unfold bEq at h; simpa using h
theorem bEq_f {p q : Prop} [Decidable p] [Decidable q] (h : bEq (decide p) (decide q) = false) : ¬ (p ↔ q) := by
  unfold bEq at h; simpa using h
theorem Z_mk {b : Bool} {n : Nat} {z : Int} (hb : b = decide (z < 0)) (hn : n = z.natAbs) : V.agg [.bool b, N n] = Z z := by subst hb; subst hn; rfl
theorem Z_of {x y : Int} (h : x = y) : vsub (Z x) (Z y) := vsub_of (congrArg Z h)
theorem L_abs_add (x y : Int) : L (x + y).natAbs ≤ max (L x.natAbs) (L y.natAbs) + 1 := by
  have h := L_add x.natAbs y.natAbs
  have := L_mono (show (x + y).natAbs ≤ x.natAbs + y.natAbs by omega)
  omega
theorem L_abs_mul (x y : Int) : L (x * y).natAbs ≤ L x.natAbs + L y.natAbs := by rw [Int.natAbs_mul]; exact L_mul _ _
theorem L_abs_neg (x : Int) : L (-x).natAbs = L x.natAbs := by rw [Int.natAbs_neg]
def cmpI (x y : Int) : Int := if x < y then -1 else if y < x then 1 else 0
theorem L_pos_iff (n : Nat) : 0 < L n ↔ 0 < n := by
  constructor
  · intro h; rcases Nat.eq_zero_or_pos n with q | q
    · subst q; rw [L_zero] at h; omega
    · exact q
  · intro h; exact L_pos (by omega)
theorem nbits_zero_iff (n : Nat) : nbits n = 0 ↔ n = 0 := by unfold nbits; split <;> omega
theorem sgn_mul (x y : Int) : sgn (!bEq (decide (x < 0)) (decide (y < 0))) (x.natAbs * y.natAbs) = x * y := by
  unfold sgn bEq
  by_cases hx : x < 0 <;> by_cases hy : y < 0 <;> simp [hx, hy]
  · rw [show ((x.natAbs : Nat) : Int) = -x by omega, show ((y.natAbs : Nat) : Int) = -y by omega, Int.neg_mul_neg]
  · rw [show ((x.natAbs : Nat) : Int) = -x by omega, show ((y.natAbs : Nat) : Int) = y by omega, Int.neg_mul, Int.neg_neg]
  · rw [show ((x.natAbs : Nat) : Int) = x by omega, show ((y.natAbs : Nat) : Int) = -y by omega, Int.mul_neg, Int.neg_neg]
  · rw [show ((x.natAbs : Nat) : Int) = x by omega, show ((y.natAbs : Nat) : Int) = y by omega]
theorem sgn_shl (x : Int) (k : Nat) : sgn (decide (x < 0)) (x.natAbs * 2 ^ k) = x * 2 ^ k := by
  have h : ((x.natAbs * 2 ^ k : Nat) : Int) = ((x.natAbs : Nat) : Int) * 2 ^ k := by rw [Int.natCast_mul, pow_cast]
  refine sgn_nat (fun hx => ?_) (fun hx => ?_)
  · rw [h, show ((x.natAbs : Nat) : Int) = -x by omega, Int.neg_mul, Int.neg_neg]
  · rw [h, show ((x.natAbs : Nat) : Int) = x by omega]
theorem shr_pos {x : Int} (hx : ¬ x < 0) (k : Nat) : sgn (decide (x < 0)) (x.natAbs / 2 ^ k) = x / 2 ^ k := by
  rw [show decide (x < 0) = false by simpa using hx, sgn_f, Int.natCast_ediv, ← pow_cast, show ((x.natAbs : Nat) : Int) = x by omega]
theorem shr_neg0 {x : Int} (hx : x < 0) (k : Nat) (h0 : x.natAbs % 2 ^ k = 0) : sgn (decide (x < 0)) (x.natAbs / 2 ^ k) = x / 2 ^ k := by
  obtain ⟨m, hm⟩ := Nat.dvd_of_mod_eq_zero h0
  have hp := Nat.two_pow_pos k
  have e : x = (2 ^ k : Int) * (-(m : Int)) := by
    have : (x.natAbs : Int) = (2 ^ k : Int) * m := by rw [hm, Int.natCast_mul, ← pow_cast]
    rw [Int.mul_neg, ← this]; omega
  have hq : x / 2 ^ k = -(m : Int) := by
    conv => lhs; rw [e]
    exact Int.mul_ediv_cancel_left _ (by rw [pow_cast]; omega)
  rw [hq, hm, Nat.mul_div_cancel_left _ hp, show decide (x < 0) = true by simpa using hx, sgn_t]
theorem shr_neg1 {x : Int} (hx : x < 0) (k : Nat) (h0 : 0 < x.natAbs % 2 ^ k) : sgn (decide (x < 0)) (x.natAbs / 2 ^ k + 1) = x / 2 ^ k := by
  have hp := Nat.two_pow_pos k
  have hdm := Nat.div_add_mod x.natAbs (2 ^ k)
  have hlt := Nat.mod_lt x.natAbs hp
  rw [show decide (x < 0) = true by simpa using hx, sgn_t, pow_cast]
  generalize 2 ^ k = p at *
  generalize x.natAbs / p = q at *
  generalize x.natAbs % p = r at *
  symm
  rw [Int.ediv_eq_iff_of_pos (by omega)]
  have hxe : x = -((p * q + r : Nat) : Int) := by omega
  rw [hxe]
  push_cast
  constructor
  · rw [Int.neg_mul, Int.add_mul, Int.mul_comm (q : Int)]; omega
  · rw [Int.neg_mul, Int.add_mul, Int.mul_comm (q : Int)]; omega
theorem nat_ret1 {b : Bool} (hb : b = true) (a : Nat) : vsub (.agg [.bool (iGt ((lim a).length : Int) 0), N a]) (Z (sgn b a)) := by
  subst hb
  refine vsub_of (Z_mk ?_ (sgn_abs _ _).symm)
  have := L_pos_iff a
  have := L_len a
  rw [sgn_t]
  by_cases h : 0 < a
  · rw [iGt_mk (by omega)]; exact (decide_eq_true (by omega)).symm
  · rw [iGt_mkF (by omega)]; exact (decide_eq_false (by omega)).symm
theorem nat_ret2 {b : Bool} (hb : b = false) (a : Nat) : vsub (.agg [.bool false, N a]) (Z (sgn b a)) := by
  subst hb
  refine vsub_of (Z_mk ?_ (sgn_abs _ _).symm)
  rw [sgn_f]
  exact (decide_eq_false (by omega)).symm
end Go.Proofs.YtmbpoibhamlkbaaGreatDoor

namespace Go.Proofs.YtmbpoibhamlkbaaGreatDoor
open Go.RowKit
set_option maxRecDepth 100000

theorem nat_SubF (a b : Nat) (c0 : L a ≤ 67108864) (c1 : L b ≤ 67108864) (c2 : a < b) : Impl Tryz.prog Amb 181 [N a, N b] (.tup [N (a - b), .bool false]) := by
  have e2 : cmpN a b < 0 := by rw [cmpN_lt c2]; omega
  exact impl_ob hP hAmb Tryz.func181 (by kernel_rfl) (.lit <| .call (.int .i64 (cmpN a b)) <| .lit <| .yes <| .lit <| .ret)
    (cast_ob (And.intro True.intro (And.intro (nat_Cmp a b (by first | omega | (simp <;> omega)) (by first | omega | (simp <;> omega))) (And.intro (iLt_mk (by omega) : (iLt (cmpN a b) 0) = true) ((vsub_tup2 (by rw [show a - b = 0 by omega]; show vsub .nil (.sl 1 (U (limbs 0))); rw [limbs_zero]; exact vsub_nil 1) (vsub_refl _) : vsub (.tup [.nil, (.bool false)]) (.tup [(N (a - b)), (.bool false)])))))) (by kernel_rfl))

theorem nat_Sub2 (a b : Nat) (c0 : L a ≤ 67108864) (c1 : L b ≤ 67108864) : Impl Tryz.prog Amb 181 [N a, N b] (.tup [N (a - b), .bool (decide (b ≤ a))]) := by
  by_cases h : b ≤ a
  · rw [show decide (b ≤ a) = true by simpa using h]
    exact nat_Sub a b c0 c1 h
  · rw [show decide (b ≤ a) = false by simpa using h]
    exact nat_SubF a b c0 c1 (by omega)

theorem int_Nat (b : Bool) (a : Nat) (c0 : L a ≤ 67108864) : Impl Tryz.prog Amb 135 [(.bool b), (N a)] (.agg [(.bool (decide ((sgn b a) < 0))), (N ((sgn b a).natAbs))]) := by
  exact impl_ob hP hAmb Tryz.func135 (by kernel_rfl) (.lit <| .call (N a) <| .both (.lits 7 <| .ret) (.lits 6 <| .ret))
    (cast_ob (And.intro True.intro (And.intro (nat_TrimN a (by first | omega | (simp <;> omega))) (And.intro (fun (h1 : b = true) => (nat_ret1 h1 a : vsub (.agg [(.bool (iGt ((lim a).length : Int) 0)), (N a)]) (.agg [(.bool (decide ((sgn b a) < 0))), (N ((sgn b a).natAbs))]))) (fun (h2 : b = false) => (nat_ret2 h2 a : vsub (.agg [(.bool false), (N a)]) (.agg [(.bool (decide ((sgn b a) < 0))), (N ((sgn b a).natAbs))])))))) (by kernel_rfl))

theorem int_Sign (x : Int) (c0 : L (x).natAbs ≤ 67108864) : Impl Tryz.prog Amb 137 [(.agg [(.bool (decide (x < 0))), (N x.natAbs)])] (.int .i64 ((x).sign)) := by
  exact impl_ob hP hAmb Tryz.func137 (by kernel_rfl) (.lits 2 <| .call (.int .i64 (nbits x.natAbs : Int)) <| .lit <| .both (.lit <| .ret) (.lit <| .both (.lit <| .ret) (.lit <| .ret)))
    (cast_ob (And.intro True.intro (And.intro (nat_Bits x.natAbs (by first | omega | (simp <;> omega))) (And.intro (fun (h1 : (iEq (nbits x.natAbs : Int) 0) = true) => have _gh1 := iEq_t h1; (vsub_of (congrArg (V.int .i64) (by rw [show x = 0 by have := (nbits_zero_iff x.natAbs).1 (by omega); omega]; rfl)) : vsub (.int .i64 0) (.int .i64 ((x).sign)))) (fun (h2 : (iEq (nbits x.natAbs : Int) 0) = false) => have _gh2 := iEq_f h2; And.intro (fun (h3 : (decide (x < 0)) = true) => have _gh3 := of_decide_eq_true h3; (vsub_of (congrArg (V.int .i64) (Int.sign_eq_neg_one_of_neg (by omega)).symm) : vsub (.int .i64 (-1)) (.int .i64 ((x).sign)))) (fun (h4 : (decide (x < 0)) = false) => have _gh4 := of_decide_eq_false h4; (vsub_of (congrArg (V.int .i64) (Int.sign_eq_one_of_pos (by have := (nbits_zero_iff x.natAbs).2; omega)).symm) : vsub (.int .i64 1) (.int .i64 ((x).sign)))))))) (by kernel_rfl))

theorem int_Valid (x : Int) (c0 : L (x).natAbs ≤ 67108864) : Impl Tryz.prog Amb 187 [(.agg [(.bool (decide (x < 0))), (N x.natAbs)])] (.bool true) := by
  have e0 := L_len x.natAbs
  have e1 := L_pos_iff x.natAbs
  exact impl_ob hP hAmb Tryz.func187 (by kernel_rfl) (.lits 2 <| .call (.bool true) <| .lits 7 <| .both (.lits 6 <| .ret) (.lits 8 <| .ret))
    (cast_ob (And.intro True.intro (And.intro (nat_Valid x.natAbs (by first | omega | (simp <;> omega))) (And.intro (fun (h1 : (iGt ((lim x.natAbs).length : Int) 0) = true) => have _gh1 := iGt_t h1; (vsub_refl _ : vsub (.bool true) (.bool true))) (fun (h2 : (iGt ((lim x.natAbs).length : Int) 0) = false) => have _gh2 := iGt_f h2; (vsub_of (congrArg V.bool (by first | rfl | (apply iGt_mk; omega) | (apply iGt_mk; rw [L_len]; omega) | simp_all | (simp; omega))) : vsub (.bool (!(decide (x < 0)))) (.bool true)))))) (by kernel_rfl))

theorem int_Neg (x : Int) (c0 : L (x).natAbs ≤ 67108864) : Impl Tryz.prog Amb 77 [(.agg [(.bool (decide (x < 0))), (N x.natAbs)])] (.agg [(.bool (decide ((-x) < 0))), (N ((-x).natAbs))]) := by
  exact impl_ob hP hAmb Tryz.func77 (by kernel_rfl) (.lits 4 <| .call (.agg [(.bool (decide ((sgn (!(decide (x < 0))) x.natAbs) < 0))), (N ((sgn (!(decide (x < 0))) x.natAbs).natAbs))]) <| .lits 2 <| .ret)
    (cast_ob (And.intro True.intro (And.intro (int_Nat (!(decide (x < 0))) x.natAbs (by first | omega | (simp <;> omega))) ((Z_of (by unfold sgn; by_cases h : x < 0 <;> simp [h] <;> omega) : vsub (.agg [(.bool (decide ((sgn (!(decide (x < 0))) x.natAbs) < 0))), (N ((sgn (!(decide (x < 0))) x.natAbs).natAbs))]) (.agg [(.bool (decide ((-x) < 0))), (N ((-x).natAbs))]))))) (by kernel_rfl))

theorem int_Cmp (x : Int) (y : Int) (c0 : L (x).natAbs ≤ 67108864) (c1 : L (y).natAbs ≤ 67108864) : Impl Tryz.prog Amb 79 [(.agg [(.bool (decide (x < 0))), (N x.natAbs)]), (.agg [(.bool (decide (y < 0))), (N y.natAbs)])] (.int .i64 (cmpI x y)) := by
  exact impl_ob hP hAmb Tryz.func79 (by kernel_rfl) (.lit <| .both (.lits 3 <| .both (.lits 3 <| .call (.int .i64 (cmpN y.natAbs x.natAbs)) <| .lit <| .ret) (.lit <| .both (.lit <| .ret) (.lit <| .both (.lit <| .ret) (.lits 3 <| .call (.int .i64 (cmpN x.natAbs y.natAbs)) <| .lit <| .ret)))) (.lits 4 <| .both (.lit <| .ret) (.lit <| .both (.lit <| .ret) (.lits 3 <| .call (.int .i64 (cmpN x.natAbs y.natAbs)) <| .lit <| .ret))))
    (cast_ob (And.intro True.intro (And.intro (fun (h1 : (decide (x < 0)) = true) => have _gh1 := of_decide_eq_true h1; And.intro (fun (h2 : (decide (y < 0)) = true) => have _gh2 := of_decide_eq_true h2; And.intro (nat_Cmp y.natAbs x.natAbs (by first | omega | (simp <;> omega)) (by first | omega | (simp <;> omega))) ((vsub_of (congrArg (V.int .i64) (by unfold cmpI; (try unfold cmpN); repeat' split <;> omega)) : vsub (.int .i64 (cmpN y.natAbs x.natAbs)) (.int .i64 (cmpI x y))))) (fun (h3 : (decide (y < 0)) = false) => have _gh3 := of_decide_eq_false h3; And.intro (fun (h4 : (decide (x < 0)) = true) => have _gh4 := of_decide_eq_true h4; (vsub_of (congrArg (V.int .i64) (by unfold cmpI; (try unfold cmpN); repeat' split <;> omega)) : vsub (.int .i64 (-1)) (.int .i64 (cmpI x y)))) (fun (h5 : (decide (x < 0)) = false) => have _gh5 := of_decide_eq_false h5; And.intro (fun (h6 : (decide (y < 0)) = true) => have _gh6 := of_decide_eq_true h6; (vsub_of (congrArg (V.int .i64) (by unfold cmpI; (try unfold cmpN); repeat' split <;> omega)) : vsub (.int .i64 1) (.int .i64 (cmpI x y)))) (fun (h7 : (decide (y < 0)) = false) => have _gh7 := of_decide_eq_false h7; And.intro (nat_Cmp x.natAbs y.natAbs (by first | omega | (simp <;> omega)) (by first | omega | (simp <;> omega))) ((vsub_of (congrArg (V.int .i64) (by unfold cmpI; (try unfold cmpN); repeat' split <;> omega)) : vsub (.int .i64 (cmpN x.natAbs y.natAbs)) (.int .i64 (cmpI x y)))))))) (fun (h8 : (decide (x < 0)) = false) => have _gh8 := of_decide_eq_false h8; And.intro (fun (h9 : (decide (x < 0)) = true) => have _gh9 := of_decide_eq_true h9; (vsub_of (congrArg (V.int .i64) (by unfold cmpI; (try unfold cmpN); repeat' split <;> omega)) : vsub (.int .i64 (-1)) (.int .i64 (cmpI x y)))) (fun (h10 : (decide (x < 0)) = false) => have _gh10 := of_decide_eq_false h10; And.intro (fun (h11 : (decide (y < 0)) = true) => have _gh11 := of_decide_eq_true h11; (vsub_of (congrArg (V.int .i64) (by unfold cmpI; (try unfold cmpN); repeat' split <;> omega)) : vsub (.int .i64 1) (.int .i64 (cmpI x y)))) (fun (h12 : (decide (y < 0)) = false) => have _gh12 := of_decide_eq_false h12; And.intro (nat_Cmp x.natAbs y.natAbs (by first | omega | (simp <;> omega)) (by first | omega | (simp <;> omega))) ((vsub_of (congrArg (V.int .i64) (by unfold cmpI; (try unfold cmpN); repeat' split <;> omega)) : vsub (.int .i64 (cmpN x.natAbs y.natAbs)) (.int .i64 (cmpI x y))))))))) (by kernel_rfl))

theorem int_Mul (x : Int) (y : Int) (c0 : L (x).natAbs ≤ 33554432) (c1 : L (y).natAbs ≤ 33554432) : Impl Tryz.prog Amb 170 [(.agg [(.bool (decide (x < 0))), (N x.natAbs)]), (.agg [(.bool (decide (y < 0))), (N y.natAbs)])] (.agg [(.bool (decide ((x * y) < 0))), (N ((x * y).natAbs))]) := by
  have l0 := L_mul x.natAbs y.natAbs
  exact impl_ob hP hAmb Tryz.func170 (by kernel_rfl) (.lits 6 <| .call (N (x.natAbs * y.natAbs)) <| .lit <| .call (.agg [(.bool (decide ((sgn (!(bEq (decide (x < 0)) (decide (y < 0)))) (x.natAbs * y.natAbs)) < 0))), (N ((sgn (!(bEq (decide (x < 0)) (decide (y < 0)))) (x.natAbs * y.natAbs)).natAbs))]) <| .lits 2 <| .ret)
    (cast_ob (And.intro True.intro (And.intro (prod_Mul x.natAbs y.natAbs (by first | omega | (simp <;> omega)) (by first | omega | (simp <;> omega))) (And.intro (int_Nat (!(bEq (decide (x < 0)) (decide (y < 0)))) (x.natAbs * y.natAbs) (by first | omega | (simp <;> omega))) ((Z_of (sgn_mul x y) : vsub (.agg [(.bool (decide ((sgn (!(bEq (decide (x < 0)) (decide (y < 0)))) (x.natAbs * y.natAbs)) < 0))), (N ((sgn (!(bEq (decide (x < 0)) (decide (y < 0)))) (x.natAbs * y.natAbs)).natAbs))]) (.agg [(.bool (decide ((x * y) < 0))), (N ((x * y).natAbs))])))))) (by kernel_rfl))

theorem int_Shl (x : Int) (n : Int) (c0 : L (x).natAbs ≤ 33554432) (c1 : (0 : Int) ≤ n ∧ n ≤ 1048576) : Impl Tryz.prog Amb 133 [(.agg [(.bool (decide (x < 0))), (N x.natAbs)]), (.int .i64 n)] (.agg [(.bool (decide ((x * 2 ^ (n).toNat) < 0))), (N ((x * 2 ^ (n).toNat).natAbs))]) := by
  have l0 := L_shl x.natAbs n.toNat
  exact impl_ob hP hAmb Tryz.func133 (by kernel_rfl) (.lits 3 <| .call (N (x.natAbs * 2 ^ (n).toNat)) <| .lit <| .call (.agg [(.bool (decide ((sgn (decide (x < 0)) (x.natAbs * 2 ^ (n).toNat)) < 0))), (N ((sgn (decide (x < 0)) (x.natAbs * 2 ^ (n).toNat)).natAbs))]) <| .lits 2 <| .ret)
    (cast_ob (And.intro True.intro (And.intro (nat_Shl x.natAbs n (by first | omega | (simp <;> omega)) (by first | omega | (simp <;> omega))) (And.intro (int_Nat (decide (x < 0)) (x.natAbs * 2 ^ (n).toNat) (by first | omega | (simp <;> omega))) ((Z_of (sgn_shl x _) : vsub (.agg [(.bool (decide ((sgn (decide (x < 0)) (x.natAbs * 2 ^ (n).toNat)) < 0))), (N ((sgn (decide (x < 0)) (x.natAbs * 2 ^ (n).toNat)).natAbs))]) (.agg [(.bool (decide ((x * 2 ^ (n).toNat) < 0))), (N ((x * 2 ^ (n).toNat).natAbs))])))))) (by kernel_rfl))

theorem int_Shr (x : Int) (n : Int) (c0 : L (x).natAbs ≤ 33554432) (c1 : (0 : Int) ≤ n ∧ n ≤ 1048576) : Impl Tryz.prog Amb 221 [(.agg [(.bool (decide (x < 0))), (N x.natAbs)]), (.int .i64 n)] (.agg [(.bool (decide ((x / 2 ^ (n).toNat) < 0))), (N ((x / 2 ^ (n).toNat).natAbs))]) := by
  have l0 := L_div x.natAbs (2 ^ n.toNat)
  have l1 := L_add (x.natAbs / 2 ^ n.toNat) 1
  have l2 := L_mod x.natAbs (2 ^ n.toNat)
  have e1 := L_len (x.natAbs % 2 ^ n.toNat)
  have e2 := L_pos_iff (x.natAbs % 2 ^ n.toNat)
  have l3 := L_le (n := 1) (k := 1) (by decide)
  exact impl_ob hP hAmb Tryz.func221 (by kernel_rfl) (.lits 2 <| .call (N (x.natAbs / 2 ^ (n).toNat)) <| .lit <| .both (.lits 5 <| .call (N (x.natAbs % 2 ^ (n).toNat)) <| .lits 4 <| .both (.lit <| .call (N 1) <| .lit <| .call (N ((x.natAbs / 2 ^ (n).toNat) + 1)) <| .lits 2 <| .call (.agg [(.bool (decide ((sgn (decide (x < 0)) ((x.natAbs / 2 ^ (n).toNat) + 1)) < 0))), (N ((sgn (decide (x < 0)) ((x.natAbs / 2 ^ (n).toNat) + 1)).natAbs))]) <| .lits 2 <| .ret) (.lits 2 <| .call (.agg [(.bool (decide ((sgn (decide (x < 0)) (x.natAbs / 2 ^ (n).toNat)) < 0))), (N ((sgn (decide (x < 0)) (x.natAbs / 2 ^ (n).toNat)).natAbs))]) <| .lits 2 <| .ret)) (.lits 9 <| .call (.agg [(.bool (decide ((sgn (decide (x < 0)) (x.natAbs / 2 ^ (n).toNat)) < 0))), (N ((sgn (decide (x < 0)) (x.natAbs / 2 ^ (n).toNat)).natAbs))]) <| .lits 2 <| .ret))
    (cast_ob (And.intro True.intro (And.intro (nat_Shr x.natAbs n (by first | omega | (simp <;> omega)) (by first | omega | (simp <;> omega))) (And.intro (fun (h1 : (decide (x < 0)) = true) => have _gh1 := of_decide_eq_true h1; And.intro (nat_Low x.natAbs n (by first | omega | (simp <;> omega)) (by first | omega | (simp <;> omega))) (And.intro (fun (h2 : (iGt ((lim (x.natAbs % 2 ^ (n).toNat)).length : Int) 0) = true) => have _gh2 := iGt_t h2; And.intro (nat_Of 1 (by first | omega | (simp <;> omega))) (And.intro (nat_Add (x.natAbs / 2 ^ (n).toNat) 1 (by first | omega | (simp <;> omega)) (by first | omega | (simp <;> omega))) (And.intro (int_Nat (decide (x < 0)) ((x.natAbs / 2 ^ (n).toNat) + 1) (by first | omega | (simp <;> omega))) ((Z_of (shr_neg1 (by omega) _ (by omega)) : vsub (.agg [(.bool (decide ((sgn (decide (x < 0)) ((x.natAbs / 2 ^ (n).toNat) + 1)) < 0))), (N ((sgn (decide (x < 0)) ((x.natAbs / 2 ^ (n).toNat) + 1)).natAbs))]) (.agg [(.bool (decide ((x / 2 ^ (n).toNat) < 0))), (N ((x / 2 ^ (n).toNat).natAbs))])))))) (fun (h3 : (iGt ((lim (x.natAbs % 2 ^ (n).toNat)).length : Int) 0) = false) => have _gh3 := iGt_f h3; And.intro (int_Nat (decide (x < 0)) (x.natAbs / 2 ^ (n).toNat) (by first | omega | (simp <;> omega))) ((Z_of (shr_neg0 (by omega) _ (by omega)) : vsub (.agg [(.bool (decide ((sgn (decide (x < 0)) (x.natAbs / 2 ^ (n).toNat)) < 0))), (N ((sgn (decide (x < 0)) (x.natAbs / 2 ^ (n).toNat)).natAbs))]) (.agg [(.bool (decide ((x / 2 ^ (n).toNat) < 0))), (N ((x / 2 ^ (n).toNat).natAbs))])))))) (fun (h4 : (decide (x < 0)) = false) => have _gh4 := of_decide_eq_false h4; And.intro (int_Nat (decide (x < 0)) (x.natAbs / 2 ^ (n).toNat) (by first | omega | (simp <;> omega))) ((Z_of (shr_pos (by omega) _) : vsub (.agg [(.bool (decide ((sgn (decide (x < 0)) (x.natAbs / 2 ^ (n).toNat)) < 0))), (N ((sgn (decide (x < 0)) (x.natAbs / 2 ^ (n).toNat)).natAbs))]) (.agg [(.bool (decide ((x / 2 ^ (n).toNat) < 0))), (N ((x / 2 ^ (n).toNat).natAbs))]))))))) (by kernel_rfl))

end Go.Proofs.YtmbpoibhamlkbaaGreatDoor

namespace Go.Proofs.YtmbpoibhamlkbaaGreatDoor

theorem gi_digit (a : Nat) (i : Nat) : gi (limbs a) i = ((a / 4294967296 ^ i % 4294967296 : Nat) : Int) := by rw [gi_eq, limb_eq]
theorem mod_succ (a i : Nat) : a % 4294967296 ^ (i + 1) = a % 4294967296 ^ i + 4294967296 ^ i * (a / 4294967296 ^ i % 4294967296) := by
  rw [Nat.pow_succ, Nat.mod_mul]
theorem mod_all {a k : Nat} (h : L a ≤ k) : a % 4294967296 ^ k = a := Nat.mod_eq_of_lt (Nat.lt_of_lt_of_le (L_lt a) (Nat.pow_le_pow_right (by omega) h))
theorem U_snoc (l : List Nat) (d : Int) (h : 0 ≤ d) : U l ++ [V.int .u32 d] = U (l ++ [d.toNat]) := by
  rw [← U_append]; simp [U]; omega
theorem val_snoc (l : List Nat) (d : Nat) : val (l ++ [d]) = val l + 4294967296 ^ l.length * d := by rw [val_append]; simp [val]
theorem dig_snoc {l : List Nat} (h : Dig l) {d : Nat} (hd : d < 4294967296) : Dig (l ++ [d]) := dig_append h fun x hx => by simp at hx; omega
theorem pow_pos' (i : Nat) : 0 < (4294967296 : Nat) ^ i := Nat.pow_pos (by omega)

/-! ### comparison -/
theorem rcmp_init (a b n : Nat) (ha : L a ≤ n) (hb : L b ≤ n) : a / 4294967296 ^ n = b / 4294967296 ^ n := by
  rw [Nat.div_eq_of_lt (Nat.lt_of_lt_of_le (L_lt a) (Nat.pow_le_pow_right (by omega) ha)), Nat.div_eq_of_lt (Nat.lt_of_lt_of_le (L_lt b) (Nat.pow_le_pow_right (by omega) hb))]
theorem div_split (a i : Nat) : a / 4294967296 ^ i = a / 4294967296 ^ (i + 1) * 4294967296 + a / 4294967296 ^ i % 4294967296 := by
  rw [Nat.pow_succ, ← Nat.div_div_eq_div_mul]; omega
theorem rcmp_step {a b i : Nat} (h : a / 4294967296 ^ (i + 1) = b / 4294967296 ^ (i + 1)) (hd : gi (limbs a) i = gi (limbs b) i) : a / 4294967296 ^ i = b / 4294967296 ^ i := by
  rw [gi_digit, gi_digit] at hd
  rw [div_split a, div_split b]; omega
theorem rcmp_lt {a b i : Nat} (h : a / 4294967296 ^ (i + 1) = b / 4294967296 ^ (i + 1)) (hd : gi (limbs a) i < gi (limbs b) i) : a < b := by
  rw [gi_digit, gi_digit] at hd
  have h1 := div_split a i
  have h2 := div_split b i
  refine Decidable.byContradiction fun hn => ?_
  have := Nat.div_le_div_right (c := 4294967296 ^ i) (Nat.not_lt.1 hn)
  omega
theorem rcmp_end {a b : Nat} (h : a / 4294967296 ^ 0 = b / 4294967296 ^ 0) : a = b := by simpa using h

/-! ### sums -/
def RAdd (a b : Nat) (i c : Int) (l : List Nat) : Prop :=
  0 ≤ i ∧ 0 ≤ c ∧ c ≤ 1 ∧ l.length = i.toNat ∧ Dig l ∧ val l + 4294967296 ^ i.toNat * c.toNat = a % 4294967296 ^ i.toNat + b % 4294967296 ^ i.toNat
theorem radd_init (a b : Nat) : RAdd a b 0 0 [] := ⟨by omega, by omega, by omega, rfl, (fun _ h => nomatch h), by simp [val, Nat.mod_one]⟩
theorem radd_next {a b : Nat} {i c s : Int} {l : List Nat} (h : RAdd a b i c l) (hs : s = c + gi (limbs a) i.toNat + gi (limbs b) i.toNat) :
    RAdd a b (i + 1) (Int.fdiv s (2 ^ 32)) (l ++ [(IntKind.wrap .u32 s).toNat]) := by
  obtain ⟨h0, h1, h2, h3, h4, h5⟩ := h
  rw [gi_digit, gi_digit] at hs
  rw [wrap_u32, fdiv_B]
  have da := Nat.mod_lt (a / 4294967296 ^ i.toNat) (show 0 < 4294967296 by omega)
  have db := Nat.mod_lt (b / 4294967296 ^ i.toNat) (show 0 < 4294967296 by omega)
  have hi : (i + 1).toNat = i.toNat + 1 := by omega
  refine ⟨by omega, by omega, by omega, by simp; omega, dig_snoc h4 (by omega), ?_⟩
  rw [hi, mod_succ, mod_succ, val_snoc, h3, Nat.pow_succ]
  generalize hx : a / 4294967296 ^ i.toNat % 4294967296 = x at *
  generalize hy : b / 4294967296 ^ i.toNat % 4294967296 = y at *
  have e1 : (s % 4294967296).toNat + 4294967296 * (s / 4294967296).toNat = c.toNat + x + y := by omega
  generalize (4294967296 : Nat) ^ i.toNat = p at *
  calc _ = val l + p * ((s % 4294967296).toNat + 4294967296 * (s / 4294967296).toNat) := by rw [Nat.mul_add, Nat.mul_assoc]; omega
    _ = val l + p * c.toNat + p * x + p * y := by rw [e1, Nat.mul_add, Nat.mul_add]; omega
    _ = _ := by omega
theorem radd_end {a b : Nat} {i c : Int} {l : List Nat} (h : RAdd a b i c l) (ha : L a < i) (hb : L b < i) : Dig l ∧ l.length = i.toNat ∧ val l = a + b := by
  obtain ⟨h0, h1, h2, h3, h4, h5⟩ := h
  refine ⟨h4, h3, ?_⟩
  rw [mod_all (by omega), mod_all (by omega)] at h5
  have la : a < 4294967296 ^ (i.toNat - 1) := Nat.lt_of_lt_of_le (L_lt a) (Nat.pow_le_pow_right (by omega) (by omega))
  have lb : b < 4294967296 ^ (i.toNat - 1) := Nat.lt_of_lt_of_le (L_lt b) (Nat.pow_le_pow_right (by omega) (by omega))
  have e : 2 * 4294967296 ^ (i.toNat - 1) ≤ (4294967296 : Nat) ^ i.toNat := by
    obtain ⟨k, hk⟩ : ∃ k, i.toNat = k + 1 := ⟨i.toNat - 1, by omega⟩
    rw [hk, Nat.add_sub_cancel, Nat.pow_succ, Nat.mul_comm]
    exact Nat.mul_le_mul_left _ (by omega)
  generalize (4294967296 : Nat) ^ (i.toNat - 1) = p at *
  generalize (4294967296 : Nat) ^ i.toNat = q at *
  have : c.toNat = 0 := by
    refine Decidable.byContradiction fun hn => ?_
    have : q * 1 ≤ q * c.toNat := Nat.mul_le_mul_left _ (by omega)
    omega
  rw [this] at h5
  omega

/-! ### differences -/
def RSub (a b : Nat) (i c : Int) (l : List Nat) : Prop :=
  0 ≤ i ∧ 0 ≤ c ∧ c ≤ 1 ∧ l.length = i.toNat ∧ Dig l ∧ val l + b % 4294967296 ^ i.toNat = a % 4294967296 ^ i.toNat + 4294967296 ^ i.toNat * c.toNat
theorem rsub_init (a b : Nat) : RSub a b 0 0 [] := ⟨by omega, by omega, by omega, rfl, (fun _ h => nomatch h), by simp [val, Nat.mod_one]⟩
theorem rsub_next {a b : Nat} {i c c' x y : Int} {l : List Nat} (h : RSub a b i c l) (hy : y = gi (limbs b) i.toNat + c)
    (hx : (gi (limbs a) i.toNat < y ∧ x = gi (limbs a) i.toNat + 4294967296 ∧ c' = 1) ∨ (y ≤ gi (limbs a) i.toNat ∧ x = gi (limbs a) i.toNat ∧ c' = 0)) :
    RSub a b (i + 1) c' (l ++ [(IntKind.wrap .u32 (x - y)).toNat]) := by
  obtain ⟨h0, h1, h2, h3, h4, h5⟩ := h
  rw [gi_digit] at hy hx
  rw [wrap_u32]
  have da := Nat.mod_lt (a / 4294967296 ^ i.toNat) (show 0 < 4294967296 by omega)
  have db := Nat.mod_lt (b / 4294967296 ^ i.toNat) (show 0 < 4294967296 by omega)
  have hi : (i + 1).toNat = i.toNat + 1 := by omega
  refine ⟨by omega, by omega, by omega, by simp; omega, dig_snoc h4 (by omega), ?_⟩
  rw [hi, mod_succ, mod_succ, val_snoc, h3, Nat.pow_succ]
  generalize hx : a / 4294967296 ^ i.toNat % 4294967296 = p at *
  generalize hy : b / 4294967296 ^ i.toNat % 4294967296 = q at *
  have e1 : ((x - y) % 4294967296).toNat + q + c.toNat = p + 4294967296 * c'.toNat := by omega
  generalize (4294967296 : Nat) ^ i.toNat = B at *
  have e2 : B * ((x - y) % 4294967296).toNat + B * q + B * c.toNat = B * p + B * 4294967296 * c'.toNat := by
    rw [← Nat.mul_add, ← Nat.mul_add, e1, Nat.mul_add, Nat.mul_assoc]
  omega
theorem rsub_end {a b : Nat} {i c : Int} {l : List Nat} (h : RSub a b i c l) (ha : L a ≤ i) (hab : b ≤ a) : Dig l ∧ l.length = i.toNat ∧ val l = a - b := by
  obtain ⟨h0, h1, h2, h3, h4, h5⟩ := h
  refine ⟨h4, h3, ?_⟩
  have := L_mono hab
  rw [mod_all (by omega), mod_all (by omega)] at h5
  have hl := val_lt h4
  rw [h3] at hl
  generalize (4294967296 : Nat) ^ i.toNat = p at *
  have : c.toNat = 0 := by
    refine Decidable.byContradiction fun hn => ?_
    have : p * 1 ≤ p * c.toNat := Nat.mul_le_mul_left _ (by omega)
    omega
  rw [this] at h5
  omega

/-! ### shifts -/
theorem or_lo {d c : Int} {r : Nat} (hd : 0 ≤ d ∧ d < 4294967296) (hr : r < 32) (hc : 0 ≤ c ∧ c < 2 ^ r) : wOr .u64 (d * 2 ^ r) c = d * 2 ^ r + c := by
  obtain ⟨d, rfl⟩ := Int.eq_ofNat_of_zero_le hd.1
  obtain ⟨c, rfl⟩ := Int.eq_ofNat_of_zero_le hc.1
  have hc' : c < 2 ^ r := by have := hc.2; rw [pow_cast] at this; omega
  have hd' : d < 4294967296 := by omega
  have hb := shl_bound hd' hr
  rw [pow_cast, ← Int.natCast_mul]
  unfold wOr
  show IntKind.wrap .u64 (BitVec.ofInt 64 _ ||| BitVec.ofInt 64 _).toNat = _
  rw [BitVec.toNat_or, ofInt64 (by omega), ofInt64 (by omega), wrap_u64]
  have hp : 2 ^ r ≤ 2 ^ 31 := Nat.pow_le_pow_right (by omega) (by omega)
  rw [Int.toNat_natCast, Int.toNat_natCast, Nat.mod_eq_of_lt (by omega), Nat.mod_eq_of_lt (by omega), Nat.or_comm, Nat.mul_comm d, or_add hc']
  rw [Nat.mul_comm (2 ^ r) d] at *
  omega
def RShl (a n : Nat) (i c : Int) (l : List Nat) : Prop :=
  0 ≤ i ∧ 0 ≤ c ∧ c < 2 ^ (n % 32) ∧ l.length = n / 32 + i.toNat ∧ Dig l ∧ val l + 4294967296 ^ (n / 32 + i.toNat) * c.toNat = a % 4294967296 ^ i.toNat * 2 ^ n
theorem rshl_init (a n : Nat) : RShl a n 0 0 (List.replicate (n / 32) 0) := by
  refine ⟨by omega, by omega, ?_, by simp, dig_rep _, by simp [val_rep, Nat.mod_one]⟩
  rw [pow_cast]; have := Nat.pow_pos (n := n % 32) (show 0 < 2 by omega); omega
theorem rshl_next {a n : Nat} {i c x : Int} {l : List Nat} (h : RShl a n i c l) (hx : x = gi (limbs a) i.toNat * 2 ^ (n % 32) + c) :
    RShl a n (i + 1) (Int.fdiv x (2 ^ 32)) (l ++ [(IntKind.wrap .u32 x).toNat]) := by
  obtain ⟨h0, h1, h2, h3, h4, h5⟩ := h
  rw [gi_digit] at hx
  rw [wrap_u32, fdiv_B]
  have hi : (i + 1).toNat = i.toNat + 1 := by omega
  have da := Nat.mod_lt (a / 4294967296 ^ i.toNat) (show 0 < 4294967296 by omega)
  rw [pow_cast] at h2 hx
  have hp : 0 < 2 ^ (n % 32) := Nat.pow_pos (by omega)
  have hpp : (4294967296 : Nat) ^ (n / 32) * 2 ^ (n % 32) = 2 ^ n := by rw [B_pow, ← Nat.pow_add, show 32 * (n / 32) + n % 32 = n by omega]
  have e3 : (4294967296 : Nat) ^ (n / 32 + i.toNat) = 4294967296 ^ (n / 32) * 4294967296 ^ i.toNat := Nat.pow_add ..
  generalize hd : a / 4294967296 ^ i.toNat % 4294967296 = d at *
  have hxn : x = ((d * 2 ^ (n % 32) + c.toNat : Nat) : Int) := by rw [hx]; push_cast; omega
  have hxb : d * 2 ^ (n % 32) + c.toNat < 4294967296 * 2 ^ (n % 32) := by
    have : (d + 1) * 2 ^ (n % 32) ≤ 4294967296 * 2 ^ (n % 32) := Nat.mul_le_mul_right _ (by omega)
    rw [Nat.add_mul] at this
    omega
  generalize hX : d * 2 ^ (n % 32) + c.toNat = X at *
  have hq : X / 4294967296 < 2 ^ (n % 32) := Nat.div_lt_of_lt_mul hxb
  refine ⟨by omega, by omega, by rw [pow_cast]; omega, by simp; omega, dig_snoc h4 (by omega), ?_⟩
  rw [hi, mod_succ, hd, val_snoc, h3, show n / 32 + (i.toNat + 1) = n / 32 + i.toNat + 1 by omega, Nat.pow_succ]
  have e1 : (x % 4294967296).toNat + 4294967296 * (x / 4294967296).toNat = X := by omega
  have e2 : (4294967296 : Nat) ^ (n / 32 + i.toNat) * (x % 4294967296).toNat + 4294967296 ^ (n / 32 + i.toNat) * 4294967296 * (x / 4294967296).toNat = 4294967296 ^ (n / 32 + i.toNat) * X := by
    rw [← e1, Nat.mul_add, Nat.mul_assoc]
  rw [Nat.add_assoc, e2, ← hX, Nat.mul_add, Nat.add_mul, ← h5]
  have e4 : 4294967296 ^ (n / 32 + i.toNat) * (d * 2 ^ (n % 32)) = 4294967296 ^ i.toNat * d * 2 ^ n := by
    rw [e3, ← hpp]
    simp only [Nat.mul_comm, Nat.mul_left_comm, Nat.mul_assoc]
  omega
theorem rshl_end {a n : Nat} {i c : Int} {l : List Nat} (h : RShl a n i c l) (ha : L a < i) : Dig l ∧ l.length = n / 32 + i.toNat ∧ val l = a * 2 ^ n := by
  obtain ⟨h0, h1, h2, h3, h4, h5⟩ := h
  refine ⟨h4, h3, ?_⟩
  rw [mod_all (by omega)] at h5
  have la : a < 4294967296 ^ (i.toNat - 1) := Nat.lt_of_lt_of_le (L_lt a) (Nat.pow_le_pow_right (by omega) (by omega))
  have hpp : (2 : Nat) ^ n ≤ 4294967296 ^ (n / 32 + 1) := by rw [B_pow]; exact Nat.pow_le_pow_right (by omega) (by omega)
  have e : (4294967296 : Nat) ^ (n / 32 + i.toNat) = 4294967296 ^ (i.toNat - 1) * 4294967296 ^ (n / 32 + 1) := by rw [← Nat.pow_add, show i.toNat - 1 + (n / 32 + 1) = n / 32 + i.toNat by omega]
  have hlt : a * 2 ^ n < 4294967296 ^ (n / 32 + i.toNat) := by
    rw [e]
    exact Nat.lt_of_lt_of_le ((Nat.mul_lt_mul_right (Nat.pow_pos (by omega))).2 la) (Nat.mul_le_mul_left _ hpp)
  generalize (4294967296 : Nat) ^ (n / 32 + i.toNat) = p at *
  have : c.toNat = 0 := by
    refine Decidable.byContradiction fun hn => ?_
    have : p * 1 ≤ p * c.toNat := Nat.mul_le_mul_left _ (by omega)
    omega
  rw [this] at h5
  omega
def RShr (a n : Nat) (i : Int) (l : List Nat) : Prop :=
  (n / 32 : Nat) ≤ i ∧ l.length = i.toNat - n / 32 ∧ Dig l ∧ val l = a / 2 ^ n % 4294967296 ^ (i.toNat - n / 32)
theorem rshr_init (a n : Nat) : RShr a n ((n / 32 : Nat) : Int) [] := ⟨by omega, by simp, (fun _ h => nomatch h), by simp [val, Nat.mod_one]⟩
theorem fdiv_min {n : Int} (h : 0 ≤ n) (x : Int) : Int.fdiv x (2 ^ (min (wRem n (32 : Int)).toNat (IntKind.bits .u64))) = x / ((2 ^ (n.toNat % 32) : Nat) : Int) := by
  rw [min_rest h, fdiv_pow]
theorem rshr_next {a : Nat} {n i x : Int} {l : List Nat} (hn : 0 ≤ n) (h : RShr a n.toNat i l)
    (hx : x = wOr .u64 (gi (limbs a) i.toNat) (gi (limbs a) (i + 1).toNat * 2 ^ 32)) :
    RShr a n.toNat (i + 1) (l ++ [(IntKind.wrap .u32 (Int.fdiv x (2 ^ (min (wRem n (32 : Int)).toNat (IntKind.bits .u64))))).toNat]) := by
  obtain ⟨h1, h2, h3, h4⟩ := h
  have hi : (i + 1).toNat = i.toNat + 1 := by omega
  rw [wOr_gi, hi, gi_eq, gi_eq] at hx
  have hd := shr_digit a n.toNat (i.toNat - n.toNat / 32)
  have hk : i.toNat - n.toNat / 32 + n.toNat / 32 = i.toNat := by omega
  rw [hk] at hd
  rw [fdiv_min hn]
  have hw : (IntKind.wrap .u32 (x / ((2 ^ (n.toNat % 32) : Nat) : Int))).toNat = a / 2 ^ n.toNat / 4294967296 ^ (i.toNat - n.toNat / 32) % 4294967296 := by
    rw [hd, hx]
    generalize (limbs a).getD i.toNat 0 = y
    generalize (limbs a).getD (i.toNat + 1) 0 = z
    rw [wrap_u32, show (y : Int) + (z : Int) * 4294967296 = ((y + z * 4294967296 : Nat) : Int) by omega]
    generalize y + z * 4294967296 = Y
    rw [← Int.natCast_ediv]
    omega
  rw [hw]
  refine ⟨by omega, by simp; omega, dig_snoc h3 (Nat.mod_lt _ (by omega)), ?_⟩
  rw [hi, show i.toNat + 1 - n.toNat / 32 = i.toNat - n.toNat / 32 + 1 by omega, mod_succ, val_snoc, h2, h4]
theorem rshr_end {a n : Nat} {i : Int} {l : List Nat} (h : RShr a n i l) (ha : L a ≤ i) : Dig l ∧ l.length = i.toNat - n / 32 ∧ val l = a / 2 ^ n := by
  obtain ⟨h1, h2, h3, h4⟩ := h
  refine ⟨h3, h2, ?_⟩
  rw [h4]
  refine Nat.mod_eq_of_lt (Nat.div_lt_of_lt_mul ?_)
  have : (4294967296 : Nat) ^ i.toNat ≤ 2 ^ n * 4294967296 ^ (i.toNat - n / 32) := by
    rw [B_pow, B_pow, ← Nat.pow_add]
    exact Nat.pow_le_pow_right (by omega) (by omega)
  exact Nat.lt_of_lt_of_le (Nat.lt_of_lt_of_le (L_lt a) (Nat.pow_le_pow_right (by omega) (by omega))) this

/-! ### texts that the printer leaves -/
theorem trim_cut {l : List Nat} (h : Dig l) {y : Int} (hy : y = ((limbs (val l)).length : Int)) : List.take ((y - 0).toNat) (List.drop 0 (U l)) = lim (val l) := by rw [hy]; exact cut_lim h
theorem trim_cells {l : List Nat} (h : Dig l) {y : Int} (hy : y = ((limbs (val l)).length : Int)) : (List.take ((y - 0).toNat) (List.drop 0 (U l))).all isCell = true := by rw [trim_cut h hy]; exact U_cells _
theorem trim_len {l : List Nat} (h : Dig l) {y : Int} (hy : y = ((limbs (val l)).length : Int)) : (List.take ((y - 0).toNat) (List.drop 0 (U l))).length = L (val l) := by rw [trim_cut h hy, L_len]
theorem trim_ret {c : List V} {n : Nat} (h : c = lim n) : V.sl 1 (List.take (0 + c.length) (List.drop 0 (([] : List V) ++ c))) = N n := by rw [h]; simp [N]
theorem cmpN_range (a b : Nat) : (cmpN a b = -1 ∧ a < b) ∨ (cmpN a b = 1 ∧ b < a) ∨ (cmpN a b = 0 ∧ a = b) := by
  unfold cmpN
  split
  · exact .inl ⟨rfl, by assumption⟩
  · split
    · exact .inr (.inl ⟨rfl, by assumption⟩)
    · exact .inr (.inr ⟨rfl, by omega⟩)
theorem iMax_range (a b : Int) : a ≤ iMax a b ∧ b ≤ iMax a b ∧ (iMax a b = a ∨ iMax a b = b) := by
  unfold iMax; split <;> omega
theorem L_top (a : Nat) : L a = 0 ∨ gi (limbs a) (L a - 1) ≠ 0 := by
  by_cases h : a = 0
  · exact .inl (by rw [h, L_zero])
  · refine .inr ?_
    have h1 := L_pos h
    have h2 := L_low h
    have h3 := L_lt a
    rw [gi_digit]
    have e : (4294967296 : Nat) ^ L a = 4294967296 ^ (L a - 1) * 4294967296 := by
      obtain ⟨k, hk⟩ : ∃ k, L a = k + 1 := ⟨L a - 1, by omega⟩
      rw [hk, Nat.add_sub_cancel, Nat.pow_succ]
    rw [e] at h3
    have h4 : a / 4294967296 ^ (L a - 1) < 4294967296 := Nat.div_lt_of_lt_mul h3
    rw [Nat.mod_eq_of_lt h4]
    have : 0 < a / 4294967296 ^ (L a - 1) := Nat.div_pos h2 (pow_pos' _)
    omega
theorem gi_top (a : Nat) (h : 0 < L a) : gi (limbs a) ((L a : Int) - 1).toNat ≠ 0 := by
  have := L_top a
  rw [show ((L a : Int) - 1).toNat = L a - 1 by omega]
  omega
theorem wrap_nn (x : Int) : 0 ≤ IntKind.wrap .u32 x := by rw [wrap_u32]; omega
theorem U_one (d : Int) (h : 0 ≤ d) : [V.int .u32 d] = U ([d.toNat] : List Nat) := by simp [U]; omega
theorem shl_c {r : Nat} (hr : r < 32) {c : Int} (h : c < 2 ^ r) : c < 4294967296 := by
  rw [pow_cast] at h
  have := Nat.pow_le_pow_right (show 0 < 2 by omega) (Nat.le_of_lt hr)
  omega
theorem testBit_mod (a i : Nat) : a.testBit i = decide (a / 2 ^ i % 2 = 1) := by
  rw [Nat.testBit_eq_decide_div_mod_eq]
theorem bit1 {a : Nat} {i : Int} (h : 0 ≤ i) : iEq (wRem (Int.fdiv (gi (limbs a) (Int.tdiv i (32 : Int)).toNat) (2 ^ (min (wRem i (32 : Int)).toNat (IntKind.bits .u64)))) 2) 1 = a.testBit i.toNat := by
  rw [fdiv_min h, tdiv32 h, show (i / 32).toNat = i.toNat / 32 by omega, bit_limb, gi_eq]
  rw [← Int.natCast_ediv]
  generalize (limbs a).getD (i.toNat / 32) 0 / 2 ^ (i.toNat % 32) = x
  unfold wRem iEq
  rw [Int.tmod_eq_emod_of_nonneg (by omega)]
  by_cases hx : x % 2 = 1
  · rw [show ((x : Int) % 2) = 1 by omega]; simp [hx]
  · rw [show ((x : Int) % 2) = 0 by omega]; simp [hx]
theorem bits1_step {a : Nat} {n : Int} (h0 : 0 < n) (h : a < 2 ^ n.toNat) (hb : a.testBit (n - 1).toNat = false) : a < 2 ^ (n - 1).toNat := by
  rw [testBit_mod] at hb
  have hb := of_decide_eq_false hb
  obtain ⟨k, hk⟩ : ∃ k, n.toNat = k + 1 := ⟨n.toNat - 1, by omega⟩
  rw [hk, Nat.pow_succ] at h
  have e : (n - 1).toNat = k := by omega
  rw [e] at hb ⊢
  refine Decidable.byContradiction fun hn => hb ?_
  have h1 : a / 2 ^ k < 2 := Nat.div_lt_of_lt_mul h
  have h2 : 0 < a / 2 ^ k := Nat.div_pos (by omega) (Nat.pow_pos (by omega))
  omega
theorem bits1_end {a : Nat} {n : Int} (h0 : 0 ≤ n) (h : a < 2 ^ n.toNat) (hb : n ≤ 0 ∨ a.testBit (n - 1).toNat = true) : n = (nbits a : Int) := by
  by_cases hn : n ≤ 0
  · have : n = 0 := by omega
    subst this
    have : a = 0 := by simpa using h
    subst this
    rfl
  · have hb := hb.resolve_left hn
    rw [testBit_mod] at hb
    have hb := of_decide_eq_true hb
    obtain ⟨k, hk⟩ : ∃ k, n.toNat = k + 1 := ⟨n.toNat - 1, by omega⟩
    have e : (n - 1).toNat = k := by omega
    rw [e] at hb
    rw [hk] at h
    have h2 : 2 ^ k ≤ a := by
      refine Decidable.byContradiction fun q => ?_
      rw [Nat.div_eq_of_lt (by omega)] at hb
      cases hb
    rw [nbits_of h2 h]
    omega
theorem zer1_step {a : Nat} {i : Int} (h0 : 0 ≤ i) (h : a % 2 ^ i.toNat = 0) (hb : a.testBit i.toNat = false) : a % 2 ^ (i + 1).toNat = 0 := by
  rw [testBit_mod] at hb
  have hb := of_decide_eq_false hb
  rw [show (i + 1).toNat = i.toNat + 1 by omega, Nat.pow_succ, Nat.mod_mul, h]
  have : a / 2 ^ i.toNat % 2 = 0 := by omega
  rw [this, Nat.mul_zero]
theorem zer1_hit {a : Nat} {i : Int} (h0 : 0 ≤ i) (h : a % 2 ^ i.toNat = 0) (hb : a.testBit i.toNat = true) : i = (tz a : Int) := by
  rw [testBit_mod] at hb
  rw [tz_unique h (of_decide_eq_true hb)]
  omega
theorem zer1_end {a : Nat} (h : a % 2 ^ (32 * L a) = 0) : tz a = 0 := by
  have := L_lt a
  rw [B_pow] at this
  rw [Nat.mod_eq_of_lt this] at h
  rw [h, tz, if_pos rfl]
theorem nbits_L (a : Nat) : nbits a ≤ 32 * L a := by
  by_cases h : a = 0
  · rw [h]; simp [nbits]
  · have h1 := nbits_le h
    have h2 := L_lt a
    rw [B_pow] at h2
    have : nbits a - 1 < 32 * L a := (Nat.pow_lt_pow_iff_right (by omega)).1 (Nat.lt_of_le_of_lt h1 h2)
    omega
theorem tz_lt {a : Nat} (h : a ≠ 0) : tz a < nbits a := by
  obtain ⟨h1, h2⟩ := tz_spec h
  have h3 := nbits_lt a
  have : 2 ^ tz a ≤ a := by
    refine Decidable.byContradiction fun q => ?_
    rw [Nat.div_eq_of_lt (by omega)] at h2
    cases h2
  exact (Nat.pow_lt_pow_iff_right (by omega)).1 (Nat.lt_of_le_of_lt this h3)
theorem tz_L (a : Nat) : tz a ≤ 32 * L a := by
  by_cases h : a = 0
  · rw [h]; simp [tz]
  · have := tz_lt h; have := nbits_L a; omega
/-! ### products by a digit -/
def RSm (a : Nat) (m c0 i c : Int) (l : List Nat) : Prop :=
  0 ≤ i ∧ 0 ≤ c ∧ c < 4294967296 ∧ l.length = i.toNat ∧ Dig l ∧ val l + 4294967296 ^ i.toNat * c.toNat = a % 4294967296 ^ i.toNat * m.toNat + c0.toNat
theorem rsm_init (a : Nat) (m : Int) {c0 : Int} (h : 0 ≤ c0 ∧ c0 < 4294967296) : RSm a m c0 0 c0 [] := ⟨by omega, by omega, by omega, rfl, (fun _ h => nomatch h), by simp [val, Nat.mod_one]⟩
theorem mul_bound2 {x m c : Int} (hx : 0 ≤ x ∧ x < 4294967296) (hm : 0 ≤ m ∧ m < 4294967296) (hc : 0 ≤ c ∧ c < 4294967296) : 0 ≤ x * m ∧ c + x * m < 18446744073709551616 ∧ x * m ≤ 18446744065119617025 ∧ (c + x * m) / 4294967296 < 4294967296 := by
  have h1 : x * m ≤ 4294967295 * m := Int.mul_le_mul_of_nonneg_right (by omega) hm.1
  have h2 : 0 ≤ x * m := Int.mul_nonneg hx.1 hm.1
  omega
theorem rsm_next {a : Nat} {m c0 i c s : Int} {l : List Nat} (h : RSm a m c0 i c l) (hm : 0 ≤ m ∧ m < 4294967296) (hs : s = c + gi (limbs a) i.toNat * m) :
    RSm a m c0 (i + 1) (Int.fdiv s (2 ^ 32)) (l ++ [(IntKind.wrap .u32 s).toNat]) := by
  obtain ⟨h0, h1, h2, h3, h4, h5⟩ := h
  have g0 := gi_nonneg (limbs a) i.toNat
  have g1 := gi_lt (dig_limbs a) i.toNat
  have hb := mul_bound2 ⟨g0, g1⟩ hm ⟨h1, h2⟩
  rw [gi_digit] at hs hb
  rw [wrap_u32, fdiv_B]
  have hi : (i + 1).toNat = i.toNat + 1 := by omega
  refine ⟨by omega, by omega, by omega, by simp; omega, dig_snoc h4 (by omega), ?_⟩
  rw [hi, mod_succ, val_snoc, h3, Nat.pow_succ]
  generalize hx : a / 4294967296 ^ i.toNat % 4294967296 = x at *
  have hsn : s = ((c.toNat + x * m.toNat : Nat) : Int) := by rw [hs]; push_cast; rw [Int.toNat_of_nonneg h1, Int.toNat_of_nonneg hm.1]
  have e1 : (s % 4294967296).toNat + 4294967296 * (s / 4294967296).toNat = c.toNat + x * m.toNat := by omega
  generalize (4294967296 : Nat) ^ i.toNat = p at *
  have e2 : p * (s % 4294967296).toNat + p * 4294967296 * (s / 4294967296).toNat = p * c.toNat + p * (x * m.toNat) := by
    rw [Nat.mul_assoc, ← Nat.mul_add, e1, Nat.mul_add]
  rw [Nat.add_mul, Nat.mul_assoc p x]
  omega
theorem rsm_end {a : Nat} {m c0 i c : Int} {l : List Nat} (h : RSm a m c0 i c l) (ha : i = (L a : Int)) (hm : 0 ≤ m ∧ m < 4294967296) : Dig (l ++ [c.toNat]) ∧ (l ++ [c.toNat]).length = L a + 1 ∧ val (l ++ [c.toNat]) = a * m.toNat + c0.toNat ∧ 0 ≤ c ∧ c < 4294967296 := by
  obtain ⟨h0, h1, h2, h3, h4, h5⟩ := h
  refine ⟨dig_snoc h4 (by omega), by simp; omega, ?_, h1, h2⟩
  rw [val_snoc, h3, h5, mod_all (by omega)]
theorem wrap_self {x : Int} (h : 0 ≤ x ∧ x < 4294967296) : IntKind.wrap .u32 x = x := by rw [wrap_u32]; omega
theorem U_snoc_w {c : List V} {l : List Nat} {x : Int} (h : c = U l) (hx : 0 ≤ x ∧ x < 4294967296) : c ++ [V.int .u32 (IntKind.wrap .u32 x)] = U (l ++ [x.toNat]) := by
  rw [wrap_self hx, h, U_snoc _ _ hx.1]
theorem U_one_w {x : Int} (hx : 0 ≤ x ∧ x < 4294967296) : [V.int .u32 (IntKind.wrap .u32 x)] = U [x.toNat] := by rw [wrap_self hx, U_one _ hx.1]
theorem dig_one {x : Int} (hx : 0 ≤ x ∧ x < 4294967296) : Dig [x.toNat] := fun d hd => by simp at hd; omega
theorem sm_nil {a m : Nat} (h : a = 0) {c : Int} (hc : 0 ≤ c ∧ c < 4294967296) : val [c.toNat] = a * m + c.toNat := by rw [h]; simp [val]
/-! ### quotients -/
theorem fits_le {b r : Nat} {m w : Int} (h : w = m) (hc : cmpN (b * w.toNat + 0) r ≤ 0) : b * m.toNat ≤ r := by
  subst h
  have := cmpN_range (b * w.toNat + 0) r
  simp only [Nat.add_zero] at this hc
  omega
theorem fits_gt {b r : Nat} {m w : Int} (h : w = m) (h1 : 1 ≤ m) (hc : 0 < cmpN (b * w.toNat + 0) r) : r < b * ((m - 1).toNat + 1) := by
  subst h
  have := cmpN_range (b * w.toNat + 0) r
  simp only [Nat.add_zero] at this hc
  rw [show (w - 1).toNat + 1 = w.toNat by omega]
  omega
theorem fits_end {b r : Nat} {x : Int} (h0 : 0 ≤ x) (h1 : b * x.toNat ≤ r) (h2 : r < b * (x.toNat + 1)) : x = ((r / b : Nat) : Int) := by
  have : r / b = x.toNat := Nat.div_eq_of_lt_le (by rw [Nat.mul_comm]; exact h1) (by rw [Nat.mul_comm]; exact h2)
  rw [this]; omega
theorem L_small0 (a : Nat) (m : Int) (hm : m.toNat < 4294967296 := by omega) : L (a * m.toNat + 0) ≤ L a + 2 := by
  have h2 := L_mul a m.toNat
  have h3 : L m.toNat ≤ 1 := L_le (by simpa using hm)
  rw [Nat.add_zero]
  omega
def RDiv (a b : Nat) (i : Int) (r : Nat) (l : List Nat) : Prop :=
  -1 ≤ i ∧ i < L a ∧ l.length = L a ∧ Dig l ∧ r < b ∧ ∃ Q, val l = 4294967296 ^ (i + 1).toNat * Q ∧ Q * b + r = a / 4294967296 ^ (i + 1).toNat
theorem rdiv_init {a b : Nat} (hb : 0 < b) : RDiv a b ((L a : Int) - 1) 0 (List.replicate (L a) 0) := by
  refine ⟨by omega, by omega, by simp, dig_rep _, hb, 0, by simp [val_rep], ?_⟩
  rw [show ((L a : Int) - 1 + 1).toNat = L a by omega, Nat.div_eq_of_lt (L_lt a)]
  simp
theorem set_val_all {l : List Nat} {i : Nat} (d : Nat) (hi : i < l.length) (h0 : l.getD i 0 = 0) : val (l.set i d) = val l + 4294967296 ^ i * d := by
  have h1 := at_split (l.set i d) i (by simpa using hi)
  have h2 := at_split l i hi
  have e1 : (l.set i d).take i = l.take i := set_take_ge l d (Nat.le_refl _)
  have e2 : (l.set i d).drop (i + 1) = l.drop (i + 1) := by
    apply List.ext_getElem?
    intro k
    rw [List.getElem?_drop, List.getElem?_drop, List.getElem?_set, if_neg (by omega)]
  rw [e1, e2, set_getD l d hi] at h1
  rw [h0] at h2
  rw [h1, h2, Nat.mul_add, Nat.mul_add]
  omega
theorem div_step (a i : Nat) : a / 4294967296 ^ i = 4294967296 * (a / 4294967296 ^ (i + 1)) + a / 4294967296 ^ i % 4294967296 := by
  rw [Nat.pow_succ, ← Nat.div_div_eq_div_mul]; omega
theorem rdiv_no {a b r R : Nat} {i : Int} {l : List Nat} (h : RDiv a b i r l) (hR : R = (gi (limbs a) i.toNat).toNat + 4294967296 * r) (hi : 0 ≤ i) (hlt : R < b) : RDiv a b (i - 1) R l := by
  obtain ⟨h0, h1, h2, h3, h4, Q, h5, h6⟩ := h
  rw [gi_digit, Int.toNat_natCast] at hR
  have e1 : (i + 1).toNat = i.toNat + 1 := by omega
  have e2 : (i - 1 + 1).toNat = i.toNat := by omega
  rw [e1] at h5 h6
  refine ⟨by omega, by omega, h2, h3, hlt, 4294967296 * Q, ?_, ?_⟩
  · rw [e2, h5, Nat.pow_succ, Nat.mul_assoc]
  · rw [e2, div_step a, ← h6, hR, Nat.mul_add, Nat.mul_assoc]
    omega
theorem rdiv_yes {a b r R : Nat} {i d v : Int} {l : List Nat} (h : RDiv a b i r l) (hR : R = (gi (limbs a) i.toNat).toNat + 4294967296 * r) (hi : 0 ≤ i) (hge : b ≤ R) (hd : v = d ∧ d = ((R / b : Nat) : Int)) :
    RDiv a b (i - 1) (R - (b * v.toNat + 0)) (l.set i.toNat d.toNat) := by
  obtain ⟨h0, h1, h2, h3, h4, Q, h5, h6⟩ := h
  have g1 := gi_lt (dig_limbs a) i.toNat
  have g0 := gi_nonneg (limbs a) i.toNat
  obtain ⟨rfl, rfl⟩ := hd
  rw [Int.toNat_natCast]
  have hRb : R < b * 4294967296 := by
    have : r + 1 ≤ b := h4
    have := Nat.mul_le_mul_left 4294967296 this
    omega
  have hq : R / b < 4294967296 := Nat.div_lt_of_lt_mul hRb
  have hdm := Nat.div_add_mod R b
  have hml := Nat.mod_lt R (show 0 < b by omega)
  rw [gi_digit, Int.toNat_natCast] at hR
  have e1 : (i + 1).toNat = i.toNat + 1 := by omega
  have e2 : (i - 1 + 1).toNat = i.toNat := by omega
  rw [e1] at h5 h6
  have hz : l.getD i.toNat 0 = 0 := by
    rw [digit_eq l _ h3, h5, Nat.pow_succ, Nat.mul_assoc, Nat.mul_div_cancel_left _ (pow_pos' _), Nat.mul_mod_right]
  refine ⟨by omega, by omega, by simpa using h2, dig_set h3 hq _, by omega, 4294967296 * Q + R / b, ?_, ?_⟩
  · rw [e2, set_val_all _ (by omega) hz, h5, Nat.pow_succ, Nat.mul_assoc, Nat.mul_add]
  · rw [e2, div_step a, ← h6, Nat.add_mul, Nat.mul_add, Nat.mul_assoc, Nat.mul_comm (R / b) b]
    omega
theorem rdiv_end {a b r : Nat} {i : Int} {l : List Nat} (h : RDiv a b i r l) (hi : i < 0) : Dig l ∧ l.length = L a ∧ val l = a / b ∧ r = a % b := by
  obtain ⟨h0, h1, h2, h3, h4, Q, h5, h6⟩ := h
  have e1 : (i + 1).toNat = 0 := by omega
  rw [e1] at h5 h6
  simp only [Nat.pow_zero, Nat.one_mul, Nat.div_one] at h5 h6
  have hq : a / b = Q := by
    rw [← h6, Nat.mul_comm, Nat.mul_add_div (by omega), Nat.div_eq_of_lt h4, Nat.add_zero]
  refine ⟨h3, h2, by rw [h5, hq], ?_⟩
  rw [← h6, Nat.mul_comm, Nat.mul_add_mod, Nat.mod_eq_of_lt h4]
theorem U_set0 (l : List Nat) {i : Nat} {x : Int} (h : 0 ≤ x) : List.set (U l) (0 + i) (.int .u32 x) = U (l.set i x.toNat) := by rw [Nat.zero_add]; exact U_setI l i x h
theorem ldset_ok {l : List Nat} {k k' : Nat} {x : Int} (hk : k = k') (h : k < l.length) : (Nat.blt k (List.set (U l) k' (.int .u32 x)).length && isIntK .u32 (nth (List.set (U l) k' (.int .u32 x)) k .unk)) = true := by
  subst hk
  refine and_mk (blt_iff.2 (by simpa [U_len] using h)) ?_
  rw [nth_eq, List.getElem?_set, if_pos rfl, if_pos (by rw [U_len]; exact h)]
  rfl
theorem ldset_eq {l : List Nat} {k k' : Nat} {x : Int} (hk : k = k') (h : k < l.length) : intV (nth (List.set (U l) k' (.int .u32 x)) k .unk) = x := by
  subst hk
  rw [nth_eq, List.getElem?_set, if_pos rfl, if_pos (by rw [U_len]; exact h)]
  rfl
theorem U_cons_take {r : Nat} {x : Int} (h : 0 ≤ x) : List.take (1 + (lim r).length) (List.drop 0 ([V.int .u32 x] ++ lim r)) = U (x.toNat :: limbs r) := by
  rw [List.take_of_length_le (by simp; omega)]
  simp [U, lim]
  omega
theorem dig_cons {x : Int} (h0 : 0 ≤ x) (h1 : x < 4294967296) (r : Nat) : Dig (x.toNat :: limbs r) := fun d hd => by
  rcases List.mem_cons.1 hd with rfl | hd
  · omega
  · exact dig_limbs r d hd
theorem div_lt_B {r b : Nat} (h : r < b * 4294967296) : r / b < 4294967296 := Nat.div_lt_of_lt_mul h
theorem rdiv_le {b R : Nat} {v : Int} (h : v = ((R / b : Nat) : Int)) : b * v.toNat + 0 ≤ R := by
  rw [h, Int.toNat_natCast, Nat.add_zero]
  exact Nat.mul_div_le R b
theorem rdiv_lt {a b r R : Nat} {i : Int} {l : List Nat} (h : RDiv a b i r l) (hR : R = (gi (limbs a) i.toNat).toNat + 4294967296 * r) : R < b * 4294967296 := by
  obtain ⟨h0, h1, h2, h3, h4, Q, h5, h6⟩ := h
  have g1 := gi_lt (dig_limbs a) i.toNat
  have g0 := gi_nonneg (limbs a) i.toNat
  have : r + 1 ≤ b := h4
  have := Nat.mul_le_mul_left 4294967296 this
  omega
theorem L_val {l : List Nat} (h : Dig l) : L (val l) ≤ l.length := limbs_len_le h
end Go.Proofs.YtmbpoibhamlkbaaGreatDoor
