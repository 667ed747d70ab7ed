/-
  Contracts of the layer nat, printed by w1.py. Conditions: as the theorems say.
-/
import Derived.Test.YtcijnloneigfcaaGreatDoorPvNat
import Derived.Test.YtcijnloneigfcaaGreatDoorPvBits
import Derived.Test.YtcijnloneigfcaaGreatDoorPvSeat
namespace Go.Proofs.YtcijnloneigfcaaGreatDoor
open Go.RowKit
set_option maxRecDepth 100000

def nat_size_0_mk (l : List Nat) (x : Int) : St := ⟨mkS 19 [(0, (.val (.sl 1 (U l)))), (3, (.val (.int .i64 x)))], []⟩
def nat_size_0_I (l : List Nat) (x : Int) : Prop := 0 ≤ x ∧ x ≤ l.length ∧ val l = val (l.take (x).toNat)
def nat_size_0_mu (l : List Nat) (x : Int) : Nat := (x).toNat
def nat_size_0_ex (l : List Nat) (y : Int) : Ex × St := (.exit 0, ⟨mkS 19 [(0, (.val (.sl 1 (U l)))), (3, (.val (.int .i64 y)))], []⟩)
def nat_size_0_J (l : List Nat) (y : Int) : Prop := y = ((limbs (val l)).length : Int)
theorem nat_size_0 (l : List Nat) (c0 : Dig l)(c1 : l.length ≤ 1073741824) (x0 : Int) (hI : nat_size_0_I l x0) : LoopOk Tryz.prog Amb (loopN Tryz.f121 0) (nat_size_0_mk l x0) (fun e s => ∃ y, nat_size_0_J l y ∧ nat_size_0_ex l y = (e, s)) :=
  loop_ob hP hAmb ⟨[0, 3], 0, []⟩ (nat_size_0_mk l) (nat_size_0_I l) (nat_size_0_mu l) (nat_size_0_ex l) (nat_size_0_J l) x0 hI (fun n => .lit <| .both (.lits 3 <| .yes <| .lit <| .yes <| .lit <| .yes <| .lits 3 <| .both (.lit <| .yes <| .fin2 ⟨[0, 3], 0, []⟩) (.fin2 ⟨[0, 3], 0, []⟩)) (.lits 7 <| .fin2 ⟨[0, 3], 0, []⟩)) (by
    rintro n hI
    have hI : 0 ≤ n ∧ n ≤ l.length ∧ val l = val (l.take (n).toNat) := hI
    obtain ⟨h1, h2, h3⟩ := hI
    have e0 := U_len l
    exact cast_ob (And.intro True.intro (And.intro (fun (h101 : (iGt n 0) = true) => have _gh101 := iGt_t h101; And.intro (fits_i64 (by first | omega | (simp <;> omega)) : (fits .i64 (n - 1)) = true) (And.intro (inB_mk (by first | omega | (simp <;> omega)) : (inB (n - 1) ((U l).length)) = true) (And.intro (ld_U (by first | omega | (simp <;> omega)) : (Nat.blt ((n - 1).toNat) (U l).length && isIntK .u32 (nth (U l) ((n - 1).toNat) .unk)) = true) (And.intro (fun (h102 : (iEq (gi l ((n - 1).toNat)) 0) = true) => have _gh102 := iEq_t h102; And.intro (fits_i64 (by first | omega | (simp <;> omega)) : (fits .i64 (n - 1)) = true) (And.intro (rfl : true = true) ((nx_next (n - 1) (show 0 ≤ (n - 1) ∧ (n - 1) ≤ l.length ∧ val l = val (l.take ((n - 1)).toNat) from ⟨by omega, by omega, size_step (by omega) (by omega) h3 (by assumption)⟩) (show (n - 1).toNat < n.toNat by omega) : NX (nat_size_0_mk l) (nat_size_0_I l) (nat_size_0_mu l) (nat_size_0_ex l) (nat_size_0_J l) n .normal (nat_size_0_mk l (n - 1)))))) (fun (h103 : (iEq (gi l ((n - 1).toNat)) 0) = false) => have _gh103 := iEq_f h103; And.intro (rfl : true = true) ((nx_exit 0 ((nat_size_0_ex l n).2) n (show n = ((limbs (val l)).length : Int) from size_end c0 h1 h2 h3 (by first | exact .inl (by omega) | exact .inr (by assumption))) rfl : NX (nat_size_0_mk l) (nat_size_0_I l) (nat_size_0_mu l) (nat_size_0_ex l) (nat_size_0_J l) n (.exit 0) ((nat_size_0_ex l n).2)))))))) (fun (h104 : (iGt n 0) = false) => have _gh104 := iGt_f h104; And.intro (rfl : true = true) ((nx_exit 0 ((nat_size_0_ex l n).2) n (show n = ((limbs (val l)).length : Int) from size_end c0 h1 h2 h3 (by first | exact .inl (by omega) | exact .inr (by assumption))) rfl : NX (nat_size_0_mk l) (nat_size_0_I l) (nat_size_0_mu l) (nat_size_0_ex l) (nat_size_0_J l) n (.exit 0) ((nat_size_0_ex l n).2)))))) (by kernel_rfl))


theorem nat_size (l : List Nat) (c0 : Dig l) (c1 : l.length ≤ 1073741824) : Impl Tryz.prog Amb 121 [(.sl 1 (U l))] (.int .i64 ((limbs (val l)).length : Int)) := by
  exact impl_ob hP hAmb Tryz.func121 (by kernel_rfl) (.loop ⟨[0, 3], 0, []⟩ ((nat_size_0_mk l ((U l).length : Int))) (Int) (nat_size_0_ex l) (nat_size_0_J l) (fun y => .lit <| .ret))
    (cast_ob (And.intro True.intro (And.intro (rfl : true = true) (And.intro (rfl : (nat_size_0_mk l ((U l).length : Int)) = (nat_size_0_mk l ((U l).length : Int))) (And.intro (nat_size_0 l c0 c1 ((U l).length : Int) (show 0 ≤ ((U l).length : Int) ∧ ((U l).length : Int) ≤ l.length ∧ val l = val (l.take (((U l).length : Int)).toNat) from ⟨by omega, by rw [U_len]; omega, by rw [U_len]; simp⟩)) (fun y (hJ : nat_size_0_J l y) => have hJ : y = ((limbs (val l)).length : Int) := hJ; have j1 := hJ; (vsub_of (by rw [hJ]) : vsub (.int .i64 y) (.int .i64 ((limbs (val l)).length : Int)))))))) (by kernel_rfl))

theorem nat_sizeN (n : Nat) (c0 : L n ≤ 1073741824) : Impl Tryz.prog Amb 121 [N n] (.int .i64 (L n : Int)) := by
  have h := nat_size (limbs n) (dig_limbs n) c0
  rwa [val_limbs] at h

theorem clone_u32 (c : List V) (c0 : c.all isCell = true) (c1 : c.length ≤ 1073741824) : Impl Tryz.prog Amb 136 [(.sl 1 c)] (.sl 1 c) := by
  exact impl_ob hP hAmb Tryz.func136 (by kernel_rfl) (.both (.both (.lits 2 <| .ret) (.lit <| .yes <| .yes <| .ret)) (.lit <| .yes <| .yes <| .ret))
    (cast_ob (And.intro True.intro (And.intro (fun (h1 : Nat.beq c.length 0 = true) => And.intro ((by rw [show c = [] from List.eq_nil_of_length_eq_zero (Nat.eq_of_beq_eq_true h1)]; exact vsub_nil 1 : vsub .nil (.sl 1 c))) (And.intro (and_mk (and_mk (and_mk (rfl) (by first | assumption | exact U_cells _)) (st_ok (by first | omega | (simp <;> omega)))) (by first | rfl | (simp <;> omega)) : (true && c.all isCell && Nat.ble (0 + c.length) 1073741824 && Nat.beq ([] : List V).length 0) = true) (And.intro (ok_res (by first | omega | (simp <;> omega)) : ((true && Nat.ble (0 + (0 + c.length)) (([] : List V) ++ c).length) && true) = true) (vsub_of (by simp) : vsub (.sl 1 (List.take (0 + c.length) (List.drop 0 (([] : List V) ++ c)))) (.sl 1 c))))) (fun (h2 : Nat.beq c.length 0 = false) => And.intro (and_mk (and_mk (and_mk (rfl) (by first | assumption | exact U_cells _)) (st_ok (by first | omega | (simp <;> omega)))) (by first | rfl | (simp <;> omega)) : (true && c.all isCell && Nat.ble (0 + c.length) 1073741824 && Nat.beq ([] : List V).length 0) = true) (And.intro (ok_res (by first | omega | (simp <;> omega)) : ((true && Nat.ble (0 + (0 + c.length)) (([] : List V) ++ c).length) && true) = true) (vsub_of (by simp) : vsub (.sl 1 (List.take (0 + c.length) (List.drop 0 (([] : List V) ++ c)))) (.sl 1 c)))))) (by kernel_rfl))

theorem nat_sizeC (c : List V) (l : List Nat) (c0 : c = U l) (c1 : Dig l) (c2 : l.length ≤ 1073741824) : Impl Tryz.prog Amb 121 [.sl 1 c] (.int .i64 ((limbs (val l)).length : Int)) := by
  subst c0
  exact nat_size l c1 c2

theorem nat_Trim (l : List Nat) (c0 : Dig l) (c1 : l.length ≤ 1073741824) : Impl Tryz.prog Amb 122 [(.sl 1 (U l))] (N (val l)) := by
  have e0 := cut_lim c0
  have e1 := limbs_len_le c0
  have e2 := U_len l
  exact impl_ob hP hAmb Tryz.func122 (by kernel_rfl) (.lit <| .call (.int .i64 ((limbs (val l)).length : Int)) <| .yes <| .lit <| .call (.sl 1 (List.take ((((limbs (val l)).length : Int) - 0).toNat) (List.drop 0 (U l)))) <| .lit <| .ret)
    (cast_ob (And.intro True.intro (And.intro (nat_size l (by first | omega | (simp <;> omega)) (by first | omega | (simp <;> omega))) (And.intro (and_mk (and_mk (rfl) (iLe_mk (by first | omega | (simp <;> omega)))) (iLe_mk (by first | omega | (simp <;> omega))) : ((true && (iLe (0 : Int) ((limbs (val l)).length : Int))) && (iLe ((limbs (val l)).length : Int) ((U l).length : Int))) = true) (And.intro (clone_u32 (List.take ((((limbs (val l)).length : Int) - 0).toNat) (List.drop 0 (U l))) (by rw [cut_lim c0]; exact U_cells _) (by rw [cut_lim c0]; exact Nat.le_trans (Nat.le_of_eq (lim_len _)) (by omega))) ((vsub_of (congrArg (V.sl 1) (cut_lim c0)) : vsub (.sl 1 (List.take ((((limbs (val l)).length : Int) - 0).toNat) (List.drop 0 (U l)))) (N (val l)))))))) (by kernel_rfl))

theorem nat_TrimN (n : Nat) (c0 : L n ≤ 1073741824) : Impl Tryz.prog Amb 122 [N n] (N n) := by
  have h := nat_Trim (limbs n) (dig_limbs n) c0
  rwa [val_limbs] at h
theorem nat_Trim2 (x y : Int) (c0 : 0 ≤ x ∧ x < 4294967296) (c1 : 0 ≤ y ∧ y < 4294967296) : Impl Tryz.prog Amb 122 [.sl 1 [.int .u32 x, .int .u32 y]] (N (x + 4294967296 * y).toNat) := by
  have h := nat_Trim [x.toNat, y.toNat] (fun d hd => by
    rcases List.mem_cons.1 hd with rfl | hd
    · omega
    · rcases List.mem_cons.1 hd with rfl | hd
      · omega
      · cases hd) (by simp)
  have e : U [x.toNat, y.toNat] = [.int .u32 x, .int .u32 y] := by
    simp only [U, List.map_cons, List.map_nil]
    rw [Int.toNat_of_nonneg c0.1, Int.toNat_of_nonneg c1.1]
  have v : val [x.toNat, y.toNat] = (x + 4294967296 * y).toNat := by simp only [val]; omega
  rwa [e, v] at h

theorem nat_Of (x : Int) (c0 : (0 : Int) ≤ x ∧ x < 18446744073709551616) : Impl Tryz.prog Amb 86 [(.int .u64 x)] (N ((x).toNat)) := by
  have e0 := wrap_u32 x
  have e1 := wrap_u32 (x / 4294967296)
  exact impl_ob hP hAmb Tryz.func86 (by kernel_rfl) (.lit <| .no <| .lits 2 <| .no <| .lit <| .call (N (((IntKind.wrap .u32 x) + 4294967296 * (IntKind.wrap .u32 (Int.fdiv x (2 ^ 32)))).toNat)) <| .lit <| .ret)
    (cast_ob (And.intro True.intro (And.intro (nat_Trim2 (IntKind.wrap .u32 x) (IntKind.wrap .u32 (Int.fdiv x (2 ^ 32))) (by rw [wrap_u32]; omega) (by rw [wrap_u32, fdiv_B]; omega)) ((vsub_of (congrArg N (by rw [wrap_u32, wrap_u32, fdiv_B]; omega)) : vsub (N (((IntKind.wrap .u32 x) + 4294967296 * (IntKind.wrap .u32 (Int.fdiv x (2 ^ 32)))).toNat)) (N ((x).toNat)))))) (by kernel_rfl))

theorem nat_places (n : Int) (c0 : 0 ≤ n ∧ n ≤ 1048576) : Impl Tryz.prog Amb 120 [(.int .i64 n)] (.int .i64 n) := by
  exact impl_ob hP hAmb Tryz.func120 (by kernel_rfl) (.lits 3 <| .ret)
    (cast_ob (And.intro True.intro ((vsub_of (congrArg (V.int .i64) (by unfold iMin iMax; split <;> split <;> omega)) : vsub (.int .i64 (iMin (iMax n (0 : Int)) (1048576 : Int))) (.int .i64 n)))) (by kernel_rfl))

theorem nat_Valid (n : Nat) (c0 : L n ≤ 1073741824) : Impl Tryz.prog Amb 127 [(N n)] (.bool true) := by
  exact impl_ob hP hAmb Tryz.func127 (by kernel_rfl) (.lit <| .call (.int .i64 (L n : Int)) <| .lits 2 <| .ret)
    (cast_ob (And.intro True.intro (And.intro (nat_sizeN n (by first | omega | (simp <;> omega))) ((vsub_of (congrArg V.bool (iEq_mk (by rw [L_len]))) : vsub (.bool (iEq (L n : Int) ((lim n).length : Int))) (.bool true))))) (by kernel_rfl))

def nat_Cmp_0_mk (a b : Nat) (x : Int) : St := ⟨mkS 46 [(0, (.val (N a))), (1, (.val (N b))), (4, (.val (.int .i64 0))), (7, (.val (.int .i64 x)))], []⟩
def nat_Cmp_0_I (a b : Nat) (x : Int) : Prop := -1 ≤ x ∧ x < L a ∧ (limbs a).drop (x + 1).toNat = (limbs b).drop (x + 1).toNat
def nat_Cmp_0_mu (a b : Nat) (x : Int) : Nat := (x + 1).toNat
def nat_Cmp_0_ex (a b : Nat) (y : (Int) ⊕ (Unit)) : Ex × St := Sum.elim (fun (y : Int) => (.ret, ⟨mkS 46 [(4, (.val (.int .i64 y)))], []⟩)) (fun (y : Unit) => (.exit 1, ⟨mkS 46 [], []⟩)) y
def nat_Cmp_0_J (a b : Nat) (y : (Int) ⊕ (Unit)) : Prop := Sum.elim (fun (y : Int) => y = cmpN a b) (fun (y : Unit) => a = b) y
theorem nat_Cmp_0 (a b : Nat) (c0 : L a = L b)(c1 : L a ≤ 1073741824) (x0 : Int) (hI : nat_Cmp_0_I a b x0) : LoopOk Tryz.prog Amb (loopN Tryz.f113 0) (nat_Cmp_0_mk a b x0) (fun e s => ∃ y, nat_Cmp_0_J a b y ∧ nat_Cmp_0_ex a b y = (e, s)) :=
  loop_ob hP hAmb ⟨[0, 1, 4, 7], 0, []⟩ (nat_Cmp_0_mk a b) (nat_Cmp_0_I a b) (nat_Cmp_0_mu a b) (nat_Cmp_0_ex a b) (nat_Cmp_0_J a b) x0 hI (fun i => .lit <| .both (.yes <| .yes <| .yes <| .yes <| .lit <| .both (.fin2 ⟨[4], 0, []⟩) (.yes <| .yes <| .yes <| .yes <| .lit <| .both (.fin2 ⟨[4], 0, []⟩) (.lit <| .yes <| .fin2 ⟨[0, 1, 4, 7], 0, []⟩))) (.fin2 ⟨[], 0, []⟩)) (by
    rintro i hI
    have hI : -1 ≤ i ∧ i < L a ∧ (limbs a).drop (i + 1).toNat = (limbs b).drop (i + 1).toNat := hI
    obtain ⟨h1, h2, h3⟩ := hI
    have e0 := L_len a
    have e1 := L_len b
    have h4 : 0 ≤ i → (limbs a).drop (i.toNat + 1) = (limbs b).drop (i.toNat + 1) := fun h => by rw [show i.toNat + 1 = (i + 1).toNat by omega]; exact h3
    exact cast_ob (And.intro True.intro (And.intro (fun (h101 : (iGe i 0) = true) => have _gh101 := iGe_t h101; And.intro (inB_mk (by first | omega | (simp <;> omega)) : (inB i ((lim a).length)) = true) (And.intro (ld_L (by first | omega | (simp <;> omega)) : (Nat.blt i.toNat (lim a).length && isIntK .u32 (nth (lim a) i.toNat .unk)) = true) (And.intro (inB_mk (by first | omega | (simp <;> omega)) : (inB i ((lim b).length)) = true) (And.intro (ld_L (by first | omega | (simp <;> omega)) : (Nat.blt i.toNat (lim b).length && isIntK .u32 (nth (lim b) i.toNat .unk)) = true) (And.intro (fun (h102 : (iLt (gi (limbs a) i.toNat) (gi (limbs b) i.toNat)) = true) => have _gh102 := iLt_t h102; And.intro (rfl : true = true) ((nx_ret ((nat_Cmp_0_ex a b (.inl (-1))).2) (.inl (-1)) (show (-1) = cmpN a b from (cmpN_lt (cmp_lt (by omega) (by omega) (h4 (by omega)) (by assumption))).symm) rfl : NX (nat_Cmp_0_mk a b) (nat_Cmp_0_I a b) (nat_Cmp_0_mu a b) (nat_Cmp_0_ex a b) (nat_Cmp_0_J a b) i .ret ((nat_Cmp_0_ex a b (.inl (-1))).2)))) (fun (h103 : (iLt (gi (limbs a) i.toNat) (gi (limbs b) i.toNat)) = false) => have _gh103 := iLt_f h103; And.intro (inB_mk (by first | omega | (simp <;> omega)) : (inB i ((lim a).length)) = true) (And.intro (ld_L (by first | omega | (simp <;> omega)) : (Nat.blt i.toNat (lim a).length && isIntK .u32 (nth (lim a) i.toNat .unk)) = true) (And.intro (inB_mk (by first | omega | (simp <;> omega)) : (inB i ((lim b).length)) = true) (And.intro (ld_L (by first | omega | (simp <;> omega)) : (Nat.blt i.toNat (lim b).length && isIntK .u32 (nth (lim b) i.toNat .unk)) = true) (And.intro (fun (h104 : (iGt (gi (limbs a) i.toNat) (gi (limbs b) i.toNat)) = true) => have _gh104 := iGt_t h104; And.intro (rfl : true = true) ((nx_ret ((nat_Cmp_0_ex a b (.inl 1)).2) (.inl 1) (show 1 = cmpN a b from (cmpN_gt (cmp_lt (by omega) (by omega) (h4 (by omega)).symm (by assumption))).symm) rfl : NX (nat_Cmp_0_mk a b) (nat_Cmp_0_I a b) (nat_Cmp_0_mu a b) (nat_Cmp_0_ex a b) (nat_Cmp_0_J a b) i .ret ((nat_Cmp_0_ex a b (.inl 1)).2)))) (fun (h105 : (iGt (gi (limbs a) i.toNat) (gi (limbs b) i.toNat)) = false) => have _gh105 := iGt_f h105; And.intro (fits_i64 (by first | omega | (simp <;> omega)) : (fits .i64 (i - 1)) = true) (And.intro (rfl : true = true) ((nx_next (i - 1) (show -1 ≤ (i - 1) ∧ (i - 1) < L a ∧ (limbs a).drop ((i - 1) + 1).toNat = (limbs b).drop ((i - 1) + 1).toNat from ⟨by omega, by omega, by rw [show (i - 1 + 1).toNat = i.toNat by omega]; exact cmp_step (by omega) (by omega) (h4 (by omega)) (by unfold gi at *; omega)⟩) (show (i - 1 + 1).toNat < (i + 1).toNat by omega) : NX (nat_Cmp_0_mk a b) (nat_Cmp_0_I a b) (nat_Cmp_0_mu a b) (nat_Cmp_0_ex a b) (nat_Cmp_0_J a b) i .normal (nat_Cmp_0_mk a b (i - 1)))))))))))))))) (fun (h106 : (iGe i 0) = false) => have _gh106 := iGe_f h106; And.intro (rfl : true = true) ((nx_exit 1 ((nat_Cmp_0_ex a b (.inr ())).2) (.inr ()) (show a = b from limbs_ext (by rw [← show (i + 1).toNat = 0 by omega]; exact h3)) rfl : NX (nat_Cmp_0_mk a b) (nat_Cmp_0_I a b) (nat_Cmp_0_mu a b) (nat_Cmp_0_ex a b) (nat_Cmp_0_J a b) i (.exit 1) ((nat_Cmp_0_ex a b (.inr ())).2)))))) (by kernel_rfl))


theorem nat_Cmp (a : Nat) (b : Nat) (c0 : L a ≤ 1073741824) (c1 : L b ≤ 1073741824) : Impl Tryz.prog Amb 113 [(N a), (N b)] (.int .i64 (cmpN a b)) := by
  have e0 := L_len a
  have e1 := L_len b
  exact impl_ob hP hAmb Tryz.func113 (by kernel_rfl) (.lit <| .call (.int .i64 (L a : Int)) <| .lit <| .call (.int .i64 (L b : Int)) <| .lit <| .both (.lit <| .ret) (.lit <| .both (.lit <| .ret) (.lit <| .yes <| .loop2 ⟨[0, 1, 4, 7], 0, []⟩ ((nat_Cmp_0_mk a b ((L a : Int) - 1))) (Int) (Unit) (nat_Cmp_0_ex a b) (nat_Cmp_0_J a b) (fun y => .lit <| .ret) (fun y => .lit <| .ret))))
    (cast_ob (And.intro True.intro (And.intro (nat_sizeN a (by first | omega | (simp <;> omega))) (And.intro (nat_sizeN b (by first | omega | (simp <;> omega))) (And.intro (fun (h1 : (iLt (L a : Int) (L b : Int)) = true) => have _gh1 := iLt_t h1; (vsub_of (congrArg (V.int .i64) (cmpN_lt (L_lt_of (by omega))).symm) : vsub (.int .i64 (-1)) (.int .i64 (cmpN a b)))) (fun (h2 : (iLt (L a : Int) (L b : Int)) = false) => have _gh2 := iLt_f h2; And.intro (fun (h3 : (iGt (L a : Int) (L b : Int)) = true) => have _gh3 := iGt_t h3; (vsub_of (congrArg (V.int .i64) (cmpN_gt (L_lt_of (by omega))).symm) : vsub (.int .i64 1) (.int .i64 (cmpN a b)))) (fun (h4 : (iGt (L a : Int) (L b : Int)) = false) => have _gh4 := iGt_f h4; And.intro (fits_i64 (by first | omega | (simp <;> omega)) : (fits .i64 ((L a : Int) - 1)) = true) (And.intro (rfl : true = true) (And.intro (rfl : (nat_Cmp_0_mk a b ((L a : Int) - 1)) = (nat_Cmp_0_mk a b ((L a : Int) - 1))) (And.intro (nat_Cmp_0 a b (by omega) c0 ((L a : Int) - 1) (show -1 ≤ ((L a : Int) - 1) ∧ ((L a : Int) - 1) < L a ∧ (limbs a).drop (((L a : Int) - 1) + 1).toNat = (limbs b).drop (((L a : Int) - 1) + 1).toNat from ⟨by omega, by omega, by rw [List.drop_eq_nil_of_le (by unfold L at *; omega), List.drop_eq_nil_of_le (by unfold L at *; omega)]⟩)) (And.intro (fun (y : Int) (hJ : nat_Cmp_0_J a b (.inl y)) => have hJ : y = cmpN a b := hJ; (vsub_of (congrArg (V.int .i64) hJ) : vsub (.int .i64 y) (.int .i64 (cmpN a b)))) (fun (y : Unit) (hJ : nat_Cmp_0_J a b (.inr y)) => have hJ : a = b := hJ; (vsub_of (congrArg (V.int .i64) (cmpN_eq hJ).symm) : vsub (.int .i64 0) (.int .i64 (cmpN a b)))))))))))))) (by kernel_rfl))

theorem cloneO_u32 (c : List V) (c0 : c.all isPrim = true) (c1 : c.all isCell = true) (c2 : c.length ≤ 1073741824) (c3 : c.length ≠ 0) : ImplO Tryz.prog Amb 136 [(.sl 1 c)] 1 (0 + c.length) c := by
  exact implO_ob hP hAmb Tryz.func136 (by kernel_rfl) (by assumption) (.no <| .lit <| .yes <| .fin2 ⟨[2], 2, []⟩)
    (cast_ob (And.intro True.intro (And.intro (beq_no c3 : Nat.beq c.length 0 = false) (And.intro (and_mk (and_mk (and_mk (rfl) (by first | assumption | exact U_cells _)) (st_ok (by first | omega | (simp <;> omega)))) (by first | rfl | (simp <;> omega)) : (true && c.all isCell && Nat.ble (0 + c.length) 1073741824 && Nat.beq ([] : List V).length 0) = true) (And.intro (rfl : true = true) (⟨.inl rfl, 1, 2, rfl, rfl, rfl, ⟨[], by simp [bx, nth]⟩⟩ : EndO Tryz.f136.results 1 (0 + c.length) c .ret ⟨mkS 8 [(2, (.osl 1 0 (0 + c.length) 1))], [⟨false, false, ([] : List V)⟩, ⟨true, false, (([] : List V) ++ c)⟩]⟩))))) (by kernel_rfl))

end Go.Proofs.YtcijnloneigfcaaGreatDoor
