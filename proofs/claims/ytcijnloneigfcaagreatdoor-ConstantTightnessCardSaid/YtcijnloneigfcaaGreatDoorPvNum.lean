/-
  Naturals as lists of limbs, the data of the program's types (N, Z, ..), and small facts for the proofs that pv.py prints. No condition.
-/
import Derived.Test.YtcijnloneigfcaaGreatDoorPvOb
namespace Go.Proofs.YtcijnloneigfcaaGreatDoor

def Ch.lits : Nat → Ch → Ch
  | 0, c => c
  | n + 1, c => .lit (Ch.lits n c)

/-! ### limbs -/
def U (l : List Nat) : List V := l.map fun (d : Nat) => V.int .u32 (d : Int)
def val : List Nat → Nat
  | [] => 0
  | d :: l => d + 4294967296 * val l
def limbs (n : Nat) : List Nat := if n = 0 then [] else n % 4294967296 :: limbs (n / 4294967296)
termination_by n
decreasing_by omega
def lim (n : Nat) : List V := U (limbs n)
def N (n : Nat) : V := .sl 1 (lim n)
def Z (z : Int) : V := .agg [.bool (decide (z < 0)), N z.natAbs]
def Dig (l : List Nat) : Prop := ∀ d ∈ l, d < 4294967296
/-- the limb at a place, 0 beyond -/
def gi (l : List Nat) (i : Nat) : Int := intV (nth (U l) i .unk)

theorem U_len (l : List Nat) : (U l).length = l.length := by simp [U]
theorem lim_len (n : Nat) : (lim n).length = (limbs n).length := U_len _
theorem U_get (l : List Nat) (i : Nat) : (U l)[i]? = (l[i]?).map fun (d : Nat) => V.int .u32 (d : Int) := by simp [U]
theorem gi_eq (l : List Nat) (i : Nat) : gi l i = ((l.getD i 0 : Nat) : Int) := by
  unfold gi
  rw [nth_eq, U_get, List.getD_eq_getElem?_getD]
  cases l[i]? <;> rfl
theorem U_set (l : List Nat) (i d : Nat) : (U l).set i (.int .u32 (d : Int)) = U (l.set i d) := by simp [U, List.map_set]
theorem U_take (l : List Nat) (n : Nat) : (U l).take n = U (l.take n) := by simp [U]
theorem U_drop (l : List Nat) (n : Nat) : (U l).drop n = U (l.drop n) := by simp [U]
theorem U_append (l m : List Nat) : U l ++ U m = U (l ++ m) := by simp [U]
theorem U_cells (l : List Nat) : (U l).all isCell = true := by
  rw [List.all_eq_true]
  intro x hx
  obtain ⟨d, _, rfl⟩ := List.mem_map.1 hx
  rfl
theorem U_rep (n : Nat) : List.replicate n (V.int .u32 0) = U (List.replicate n 0) := by simp [U]

theorem limbs_zero : limbs 0 = [] := by rw [limbs]; rfl
theorem limbs_pos {n : Nat} (h : n ≠ 0) : limbs n = n % 4294967296 :: limbs (n / 4294967296) := by rw [limbs, if_neg h]
theorem val_limbs (n : Nat) : val (limbs n) = n := by
  induction n using Nat.strongRecOn with
  | _ n ih =>
    by_cases h : n = 0
    · subst h; rw [limbs_zero]; rfl
    · rw [limbs_pos h, val, ih _ (by omega)]; omega
theorem dig_limbs (n : Nat) : Dig (limbs n) := by
  induction n using Nat.strongRecOn with
  | _ n ih =>
    by_cases h : n = 0
    · subst h; rw [limbs_zero]; intro d hd; cases hd
    · rw [limbs_pos h]
      intro d hd
      rcases List.mem_cons.1 hd with rfl | hd
      · omega
      · exact ih _ (by omega) d hd
theorem val_append (l m : List Nat) : val (l ++ m) = val l + 4294967296 ^ l.length * val m := by
  induction l with
  | nil => simp [val]
  | cons d l ih => rw [List.cons_append, val, val, ih, List.length_cons, Nat.pow_succ, Nat.mul_add, Nat.add_assoc, ← Nat.mul_assoc, Nat.mul_comm (4294967296 ^ l.length)]
theorem val_rep (n : Nat) : val (List.replicate n 0) = 0 := by
  induction n with
  | zero => rfl
  | succ n ih => rw [List.replicate_succ, val, ih]
theorem val_lt {l : List Nat} (h : Dig l) : val l < 4294967296 ^ l.length := by
  induction l with
  | nil => simp [val]
  | cons d l ih =>
    have h1 := h d (by simp)
    have h2 := ih fun x hx => h x (by simp [hx])
    rw [val, List.length_cons, Nat.pow_succ]
    omega
theorem limbs_val {l : List Nat} (h : Dig l) (hl : l = [] ∨ l.getLast? ≠ some 0) : limbs (val l) = l := by
  induction l with
  | nil => rw [val, limbs_zero]
  | cons d l ih =>
    have h1 := h d (by simp)
    have hd : Dig l := fun x hx => h x (by simp [hx])
    have hne : val (d :: l) ≠ 0 := by
      rcases hl with q | q
      · cases q
      · cases l with
        | nil => rw [val, val]; simp at q; omega
        | cons e m =>
          rw [val]
          have hih := ih hd (.inr (by simpa [List.getLast?_cons_cons] using q))
          have : val (e :: m) ≠ 0 := fun e0 => by rw [e0, limbs_zero] at hih; cases hih
          omega
    rw [limbs_pos hne]
    have e1 : val (d :: l) % 4294967296 = d := by rw [val]; omega
    have e2 : val (d :: l) / 4294967296 = val l := by rw [val]; omega
    rw [e1, e2, ih hd (by
      cases l with
      | nil => exact .inl rfl
      | cons e m =>
        right
        rcases hl with q | q
        · cases q
        · simpa [List.getLast?_cons_cons] using q)]

/-! ### facts on tests -/
theorem iLt_t {a b : Int} (h : iLt a b = true) : a < b := of_decide_eq_true h
theorem iLt_f {a b : Int} (h : iLt a b = false) : b ≤ a := Int.not_lt.1 (of_decide_eq_false h)
theorem iLe_t {a b : Int} (h : iLe a b = true) : a ≤ b := of_decide_eq_true h
theorem iLe_f {a b : Int} (h : iLe a b = false) : b < a := Int.not_le.1 (of_decide_eq_false h)
theorem iGt_t {a b : Int} (h : iGt a b = true) : b < a := of_decide_eq_true h
theorem iGt_f {a b : Int} (h : iGt a b = false) : a ≤ b := Int.not_lt.1 (of_decide_eq_false h)
theorem iGe_t {a b : Int} (h : iGe a b = true) : b ≤ a := of_decide_eq_true h
theorem iGe_f {a b : Int} (h : iGe a b = false) : a < b := Int.not_le.1 (of_decide_eq_false h)
theorem iEq_t {a b : Int} (h : iEq a b = true) : a = b := by simpa [iEq] using h
theorem iEq_f {a b : Int} (h : iEq a b = false) : a ≠ b := by simpa [iEq] using h
theorem iNe_t {a b : Int} (h : iNe a b = true) : a ≠ b := by simpa [iNe] using h
theorem iNe_f {a b : Int} (h : iNe a b = false) : a = b := by simpa [iNe] using h
theorem iLt_mk {a b : Int} (h : a < b) : iLt a b = true := decide_eq_true h
theorem iLe_mk {a b : Int} (h : a ≤ b) : iLe a b = true := decide_eq_true h
theorem iGt_mk {a b : Int} (h : b < a) : iGt a b = true := decide_eq_true h
theorem iGe_mk {a b : Int} (h : b ≤ a) : iGe a b = true := decide_eq_true h
theorem iEq_mk {a b : Int} (h : a = b) : iEq a b = true := by simpa [iEq] using h
theorem iNe_mk {a b : Int} (h : a ≠ b) : iNe a b = true := by simpa [iNe] using h
theorem iLt_mkF {a b : Int} (h : b ≤ a) : iLt a b = false := decide_eq_false (Int.not_lt.2 h)
theorem iLe_mkF {a b : Int} (h : b < a) : iLe a b = false := decide_eq_false (Int.not_le.2 h)
theorem iGt_mkF {a b : Int} (h : a ≤ b) : iGt a b = false := decide_eq_false (Int.not_lt.2 h)
theorem iGe_mkF {a b : Int} (h : a < b) : iGe a b = false := decide_eq_false (Int.not_le.2 h)
theorem iEq_mkF {a b : Int} (h : a ≠ b) : iEq a b = false := by simpa [iEq] using h
theorem iNe_mkF {a b : Int} (h : a = b) : iNe a b = false := by simpa [iNe] using h
theorem inB_mk {i : Int} {n : Nat} (h : 0 ≤ i ∧ i < n) : inB i n = true := inB_iff.2 h
theorem notb_t {b : Bool} (h : (!b) = true) : b = false := by simpa using h
theorem notb_f {b : Bool} (h : (!b) = false) : b = true := by simpa using h
theorem and_mk {a b : Bool} (h : a = true) (k : b = true) : (a && b) = true := by rw [h, k]; rfl
theorem fits_i64 {n : Int} (h : -9223372036854775808 ≤ n ∧ n ≤ 9223372036854775807) : fits .i64 n = true := and_mk (iLe_mk (by simp [IntKind.min, IntKind.signed, IntKind.bits]; omega)) (iLe_mk (by simp [IntKind.max, IntKind.signed, IntKind.bits]; omega))
theorem fits_u64 {n : Int} (h : 0 ≤ n ∧ n ≤ 18446744073709551615) : fits .u64 n = true := and_mk (iLe_mk (by simp [IntKind.min, IntKind.signed]; omega)) (iLe_mk (by simp [IntKind.max, IntKind.signed, IntKind.bits]; omega))
theorem fits_u32 {n : Int} (h : 0 ≤ n ∧ n ≤ 4294967295) : fits .u32 n = true := and_mk (iLe_mk (by simp [IntKind.min, IntKind.signed]; omega)) (iLe_mk (by simp [IntKind.max, IntKind.signed, IntKind.bits]; omega))
theorem wrap_u32 (n : Int) : IntKind.wrap .u32 n = n % 4294967296 := by simp [IntKind.wrap, IntKind.bits, IntKind.signed]
theorem wrap_u64 (n : Int) : IntKind.wrap .u64 n = n % 18446744073709551616 := by simp [IntKind.wrap, IntKind.bits, IntKind.signed]
/-- a limb is there to be loaded -/
theorem beq_no {n m : Nat} (h : n ≠ m) : Nat.beq n m = false := by
  cases e : Nat.beq n m
  · rfl
  · exact absurd (Nat.eq_of_beq_eq_true e) h
theorem ld_U {l : List Nat} {i : Nat} (h : i < l.length) : (Nat.blt i (U l).length && isIntK .u32 (nth (U l) i .unk)) = true := by
  refine and_mk (blt_iff.2 (by rw [U_len]; exact h)) ?_
  rw [nth_eq, U_get, List.getElem?_eq_getElem h]
  rfl
theorem ld_N {n i : Nat} (h : i < (limbs n).length) : (Nat.blt i (lim n).length && isIntK .u32 (nth (lim n) i .unk)) = true := ld_U h
theorem st_ok {a b : Nat} (h : a ≤ b) : Nat.ble a b = true := Nat.ble_eq ▸ h
theorem mk_ok {n : Int} (h : 0 ≤ n ∧ n ≤ 1073741824) : ((iEq n n && iLe 0 n) && iLe n 1073741824) = true := and_mk (and_mk (iEq_mk rfl) (iLe_mk h.1)) (iLe_mk h.2)
theorem sl_ok {l m n : Int} (h : 0 ≤ l ∧ l ≤ m ∧ m ≤ n) : ((iLe 0 l && iLe l m) && iLe m n) = true := and_mk (and_mk (iLe_mk h.1) (iLe_mk h.2.1)) (iLe_mk h.2.2)
theorem ok_arg {a b : Nat} (h : a ≤ b) : ((true && Nat.ble a b) && true) = true := and_mk (Nat.ble_eq ▸ h) rfl
theorem ok_res {a b : Nat} (h : a ≤ b) : ((true && Nat.ble a b) && true) = true := and_mk (Nat.ble_eq ▸ h) rfl

end Go.Proofs.YtcijnloneigfcaaGreatDoor
