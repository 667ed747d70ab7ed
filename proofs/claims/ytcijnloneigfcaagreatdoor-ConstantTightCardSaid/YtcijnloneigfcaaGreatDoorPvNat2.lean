/-
  Plain facts for the sums, differences and shifts of lists of limbs. No condition.
-/
import Derived.Test.YtcijnloneigfcaaGreatDoorPvNat
namespace Go.Proofs.YtcijnloneigfcaaGreatDoor

theorem U_setI (l : List Nat) (i : Nat) (d : Int) (h : 0 ≤ d) : List.set (U l) i (.int .u32 d) = U (l.set i d.toNat) := by
  rw [← U_set, Int.toNat_of_nonneg h]
theorem gi_out {l : List Nat} {i : Nat} (h : l.length ≤ i) : gi l i = 0 := by
  rw [gi_eq, List.getD_eq_getElem?_getD, List.getElem?_eq_none h]; rfl
theorem take_succ_val (l : List Nat) (i : Nat) : val (l.take (i + 1)) = val (l.take i) + 4294967296 ^ i * l.getD i 0 := by
  by_cases h : i < l.length
  · rw [List.take_succ_eq_append_getElem h, val_append, List.length_take, Nat.min_eq_left (by omega), List.getD_eq_getElem?_getD, List.getElem?_eq_getElem h]
    simp [val]
  · rw [List.take_of_length_le (by omega), List.take_of_length_le (by omega), List.getD_eq_getElem?_getD, List.getElem?_eq_none (by omega)]
    simp
theorem set_take_ge (l : List Nat) {i j : Nat} (d : Nat) (h : i ≤ j) : (l.set j d).take i = l.take i := by
  rw [List.take_set_of_le h]
theorem set_getD (l : List Nat) {i : Nat} (d : Nat) (h : i < l.length) : (l.set i d).getD i 0 = d := by
  simp [List.getD_eq_getElem?_getD, h]
theorem set_getD_ne (l : List Nat) {i j : Nat} (d : Nat) (h : i ≠ j) : (l.set i d).getD j 0 = l.getD j 0 := by
  simp [List.getD_eq_getElem?_getD, List.getElem?_set_ne h]
theorem set_val (l : List Nat) {i : Nat} (d : Nat) (h : i < l.length) : val ((l.set i d).take (i + 1)) = val (l.take i) + 4294967296 ^ i * d := by
  rw [take_succ_val, set_take_ge _ _ (Nat.le_refl _), set_getD _ _ h]
theorem val_all (l : List Nat) {n : Nat} (h : l.length ≤ n) : val (l.take n) = val l := by rw [List.take_of_length_le h]
theorem val_lim (n : Nat) {k : Nat} (h : L n ≤ k) : val ((limbs n).take k) = n := by rw [val_all _ h, val_limbs]
theorem dig_rep' (n : Nat) : Dig (List.replicate n 0) := dig_rep n
theorem fin_lim {c : List V} {l : List Nat} {n : Nat} (hc : c = U l) (hD : Dig l) (hn : val l = n) :
    List.take ((((limbs (val l)).length : Int)) - 0).toNat (List.drop 0 c) = lim n := by
  subst hc; subst hn; exact cut_lim hD
theorem setU (l : List Nat) {k k' : Nat} {w : Int} {d : Nat} (hk : k = k') (hw : w = (d : Int)) : List.set (U l) k (.int .u32 w) = U (l.set k' d) := by
  subst hk; subst hw; exact U_set l k d
theorem tkU {c : List V} {l : List Nat} {n : Nat} (h : c = U l) (hn : l.length ≤ n) : List.take n (List.drop 0 c) = U l := by
  subst h; rw [List.drop_zero, List.take_of_length_le (by rw [U_len]; exact hn)]
theorem U_prim (l : List Nat) : (U l).all isPrim = true := by
  rw [List.all_eq_true]
  intro x hx
  obtain ⟨d, _, rfl⟩ := List.mem_map.1 hx
  rfl
theorem cut_self (n : Nat) : List.take (((L n : Int)) - 0).toNat (List.drop 0 (lim n)) = lim n := by
  have h := cut_lim (dig_limbs n)
  rw [val_limbs] at h
  exact h
theorem fdiv_B (s : Int) : Int.fdiv s (2 ^ 32) = s / 4294967296 := by
  rw [Int.fdiv_eq_ediv_of_nonneg _ (by decide)]; rfl

/-! ### sums -/
def AddInv (a b : Nat) (i c : Int) (out : List Nat) : Prop :=
  0 ≤ i ∧ i ≤ L a ∧ 0 ≤ c ∧ c ≤ 1 ∧ out.length = L a + 1 ∧ Dig out ∧
  val (out.take i.toNat) + 4294967296 ^ i.toNat * c.toNat = val ((limbs a).take i.toNat) + val ((limbs b).take i.toNat)
theorem add_init (a b : Nat) : AddInv a b 0 0 (List.replicate (L a + 1) 0) := ⟨by omega, by omega, by omega, by omega, by simp, dig_rep _, by simp [val]⟩
theorem add_next {a b : Nat} {i c s : Int} {out : List Nat} (h : AddInv a b i c out) (hi : i < L a) (hs : s = c + gi (limbs a) i.toNat + gi (limbs b) i.toNat) :
    AddInv a b (i + 1) (Int.fdiv s (2 ^ 32)) (out.set i.toNat (IntKind.wrap .u32 s).toNat) := by
  obtain ⟨h0, h1, h2, h3, h4, h5, h6⟩ := h
  have ga := gi_lt (dig_limbs a) i.toNat
  have gb := gi_lt (dig_limbs b) i.toNat
  have na := gi_nonneg (limbs a) i.toNat
  have nb := gi_nonneg (limbs b) i.toNat
  rw [fdiv_B, wrap_u32]
  refine ⟨by omega, by omega, by omega, by omega, by simpa using h4, dig_set h5 (by omega) _, ?_⟩
  rw [show (i + 1).toNat = i.toNat + 1 by omega, set_val _ _ (by omega), take_succ_val, take_succ_val, Nat.pow_succ]
  rw [gi_eq] at ga gb na nb hs
  rw [gi_eq] at hs
  generalize (limbs a).getD i.toNat 0 = x at *
  generalize (limbs b).getD i.toNat 0 = y at *
  generalize 4294967296 ^ i.toNat = p at *
  have e : (s % 4294967296).toNat + 4294967296 * (s / 4294967296).toNat = c.toNat + x + y := by omega
  have : p * (s % 4294967296).toNat + p * 4294967296 * (s / 4294967296).toNat = p * c.toNat + p * x + p * y := by
    rw [Nat.mul_assoc, ← Nat.mul_add, e, Nat.mul_add, Nat.mul_add]
  omega
theorem add_end {a b : Nat} {c : Int} {out : List Nat} (hb : L b ≤ L a) (h : AddInv a b (L a : Int) c out) :
    Dig (out.set (L a) c.toNat) ∧ (out.set (L a) c.toNat).length = L a + 1 ∧ val (out.set (L a) c.toNat) = a + b := by
  obtain ⟨h0, h1, h2, h3, h4, h5, h6⟩ := h
  refine ⟨dig_set h5 (by omega) _, by simpa using h4, ?_⟩
  rw [Int.toNat_natCast, val_lim a (Nat.le_refl _), val_lim b hb] at h6
  rw [← h6, ← val_all (out.set (L a) c.toNat) (n := L a + 1) (by simp; omega), set_val _ _ (by omega)]

/-! ### differences -/
def SubInv (a b : Nat) (i c : Int) (out : List Nat) : Prop :=
  0 ≤ i ∧ i ≤ L a ∧ 0 ≤ c ∧ c ≤ 1 ∧ out.length = L a ∧ Dig out ∧
  val (out.take i.toNat) + val ((limbs b).take i.toNat) = val ((limbs a).take i.toNat) + 4294967296 ^ i.toNat * c.toNat
theorem sub_init (a b : Nat) : SubInv a b 0 0 (List.replicate (L a) 0) := ⟨by omega, by omega, by omega, by omega, by simp, dig_rep _, by simp [val]⟩
theorem sub_next {a b : Nat} {i c y : Int} {out : List Nat} (h : SubInv a b i c out) (hi : i < L a) (hy : y = gi (limbs b) i.toNat) :
    SubInv a b (i + 1) (if gi (limbs a) i.toNat < y + c then 1 else 0) (out.set i.toNat ((gi (limbs a) i.toNat - y - c) % 4294967296).toNat) := by
  obtain ⟨h0, h1, h2, h3, h4, h5, h6⟩ := h
  have ga := gi_lt (dig_limbs a) i.toNat
  have gb := gi_lt (dig_limbs b) i.toNat
  have na := gi_nonneg (limbs a) i.toNat
  have nb := gi_nonneg (limbs b) i.toNat
  subst hy
  refine ⟨by omega, by omega, by split <;> omega, by split <;> omega, by simpa using h4, dig_set h5 (by omega) _, ?_⟩
  rw [show (i + 1).toNat = i.toNat + 1 by omega, set_val _ _ (by omega), take_succ_val, take_succ_val, Nat.pow_succ]
  rw [gi_eq] at ga gb na nb
  rw [gi_eq, gi_eq]
  generalize (limbs a).getD i.toNat 0 = x at *
  generalize (limbs b).getD i.toNat 0 = y at *
  generalize 4294967296 ^ i.toNat = p at *
  generalize hk : (if (x : Int) < y + c then (1 : Int) else 0) = k
  have e : (((x : Int) - y - c) % 4294967296).toNat + y + c.toNat = x + 4294967296 * k.toNat := by subst hk; split <;> omega
  have e2 : p * (((x : Int) - y - c) % 4294967296).toNat + p * y + p * c.toNat = p * x + p * 4294967296 * k.toNat := by
    rw [Nat.mul_assoc, ← Nat.mul_add, ← Nat.mul_add, e, Nat.mul_add]
  omega
theorem sub_end {a b : Nat} {c : Int} {out : List Nat} (hab : b ≤ a) (h : SubInv a b (L a : Int) c out) :
    Dig out ∧ out.length = L a ∧ val out = a - b := by
  obtain ⟨h0, h1, h2, h3, h4, h5, h6⟩ := h
  refine ⟨h5, h4, ?_⟩
  rw [Int.toNat_natCast, val_lim a (Nat.le_refl _), val_lim b (L_mono hab), val_all out (by omega)] at h6
  have := val_lt h5
  rw [h4] at this
  rcases (show c = 0 ∨ c = 1 by omega) with rfl | rfl
  · simp at h6; omega
  · simp at h6; omega

/-! ### a limb's subtraction with borrow -/
theorem ofInt32 {a : Int} (h : 0 ≤ a) : (BitVec.ofInt 32 a).toNat = a.toNat % 4294967296 := by
  obtain ⟨n, rfl⟩ := Int.eq_ofNat_of_zero_le h
  rw [BitVec.ofInt_natCast, BitVec.toNat_ofNat, Int.toNat_natCast]
theorem wAnd_nat {a b : Nat} (ha : a < 4294967296) (hb : b < 4294967296) : wAnd .u32 (a : Int) (b : Int) = ((a &&& b : Nat) : Int) := by
  have hx : a &&& b < 2 ^ 32 := Nat.and_lt_two_pow _ (by omega)
  show IntKind.wrap .u32 ((BitVec.ofInt 32 (a : Int) &&& BitVec.ofInt 32 (b : Int)).toNat : Int) = _
  rw [BitVec.toNat_and, ofInt32 (by omega), ofInt32 (by omega), wrap_u32, Int.toNat_natCast, Int.toNat_natCast, Nat.mod_eq_of_lt ha, Nat.mod_eq_of_lt hb]
  omega
theorem wOr_nat {a b : Nat} (ha : a < 4294967296) (hb : b < 4294967296) : wOr .u32 (a : Int) (b : Int) = ((a ||| b : Nat) : Int) := by
  have hx : a ||| b < 2 ^ 32 := Nat.or_lt_two_pow (by omega) (by omega)
  show IntKind.wrap .u32 ((BitVec.ofInt 32 (a : Int) ||| BitVec.ofInt 32 (b : Int)).toNat : Int) = _
  rw [BitVec.toNat_or, ofInt32 (by omega), ofInt32 (by omega), wrap_u32, Int.toNat_natCast, Int.toNat_natCast, Nat.mod_eq_of_lt ha, Nat.mod_eq_of_lt hb]
  omega
theorem wXor_nat {a b : Nat} (ha : a < 4294967296) (hb : b < 4294967296) : wXor .u32 (a : Int) (b : Int) = ((a ^^^ b : Nat) : Int) := by
  have hx : a ^^^ b < 2 ^ 32 := Nat.xor_lt_two_pow (by omega) (by omega)
  show IntKind.wrap .u32 ((BitVec.ofInt 32 (a : Int) ^^^ BitVec.ofInt 32 (b : Int)).toNat : Int) = _
  rw [BitVec.toNat_xor, ofInt32 (by omega), ofInt32 (by omega), wrap_u32, Int.toNat_natCast, Int.toNat_natCast, Nat.mod_eq_of_lt ha, Nat.mod_eq_of_lt hb]
  omega
theorem sub32_top (x y d : Nat) (hx : x < 4294967296) (hy : y < 4294967296) (hd : d < 4294967296) :
    Int.fdiv (wOr .u32 (wAnd .u32 (wXor .u32 4294967295 x) y) (wAnd .u32 (wXor .u32 4294967295 (wXor .u32 x y)) d)) (2 ^ 31) =
      ((((1 ^^^ (x / 2147483648)) &&& (y / 2147483648)) ||| ((1 ^^^ ((x / 2147483648) ^^^ (y / 2147483648))) &&& (d / 2147483648)) : Nat) : Int) := by
  have l1 : 4294967295 ^^^ x < 4294967296 := Nat.xor_lt_two_pow (n := 32) (by omega) (by omega)
  have l2 : x ^^^ y < 4294967296 := Nat.xor_lt_two_pow (n := 32) (by omega) (by omega)
  have l3 : 4294967295 ^^^ (x ^^^ y) < 4294967296 := Nat.xor_lt_two_pow (n := 32) (by omega) (by omega)
  have l4 : (4294967295 ^^^ x) &&& y < 4294967296 := Nat.and_lt_two_pow (n := 32) _ (by omega)
  have l5 : (4294967295 ^^^ (x ^^^ y)) &&& d < 4294967296 := Nat.and_lt_two_pow (n := 32) _ (by omega)
  have c : (4294967295 : Int) = ((4294967295 : Nat) : Int) := rfl
  rw [c, wXor_nat (by omega) hx, wXor_nat hx hy, wXor_nat (by omega) l2, wAnd_nat l1 hy, wAnd_nat l3 hd, wOr_nat l4 l5]
  rw [Int.fdiv_eq_ediv_of_nonneg _ (by decide)]
  have key : ∀ n : Nat, ((n : Int) / (2 : Int) ^ 31) = ((n >>> 31 : Nat) : Int) := fun n => by rw [Nat.shiftRight_eq_div_pow]; omega
  rw [key, Nat.shiftRight_or_distrib, Nat.shiftRight_and_distrib, Nat.shiftRight_and_distrib, Nat.shiftRight_xor_distrib, Nat.shiftRight_xor_distrib, Nat.shiftRight_xor_distrib]
  simp only [Nat.shiftRight_eq_div_pow]
theorem sub32_eq {x y b : Int} (h : 0 ≤ x ∧ x < 4294967296 ∧ 0 ≤ y ∧ y < 4294967296 ∧ 0 ≤ b ∧ b ≤ 1) :
    Int.fdiv (wOr .u32 (wAnd .u32 (wXor .u32 4294967295 x) y) (wAnd .u32 (wXor .u32 4294967295 (wXor .u32 x y)) (IntKind.wrap .u32 (IntKind.wrap .u32 (x - y) - b)))) (2 ^ 31) = if x < y + b then 1 else 0 := by
  obtain ⟨h0, h1, h2, h3, h4, h5⟩ := h
  obtain ⟨x, rfl⟩ := Int.eq_ofNat_of_zero_le h0
  obtain ⟨y, rfl⟩ := Int.eq_ofNat_of_zero_le h2
  rw [wrap_u32, wrap_u32]
  generalize hd : (((x : Int) - y) % 4294967296 - b) % 4294967296 = dd
  have hdd : 0 ≤ dd ∧ dd < 4294967296 := by omega
  obtain ⟨d, rfl⟩ := Int.eq_ofNat_of_zero_le hdd.1
  rw [sub32_top x y d (by omega) (by omega) (by omega)]
  have hx : x / 2147483648 = 0 ∨ x / 2147483648 = 1 := by omega
  have hy : y / 2147483648 = 0 ∨ y / 2147483648 = 1 := by omega
  have hz : d / 2147483648 = 0 ∨ d / 2147483648 = 1 := by omega
  rcases hx with ex | ex <;> rcases hy with ey | ey <;> rcases hz with ez | ez <;> rw [ex, ey, ez] <;> simp <;> omega
end Go.Proofs.YtcijnloneigfcaaGreatDoor
