/-
  Plain facts for products, and for the division by a limb. No condition.
-/
import Derived.Test.YtcijnloneigfcaaGreatDoorPvNat3
namespace Go.Proofs.YtcijnloneigfcaaGreatDoor

def MulIn (b i : Nat) (x : Int) (l0 : List Nat) (k c : Int) (l : List Nat) : Prop :=
  0 ≤ k ∧ k ≤ L b ∧ 0 ≤ c ∧ c < 4294967296 ∧ l.length = l0.length ∧ Dig l ∧ (∀ j, i + k.toNat ≤ j → l.getD j 0 = l0.getD j 0) ∧
  val (l.take (i + k.toNat)) + 4294967296 ^ (i + k.toNat) * c.toNat = val (l0.take (i + k.toNat)) + 4294967296 ^ i * (x.toNat * val ((limbs b).take k.toNat))
theorem mulin_init (b i : Nat) (x : Int) {l0 : List Nat} (h : Dig l0) : MulIn b i x l0 0 0 l0 := ⟨by omega, by omega, by omega, by omega, rfl, h, fun _ _ => rfl, by simp [val]⟩
theorem mul_bound {x y z c : Int} (hx : 0 ≤ x ∧ x < 4294967296) (hy : 0 ≤ y ∧ y < 4294967296) (hz : 0 ≤ z ∧ z < 4294967296) (hc : 0 ≤ c ∧ c < 4294967296) :
    0 ≤ x * y ∧ x * y ≤ 18446744065119617025 ∧ 0 ≤ c + (x * y + z) ∧ c + (x * y + z) ≤ 18446744073709551615 := by
  have h1 : 0 ≤ x * y := Int.mul_nonneg hx.1 hy.1
  have h2 : x * y ≤ 4294967295 * 4294967295 := Int.mul_le_mul (by omega) (by omega) hy.1 (by omega)
  omega
theorem mulin_next {b i : Nat} {x k c s : Int} {l0 l : List Nat} (h : MulIn b i x l0 k c l) (hk : k < L b) (hx : 0 ≤ x ∧ x < 4294967296) (hlen : i + k.toNat < l0.length)
    (hs : s = c + (x * gi (limbs b) k.toNat + gi l (i + k.toNat))) :
    MulIn b i x l0 (k + 1) (Int.fdiv s (2 ^ 32)) (l.set (i + k.toNat) (IntKind.wrap .u32 s).toNat) := by
  obtain ⟨h0, h1, h2, h3, h4, h5, h6, h7⟩ := h
  have hb := mul_bound hx ⟨gi_nonneg (limbs b) k.toNat, gi_lt (dig_limbs b) k.toNat⟩ ⟨gi_nonneg l (i + k.toNat), gi_lt h5 (i + k.toNat)⟩ ⟨h2, h3⟩
  have hl := h6 (i + k.toNat) (Nat.le_refl _)
  rw [gi_eq, gi_eq] at hb
  rw [gi_eq, gi_eq] at hs
  have hb1 := take_succ_val (limbs b) k.toNat
  have hb2 := take_succ_val l0 (i + k.toNat)
  rw [hl] at hs hb
  generalize (limbs b).getD k.toNat 0 = y at *
  generalize l0.getD (i + k.toNat) 0 = z at *
  obtain ⟨x, rfl⟩ := Int.eq_ofNat_of_zero_le hx.1
  obtain ⟨c, rfl⟩ := Int.eq_ofNat_of_zero_le h2
  have hsN : s = ((c + (x * y + z) : Nat) : Int) := by rw [hs]; simp
  rw [← hs] at hb
  generalize hS : c + (x * y + z) = S at *
  subst hsN
  have e1 : IntKind.wrap .u32 ((S : Nat) : Int) = ((S % 4294967296 : Nat) : Int) := by rw [wrap_u32]; omega
  rw [e1, fdiv_B, Int.toNat_natCast]
  refine ⟨by omega, by omega, by omega, by omega, by simpa using h4, dig_set h5 (by omega) _, ?_, ?_⟩
  · intro j hj
    rw [set_getD_ne _ _ (by omega)]
    exact h6 j (by omega)
  · rw [show i + (k + 1).toNat = i + k.toNat + 1 by omega, set_val _ _ (by omega), hb2, show (k + 1).toNat = k.toNat + 1 by omega, hb1]
    simp only [Int.toNat_natCast] at h7 ⊢
    rw [show ((S : Int) / 4294967296).toNat = S / 4294967296 by omega, Nat.pow_succ, Nat.mul_assoc (4294967296 ^ _), Nat.add_assoc, ← Nat.mul_add, Nat.mod_add_div, ← hS]
    rw [Nat.mul_add (4294967296 ^ (i + k.toNat)) c, ← Nat.add_assoc, h7, Nat.mul_add x, Nat.mul_add (4294967296 ^ i)]
    have e2 : 4294967296 ^ i * (x * (4294967296 ^ k.toNat * y)) = 4294967296 ^ (i + k.toNat) * (x * y) := by
      rw [Nat.pow_add, Nat.mul_left_comm x, Nat.mul_assoc]
    rw [e2, Nat.mul_add (4294967296 ^ (i + k.toNat)) (x * y)]
    omega
def MulInv (a b : Nat) (i : Int) (l : List Nat) : Prop :=
  0 ≤ i ∧ i ≤ L a ∧ l.length = L a + L b ∧ Dig l ∧ val (l.take (i.toNat + L b)) = val ((limbs a).take i.toNat) * b
theorem mul_init (a b : Nat) : MulInv a b 0 (List.replicate (L a + L b) 0) := by
  refine ⟨by omega, by omega, by simp, dig_rep _, ?_⟩
  rw [List.take_replicate, val_rep]; simp [val]
theorem mul_next {a b : Nat} {i x c : Int} {l0 l : List Nat} (h : MulInv a b i l0) (hi : i < L a) (hx : x = gi (limbs a) i.toNat) (hin : MulIn b i.toNat x l0 (L b : Int) c l) :
    MulInv a b (i + 1) (l.set (i.toNat + L b) (IntKind.wrap .u32 c).toNat) := by
  obtain ⟨h0, h1, h2, h3, h4⟩ := h
  obtain ⟨_, _, g2, g3, g4, g5, _, g7⟩ := hin
  have ht := take_succ_val (limbs a) i.toNat
  rw [gi_eq] at hx
  generalize (limbs a).getD i.toNat 0 = X at *
  subst hx
  rw [Int.toNat_natCast, Int.toNat_natCast, val_lim b (Nat.le_refl _), h4] at g7
  have e1 : (IntKind.wrap .u32 c).toNat = c.toNat := by rw [wrap_u32]; omega
  rw [e1]
  refine ⟨by omega, by omega, by simp; omega, dig_set g5 (by omega) _, ?_⟩
  rw [show (i + 1).toNat + L b = i.toNat + L b + 1 by omega, set_val _ _ (by omega), g7, show (i + 1).toNat = i.toNat + 1 by omega, ht, Nat.add_mul, Nat.mul_assoc]
theorem mul_end {a b : Nat} {l : List Nat} (h : MulInv a b (L a : Int) l) : Dig l ∧ l.length = L a + L b ∧ val l = a * b := by
  obtain ⟨h0, h1, h2, h3, h4⟩ := h
  refine ⟨h3, h2, ?_⟩
  rw [Int.toNat_natCast, val_lim a (Nat.le_refl _), val_all l (by omega)] at h4
  exact h4

/-! ### division by a limb -/
def SmInv (a d : Nat) (i r : Int) (q : List Nat) : Prop :=
  -1 ≤ i ∧ i < L a ∧ q.length = L a ∧ Dig q ∧ r = ((a / 4294967296 ^ (i + 1).toNat % d : Nat) : Int) ∧ val (q.drop (i + 1).toNat) = a / 4294967296 ^ (i + 1).toNat / d
theorem sm_init (a d : Nat) : SmInv a d ((L a : Int) - 1) 0 (List.replicate (L a) 0) := by
  have : a / 4294967296 ^ L a = 0 := Nat.div_eq_of_lt (L_lt a)
  refine ⟨by omega, by omega, by simp, dig_rep _, ?_, ?_⟩
  · rw [show ((L a : Int) - 1 + 1).toNat = L a by omega, this]; simp
  · rw [show ((L a : Int) - 1 + 1).toNat = L a by omega, this]; simp [val]
theorem wOr_lo {x : Nat} {r : Int} (hr : 0 ≤ r ∧ r < 4294967296) (hx : x < 4294967296) : wOr .u64 (r * 2 ^ 32) (x : Int) = r * 4294967296 + (x : Int) := by
  obtain ⟨r, rfl⟩ := Int.eq_ofNat_of_zero_le hr.1
  have h1 : 4294967296 * r ||| x = 4294967296 * r + x := by rw [Nat.or_comm, or_add (r := 32) hx, Nat.add_comm]
  have e : (r : Int) * 2 ^ 32 = ((4294967296 * r : Nat) : Int) := by omega
  rw [e]
  show IntKind.wrap .u64 ((BitVec.ofInt 64 ((4294967296 * r : Nat) : Int) ||| BitVec.ofInt 64 (x : Int)).toNat : Int) = _
  rw [BitVec.toNat_or, ofInt64 (by omega), ofInt64 (by omega), wrap_u64, Int.toNat_natCast, Int.toNat_natCast, Nat.mod_eq_of_lt (show x < 18446744073709551616 by omega), Nat.mod_eq_of_lt (by omega), h1]
  omega
theorem sm_word {a d : Nat} {i r : Int} {q : List Nat} (h : SmInv a d i r q) (hd : 0 < d) (hd2 : d < 4294967296) :
    wOr .u64 (r * 2 ^ 32) (gi (limbs a) i.toNat) = r * 4294967296 + gi (limbs a) i.toNat ∧ 0 ≤ r ∧ r < d ∧ 0 ≤ gi (limbs a) i.toNat ∧ gi (limbs a) i.toNat < 4294967296 := by
  have hm := Nat.mod_lt (a / 4294967296 ^ (i + 1).toNat) hd
  have hr := h.2.2.2.2.1
  refine ⟨?_, by omega, by omega, gi_nonneg _ _, gi_lt (dig_limbs a) _⟩
  rw [gi_eq]
  exact wOr_lo (by omega) (dig_get (dig_limbs a) _)
theorem sm_next {a d : Nat} {i r s : Int} {q : List Nat} (h : SmInv a d i r q) (hi : 0 ≤ i) (hd : 0 < d) (hd2 : d < 4294967296) (hs : s = r * 4294967296 + gi (limbs a) i.toNat) :
    SmInv a d (i - 1) (wRem s (d : Int)) (q.set i.toNat (IntKind.wrap .u32 (Int.tdiv s (d : Int))).toNat) ∧ 0 ≤ Int.tdiv s (d : Int) ∧ Int.tdiv s (d : Int) < 4294967296 := by
  obtain ⟨h0, h1, h2, h3, h4, h5⟩ := h
  rw [gi_eq, limb_eq] at hs
  rw [show (i + 1).toNat = i.toNat + 1 by omega, Nat.pow_succ, ← Nat.div_div_eq_div_mul] at h4 h5
  have hV : a / 4294967296 ^ i.toNat = a / 4294967296 ^ i.toNat % 4294967296 + 4294967296 * (a / 4294967296 ^ i.toNat / 4294967296) := by omega
  generalize a / 4294967296 ^ i.toNat / 4294967296 = V at *
  have hx : a / 4294967296 ^ i.toNat % 4294967296 < 4294967296 := Nat.mod_lt _ (by omega)
  have hle : (i - 1 + 1).toNat = i.toNat := by omega
  generalize hA : a / 4294967296 ^ i.toNat = A at *
  generalize A % 4294967296 = x at *
  have hm := Nat.mod_lt V hd
  have hdm := Nat.div_add_mod V d
  generalize hQ : V / d = Q at *
  generalize hR : V % d = R at *
  have hsN : s = ((R * 4294967296 + x : Nat) : Int) := by rw [hs, h4]; simp
  generalize hS : R * 4294967296 + x = S at *
  subst hsN
  have hq : S / d < 4294967296 := by
    apply Nat.div_lt_of_lt_mul
    have : (R + 1) * 4294967296 ≤ d * 4294967296 := Nat.mul_le_mul_right _ hm
    omega
  have hAS : A = S + d * (4294967296 * Q) := by
    rw [hV, ← hdm, ← hS, Nat.mul_add, Nat.mul_left_comm 4294967296 d]; omega
  have t1 : Int.tdiv ((S : Nat) : Int) (d : Int) = ((S / d : Nat) : Int) := by rw [Int.tdiv_eq_ediv_of_nonneg (Int.natCast_nonneg _), Int.natCast_ediv]
  have t2 : wRem ((S : Nat) : Int) (d : Int) = ((S % d : Nat) : Int) := by unfold wRem; rw [Int.tmod_eq_emod_of_nonneg (Int.natCast_nonneg _), Int.natCast_emod]
  have d1 : A / d = S / d + 4294967296 * Q := by rw [hAS, Nat.add_mul_div_left _ _ hd]
  have d2 : A % d = S % d := by rw [hAS, Nat.add_mul_mod_self_left]
  rw [t1, t2]
  generalize S / d = D at *
  generalize S % d = M at *
  have e1 : IntKind.wrap .u32 ((D : Nat) : Int) = ((D : Nat) : Int) := by rw [wrap_u32]; omega
  rw [e1, Int.toNat_natCast]
  refine ⟨⟨by omega, by omega, by simpa using h2, dig_set h3 hq _, ?_, ?_⟩, by omega, by omega⟩
  · rw [hle, hA, d2]
  · rw [hle, hA, d1]
    have hl : i.toNat < (q.set i.toNat D).length := by simp; omega
    rw [List.drop_eq_getElem_cons hl, val, List.getElem_set_self, List.drop_set_of_lt (by omega), h5]
theorem sm_end {a d : Nat} {r : Int} {q : List Nat} (h : SmInv a d (-1) r q) : Dig q ∧ q.length = L a ∧ val q = a / d ∧ r = ((a % d : Nat) : Int) := by
  obtain ⟨h0, h1, h2, h3, h4, h5⟩ := h
  refine ⟨h3, h2, ?_, ?_⟩
  · simpa using h5
  · simpa using h4
end Go.Proofs.YtcijnloneigfcaaGreatDoor
