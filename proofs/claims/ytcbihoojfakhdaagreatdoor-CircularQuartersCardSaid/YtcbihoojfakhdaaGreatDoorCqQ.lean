/-
  Lower layers: what functions of the program compute, and plain facts. Conditions: as the theorems say.
-/
import Derived.BigRegion
import Derived.RegionTactic
import Derived.ChangeAlike
import Derived.WalkKit
import Derived.Test.YtcbihoojfakhdaaGreatDoorCqP
set_option linter.unusedVariables false
set_option linter.unusedSimpArgs false
namespace Go.Proofs.YtcbihoojfakhdaaGreatDoor
open Go.RowKit
set_option maxRecDepth 100000
theorem qdm_loop (a b : Nat) (s : Int) (c0 : L a ≤ 16777216 ∧ L b ≤ 16777216)(c1 : 2 ≤ L (b * 2 ^ s.toNat))(c2 : 2147483648 ≤ (limbs (b * 2 ^ s.toNat)).getD (L (b * 2 ^ s.toNat) - 1) 0)(c3 : 0 ≤ s ∧ s ≤ 32) (x0 : Int × List V × List V × List Nat × List Nat) (hI : qdm_loop_I a b s x0) : LoopOk Tryz.prog Amb (loopN Tryz.f226 0) (qdm_loop_mk a b s x0) (fun e st_ => ∃ y, qdm_loop_J a b s y ∧ qdm_loop_ex a b s y = (e, st_)) :=
 loop_ob hP hAmb ⟨[10, 11, 12, 13, 14, 15], 4, []⟩ (qdm_loop_mk a b s) (qdm_loop_I a b s) (qdm_loop_mu a b s) (qdm_loop_ex a b s) (qdm_loop_J a b s) x0 hI (fun (k, o0, o, lu, lq) => .lit <| .both (.lit <| .yes <| .lit <| .yes <| .yes <| .yes <| .callM (U (lowL lu ((0 + k.toNat) + L (b * 2 ^ s.toNat) + 1) (Xd lu (0 + k.toNat) (L (b * 2 ^ s.toNat)) % (4294967296 ^ (0 + k.toNat) * (b * 2 ^ s.toNat))))) (.int .u32 ((kq lu (0 + k.toNat) (b * 2 ^ s.toNat) : Nat) : Int)) <| .lit <| .yes <| .yes <| .lit <| .yes <| .fin2 ⟨[10, 11, 12, 13, 14, 15], 4, []⟩) (.fin2 ⟨[10, 11, 12, 13, 14], 4, []⟩)) (by
  rintro ⟨k, o0, o, lu, lq⟩ hI
  have hI : (o0 = U lu ∧ o = U lq) ∧ DvIn (a * 2 ^ s.toNat) (b * 2 ^ s.toNat) (L (a * 2 ^ s.toNat) + 1 - L (b * 2 ^ s.toNat)) k lu lq := hI
  obtain ⟨⟨rfl, rfl⟩, h1⟩ := hI
  have e0 := L_len (b * 2 ^ s.toNat)
  have e1 := U_len lu
  have e2 := U_len lq
  have ⟨p0, p1, p2, p3, p4, p5, _⟩ := h1
  have hkn : 0 ≤ k → Kn lu (0 + k.toNat) (b * 2 ^ s.toNat) := fun q => by rw [Nat.zero_add]; exact dv_kn h1 q c1 c2
  have hls := L_shl a s.toNat
  have hz : 0 + k.toNat = k.toNat := Nat.zero_add _
  have hnx : 0 ≤ k → DvIn (a * 2 ^ s.toNat) (b * 2 ^ s.toNat) (L (a * 2 ^ s.toNat) + 1 - L (b * 2 ^ s.toNat)) (k - 1) (lowL lu (0 + k.toNat + L (b * 2 ^ s.toNat) + 1) (Xd lu (0 + k.toNat) (L (b * 2 ^ s.toNat)) % (4294967296 ^ (0 + k.toNat) * (b * 2 ^ s.toNat)))) (lq.set k.toNat (kq lu (0 + k.toNat) (b * 2 ^ s.toNat))) := fun q => by rw [hz]; exact dv_next h1 q c1 c2
  have hx := fun q => (hkn q).qlt
  exact cast_ob (aI True.intro (aI (fun (h101 : (iGe k 0) = true) => have _gh101 := iGe_t h101; aI (fits_i64 oO : (fits .i64 (k + ((lim (b * 2 ^ s.toNat)).length : Int))) = true) (aI (fits_i64 oO : (fits .i64 ((k + ((lim (b * 2 ^ s.toNat)).length : Int)) + 1)) = true) (aI (and_mk (and_mk (and_mk (iLe_mk oO) (iLe_mk oO)) (iLe_mk oO)) (or_mk2 oO) : ((((iLe (0 : Int) k) && (iLe k ((k + ((lim (b * 2 ^ s.toNat)).length : Int)) + 1))) && (iLe ((k + ((lim (b * 2 ^ s.toNat)).length : Int)) + 1) ((L (a * 2 ^ s.toNat) + 1) : Int))) && ((iEq k 0) || (iLt k ((L (a * 2 ^ s.toNat) + 1) : Int)))) = true) (aI (ok_arg oO : ((true && Nat.ble ((0 + k.toNat) + (((k + ((lim (b * 2 ^ s.toNat)).length : Int)) + 1) - k).toNat) (U lu).length) && (true && true)) = true) (aI (quot_digit lu (0 + k.toNat) ((((k + ((lim (b * 2 ^ s.toNat)).length : Int)) + 1) - k).toNat) (b * 2 ^ s.toNat) (hkn oO) oO oO) (aI (inB_mk oO : (inB k ((((L (a * 2 ^ s.toNat) + 1) : Int) - ((lim (b * 2 ^ s.toNat)).length : Int)).toNat)) = true) (aI (st_ok oO : (Nat.ble ((0 + k.toNat) + 1) (U lq).length) = true) (aI (fits_i64 oO : (fits .i64 (k - 1)) = true) (aI tT ((nx_next ((k - 1), (U (lowL lu ((0 + k.toNat) + L (b * 2 ^ s.toNat) + 1) (Xd lu (0 + k.toNat) (L (b * 2 ^ s.toNat)) % (4294967296 ^ (0 + k.toNat) * (b * 2 ^ s.toNat))))), (List.set (U lq) (0 + k.toNat) (.int .u32 ((kq lu (0 + k.toNat) (b * 2 ^ s.toNat) : Nat) : Int))), (lowL lu ((0 + k.toNat) + L (b * 2 ^ s.toNat) + 1) (Xd lu (0 + k.toNat) (L (b * 2 ^ s.toNat)) % (4294967296 ^ (0 + k.toNat) * (b * 2 ^ s.toNat)))), (lq.set k.toNat (kq lu (0 + k.toNat) (b * 2 ^ s.toNat)))) (show ((U (lowL lu ((0 + k.toNat) + L (b * 2 ^ s.toNat) + 1) (Xd lu (0 + k.toNat) (L (b * 2 ^ s.toNat)) % (4294967296 ^ (0 + k.toNat) * (b * 2 ^ s.toNat))))) = U (lowL lu ((0 + k.toNat) + L (b * 2 ^ s.toNat) + 1) (Xd lu (0 + k.toNat) (L (b * 2 ^ s.toNat)) % (4294967296 ^ (0 + k.toNat) * (b * 2 ^ s.toNat)))) ∧ (List.set (U lq) (0 + k.toNat) (.int .u32 ((kq lu (0 + k.toNat) (b * 2 ^ s.toNat) : Nat) : Int))) = U (lq.set k.toNat (kq lu (0 + k.toNat) (b * 2 ^ s.toNat)))) ∧ DvIn (a * 2 ^ s.toNat) (b * 2 ^ s.toNat) (L (a * 2 ^ s.toNat) + 1 - L (b * 2 ^ s.toNat)) (k - 1) (lowL lu ((0 + k.toNat) + L (b * 2 ^ s.toNat) + 1) (Xd lu (0 + k.toNat) (L (b * 2 ^ s.toNat)) % (4294967296 ^ (0 + k.toNat) * (b * 2 ^ s.toNat)))) (lq.set k.toNat (kq lu (0 + k.toNat) (b * 2 ^ s.toNat))) from ⟨⟨rfl, setU _ oO rfl⟩, hnx oO⟩) (show (k - 1 + 1).toNat < (k + 1).toNat by omega) : qdm_loop_N a b s (k, (U lu), (U lq), lu, lq) .normal (qdm_loop_mk a b s ((k - 1), (U (lowL lu ((0 + k.toNat) + L (b * 2 ^ s.toNat) + 1) (Xd lu (0 + k.toNat) (L (b * 2 ^ s.toNat)) % (4294967296 ^ (0 + k.toNat) * (b * 2 ^ s.toNat))))), (List.set (U lq) (0 + k.toNat) (.int .u32 ((kq lu (0 + k.toNat) (b * 2 ^ s.toNat) : Nat) : Int))), (lowL lu ((0 + k.toNat) + L (b * 2 ^ s.toNat) + 1) (Xd lu (0 + k.toNat) (L (b * 2 ^ s.toNat)) % (4294967296 ^ (0 + k.toNat) * (b * 2 ^ s.toNat)))), (lq.set k.toNat (kq lu (0 + k.toNat) (b * 2 ^ s.toNat)))))))))))))))) (fun (h102 : (iGe k 0) = false) => have _gh102 := iGe_f h102; aI tT ((nx_exit 1 ((qdm_loop_ex a b s (lu, lq)).2) (lu, lq) (show DvIn (a * 2 ^ s.toNat) (b * 2 ^ s.toNat) (L (a * 2 ^ s.toNat) + 1 - L (b * 2 ^ s.toNat)) (-1) lu lq from (show k = -1 by omega) ▸ h1) rfl : qdm_loop_N a b s (k, (U lu), (U lq), lu, lq) (.exit 1) ((qdm_loop_ex a b s (lu, lq)).2)))))) (by kernel_rfl))
theorem quot_DivMod (a : Nat) (b : Nat) (c0 : L a ≤ 16777216) (c1 : L b ≤ 16777216) (c2 : 0 < b) : Impl Tryz.prog Amb 226 [(N a), (N b)] (.tup [(N (a / b)), (N (a % b)), (.bool true)]) := by
 have e0 := L_len a
 have e1 := L_len b
 have p0 := L_pos (show b ≠ 0 by omega)
 have hcm := cmpN_or a b
 have tb := top_bits b p0
 have g0 := gi_b (dig_limbs b) (((lim b).length : Int) - 1).toNat
 have g1 := gi_b (dig_limbs b) 0
 have eT : (((lim b).length : Int) - 1).toNat = ((L b : Int) - 1).toNat := by rw [L_len]
 have hs : nbits b + ((32 - (Lib.bitLen (gi (limbs b) (((lim b).length : Int) - 1).toNat).toNat : Int))).toNat = 32 * L b := by rw [eT]; omega
 have hsr : 0 ≤ (32 - (Lib.bitLen (gi (limbs b) (((lim b).length : Int) - 1).toNat).toNat : Int)) ∧ (32 - (Lib.bitLen (gi (limbs b) (((lim b).length : Int) - 1).toNat).toNat : Int)) ≤ 32 := by rw [eT]; omega
 have hno0 := kn_norm (show b ≠ 0 by omega) hs
 have hno : L (b * 2 ^ ((32 - (Lib.bitLen (gi (limbs b) (((lim b).length : Int) - 1).toNat).toNat : Int))).toNat) = L b ∧ 2147483648 ≤ (limbs (b * 2 ^ ((32 - (Lib.bitLen (gi (limbs b) (((lim b).length : Int) - 1).toNat).toNat : Int))).toNat)).getD (L (b * 2 ^ ((32 - (Lib.bitLen (gi (limbs b) (((lim b).length : Int) - 1).toNat).toNat : Int))).toNat) - 1) 0 := by rw [hno0.1]; exact ⟨rfl, hno0.2⟩
 have e2 := L_len (b * 2 ^ ((32 - (Lib.bitLen (gi (limbs b) (((lim b).length : Int) - 1).toNat).toNat : Int))).toNat)
 have hls := L_shl a ((32 - (Lib.bitLen (gi (limbs b) (((lim b).length : Int) - 1).toNat).toNat : Int))).toNat
 have hft : b ≤ a → (a * 2 ^ ((32 - (Lib.bitLen (gi (limbs b) (((lim b).length : Int) - 1).toNat).toNat : Int))).toNat) < 4294967296 ^ (L (a * 2 ^ ((32 - (Lib.bitLen (gi (limbs b) (((lim b).length : Int) - 1).toNat).toNat : Int))).toNat) + 1 - L (b * 2 ^ ((32 - (Lib.bitLen (gi (limbs b) (((lim b).length : Int) - 1).toNat).toNat : Int))).toNat)) * (b * 2 ^ ((32 - (Lib.bitLen (gi (limbs b) (((lim b).length : Int) - 1).toNat).toNat : Int))).toNat) ∧ L (a * 2 ^ ((32 - (Lib.bitLen (gi (limbs b) (((lim b).length : Int) - 1).toNat).toNat : Int))).toNat) + 1 = (L (a * 2 ^ ((32 - (Lib.bitLen (gi (limbs b) (((lim b).length : Int) - 1).toNat).toNat : Int))).toNat) + 1 - L (b * 2 ^ ((32 - (Lib.bitLen (gi (limbs b) (((lim b).length : Int) - 1).toNat).toNat : Int))).toNat)) + L (b * 2 ^ ((32 - (Lib.bitLen (gi (limbs b) (((lim b).length : Int) - 1).toNat).toNat : Int))).toNat) := fun h => dv_fit (Nat.mul_le_mul_right _ h) (fun q => by rw [q, L_zero] at hno; omega)
 have g3 : L b = 1 → gi (limbs b) 0 = (b : Int) := gi_one
 have gm : L b = 1 → 0 ≤ ((a % (gi (limbs b) 0).toNat : Nat) : Int) ∧ ((a % (gi (limbs b) 0).toNat : Nat) : Int) < 4294967296 := fun q => by have := Nat.mod_lt a (show 0 < (gi (limbs b) 0).toNat by rw [gi_one q]; omega); omega
 exact impl_ob hP hAmb Tryz.func226 (by kernel_rfl) (.lit <| .call (N a) <| .lit <| .call (N b) <| .lit <| .no <| .lit <| .call (.int .i64 (cmpN a b)) <| .lit <| .both (.lit <| .ret) (.lit <| .both (.yes <| .yes <| .lit <| .call (.tup [(N (a / ((gi (limbs b) 0)).toNat)), (.int .u32 ((a % ((gi (limbs b) 0)).toNat : Nat) : Int)), (.bool true)]) <| .lit <| .yes <| .lit <| .call (N ((((a % ((gi (limbs b) 0)).toNat : Nat) : Int)).toNat)) <| .lit <| .ret) (.lit <| .yes <| .yes <| .yes <| .lit <| .call (.int .i64 (32 - (Lib.bitLen ((gi (limbs b) ((((lim b).length : Int) - 1).toNat))).toNat : Int))) <| .lit <| .call (N (b * 2 ^ ((32 - (Lib.bitLen ((gi (limbs b) ((((lim b).length : Int) - 1).toNat))).toNat : Int))).toNat)) <| .lit <| .callO 1 (L (a * 2 ^ ((32 - (Lib.bitLen ((gi (limbs b) ((((lim b).length : Int) - 1).toNat))).toNat : Int))).toNat)) (lim (a * 2 ^ ((32 - (Lib.bitLen ((gi (limbs b) ((((lim b).length : Int) - 1).toNat))).toNat : Int))).toNat)) <| .yes <| .lit <| .yes <| .yes <| .lit <| .yes <| .lit <| .yes <| .loop ⟨[10, 11, 12, 13, 14, 15], 4, []⟩ ((qdm_loop_mk a b (32 - (Lib.bitLen (gi (limbs b) (((lim b).length : Int) - 1).toNat).toNat : Int)) ((((((L (a * 2 ^ ((32 - (Lib.bitLen ((gi (limbs b) ((((lim b).length : Int) - 1).toNat))).toNat : Int))).toNat)) + 1) : Int) - ((lim (b * 2 ^ ((32 - (Lib.bitLen ((gi (limbs b) ((((lim b).length : Int) - 1).toNat))).toNat : Int))).toNat)).length : Int)) - 1), ((lim (a * 2 ^ ((32 - (Lib.bitLen ((gi (limbs b) ((((lim b).length : Int) - 1).toNat))).toNat : Int))).toNat)) ++ [(V.int .u32 0)]), (List.replicate (((((L (a * 2 ^ ((32 - (Lib.bitLen ((gi (limbs b) ((((lim b).length : Int) - 1).toNat))).toNat : Int))).toNat)) + 1) : Int) - ((lim (b * 2 ^ ((32 - (Lib.bitLen ((gi (limbs b) ((((lim b).length : Int) - 1).toNat))).toNat : Int))).toNat)).length : Int)).toNat) (.int .u32 0)), (limbs (a * 2 ^ (32 - (Lib.bitLen (gi (limbs b) (((lim b).length : Int) - 1).toNat).toNat : Int)).toNat) ++ [0]), (List.replicate (L (a * 2 ^ (32 - (Lib.bitLen (gi (limbs b) (((lim b).length : Int) - 1).toNat).toNat : Int)).toNat) + 1 - L (b * 2 ^ (32 - (Lib.bitLen (gi (limbs b) (((lim b).length : Int) - 1).toNat).toNat : Int)).toNat)) 0)))) (List Nat × List Nat) (qdm_loop_ex a b (32 - (Lib.bitLen (gi (limbs b) (((lim b).length : Int) - 1).toNat).toNat : Int))) (qdm_loop_J a b (32 - (Lib.bitLen (gi (limbs b) (((lim b).length : Int) - 1).toNat).toNat : Int))) (fun y => .yes <| .call (N (val y.2)) <| .yes <| .yes <| .call (N (val (y.1.take (L (b * 2 ^ ((32 - (Lib.bitLen (gi (limbs b) (((lim b).length : Int) - 1).toNat).toNat : Int))).toNat))))) <| .lit <| .call (N ((val (y.1.take (L (b * 2 ^ ((32 - (Lib.bitLen (gi (limbs b) (((lim b).length : Int) - 1).toNat).toNat : Int))).toNat)))) / 2 ^ ((32 - (Lib.bitLen (gi (limbs b) (((lim b).length : Int) - 1).toNat).toNat : Int))).toNat)) <| .lit <| .ret))))
  (cast_ob (aI True.intro (aI (nat_TrimN a oA) (aI (nat_TrimN b oA) (aI (iEq_mkF oO : (iEq ((lim b).length : Int) 0) = false) (aI (nat_Cmp a b oA oA) (aI (fun (h1 : (iLt (cmpN a b) 0) = true) => have _gh1 := iLt_t h1; (by have h : a < b := oO; rw [Nat.div_eq_of_lt h, Nat.mod_eq_of_lt h]; exact vsub_tup3 (by show vsub .nil (.sl 1 (U (limbs 0))); rw [limbs_zero]; exact vsub_nil 1) (vsub_refl _) (vsub_refl _) : vsub (.tup [.nil, (N a), (.bool true)]) (.tup [(N (a / b)), (N (a % b)), (.bool true)]))) (fun (h2 : (iLt (cmpN a b) 0) = false) => have _gh2 := iLt_f h2; aI (fun (h3 : (iEq ((lim b).length : Int) 1) = true) => have _gh3 := iEq_t h3; aI (inB_mk oA : (inB (0 : Int) ((lim b).length)) = true) (aI (ld_L oA : (Nat.blt 0 (lim b).length && isIntK .u32 (nth (lim b) 0 .unk)) = true) (aI (quot_SmallI a (gi (limbs b) 0) oA oA) (aI (fits_u64 oA : (fits .u64 ((a % ((gi (limbs b) 0)).toNat : Nat) : Int)) = true) (aI (nat_Of ((a % ((gi (limbs b) 0)).toNat : Nat) : Int) oA) ((by rw [gi_one (show L b = 1 by omega)]; exact vsub_refl _ : vsub (.tup [(N (a / ((gi (limbs b) 0)).toNat)), (N ((((a % ((gi (limbs b) 0)).toNat : Nat) : Int)).toNat)), (.bool true)]) (.tup [(N (a / b)), (N (a % b)), (.bool true)])))))))) (fun (h4 : (iEq ((lim b).length : Int) 1) = false) => have _gh4 := iEq_f h4; aI (fits_i64 oA : (fits .i64 (((lim b).length : Int) - 1)) = true) (aI (inB_mk oA : (inB (((lim b).length : Int) - 1) ((lim b).length)) = true) (aI (ld_L oA : (Nat.blt ((((lim b).length : Int) - 1).toNat) (lim b).length && isIntK .u32 (nth (lim b) ((((lim b).length : Int) - 1).toNat) .unk)) = true) (aI (bits_LZ32 (gi (limbs b) ((((lim b).length : Int) - 1).toNat)) oA) (aI (nat_Shl b (32 - (Lib.bitLen ((gi (limbs b) ((((lim b).length : Int) - 1).toNat))).toNat : Int)) oA oA) (aI (nat_ShlO a (32 - (Lib.bitLen ((gi (limbs b) ((((lim b).length : Int) - 1).toNat))).toNat : Int)) oA oA oA) (aI (and_mk (and_mk (and_mk (rfl) rfl) (st_ok oA)) (by first | rfl | (simp <;> omega) | (rw [L_len]; simp)) : (true && true && Nat.ble ((L (a * 2 ^ ((32 - (Lib.bitLen ((gi (limbs b) ((((lim b).length : Int) - 1).toNat))).toNat : Int))).toNat)) + 1) 1073741824 && Nat.beq (lim (a * 2 ^ ((32 - (Lib.bitLen ((gi (limbs b) ((((lim b).length : Int) - 1).toNat))).toNat : Int))).toNat)).length (L (a * 2 ^ ((32 - (Lib.bitLen ((gi (limbs b) ((((lim b).length : Int) - 1).toNat))).toNat : Int))).toNat))) = true) (aI (fits_i64 oA : (fits .i64 ((((L (a * 2 ^ ((32 - (Lib.bitLen ((gi (limbs b) ((((lim b).length : Int) - 1).toNat))).toNat : Int))).toNat)) + 1) : Int) - ((lim (b * 2 ^ ((32 - (Lib.bitLen ((gi (limbs b) ((((lim b).length : Int) - 1).toNat))).toNat : Int))).toNat)).length : Int))) = true) (aI (mk_ok oA : (((iEq ((((L (a * 2 ^ ((32 - (Lib.bitLen ((gi (limbs b) ((((lim b).length : Int) - 1).toNat))).toNat : Int))).toNat)) + 1) : Int) - ((lim (b * 2 ^ ((32 - (Lib.bitLen ((gi (limbs b) ((((lim b).length : Int) - 1).toNat))).toNat : Int))).toNat)).length : Int)) ((((L (a * 2 ^ ((32 - (Lib.bitLen ((gi (limbs b) ((((lim b).length : Int) - 1).toNat))).toNat : Int))).toNat)) + 1) : Int) - ((lim (b * 2 ^ ((32 - (Lib.bitLen ((gi (limbs b) ((((lim b).length : Int) - 1).toNat))).toNat : Int))).toNat)).length : Int))) && (iLe 0 ((((L (a * 2 ^ ((32 - (Lib.bitLen ((gi (limbs b) ((((lim b).length : Int) - 1).toNat))).toNat : Int))).toNat)) + 1) : Int) - ((lim (b * 2 ^ ((32 - (Lib.bitLen ((gi (limbs b) ((((lim b).length : Int) - 1).toNat))).toNat : Int))).toNat)).length : Int)))) && (iLe ((((L (a * 2 ^ ((32 - (Lib.bitLen ((gi (limbs b) ((((lim b).length : Int) - 1).toNat))).toNat : Int))).toNat)) + 1) : Int) - ((lim (b * 2 ^ ((32 - (Lib.bitLen ((gi (limbs b) ((((lim b).length : Int) - 1).toNat))).toNat : Int))).toNat)).length : Int)) 1073741824)) = true) (aI (fits_i64 oA : (fits .i64 ((((L (a * 2 ^ ((32 - (Lib.bitLen ((gi (limbs b) ((((lim b).length : Int) - 1).toNat))).toNat : Int))).toNat)) + 1) : Int) - ((lim (b * 2 ^ ((32 - (Lib.bitLen ((gi (limbs b) ((((lim b).length : Int) - 1).toNat))).toNat : Int))).toNat)).length : Int))) = true) (aI (fits_i64 oA : (fits .i64 (((((L (a * 2 ^ ((32 - (Lib.bitLen ((gi (limbs b) ((((lim b).length : Int) - 1).toNat))).toNat : Int))).toNat)) + 1) : Int) - ((lim (b * 2 ^ ((32 - (Lib.bitLen ((gi (limbs b) ((((lim b).length : Int) - 1).toNat))).toNat : Int))).toNat)).length : Int)) - 1)) = true) (aI tT (aI (rfl : (qdm_loop_mk a b (32 - (Lib.bitLen (gi (limbs b) (((lim b).length : Int) - 1).toNat).toNat : Int)) ((((((L (a * 2 ^ ((32 - (Lib.bitLen ((gi (limbs b) ((((lim b).length : Int) - 1).toNat))).toNat : Int))).toNat)) + 1) : Int) - ((lim (b * 2 ^ ((32 - (Lib.bitLen ((gi (limbs b) ((((lim b).length : Int) - 1).toNat))).toNat : Int))).toNat)).length : Int)) - 1), ((lim (a * 2 ^ ((32 - (Lib.bitLen ((gi (limbs b) ((((lim b).length : Int) - 1).toNat))).toNat : Int))).toNat)) ++ [(V.int .u32 0)]), (List.replicate (((((L (a * 2 ^ ((32 - (Lib.bitLen ((gi (limbs b) ((((lim b).length : Int) - 1).toNat))).toNat : Int))).toNat)) + 1) : Int) - ((lim (b * 2 ^ ((32 - (Lib.bitLen ((gi (limbs b) ((((lim b).length : Int) - 1).toNat))).toNat : Int))).toNat)).length : Int)).toNat) (.int .u32 0)), (limbs (a * 2 ^ (32 - (Lib.bitLen (gi (limbs b) (((lim b).length : Int) - 1).toNat).toNat : Int)).toNat) ++ [0]), (List.replicate (L (a * 2 ^ (32 - (Lib.bitLen (gi (limbs b) (((lim b).length : Int) - 1).toNat).toNat : Int)).toNat) + 1 - L (b * 2 ^ (32 - (Lib.bitLen (gi (limbs b) (((lim b).length : Int) - 1).toNat).toNat : Int)).toNat)) 0))) = (qdm_loop_mk a b (32 - (Lib.bitLen (gi (limbs b) (((lim b).length : Int) - 1).toNat).toNat : Int)) ((((((L (a * 2 ^ ((32 - (Lib.bitLen ((gi (limbs b) ((((lim b).length : Int) - 1).toNat))).toNat : Int))).toNat)) + 1) : Int) - ((lim (b * 2 ^ ((32 - (Lib.bitLen ((gi (limbs b) ((((lim b).length : Int) - 1).toNat))).toNat : Int))).toNat)).length : Int)) - 1), ((lim (a * 2 ^ ((32 - (Lib.bitLen ((gi (limbs b) ((((lim b).length : Int) - 1).toNat))).toNat : Int))).toNat)) ++ [(V.int .u32 0)]), (List.replicate (((((L (a * 2 ^ ((32 - (Lib.bitLen ((gi (limbs b) ((((lim b).length : Int) - 1).toNat))).toNat : Int))).toNat)) + 1) : Int) - ((lim (b * 2 ^ ((32 - (Lib.bitLen ((gi (limbs b) ((((lim b).length : Int) - 1).toNat))).toNat : Int))).toNat)).length : Int)).toNat) (.int .u32 0)), (limbs (a * 2 ^ (32 - (Lib.bitLen (gi (limbs b) (((lim b).length : Int) - 1).toNat).toNat : Int)).toNat) ++ [0]), (List.replicate (L (a * 2 ^ (32 - (Lib.bitLen (gi (limbs b) (((lim b).length : Int) - 1).toNat).toNat : Int)).toNat) + 1 - L (b * 2 ^ (32 - (Lib.bitLen (gi (limbs b) (((lim b).length : Int) - 1).toNat).toNat : Int)).toNat)) 0)))) (aI (qdm_loop a b (32 - (Lib.bitLen (gi (limbs b) (((lim b).length : Int) - 1).toNat).toNat : Int)) (⟨c0, c1⟩) oO hno.2 hsr ((((((L (a * 2 ^ ((32 - (Lib.bitLen ((gi (limbs b) ((((lim b).length : Int) - 1).toNat))).toNat : Int))).toNat)) + 1) : Int) - ((lim (b * 2 ^ ((32 - (Lib.bitLen ((gi (limbs b) ((((lim b).length : Int) - 1).toNat))).toNat : Int))).toNat)).length : Int)) - 1), ((lim (a * 2 ^ ((32 - (Lib.bitLen ((gi (limbs b) ((((lim b).length : Int) - 1).toNat))).toNat : Int))).toNat)) ++ [(V.int .u32 0)]), (List.replicate (((((L (a * 2 ^ ((32 - (Lib.bitLen ((gi (limbs b) ((((lim b).length : Int) - 1).toNat))).toNat : Int))).toNat)) + 1) : Int) - ((lim (b * 2 ^ ((32 - (Lib.bitLen ((gi (limbs b) ((((lim b).length : Int) - 1).toNat))).toNat : Int))).toNat)).length : Int)).toNat) (.int .u32 0)), (limbs (a * 2 ^ (32 - (Lib.bitLen (gi (limbs b) (((lim b).length : Int) - 1).toNat).toNat : Int)).toNat) ++ [0]), (List.replicate (L (a * 2 ^ (32 - (Lib.bitLen (gi (limbs b) (((lim b).length : Int) - 1).toNat).toNat : Int)).toNat) + 1 - L (b * 2 ^ (32 - (Lib.bitLen (gi (limbs b) (((lim b).length : Int) - 1).toNat).toNat : Int)).toNat)) 0)) (show (((lim (a * 2 ^ ((32 - (Lib.bitLen ((gi (limbs b) ((((lim b).length : Int) - 1).toNat))).toNat : Int))).toNat)) ++ [(V.int .u32 0)]) = U (limbs (a * 2 ^ (32 - (Lib.bitLen (gi (limbs b) (((lim b).length : Int) - 1).toNat).toNat : Int)).toNat) ++ [0]) ∧ (List.replicate (((((L (a * 2 ^ ((32 - (Lib.bitLen ((gi (limbs b) ((((lim b).length : Int) - 1).toNat))).toNat : Int))).toNat)) + 1) : Int) - ((lim (b * 2 ^ ((32 - (Lib.bitLen ((gi (limbs b) ((((lim b).length : Int) - 1).toNat))).toNat : Int))).toNat)).length : Int)).toNat) (.int .u32 0)) = U (List.replicate (L (a * 2 ^ (32 - (Lib.bitLen (gi (limbs b) (((lim b).length : Int) - 1).toNat).toNat : Int)).toNat) + 1 - L (b * 2 ^ (32 - (Lib.bitLen (gi (limbs b) (((lim b).length : Int) - 1).toNat).toNat : Int)).toNat)) 0)) ∧ DvIn (a * 2 ^ (32 - (Lib.bitLen (gi (limbs b) (((lim b).length : Int) - 1).toNat).toNat : Int)).toNat) (b * 2 ^ (32 - (Lib.bitLen (gi (limbs b) (((lim b).length : Int) - 1).toNat).toNat : Int)).toNat) (L (a * 2 ^ (32 - (Lib.bitLen (gi (limbs b) (((lim b).length : Int) - 1).toNat).toNat : Int)).toNat) + 1 - L (b * 2 ^ (32 - (Lib.bitLen (gi (limbs b) (((lim b).length : Int) - 1).toNat).toNat : Int)).toNat)) (((((L (a * 2 ^ ((32 - (Lib.bitLen ((gi (limbs b) ((((lim b).length : Int) - 1).toNat))).toNat : Int))).toNat)) + 1) : Int) - ((lim (b * 2 ^ ((32 - (Lib.bitLen ((gi (limbs b) ((((lim b).length : Int) - 1).toNat))).toNat : Int))).toNat)).length : Int)) - 1) (limbs (a * 2 ^ (32 - (Lib.bitLen (gi (limbs b) (((lim b).length : Int) - 1).toNat).toNat : Int)).toNat) ++ [0]) (List.replicate (L (a * 2 ^ (32 - (Lib.bitLen (gi (limbs b) (((lim b).length : Int) - 1).toNat).toNat : Int)).toNat) + 1 - L (b * 2 ^ (32 - (Lib.bitLen (gi (limbs b) (((lim b).length : Int) - 1).toNat).toNat : Int)).toNat)) 0) from ⟨⟨U_append _ [0], by rw [show ((((L (a * 2 ^ (32 - (Lib.bitLen (gi (limbs b) (((lim b).length : Int) - 1).toNat).toNat : Int)).toNat) + 1) : Int) - ((lim (b * 2 ^ (32 - (Lib.bitLen (gi (limbs b) (((lim b).length : Int) - 1).toNat).toNat : Int)).toNat)).length : Int)).toNat) = (L (a * 2 ^ (32 - (Lib.bitLen (gi (limbs b) (((lim b).length : Int) - 1).toNat).toNat : Int)).toNat) + 1 - L (b * 2 ^ (32 - (Lib.bitLen (gi (limbs b) (((lim b).length : Int) - 1).toNat).toNat : Int)).toNat)) by omega]; exact U_rep _⟩, by have := dv_init (hft oO).1 (hft oO).2; rwa [show (((L (a * 2 ^ (32 - (Lib.bitLen (gi (limbs b) (((lim b).length : Int) - 1).toNat).toNat : Int)).toNat) + 1 - L (b * 2 ^ (32 - (Lib.bitLen (gi (limbs b) (((lim b).length : Int) - 1).toNat).toNat : Int)).toNat)) : Nat) : Int) - 1 = (((((L (a * 2 ^ ((32 - (Lib.bitLen ((gi (limbs b) ((((lim b).length : Int) - 1).toNat))).toNat : Int))).toNat)) + 1) : Int) - ((lim (b * 2 ^ ((32 - (Lib.bitLen ((gi (limbs b) ((((lim b).length : Int) - 1).toNat))).toNat : Int))).toNat)).length : Int)) - 1) by omega] at this⟩)) (fun y (hJ : qdm_loop_J a b (32 - (Lib.bitLen (gi (limbs b) (((lim b).length : Int) - 1).toNat).toNat : Int)) y) => have hJ : DvIn (a * 2 ^ (32 - (Lib.bitLen (gi (limbs b) (((lim b).length : Int) - 1).toNat).toNat : Int)).toNat) (b * 2 ^ (32 - (Lib.bitLen (gi (limbs b) (((lim b).length : Int) - 1).toNat).toNat : Int)).toNat) (L (a * 2 ^ (32 - (Lib.bitLen (gi (limbs b) (((lim b).length : Int) - 1).toNat).toNat : Int)).toNat) + 1 - L (b * 2 ^ (32 - (Lib.bitLen (gi (limbs b) (((lim b).length : Int) - 1).toNat).toNat : Int)).toNat)) (-1) y.1 y.2 := hJ; have ⟨d0, d1, d2, d3, d4, d5⟩ := dv_end hJ; have d6 := U_len y.1; have d7 := U_len y.2; have d8 : L (val (y.1.take (L (b * 2 ^ ((32 - (Lib.bitLen (gi (limbs b) (((lim b).length : Int) - 1).toNat).toNat : Int))).toNat)))) ≤ L (a * 2 ^ ((32 - (Lib.bitLen (gi (limbs b) (((lim b).length : Int) - 1).toNat).toNat : Int))).toNat) := (by rw [d4]; exact L_mod _ _); aI (ok_arg oA : ((true && Nat.ble (0 + ((((L (a * 2 ^ (32 - (Lib.bitLen (gi (limbs b) (((lim b).length : Int) - 1).toNat).toNat : Int)).toNat) + 1) : Int) - ((lim (b * 2 ^ (32 - (Lib.bitLen (gi (limbs b) (((lim b).length : Int) - 1).toNat).toNat : Int)).toNat)).length : Int)).toNat)) (U y.2).length) && true) = true) (aI (nat_TrimC (List.take ((((L (a * 2 ^ (32 - (Lib.bitLen (gi (limbs b) (((lim b).length : Int) - 1).toNat).toNat : Int)).toNat) + 1) : Int) - ((lim (b * 2 ^ (32 - (Lib.bitLen (gi (limbs b) (((lim b).length : Int) - 1).toNat).toNat : Int)).toNat)).length : Int)).toNat) (List.drop 0 (U y.2))) y.2 (tkU rfl oO) d3 oO) (aI (and_mk (and_mk (and_mk (rfl) (iLe_mk oA)) (iLe_mk oA)) (rfl) : (((true && (iLe (0 : Int) ((lim (b * 2 ^ (32 - (Lib.bitLen (gi (limbs b) (((lim b).length : Int) - 1).toNat).toNat : Int)).toNat)).length : Int))) && (iLe ((lim (b * 2 ^ (32 - (Lib.bitLen (gi (limbs b) (((lim b).length : Int) - 1).toNat).toNat : Int)).toNat)).length : Int) ((L (a * 2 ^ (32 - (Lib.bitLen (gi (limbs b) (((lim b).length : Int) - 1).toNat).toNat : Int)).toNat) + 1) : Int))) && true) = true) (aI (ok_arg oA : ((true && Nat.ble (0 + (((lim (b * 2 ^ (32 - (Lib.bitLen (gi (limbs b) (((lim b).length : Int) - 1).toNat).toNat : Int)).toNat)).length : Int) - 0).toNat) (U y.1).length) && true) = true) (aI (nat_TrimC (List.take ((((lim (b * 2 ^ (32 - (Lib.bitLen (gi (limbs b) (((lim b).length : Int) - 1).toNat).toNat : Int)).toNat)).length : Int) - 0).toNat) (List.drop 0 (U y.1))) (y.1.take (L (b * 2 ^ ((32 - (Lib.bitLen (gi (limbs b) (((lim b).length : Int) - 1).toNat).toNat : Int))).toNat))) (tkU2 oO) (dig_take d1 _) (by rw [List.length_take]; omega)) (aI (nat_Shr (val (y.1.take (L (b * 2 ^ ((32 - (Lib.bitLen (gi (limbs b) (((lim b).length : Int) - 1).toNat).toNat : Int))).toNat)))) (32 - (Lib.bitLen (gi (limbs b) (((lim b).length : Int) - 1).toNat).toNat : Int)) oA oA) ((by rw [d5, d4, shl_div, shl_mod]; exact vsub_refl _ : vsub (.tup [(N (val y.2)), (N ((val (y.1.take (L (b * 2 ^ ((32 - (Lib.bitLen (gi (limbs b) (((lim b).length : Int) - 1).toNat).toNat : Int))).toNat)))) / 2 ^ ((32 - (Lib.bitLen (gi (limbs b) (((lim b).length : Int) - 1).toNat).toNat : Int))).toNat)), (.bool true)]) (.tup [(N (a / b)), (N (a % b)), (.bool true)])))))))))))))))))))))))))))))) (by kernel_rfl))
theorem int_DivMod (x : Int) (y : Int) (c0 : L (x).natAbs ≤ 16777216) (c1 : L (y).natAbs ≤ 16777216) (c2 : y ≠ 0) : Impl Tryz.prog Amb 182 [(zV x), (zV y)] (.tup [(zV (Int.fdiv x y)), (zV (x - (Int.fdiv x y) * y)), (.bool true)]) := by
 have l3 := L_div x.natAbs y.natAbs
 have l1 := L_le (n := 1) (k := 1) (by decide)
 have l4 := L_pos_iff (x.natAbs % y.natAbs)
 have l5 := L_len (x.natAbs % y.natAbs)
 have l6 := Nat.mod_lt x.natAbs (show 0 < y.natAbs by omega)
 have l7 := L_add (x.natAbs / y.natAbs) 1
 have l8 := L_sub y.natAbs (x.natAbs % y.natAbs)
 exact impl_ob hP hAmb Tryz.func182 (by kernel_rfl) (.lits 3 <| .call (.tup [(N (x.natAbs / y.natAbs)), (N (x.natAbs % y.natAbs)), (.bool true)]) <| .lits 5 <| .both (.lits 4 <| .both (.lit <| .call (N 1) <| .lit <| .call (N ((x.natAbs / y.natAbs) + 1)) <| .lits 2 <| .call (.tup [(N (y.natAbs - (x.natAbs % y.natAbs))), (.bool (decide ((x.natAbs % y.natAbs) ≤ y.natAbs)))]) <| .lits 4 <| .call (zV (sgn (!(bEq (decide (x < 0)) (decide (y < 0)))) ((x.natAbs / y.natAbs) + 1))) <| .lits 2 <| .call (zV (sgn (decide (y < 0)) (y.natAbs - (x.natAbs % y.natAbs)))) <| .lits 3 <| .ret) (.lits 4 <| .call (zV (sgn (!(bEq (decide (x < 0)) (decide (y < 0)))) (x.natAbs / y.natAbs))) <| .lits 2 <| .call (zV (sgn (decide (y < 0)) (x.natAbs % y.natAbs))) <| .lits 3 <| .ret)) (.lits 8 <| .call (zV (sgn (!(bEq (decide (x < 0)) (decide (y < 0)))) (x.natAbs / y.natAbs))) <| .lits 2 <| .call (zV (sgn (decide (y < 0)) (x.natAbs % y.natAbs))) <| .lits 3 <| .ret))
  (cast_ob (aI True.intro (aI (quot_DivMod x.natAbs y.natAbs oA oA oA) (have f6 := L_mod x.natAbs y.natAbs; have f5 := L_div x.natAbs y.natAbs; aI (fun (h1 : (!(bEq (decide (x < 0)) (decide (y < 0)))) = true) => aI (fun (h2 : (iGt ((lim (x.natAbs % y.natAbs)).length : Int) 0) = true) => have _gh2 := iGt_t h2; aI (nat_Of 1 oA) (aI (nat_Add (x.natAbs / y.natAbs) 1 oA oA) (aI (nat_Sub2 y.natAbs (x.natAbs % y.natAbs) oA oA) (aI (int_Nat (!(bEq (decide (x < 0)) (decide (y < 0)))) ((x.natAbs / y.natAbs) + 1) oA) (aI (int_Nat (decide (y < 0)) (y.natAbs - (x.natAbs % y.natAbs)) oA) ((vsub_tup3 (Z_of (by rw [sgn_one (by first | assumption | simp_all)]; exact dm5_1 c2 (by first | assumption | simp_all) oO)) (Z_of (rm5_1 c2 (by first | assumption | simp_all) oO)) (vsub_refl _) : vsub (.tup [(zV (sgn (!(bEq (decide (x < 0)) (decide (y < 0)))) ((x.natAbs / y.natAbs) + 1))), (zV (sgn (decide (y < 0)) (y.natAbs - (x.natAbs % y.natAbs)))), (.bool true)]) (.tup [(zV (Int.fdiv x y)), (zV (x - (Int.fdiv x y) * y)), (.bool true)])))))))) (fun (h3 : (iGt ((lim (x.natAbs % y.natAbs)).length : Int) 0) = false) => have _gh3 := iGt_f h3; aI (int_Nat (!(bEq (decide (x < 0)) (decide (y < 0)))) (x.natAbs / y.natAbs) oA) (aI (int_Nat (decide (y < 0)) (x.natAbs % y.natAbs) oA) ((vsub_tup3 (Z_of (dm5_2 c2 oO)) (Z_of (rm5_2 c2 oO)) (vsub_refl _) : vsub (.tup [(zV (sgn (!(bEq (decide (x < 0)) (decide (y < 0)))) (x.natAbs / y.natAbs))), (zV (sgn (decide (y < 0)) (x.natAbs % y.natAbs))), (.bool true)]) (.tup [(zV (Int.fdiv x y)), (zV (x - (Int.fdiv x y) * y)), (.bool true)])))))) (fun (h4 : (!(bEq (decide (x < 0)) (decide (y < 0)))) = false) => aI (int_Nat (!(bEq (decide (x < 0)) (decide (y < 0)))) (x.natAbs / y.natAbs) oA) (aI (int_Nat (decide (y < 0)) (x.natAbs % y.natAbs) oA) ((vsub_tup3 (Z_of (dm5_3 c2 (by first | assumption | simp_all))) (Z_of (rm5_3 c2 (by first | assumption | simp_all))) (vsub_refl _) : vsub (.tup [(zV (sgn (!(bEq (decide (x < 0)) (decide (y < 0)))) (x.natAbs / y.natAbs))), (zV (sgn (decide (y < 0)) (x.natAbs % y.natAbs))), (.bool true)]) (.tup [(zV (Int.fdiv x y)), (zV (x - (Int.fdiv x y) * y)), (.bool true)])))))))) (by kernel_rfl))

end Go.Proofs.YtcbihoojfakhdaaGreatDoor

namespace Go.Proofs.YtcbihoojfakhdaaGreatDoor
def dv (m e : Int) : Rat := (m : Rat) * (2 : Rat) ^ e
theorem two_ne : (2 : Rat) ≠ 0 := by decide
theorem zp_add (a b : Int) : (2 : Rat) ^ (a + b) = 2 ^ a * 2 ^ b := Rat.zpow_add two_ne a b
theorem zp_pos (a : Int) : (0 : Rat) < 2 ^ a := Rat.zpow_pos (by decide)
theorem zp_ne (a : Int) : (2 : Rat) ^ a ≠ 0 := fun h => by have := zp_pos a; rw [h] at this; exact absurd this Rat.lt_irrefl
theorem zp_nat (n : Nat) : (2 : Rat) ^ (n : Int) = (((2 : Int) ^ n : Int) : Rat) := by
 rw [Rat.zpow_natCast, Rat.intCast_pow]; rfl
theorem zp_zero : (2 : Rat) ^ (0 : Int) = 1 := Rat.zpow_zero 2
theorem zp_cancel (a : Int) : (2 : Rat) ^ a * 2 ^ (-a) = 1 := by rw [← zp_add, Int.add_right_neg, zp_zero]
theorem dv_shl (m e : Int) (k : Nat) : dv (m * 2 ^ k) e = dv m (e + k) := by
 unfold dv
 rw [zp_add, zp_nat, Rat.intCast_mul]
 grind
theorem dv_at {m e c : Int} (h : c ≤ e) : dv m e = dv (m * 2 ^ (e - c).toNat) c := by
 rw [dv_shl]; congr 1; omega
theorem dv_lt {m n c : Int} : dv m c < dv n c ↔ m < n := by
 unfold dv; rw [Rat.mul_lt_mul_right (zp_pos c), Rat.intCast_lt_intCast]
theorem dv_le {m n c : Int} : dv m c ≤ dv n c ↔ m ≤ n := by
 rw [← Rat.not_lt, dv_lt]; omega
theorem dv_zero (e : Int) : dv 0 e = 0 := by unfold dv; rw [Rat.intCast_zero, Rat.zero_mul]
theorem dv_int (m : Int) : dv m 0 = (m : Rat) := by unfold dv; rw [zp_zero, Rat.mul_one]
theorem dv_neg (m e : Int) : dv (-m) e = -dv m e := by unfold dv; rw [Rat.intCast_neg, Rat.neg_mul]
theorem dv_add (m n c : Int) : dv (m + n) c = dv m c + dv n c := by
 unfold dv; rw [Rat.intCast_add]; grind
theorem dv_ad (m e n f : Int) : dv (adS m e n f) (iMin e f) = dv m e + dv n f := by
 have h := iMin_range e f
 unfold adS
 rw [dv_add, ← dv_at (by omega), ← dv_at (by omega)]
def cmpQ (x y : Rat) : Int := if x < y then -1 else if y < x then 1 else 0
theorem cmpD_dv (m e n f : Int) : cmpD m e n f = cmpQ (dv m e) (dv n f) := by
 have h := iMin_range e f
 unfold cmpD cmpI cmpQ
 rw [dv_at (m := m) (show iMin e f ≤ e by omega), dv_at (m := n) (show iMin e f ≤ f by omega)]
 simp only [dv_lt]
theorem dv_dm (m e : Int) : dv (dm m) (de m e) = dv m e := by
 unfold de; rw [← dv_shl, dm_mul]
theorem dv_mk {m e : Int} (h : mkE m e = 0) : dv (mkM m e) (mkX m e) = dv m e := by
 unfold mkM mkX
 rw [if_pos h]
 by_cases h0 : m = 0
 ·rw [h0, dm_zero, dv_zero, dv_zero]
 ·rw [if_pos ⟨h, h0⟩, dv_dm]
theorem mk_valid {m e : Int} (h : vdb m e = true) : mkM m e = m ∧ mkX m e = e ∧ mkE m e = 0 := by
 rcases vdb_iff.1 h with ⟨h1, h2⟩ | ⟨h1, h2, h3, h4, h5⟩
 ·subst h1; subst h2; exact mk_r2 (by omega) rfl
 ·have ht : tz m.natAbs = 0 := by
   refine tz_unique (by simp [Nat.mod_one]) (by simpa using h5)
  have e1 : dm m = m := by have := dm_mul m; rw [ht] at this; simpa using this
  have e2 : de m e = e := by unfold de; rw [ht]; omega
  have := mk_r4 (m := m) (e := e) (by omega) h1 (by rw [e1, e2]; exact h)
  rwa [e1, e2] at this
theorem vdb_mk {m e : Int} : vdb (mkM m e) (mkX m e) = true := by
 by_cases h : mkE m e = 0
 ·by_cases h0 : m = 0
  ·have : mkM m e = 0 ∧ mkX m e = 0 := by unfold mkM mkX; rw [if_pos h, if_neg (fun q => q.2 h0), h0, dm_zero]; exact ⟨rfl, rfl⟩
   rw [this.1, this.2]; rfl
  ·have e1 : mkM m e = dm m := by unfold mkM; rw [if_pos h]
   have e2 : mkX m e = de m e := by unfold mkX; rw [if_pos ⟨h, h0⟩]
   rw [e1, e2]
   unfold mkE at h
   split at h
   ·omega
   ·try rw [if_neg h0] at h
    split at h
    ·assumption
    ·omega
 ·rw [(mk_no h).1, (mk_no h).2]; rfl
def flr (r : Rat) (p : Int) : Int := (r * 2 ^ p).floor
def cei (r : Rat) (p : Int) : Int := -(flr (-r) p)
theorem floor_div (n d : Int) (hd : 0 < d) : ((n : Rat) / (d : Rat)).floor = n / d := by
 have hq : (0 : Rat) < (d : Rat) := Rat.intCast_pos.2 hd
 have key : ∀ x : Int, x ≤ ((n : Rat) / (d : Rat)).floor ↔ x ≤ n / d := fun x => by
  rw [Rat.le_floor_iff, Int.le_ediv_iff_mul_le hd, ← Rat.intCast_le_intCast (a := x * d), Rat.intCast_mul, ← Rat.not_lt, Rat.div_lt_iff hq, Rat.not_lt]
 have h1 := (key _).1 (Int.le_refl _)
 have h2 := (key _).2 (Int.le_refl _)
 omega
theorem flr_dv (m e p : Int) : flr (dv m e) p = if 0 ≤ e + p then m * 2 ^ (e + p).toNat else m / 2 ^ (-(e + p)).toNat := by
 have h : dv m e * 2 ^ p = dv m (e + p) := by unfold dv; rw [zp_add]; grind
 unfold flr
 rw [h]
 split
 ·rename_i h0
  rw [dv_at h0, dv_int, Rat.floor_intCast, Int.sub_zero]
 ·rename_i h0
  rw [← floor_div _ _ (two_pos _)]
  congr 1
  have h1 := zp_cancel (e + p)
  have h2 := zp_nat (-(e + p)).toNat
  rw [show (((-(e + p)).toNat : Nat) : Int) = -(e + p) by omega] at h2
  rw [← h2]
  unfold dv
  have h3 := zp_ne (-(e + p))
  grind
theorem flr_frac (n d p : Int) (hd : 0 < d) : flr ((n : Rat) / (d : Rat)) p = if 0 ≤ p then n * 2 ^ p.toNat / d else n / (d * 2 ^ (-p).toNat) := by
 have hq : (d : Rat) ≠ 0 := fun h => by have := Rat.intCast_eq_zero_iff.1 h; omega
 unfold flr
 split
 ·rename_i h0
  rw [← floor_div _ _ hd]
  congr 1
  have h2 := zp_nat p.toNat
  rw [show ((p.toNat : Nat) : Int) = p by omega] at h2
  rw [h2, Rat.intCast_mul]
  grind
 ·rename_i h0
  rw [← floor_div _ _ (Int.mul_pos hd (two_pos _))]
  congr 1
  have h1 := zp_cancel p
  have h2 := zp_nat (-p).toNat
  rw [show (((-p).toNat : Nat) : Int) = -p by omega] at h2
  rw [Rat.intCast_mul, ← h2]
  have h3 := zp_ne (-p)
  grind
theorem flr_le (r : Rat) (p : Int) : dv (flr r p) (-p) ≤ r := by
 have h3 := Rat.mul_le_mul_of_nonneg_right (Rat.floor_le (r * 2 ^ p)) (Rat.le_of_lt (zp_pos (-p)))
 rw [Rat.mul_assoc r, zp_cancel, Rat.mul_one] at h3
 exact h3
theorem flr_lt (r : Rat) (p : Int) : r < dv (flr r p + 1) (-p) := by
 have h3 := Rat.mul_lt_mul_of_pos_right (Rat.lt_floor_add_one (r * 2 ^ p)) (zp_pos (-p))
 rw [Rat.mul_assoc r, zp_cancel, Rat.mul_one] at h3
 exact h3
end Go.Proofs.YtcbihoojfakhdaaGreatDoor

namespace Go.Proofs.YtcbihoojfakhdaaGreatDoor
theorem den_ne (r : Rat) : (r.den : Int) ≠ 0 := by have := r.den_nz; omega
theorem q_eq (r : Rat) : r = (r.num : Rat) / (r.den : Int) := by
 have h := Rat.num_divInt_den r
 rw [Rat.divInt_eq_div] at h
 exact h.symm
theorem dv_pos_e {m e : Int} (he : 0 ≤ e) : (dv m e).num = m * 2 ^ e.toNat ∧ (dv m e).den = 1 := by
 rw [dv_at he, dv_int, Int.sub_zero]
 exact ⟨Rat.num_intCast _, Rat.den_intCast _⟩
theorem dv_neg_e {m e : Int} (hv : vdb m e = true) (he : e < 0) : (dv m e).num = m ∧ (dv m e).den = 2 ^ (-e).toNat := by
 have hm : m.natAbs % 2 = 1 := by
  rcases vdb_iff.1 hv with ⟨_, h2⟩ | ⟨_, _, _, _, h⟩
  ·omega
  ·exact h
 have hc : Nat.Coprime m.natAbs (2 ^ (-e).toNat) := by
  refine Nat.Coprime.pow_right _ ?_
  rw [Nat.coprime_comm]
  unfold Nat.Coprime
  rw [Nat.gcd_rec, hm]; decide
 have h : dv m e = (⟨m, 2 ^ (-e).toNat, Nat.pos_iff_ne_zero.1 (Nat.pow_pos (by omega)), hc⟩ : Rat) := by
  rw [Rat.mk_eq_mkRat, Rat.mkRat_eq_div]
  have h1 := zp_cancel e
  have h2 := zp_nat (-e).toNat
  rw [show (((-e).toNat : Nat) : Int) = -e by omega] at h2
  have h3 := zp_ne (-e)
  have h4 : (((2 ^ (-e).toNat : Nat)) : Rat) = 2 ^ (-e) := by
   rw [h2, ← Rat.intCast_natCast, Int.natCast_pow]; rfl
  rw [h4]
  unfold dv
  grind
 rw [h]
 exact ⟨rfl, rfl⟩
theorem flr_num (r : Rat) (p : Int) : flr r p = if 0 ≤ p then r.num * 2 ^ p.toNat / (r.den : Int) else r.num / ((r.den : Int) * 2 ^ (-p).toNat) := by
 have h := flr_frac r.num (r.den : Int) p (by have := r.den_nz; omega)
 rw [← q_eq] at h
 exact h
theorem flr_shl {r : Rat} {n : Nat} (hd : r.den = 2 ^ n) {p : Int} (hp : (n : Int) ≤ p) : flr r p = r.num * 2 ^ (p - n).toNat := by
 rw [flr_num, if_pos (by omega), hd, Int.natCast_pow]
 have : p.toNat = (p - n).toNat + n := by omega
 rw [this, Int.pow_add, ← Int.mul_assoc]
 exact Int.mul_ediv_cancel _ (by have := two_pos n; exact Int.ne_of_gt this)
theorem flr_shr {r : Rat} {n : Nat} (hd : r.den = 2 ^ n) {p : Int} (hp : p < (n : Int)) : flr r p = r.num / 2 ^ ((n : Int) - p).toNat := by
 rw [flr_num, hd, Int.natCast_pow]
 split
 ·rename_i h0
  have : ((2 : Nat) : Int) ^ n = 2 ^ p.toNat * 2 ^ ((n : Int) - p).toNat := by rw [← Int.pow_add]; show (2 : Int) ^ n = _; congr 1; omega
  rw [this, Int.mul_comm r.num, Int.mul_ediv_mul_of_pos _ _ (two_pos _)]
 ·rename_i h0
  congr 1
  show (2 : Int) ^ n * _ = _
  rw [← Int.pow_add]; congr 1; omega
theorem L_den (r : Rat) : L (r.den : Int).natAbs = L r.den := by rw [Int.natAbs_natCast]
theorem cmpQ_range (x y : Rat) : (cmpQ x y = -1 ∧ x < y) ∨ (cmpQ x y = 1 ∧ y < x) ∨ (cmpQ x y = 0 ∧ x = y) := by
 unfold cmpQ
 by_cases h : x < y
 ·exact .inl ⟨if_pos h, h⟩
 ·rw [if_neg h]
  by_cases h2 : y < x
  ·exact .inr (.inl ⟨if_pos h2, h2⟩)
  ·exact .inr (.inr ⟨if_neg h2, Rat.le_antisymm (Rat.not_lt.1 h2) (Rat.not_lt.1 h)⟩)
end Go.Proofs.YtcbihoojfakhdaaGreatDoor

namespace Go.Proofs.YtcbihoojfakhdaaGreatDoor
open Go.RowKit
theorem tmod_lo (v : Int) {n : Int} (hn : 0 < n) : -n < v.tmod n := by
 have := Int.tmod_lt_of_pos (-v) hn
 rw [Int.neg_tmod] at this
 omega
theorem mod_neg {v n : Int} (hn : 0 < n) (h : wRem v n < 0) : wRem v n + n = v % n := by
 unfold wRem at *
 have h1 := Int.tmod_add_mul_tdiv v n
 have h2 := tmod_lo v hn
 have h3 : v % n = (v.tmod n) % n := by
  conv => lhs; rw [← h1]
  rw [Int.add_mul_emod_self_left]
 rw [h3, ← Int.add_emod_right, Int.emod_eq_of_lt (by omega) (by omega)]
theorem mod_pos {v n : Int} (hn : 0 < n) (h : 0 ≤ wRem v n) : wRem v n = v % n := by
 unfold wRem at *
 have h1 := Int.tmod_add_mul_tdiv v n
 have h2 := Int.tmod_lt_of_pos v hn
 have h3 : v % n = (v.tmod n) % n := by
  conv => lhs; rw [← h1]
  rw [Int.add_mul_emod_self_left]
 rw [h3, Int.emod_eq_of_lt h h2]
theorem wRem_abs {v n : Int} (hn : 0 < n) : -n < wRem v n ∧ wRem v n < n := ⟨tmod_lo v hn, Int.tmod_lt_of_pos v hn⟩
theorem mk_cases {m e : Int} (hE : mkE m e = 0) : (m = 0 ∧ mkM m e = 0 ∧ mkX m e = 0) ∨ (m ≠ 0 ∧ mkM m e = dm m ∧ mkX m e = de m e ∧ vdb (dm m) (de m e) = true) := by
 by_cases hm : m = 0
 ·refine .inl ⟨hm, ?_, ?_⟩
  ·unfold mkM; rw [if_pos hE, hm, dm_zero]
  ·unfold mkX; rw [if_neg (fun q => q.2 hm)]
 ·refine .inr ⟨hm, ?_, ?_, ?_⟩
  ·unfold mkM; rw [if_pos hE]
  ·unfold mkX; rw [if_pos ⟨hE, hm⟩]
  ·unfold mkE at hE
   split at hE
   ·omega
   ·first
    | (rw [if_neg hm] at hE; split at hE; assumption; omega)
    | (split at hE; assumption; omega)
theorem mk_low {m e : Int} (hE : mkE m e = 0) {c : Int} (hc : c ≤ e) (h0 : c ≤ 0) : c ≤ mkX m e := by
 rcases mk_cases hE with ⟨_, _, h⟩ | ⟨_, _, h, _⟩
 ·omega
 ·rw [h]; unfold de; omega
theorem mk_val {m e : Int} (hE : mkE m e = 0) {c : Int} (hc : c ≤ e) : mkM m e * 2 ^ (mkX m e - c).toNat = m * 2 ^ (e - c).toNat := by
 rcases mk_cases hE with ⟨h, h1, h2⟩ | ⟨h, h1, h2, _⟩
 ·rw [h1, h, Int.zero_mul, Int.zero_mul]
 ·rw [h1, h2]
  unfold de
  rw [show (e + (tz m.natAbs : Int) - c).toNat = tz m.natAbs + (e - c).toNat by omega, Int.pow_add, ← Int.mul_assoc, dm_mul]
theorem cmpD_mk {m e n f : Int} (h1 : mkE m e = 0) (h2 : mkE n f = 0) : cmpD (mkM m e) (mkX m e) (mkM n f) (mkX n f) = cmpD m e n f := by
 have r := iMin_range e f
 obtain ⟨c, c1, c2, c3⟩ : ∃ c : Int, c ≤ e ∧ c ≤ f ∧ c ≤ 0 := ⟨iMin (iMin e f) 0, by have := iMin_range (iMin e f) 0; omega, by have := iMin_range (iMin e f) 0; omega, by have := iMin_range (iMin e f) 0; omega⟩
 rw [cmpD_at _ _ _ _ (mk_low h1 c1 c3) (mk_low h2 c2 c3), mk_val h1 c1, mk_val h2 c2, ← cmpD_at m e n f c1 c2]
theorem cmpD_up (m n : Int) {e f : Int} (h : f ≤ e) : cmpD m e n f = cmpI (m * 2 ^ (e - f).toNat) n := by
 rw [cmpD_at m e n f h (Int.le_refl _)]; simp
theorem mk_vdb {m e : Int} (hE : mkE m e = 0) : vdb (mkM m e) (mkX m e) = true := by
 rcases mk_cases hE with ⟨_, h1, h2⟩ | ⟨_, h1, h2, h3⟩
 ·rw [h1, h2]; simp [vdb]
 ·rw [h1, h2]; exact h3
theorem mk_on {m e p : Int} (hE : mkE m e = 0) (hp : -p ≤ e) (h : (-2048 : Int) ≤ p ∧ p ≤ 8192) : onB (mkM m e) (mkX m e) p = true := by
 refine decide_eq_true ⟨h, ?_⟩
 rcases mk_cases hE with ⟨_, h1, h2⟩ | ⟨_, h1, h2, h3⟩
 ·exact .inl h1
 ·refine .inr ?_; rw [h2]; unfold de; omega
theorem mk_fine2 {m e : Int} (h : L m.natAbs ≤ 900) (he : -60000 ≤ e ∧ e ≤ 30000) : mkE m e = 0 := by
 by_cases hm : m = 0
 ·exact (mk_r2 (by omega) hm).2.2
 ·refine (mk_r4 (by omega) hm ?_).2.2
  rw [vdb_iff]
  have h1 := L_dm m
  have h2 := nbits_L (dm m).natAbs
  have h3 := tz_L m.natAbs
  have h4 := dm_odd hm
  unfold de
  exact .inr ⟨dm_ne hm, by omega, by omega, by omega, h4⟩
theorem meets_ok {a b c d e f : Int} (h1 : mkE a e = 0) (h2 : mkE b e = 0) (h3 : mkE c f = 0) (h4 : mkE d f = 0) (hef : f ≤ e) (k1 : c ≤ b * 2 ^ (e - f).toNat) (k2 : a * 2 ^ (e - f).toNat ≤ d) :
  ivCmp (mkM a e) (mkX a e) (mkM b e) (mkX b e) (mkM c f) (mkX c f) (mkM d f) (mkX d f) = 0 := by
 unfold ivCmp
 rw [cmpD_mk h2 h3, cmpD_mk h1 h4, cmpD_up _ _ hef, cmpD_up _ _ hef]
 have := cmpI_range (b * 2 ^ (e - f).toNat) c
 have := cmpI_range (a * 2 ^ (e - f).toNat) d
 rw [if_neg (by omega), if_neg (by omega)]
end Go.Proofs.YtcbihoojfakhdaaGreatDoor

namespace Go.Proofs.YtcbihoojfakhdaaGreatDoor
open Go.RowKit
def rawI (b : Bool) (l : List Nat) (n : Int) : Int := if (l.length : Int) ≤ n then sgn b (val l) else 0
theorem rawI_yes {b : Bool} {l : List Nat} {n : Int} (h : (l.length : Int) ≤ n) : rawI b l n = sgn b (val l) := by unfold rawI; rw [if_pos h]
theorem rawI_no {b : Bool} {l : List Nat} {n : Int} (h : n < (l.length : Int)) : rawI b l n = 0 := by unfold rawI; rw [if_neg (by omega)]
theorem rawI_L {b : Bool} {l : List Nat} (hl : Dig l) {n : Int} (hn : 0 ≤ n) : (L (rawI b l n).natAbs : Int) ≤ n := by
 by_cases h : (l.length : Int) ≤ n
 ·rw [rawI_yes h]
  have := L_sgn b (val l)
  have := L_val hl
  omega
 ·rw [rawI_no (by omega)]
  have : L (0 : Int).natAbs = 0 := L_zero
  omega
theorem raw_ret1 {b : Bool} {l : List Nat} {n : Int} (h : n < (l.length : Int)) : vsub (.tup [.agg [.bool false, .nil], .bool false]) (.tup [.agg [.bool (decide (rawI b l n < 0)), N (rawI b l n).natAbs], .bool (decide ((l.length : Int) ≤ n))]) := by
 rw [rawI_no h, decide_eq_false (show ¬((l.length : Int) ≤ n) by omega)]
 exact vsub_tup2 vsub_zero2 (vsub_refl _)
theorem raw_ret2 {b : Bool} {l : List Nat} {n : Int} (h : (l.length : Int) ≤ n) : vsub (.tup [.agg [.bool (decide (sgn b (val l) < 0)), N (sgn b (val l)).natAbs], .bool true]) (.tup [.agg [.bool (decide (rawI b l n < 0)), N (rawI b l n).natAbs], .bool (decide ((l.length : Int) ≤ n))]) := by
 rw [rawI_yes h, decide_eq_true h]
 exact vsub_refl _
theorem mk_zero (e : Int) : mkM 0 e = 0 ∧ mkX 0 e = 0 := by
 refine ⟨?_, ?_⟩
 ·unfold mkM; split
  ·exact dm_zero
  ·rfl
 ·unfold mkX; rw [if_neg (fun q => q.2 rfl)]
theorem rawd_ret1 {b : Bool} {l : List Nat} {n e : Int} (h : n < (l.length : Int)) : vsub (.tup [.agg [.bool false, .nil, .int .i64 0], .bool false])
  (.tup [.agg [.bool (decide (mkM (rawI b l n) e < 0)), N (mkM (rawI b l n) e).natAbs, .int .i64 (mkX (rawI b l n) e)], .bool (decide ((l.length : Int) ≤ n))]) := by
 rw [rawI_no h, (mk_zero e).1, (mk_zero e).2, decide_eq_false (show ¬((l.length : Int) ≤ n) by omega)]
 exact vsub_tup2 vsub_zero3 (vsub_refl _)
theorem rawd_ok {m e : Int} {p : Prop} [Decidable p] (h : mkE m e = 0) (hp : p) : iEq (mkE m e) 0 = decide p := by rw [h, decide_eq_true hp]; rfl
end Go.Proofs.YtcbihoojfakhdaaGreatDoor

namespace Go.Proofs.YtcbihoojfakhdaaGreatDoor
theorem vdb_opp (m e : Int) : vdb (-m) e = vdb m e := by
 unfold vdb; rw [Int.natAbs_neg]; simp only [Int.neg_eq_zero]
def scl (x n : Int) : Int := if n < 0 then x / 2 ^ (-n).toNat else x * 2 ^ n.toNat
theorem scl_L (x n : Int) : (L (scl x n).natAbs : Int) ≤ L x.natAbs + n.toNat / 32 + 1 := by
 unfold scl
 split
 ·have := L_abs_shr x (-n).toNat; omega
 ·have := L_abs_shl x n.toNat; omega
theorem flr_scl (m e p : Int) : flr (dv m e) p = scl m (e + p) := by
 rw [flr_dv]; unfold scl
 by_cases h : 0 ≤ e + p
 ·rw [if_pos h, if_neg (by omega)]
 ·rw [if_neg h, if_pos (by omega)]
def flF (n d p : Int) : Int := if 0 ≤ p then n * 2 ^ p.toNat / d else n / (d * 2 ^ (-p).toNat)
theorem flF_eq (r : Rat) (p : Int) : flF r.num (r.den : Int) p = flr r p := (flr_num r p).symm
theorem fdiv_pos {x y : Int} (hy : 0 < y) : Int.fdiv x y = x / y := Int.fdiv_eq_ediv_of_nonneg _ (by omega)
theorem flF_p {n d p : Int} (hd : 0 < d) (hp : 0 ≤ p) : Int.fdiv (n * 2 ^ p.toNat) d = flF n d p := by unfold flF; rw [if_pos hp, fdiv_pos hd]
theorem flF_n {n d p : Int} (hd : 0 < d) (hp : p < 0) : Int.fdiv n (d * 2 ^ (-p).toNat) = flF n d p := by
 unfold flF; rw [if_neg (by omega), fdiv_pos (Int.mul_pos hd (two_pos _))]
theorem L_ediv (x y : Int) : L (x / y).natAbs ≤ L x.natAbs + 1 := by
 rcases Int.lt_trichotomy y 0 with h | h | h
 ·have h1 := L_fdiv (-x) (-y)
  rw [Int.neg_fdiv_neg] at h1
  have e : x / y = -(x / -y) := by rw [Int.ediv_neg, Int.neg_neg]
  have h2 := L_fdiv x (-y)
  rw [fdiv_pos (by omega)] at h2
  rw [e, Int.natAbs_neg]; exact h2
 ·subst h; rw [Int.ediv_zero]; simp [L_zero]
 ·have h1 := L_fdiv x y
  rw [fdiv_pos h] at h1; exact h1
theorem flF_L (n d p : Int) : (L (flF n d p).natAbs : Int) ≤ L n.natAbs + p.toNat / 32 + 2 := by
 unfold flF
 split
 ·have h1 := L_ediv (n * 2 ^ p.toNat) d
  have h2 := L_abs_shl n p.toNat
  omega
 ·have h1 := L_ediv n (d * 2 ^ (-p).toNat)
  omega
theorem flr_L (r : Rat) (p : Int) : (L (flr r p).natAbs : Int) ≤ L r.num.natAbs + p.toNat / 32 + 2 ∧ (L (cei r p).natAbs : Int) ≤ L r.num.natAbs + p.toNat / 32 + 2 := by
 have h1 := flF_L r.num (r.den : Int) p
 have h2 := flF_L (-r).num ((-r).den : Int) p
 rw [flF_eq] at h1 h2
 rw [Rat.neg_num, Int.natAbs_neg] at h2
 unfold cei
 rw [Int.natAbs_neg]
 exact ⟨h1, h2⟩
theorem flr_LD (m e p : Int) : (L (flr (dv m e) p).natAbs : Int) ≤ L m.natAbs + (e + p).toNat / 32 + 1 ∧ (L (cei (dv m e) p).natAbs : Int) ≤ L m.natAbs + (e + p).toNat / 32 + 1 := by
 have h1 := scl_L m (e + p)
 have h2 := scl_L (-m) (e + p)
 rw [← flr_scl] at h1 h2
 rw [Int.natAbs_neg] at h2
 unfold cei
 rw [Int.natAbs_neg, ← dv_neg]
 exact ⟨h1, h2⟩
theorem pow_of_tz {d : Nat} (h0 : d ≠ 0) (h : (tz d : Int) = (nbits d : Int) - 1) : d = 2 ^ tz d := by
 have h1 := nbits_lt d
 have h2 := nbits_pos h0
 have h3 := Nat.dvd_of_mod_eq_zero (tz_spec h0).1
 obtain ⟨k, hk⟩ := h3
 have e : nbits d = tz d + 1 := by omega
 rw [e, Nat.pow_succ] at h1
 have hp : 0 < 2 ^ tz d := Nat.pow_pos (by omega)
 have hk1 : k = 1 := by
  rcases Nat.lt_or_ge k 2 with q | q
  ·rcases Nat.eq_zero_or_pos k with q0 | q0
   ·rw [q0] at hk; omega
   ·omega
  ·have := Nat.mul_le_mul_left (2 ^ tz d) q; omega
 rw [hk1, Nat.mul_one] at hk
 exact hk
theorem dv_L {m e : Int} (hv : vdb m e = true) (he : -65536 ≤ e ∧ e ≤ 65536) : L (dv m e).num.natAbs ≤ L m.natAbs + 2050 ∧ L (dv m e).den ≤ 2050 := by
 by_cases h : 0 ≤ e
 ·have h1 := dv_pos_e (m := m) h
  have h2 := L_abs_shl m e.toNat
  have h3 : L 1 ≤ 1 := L_le (by decide)
  rw [h1.1, h1.2]
  omega
 ·have h1 := dv_neg_e hv (by omega)
  have h2 := L_two_pow (-e).toNat
  rw [h1.1, h1.2]
  omega
end Go.Proofs.YtcbihoojfakhdaaGreatDoor

namespace Go.Proofs.YtcbihoojfakhdaaGreatDoor
open Go.RowKit
set_option maxRecDepth 100000
theorem r08_one (n : Int) (c0 : (0 : Int) ≤ n ∧ n ≤ 200000) : Impl Tryz.prog Amb 167 [(.int .i64 n)] (N (1 * 2 ^ (n).toNat)) := by
 have l1 := L_le (n := 1) (k := 1) (by decide)
 exact impl_ob hP hAmb Tryz.func167 (by kernel_rfl) (.lit <| .call (N 1) <| .lit <| .call (N (1 * 2 ^ (n).toNat)) <| .lit <| .ret)
  (cast_ob (aI True.intro (aI (r01_Of 1 oA) (aI (r01_Shl 1 n oA oA) (have f1 := L_shl 1 (n).toNat; (vsub_refl (N (1 * 2 ^ (n).toNat))))))) (by kernel_rfl))
theorem r08_Rat (m : Int) (e : Int) (c0 : L (m).natAbs ≤ 100000) (c1 : (-65536 : Int) ≤ e ∧ e ≤ 65536) (c2 : vdb m e = true) : Impl Tryz.prog Amb 97 [(yV m e)] (.agg [(.bool (decide ((dv m e).num < 0))), (N (((dv m e).num).natAbs)), (N ((dv m e).den))]) := by
 exact impl_ob hP hAmb Tryz.func97 (by kernel_rfl) (.lits 2 <| .both (.lits 3 <| .call (zV (m * 2 ^ (e).toNat)) <| .lit <| .call (N 1) <| .lits 3 <| .ret) (.lits 3 <| .yes <| .lit <| .call (N (1 * 2 ^ (((0 : Int) - e)).toNat)) <| .lits 3 <| .ret))
  (cast_ob (aI True.intro (aI (fun (h1 : (iGe e 0) = true) => have _gh1 := iGe_t h1; aI (r05_Shl m e oA oA) (have f2 := L_abs_shl m (e).toNat; aI (r01_Of 1 oA) ((by rw [(dv_pos_e (show 0 ≤ e by omega)).1, (dv_pos_e (m := m) (show 0 ≤ e by omega)).2]; exact vsub_refl _ : vsub (.agg [(.bool (decide ((m * 2 ^ (e).toNat) < 0))), (N ((m * 2 ^ (e).toNat).natAbs)), (N 1)]) (.agg [(.bool (decide ((dv m e).num < 0))), (N (((dv m e).num).natAbs)), (N ((dv m e).den))]))))) (fun (h3 : (iGe e 0) = false) => have _gh3 := iGe_f h3; aI (fits_i64 oA : (fits .i64 ((0 : Int) - e)) = true) (aI (r08_one ((0 : Int) - e) oA) (have f4 := L_shl 1 (((0 : Int) - e)).toNat; (by rw [(dv_neg_e c2 (show e < 0 by omega)).1, (dv_neg_e c2 (show e < 0 by omega)).2, show (0 - e) = -e by omega, Nat.one_mul]; exact vsub_refl _ : vsub (.agg [(.bool (decide (m < 0))), (N m.natAbs), (N (1 * 2 ^ (((0 : Int) - e)).toNat))]) (.agg [(.bool (decide ((dv m e).num < 0))), (N (((dv m e).num).natAbs)), (N ((dv m e).den))]))))))) (by kernel_rfl))
theorem r08_Cut (r : Rat) (p : Int) (c0 : L r.num.natAbs ≤ 100000) (c1 : L r.den ≤ 30000) (c2 : (-10000 : Int) ≤ p ∧ p ≤ 10000) : Impl Tryz.prog Amb 98 [(.agg [(.bool (decide (r.num < 0))), (N r.num.natAbs), (N r.den)]), (.int .i64 p)] (zV (flr r p)) := by
 have n0 := nbits_pos r.den_nz
 have n1 := nbits_L r.den
 have t1 := fun q => pow_of_tz r.den_nz q
 have d0 := den_ne r
 have d1 : (0 : Int) < (r.den : Int) := by omega
 have d2 := L_den r
 have d3 : sgn false r.den = (r.den : Int) := sgn_f _
 have d4 := sgn_abs false r.den
 have l1 := L_shl r.den (-p).toNat
 have d5 := two_pos (0 - p).toNat
 have d6 : (r.den : Int) * 2 ^ (0 - p).toNat ≠ 0 := Int.mul_ne_zero d0 (Int.ne_of_gt d5)
 have d7 := L_abs_shl (sgn false r.den) (0 - p).toNat
 exact impl_ob hP hAmb Tryz.func98 (by kernel_rfl) (.lits 2 <| .call (.int .i64 (nbits r.den : Int)) <| .lit <| .yes <| .lits 2 <| .call (.int .i64 (tz r.den : Int)) <| .lit <| .both (.lit <| .both (.lits 2 <| .yes <| .lit <| .call (zV (r.num * 2 ^ ((p - ((nbits r.den : Int) - 1))).toNat)) <| .lits 2 <| .ret) (.lits 2 <| .yes <| .lit <| .call (zV (r.num / 2 ^ ((((nbits r.den : Int) - 1) - p)).toNat)) <| .lits 2 <| .ret)) (.lits 3 <| .call (zV (sgn false r.den)) <| .lit <| .both (.lits 2 <| .call (zV (r.num * 2 ^ (p).toNat)) <| .lits 4 <| .call (.tup [(zV (Int.fdiv (r.num * 2 ^ (p).toNat) (sgn false r.den))), (zV ((r.num * 2 ^ (p).toNat) - (Int.fdiv (r.num * 2 ^ (p).toNat) (sgn false r.den)) * (sgn false r.den))), (.bool true)]) <| .lits 5 <| .ret) (.lits 2 <| .yes <| .lit <| .call (zV ((sgn false r.den) * 2 ^ (((0 : Int) - p)).toNat)) <| .lits 4 <| .call (.tup [(zV (Int.fdiv r.num ((sgn false r.den) * 2 ^ (((0 : Int) - p)).toNat))), (zV (r.num - (Int.fdiv r.num ((sgn false r.den) * 2 ^ (((0 : Int) - p)).toNat)) * ((sgn false r.den) * 2 ^ (((0 : Int) - p)).toNat))), (.bool true)]) <| .lits 5 <| .ret)))
  (cast_ob (aI True.intro (aI (r01_Bits r.den (by first | omega | (rw [d3]; first | omega | assumption))) (have f15 := nbits_L r.den; aI (fits_i64 (by first | omega | (rw [d3]; first | omega | assumption)) : (fits .i64 ((nbits r.den : Int) - 1)) = true) (aI (r01_Zeros r.den (by first | omega | (rw [d3]; first | omega | assumption))) (have f14 := tz_L r.den; aI (fun (h1 : (iEq (tz r.den : Int) ((nbits r.den : Int) - 1)) = true) => have _gh1 := iEq_t h1; aI (fun (h2 : (iGe p ((nbits r.den : Int) - 1)) = true) => have _gh2 := iGe_t h2; aI (fits_i64 (by first | omega | (rw [d3]; first | omega | assumption)) : (fits .i64 (p - ((nbits r.den : Int) - 1))) = true) (aI (r05_Shl r.num (p - ((nbits r.den : Int) - 1)) (by first | omega | (rw [d3]; first | omega | assumption)) (by first | omega | (rw [d3]; first | omega | assumption))) (have f3 := L_abs_shl r.num ((p - ((nbits r.den : Int) - 1))).toNat; (Z_of (by rw [flr_shl (t1 oO) oO]; congr 3; omega) : vsub (zV (r.num * 2 ^ ((p - ((nbits r.den : Int) - 1))).toNat)) (zV (flr r p)))))) (fun (h4 : (iGe p ((nbits r.den : Int) - 1)) = false) => have _gh4 := iGe_f h4; aI (fits_i64 (by first | omega | (rw [d3]; first | omega | assumption)) : (fits .i64 (((nbits r.den : Int) - 1) - p)) = true) (aI (r05_Shr r.num (((nbits r.den : Int) - 1) - p) (by first | omega | (rw [d3]; first | omega | assumption)) (by first | omega | (rw [d3]; first | omega | assumption))) (have f5 := L_abs_shr r.num ((((nbits r.den : Int) - 1) - p)).toNat; (Z_of (by rw [flr_shr (t1 oO) oO]; congr 3; omega) : vsub (zV (r.num / 2 ^ ((((nbits r.den : Int) - 1) - p)).toNat)) (zV (flr r p))))))) (fun (h6 : (iEq (tz r.den : Int) ((nbits r.den : Int) - 1)) = false) => have _gh6 := iEq_f h6; aI (r05_Nat false r.den (by first | omega | (rw [d3]; first | omega | assumption))) (have f13 := L_sgn false r.den; aI (fun (h7 : (iGe p 0) = true) => have _gh7 := iGe_t h7; aI (r05_Shl r.num p (by first | omega | (rw [d3]; first | omega | assumption)) (by first | omega | (rw [d3]; first | omega | assumption))) (have f9 := L_abs_shl r.num (p).toNat; aI (r05_DivMod (r.num * 2 ^ (p).toNat) (sgn false r.den) (by first | omega | (rw [d3]; first | omega | assumption)) (by first | omega | (rw [d3]; first | omega | assumption)) (by first | omega | (rw [d3]; first | omega | assumption))) (have f8 := L_fdiv (r.num * 2 ^ (p).toNat) (sgn false r.den); (Z_of (by rw [d3, flF_p d1 oO, flF_eq]) : vsub (zV (Int.fdiv (r.num * 2 ^ (p).toNat) (sgn false r.den))) (zV (flr r p)))))) (fun (h10 : (iGe p 0) = false) => have _gh10 := iGe_f h10; aI (fits_i64 (by first | omega | (rw [d3]; first | omega | assumption)) : (fits .i64 ((0 : Int) - p)) = true) (aI (r05_Shl (sgn false r.den) ((0 : Int) - p) (by first | omega | (rw [d3]; first | omega | assumption)) (by first | omega | (rw [d3]; first | omega | assumption))) (have f12 := L_abs_shl (sgn false r.den) (((0 : Int) - p)).toNat; aI (r05_DivMod r.num ((sgn false r.den) * 2 ^ (((0 : Int) - p)).toNat) (by first | omega | (rw [d3]; first | omega | assumption)) (by first | omega | (rw [d3]; first | omega | assumption)) (by first | omega | (rw [d3]; first | omega | assumption))) (have f11 := L_fdiv r.num ((sgn false r.den) * 2 ^ (((0 : Int) - p)).toNat); (Z_of (by rw [d3, show (0 : Int) - p = -p by omega, flF_n d1 oO, flF_eq]) : vsub (zV (Int.fdiv r.num ((sgn false r.den) * 2 ^ (((0 : Int) - p)).toNat))) (zV (flr r p)))))))))))))) (by kernel_rfl))
end Go.Proofs.YtcbihoojfakhdaaGreatDoor



namespace Go.Proofs.YtcbihoojfakhdaaGreatDoor
theorem impl_eq {P : Program} {C : World → Prop} {f : FuncId} {ds : List V} {r r' : V} (h : r = r') (k : Impl P C f ds r) : Impl P C f ds r' := h ▸ k
end Go.Proofs.YtcbihoojfakhdaaGreatDoor



namespace Go.Proofs.YtcbihoojfakhdaaGreatDoor
open Go.RowKit
set_option maxRecDepth 100000
theorem mill_Mod (v : Int) (n : Int) (c0 : (0 : Int) < n ∧ n ≤ 1000000000) (c1 : (-9223372036854775808 : Int) ≤ v ∧ v ≤ 9223372036854775807) : Impl Tryz.prog Amb 16 [(.int .i64 v), (.int .i64 n)] (.int .i64 (v % n)) := by
 have r0 := wRem_abs (v := v) (n := n) oO
 exact impl_ob hP hAmb Tryz.func16 (by kernel_rfl) (.yes <| .lit <| .both (.lit <| .yes <| .lit <| .ret) (.lit <| .ret))
  (cast_ob (aI True.intro (aI (iNe_mk oA : (iNe n 0) = true) (aI (fun (h1 : (iLt (wRem v n) 0) = true) => have _gh1 := iLt_t h1; aI (fits_i64 oA : (fits .i64 ((wRem v n) + n)) = true) ((vsub_of (congrArg (V.int .i64) (mod_neg oO oO)) : vsub (.int .i64 ((wRem v n) + n)) (.int .i64 (v % n))))) (fun (h2 : (iLt (wRem v n) 0) = false) => have _gh2 := iLt_f h2; (vsub_of (congrArg (V.int .i64) (mod_pos oO oO)) : vsub (.int .i64 (wRem v n)) (.int .i64 (v % n))))))) (by kernel_rfl))
theorem mill_Int (b : Bool) (l : List Nat) (n : Int) (c0 : Dig l) (c1 : l.length ≤ 9223372036854775807) (c2 : (0 : Int) ≤ n ∧ n ≤ 1000) : Impl Tryz.prog Amb 66 [(.agg [(.bool b), (.sl 1 (U l))]), (.int .i64 n)] (.tup [(zV (rawI b l n)), (.bool (decide ((l.length : Int) ≤ n)))]) := by
 have e0 := U_len l
 exact impl_ob hP hAmb Tryz.func66 (by kernel_rfl) (.lits 2 <| .both (.lits 3 <| .ret) (.lits 3 <| .call (zV (sgn b (val l))) <| .lits 2 <| .ret))
  (cast_ob (aI True.intro (aI (fun (h1 : (iGt ((U l).length : Int) n) = true) => have _gh1 := iGt_t h1; (raw_ret1 oO : vsub (.tup [(.agg [(.bool false), .nil]), (.bool false)]) (.tup [(zV (rawI b l n)), (.bool (decide ((l.length : Int) ≤ n)))]))) (fun (h2 : (iGt ((U l).length : Int) n) = false) => have _gh2 := iGt_f h2; aI (r05_NatC b (U l) l rfl c0 oO) (have f4 := L_val ‹Dig l›; have f3 := L_sgn b (val l); (raw_ret2 oO : vsub (.tup [(zV (sgn b (val l))), (.bool true)]) (.tup [(zV (rawI b l n)), (.bool (decide ((l.length : Int) ≤ n)))])))))) (by kernel_rfl))
end Go.Proofs.YtcbihoojfakhdaaGreatDoor

namespace Go.Proofs.YtcbihoojfakhdaaGreatDoor
theorem mkX_b {m e : Int} (hE : mkE m e = 0) : (m = 0 ∧ mkX m e = 0) ∨ (m ≠ 0 ∧ e ≤ mkX m e ∧ mkX m e ≤ e + 32 * (L m.natAbs : Int)) := by
 rcases mk_cases hE with ⟨h, _, k⟩ | ⟨h, _, k, _⟩
 ·exact .inl ⟨h, k⟩
 ·have := tz_L m.natAbs
  refine .inr ⟨h, ?_, ?_⟩ <;> rw [k] <;> unfold de <;> omega
theorem mk_fit {m e : Int} (h : L m.natAbs ≤ 900) (he : -60000 ≤ e ∧ e ≤ 30000) : mkE m e = 0 ∧ L (mkM m e).natAbs ≤ L m.natAbs ∧ iMin e 0 ≤ mkX m e ∧ mkX m e ≤ iMax e 0 + 32 * (L m.natAbs : Int) ∧ vdb (mkM m e) (mkX m e) = true ∧ dv (mkM m e) (mkX m e) = dv m e := by
 have hE := mk_fine2 h he
 have h1 := mk_facts m e
 have h2 := iMin_range e 0
 have h3 : e ≤ iMax e 0 ∧ 0 ≤ iMax e 0 := by unfold iMax; split <;> omega
 refine ⟨hE, h1.1, ?_, ?_, vdb_mk, dv_mk hE⟩ <;> rcases mkX_b hE with ⟨_, k⟩ | ⟨_, k, l⟩ <;> omega
theorem of_fit {n : Int} (h : -9223372036854775808 ≤ n ∧ n ≤ 9223372036854775807) : mkE n 0 = 0 ∧ L (mkM n 0).natAbs ≤ 2 ∧ 0 ≤ mkX n 0 ∧ mkX n 0 ≤ 64 ∧ vdb (mkM n 0) (mkX n 0) = true ∧ dv (mkM n 0) (mkX n 0) = (n : Rat) := by
 have hl := L_i64 h
 have h1 := mk_fit (m := n) (e := 0) (by omega) (by omega)
 have h2 : iMin 0 0 = 0 := rfl
 have h3 : iMax 0 0 = 0 := rfl
 rw [h2, h3, dv_int] at h1
 exact ⟨h1.1, by omega, h1.2.2.1, by omega, h1.2.2.2.2.1, h1.2.2.2.2.2⟩
theorem cmpQ_le {x y : Rat} : cmpQ x y ≤ 0 ↔ x ≤ y := by
 rcases cmpQ_range x y with ⟨q, k⟩ | ⟨q, k⟩ | ⟨q, k⟩
 ·exact ⟨fun _ => Rat.le_of_lt k, fun _ => by omega⟩
 ·exact ⟨fun h => by omega, fun h => absurd h (Rat.not_le.2 k)⟩
 ·exact ⟨fun _ => by rw [k]; exact Rat.le_refl, fun _ => by omega⟩
end Go.Proofs.YtcbihoojfakhdaaGreatDoor


namespace Go.Proofs.YtcbihoojfakhdaaGreatDoor
theorem oM {p : Prop} (h : p := by first | omega | exact ml_fine (by omega) (by omega) (by omega) (by omega) | exact ad_fine (by omega) (by omega) (by omega) (by omega) | exact (en_vdb _ _ _).1 | exact (en_vdb _ _ _).2) : p := h
theorem oD {p : Prop} (h : p := by first | omega | exact ml_fine (by omega) (by omega) (by omega) (by omega) | exact ad_fine (by omega) (by omega) (by omega) (by omega) | exact (en_vdb _ _ _).1 | exact (en_vdb _ _ _).2 | decide) : p := h
theorem oN {p : Prop} (h : p := by first | omega | exact ml_fine (by omega) (by omega) (by omega) (by omega) | exact ad_fine (by omega) (by omega) (by omega) (by omega) | exact (en_vdb _ _ _).1 | exact (en_vdb _ _ _).2 | assumption) : p := h
theorem oN2 {p : Prop} (h : p := by first | omega | exact ml_fine (by omega) (by omega) (by omega) (by omega) | exact ad_fine (by omega) (by omega) (by omega) (by omega) | exact (en_vdb _ _ _).1 | exact (en_vdb _ _ _).2 | assumption | exact ad_fine (by omega) (by omega) (by omega) (by omega)) : p := h
theorem oP {p : Prop} (h : p := by first | assumption | omega | exact o1.2.2.2.2.1) : p := h
theorem oW {p : Prop} (h : p := by first | assumption | exact pw_or (by omega) | (simp; done) | omega) : p := h
theorem oS {p : Prop} (h : p := by first | omega | assumption) : p := h
theorem oR {p : Prop} (h : p := by first | omega | assumption | exact Rat.le_refl) : p := h
theorem oT {p : Prop} (h : p := by first | assumption | omega | exact Rat.le_refl | exact of0.2.2.2.2.1) : p := h
theorem oU {p : Prop} (h : p := by first | assumption | omega) : p := h
end Go.Proofs.YtcbihoojfakhdaaGreatDoor


namespace Go.Proofs.YtcbihoojfakhdaaGreatDoor
theorem adS_L {m e n f : Int} {a c : Nat} (hm : L m.natAbs ≤ a) (hn : L n.natAbs ≤ a) (h : e - f ≤ 32 * c) (k : f - e ≤ 32 * c) : L (adS m e n f).natAbs ≤ a + c + 2 := by
 have h0 := iMin_range e f
 have h1 := L_abs_shl m (e - iMin e f).toNat
 have h2 := L_abs_shl n (f - iMin e f).toNat
 have h3 := L_abs_add (m * 2 ^ (e - iMin e f).toNat) (n * 2 ^ (f - iMin e f).toNat)
 unfold adS
 omega
end Go.Proofs.YtcbihoojfakhdaaGreatDoor



namespace Go.Proofs.YtcbihoojfakhdaaGreatDoor
theorem fl_R {a T : Int} (hT : 0 < T) : ((a / T : Int) : Rat) * (T : Rat) ≤ (a : Rat) ∧ (a : Rat) < ((a / T : Int) : Rat) * (T : Rat) + (T : Rat) := by
 have h1 := Int.ediv_mul_le a (show T ≠ 0 by omega)
 have h2 := Int.lt_ediv_add_one_mul_self a hT
 rw [Int.add_mul, Int.one_mul] at h2
 rw [← Rat.intCast_mul, ← Rat.intCast_add, Rat.intCast_le_intCast, Rat.intCast_lt_intCast]
 exact ⟨h1, h2⟩
theorem ce_R {a T : Int} (hT : 0 < T) : (a : Rat) ≤ ((-(-a / T) : Int) : Rat) * (T : Rat) ∧ ((-(-a / T) : Int) : Rat) * (T : Rat) < (a : Rat) + (T : Rat) := by
 have h := fl_R (a := -a) hT
 rw [Rat.intCast_neg] at h ⊢
 constructor <;> grind
theorem df_lo {a n : Int} {y : Rat} (hn : 0 < n) (h : (a : Rat) ≤ y) : ((a / n : Int) : Rat) ≤ y / (n : Rat) := by
 have n0 : (0 : Rat) < n := Rat.intCast_pos.2 hn
 have f := (fl_R (a := a) hn).1
 have e := Rat.div_mul_cancel (a := y) (b := (n : Rat)) (by grind)
 exact Rat.le_of_mul_le_mul_right (c := (n : Rat)) (by rw [e]; exact Rat.le_trans f h) n0
theorem df_hi {b n : Int} {y : Rat} (hn : 0 < n) (h : y ≤ (b : Rat)) : y / (n : Rat) ≤ ((-(-b / n) : Int) : Rat) := by
 have n0 : (0 : Rat) < n := Rat.intCast_pos.2 hn
 have f := (ce_R (a := b) hn).1
 have e := Rat.div_mul_cancel (a := y) (b := (n : Rat)) (by grind)
 exact Rat.le_of_mul_le_mul_right (c := (n : Rat)) (by rw [e]; exact Rat.le_trans h f) n0
def odn (j : Nat) : Int := 2 * (j : Int) + 1
theorem least {P : Nat → Prop} [DecidablePred P] : ∀ {n : Nat}, P n → ∃ N, N ≤ n ∧ P N ∧ ∀ j, j < N → ¬ P j
 | 0, h => ⟨0, Nat.le_refl _, h, fun j hj => by omega⟩
 | n + 1, h => by
  by_cases q : ∃ m, m ≤ n ∧ P m
  ·obtain ⟨m, hm, pm⟩ := q
   obtain ⟨N, hN, pN, hj⟩ := least pm
   exact ⟨N, by omega, pN, hj⟩
  ·exact ⟨n + 1, Nat.le_refl _, h, fun j hj pj => q ⟨j, by omega, pj⟩⟩
def ptLo (a d : Int) : Int := ((a.natAbs / d.toNat : Nat) : Int)
def ptHi (b d : Int) : Int := ((b.natAbs / d.toNat + (if b.natAbs % d.toNat = 0 then 0 else 1) : Nat) : Int)
theorem ptLo_eq {a d : Int} (ha : 0 ≤ a) (hd : 0 < d) : ptLo a d = a / d := by
 unfold ptLo
 obtain ⟨x, rfl⟩ := Int.eq_ofNat_of_zero_le ha
 obtain ⟨y, rfl⟩ := Int.eq_ofNat_of_zero_le (show 0 ≤ d by omega)
 simp
theorem ptHi_eq {b d : Int} (hb : 0 ≤ b) (hd : 0 < d) : ptHi b d = -(-b / d) := by
  unfold ptHi
  obtain ⟨x, rfl⟩ := Int.eq_ofNat_of_zero_le hb
  obtain ⟨y, rfl⟩ := Int.eq_ofNat_of_zero_le (show 0 ≤ d by omega)
  simp only [Int.natAbs_natCast, Int.toNat_natCast]
  have e := Nat.div_add_mod x y
  have l := Nat.mod_lt x (show 0 < y by omega)
  have key : ∀ q : Int, q * (y : Int) ≤ -(x : Int) → -(x : Int) < (q + 1) * (y : Int) → -(x : Int) / (y : Int) = q := by
    intro q h1 h2
    have a1 := Int.le_ediv_of_mul_le hd h1
    have a2 := Int.ediv_lt_of_lt_mul hd h2
    omega
  have ei : ((y : Int)) * ((x / y : Nat) : Int) + ((x % y : Nat) : Int) = (x : Int) := by
    have := congrArg (Nat.cast : Nat → Int) e
    push_cast at this ⊢
    exact this
  split
  · rename_i h0
    rw [key (-((x / y : Nat) : Int)) (by rw [h0] at ei; grind) (by rw [h0] at ei; grind)]
    omega
  · rename_i h0
    rw [key (-((x / y : Nat) : Int) - 1) (by have : ((x % y : Nat) : Int) ≤ y := by omega
                                             grind) (by have : (0 : Int) < ((x % y : Nat) : Int) := by omega
                                                        grind)]
    omega
structure ArH (T x1 x2 : Int) : Prop where
 hT : 8 ≤ T
 h1 : 0 ≤ x1
 h2 : x1 ≤ x2
 h3 : 2 * x2 ≤ T
end Go.Proofs.YtcbihoojfakhdaaGreatDoor

namespace Go.Proofs.YtcbihoojfakhdaaGreatDoor
theorem dv_sc (x : Int) (t : Nat) : dv x (-(t : Int)) * ((2 ^ t : Int) : Rat) = (x : Rat) := by
 have e : ((2 ^ t : Int) : Rat) = (2 : Rat) ^ (t : Int) := (zp_nat t).symm
 unfold dv
 rw [e, Rat.mul_assoc, Rat.mul_comm ((2 : Rat) ^ (-(t : Int))), zp_cancel, Rat.mul_one]
theorem flr_sc (r : Rat) (t : Nat) : ((flr r t : Int) : Rat) ≤ r * ((2 ^ t : Int) : Rat) ∧ r * ((2 ^ t : Int) : Rat) < ((flr r t : Int) : Rat) + 1 := by
 have T0 : (0 : Rat) < ((2 ^ t : Int) : Rat) := Rat.intCast_pos.2 (two_pos t)
 have a := Rat.mul_le_mul_of_nonneg_right (flr_le r t) (Rat.le_of_lt T0)
 have b := Rat.mul_lt_mul_of_pos_right (flr_lt r t) T0
 rw [dv_sc] at a b
 rw [Rat.intCast_add] at b
 exact ⟨a, b⟩
theorem cei_sc (r : Rat) (t : Nat) : r * ((2 ^ t : Int) : Rat) ≤ ((cei r t : Int) : Rat) ∧ ((cei r t : Int) : Rat) < r * ((2 ^ t : Int) : Rat) + 1 := by
 have h := flr_sc (-r) t
 unfold cei
 rw [Rat.intCast_neg]
 constructor <;> grind
theorem flr_cei1 (r : Rat) (t : Nat) : cei r t ≤ flr r t + 1 ∧ flr r t ≤ cei r t := by
 have a := flr_sc r t
 have b := cei_sc r t
 constructor
 ·refine Decidable.byContradiction fun hn => ?_
  have : ((flr r t + 2 : Int) : Rat) ≤ ((cei r t : Int) : Rat) := Rat.intCast_le_intCast.2 (by omega)
  rw [Rat.intCast_add, show ((2 : Int) : Rat) = 2 from rfl] at this
  grind
 ·refine Rat.intCast_le_intCast.1 ?_
  grind
structure LnH (T : Int) (M Z : Rat) (d1 d2 xa xb : Int) : Prop where
 hT : 256 ≤ T
 m1 : 3 ≤ 4 * M
 m2 : 2 * M ≤ 3
 xa1 : (xa : Rat) ≤ M * (T : Rat)
 xb1 : M * (T : Rat) ≤ (xb : Rat)
 x2 : xb ≤ xa + 1
 d0 : 0 ≤ d1
 d3 : d2 ≤ d1 + 1
 z0 : 0 ≤ Z
 z2 : 2 * (Z * (M + 1)) ≤ 1
 dz1 : (d1 : Rat) ≤ Z * (M + 1) * (T : Rat)
 dz2 : Z * (M + 1) * (T : Rat) ≤ (d2 : Rat)
end Go.Proofs.YtcbihoojfakhdaaGreatDoor

namespace Go.Proofs.YtcbihoojfakhdaaGreatDoor
def mn4 (a b c d : Int) : Int := min (min (min (a * c) (a * d)) (b * c)) (b * d)
def mx4 (a b c d : Int) : Int := max (max (max (a * c) (a * d)) (b * c)) (b * d)
def rm1 (a b c d T : Int) : Int := mn4 a b c d / T
def rm2 (a b c d T : Int) : Int := -(-(mx4 a b c d) / T)
def rP (T q1 q2 x1 x2 : Int) : Nat → Int × Int
 | 0 => (x1, x2)
 | j + 1 => (rm1 (rP T q1 q2 x1 x2 j).1 (rP T q1 q2 x1 x2 j).2 q1 q2 T, rm2 (rP T q1 q2 x1 x2 j).1 (rP T q1 q2 x1 x2 j).2 q1 q2 T)
def ovLo (a b n : Int) : Int := Int.fdiv (min a b) n
def ovHi (a b n : Int) : Int := -(Int.fdiv (-(max a b)) n)
def rA (T q1 q2 x1 x2 : Int) : Nat → Int × Int
 | 0 => (0, 0)
 | j + 1 => ((rA T q1 q2 x1 x2 j).1 + ovLo (rP T q1 q2 x1 x2 j).1 (rP T q1 q2 x1 x2 j).2 (odn j), (rA T q1 q2 x1 x2 j).2 + ovHi (rP T q1 q2 x1 x2 j).1 (rP T q1 q2 x1 x2 j).2 (odn j))
structure RrH (v : Nat) (x1 x2 : Int) : Prop where
 hv : 8 ≤ v
 h1 : x1.natAbs ≤ 2 ^ (v - 1)
 h2 : x2.natAbs ≤ 2 ^ (v - 1)
theorem ov_in {a b n : Int} {y : Rat} (hn : 0 < n) (h1 : (a : Rat) ≤ y) (h2 : y ≤ (b : Rat)) : ((ovLo a b n : Int) : Rat) ≤ y / (n : Rat) ∧ y / (n : Rat) ≤ ((ovHi a b n : Int) : Rat) := by
 unfold ovLo ovHi
 rw [Int.fdiv_eq_ediv_of_nonneg _ (show 0 ≤ n by omega), Int.fdiv_eq_ediv_of_nonneg _ (show 0 ≤ n by omega)]
 constructor
 ·exact df_lo hn (Rat.le_trans (Rat.intCast_le_intCast.2 (show min a b ≤ a by omega)) h1)
 ·exact df_hi hn (Rat.le_trans h2 (Rat.intCast_le_intCast.2 (show b ≤ max a b by omega)))
end Go.Proofs.YtcbihoojfakhdaaGreatDoor

namespace Go.Proofs.YtcbihoojfakhdaaGreatDoor
theorem of_ge {m e s : Int} (h : 0 ≤ e + s) : m * 2 ^ (e + s).toNat = flr (dv m e) s ∧ m * 2 ^ (e + s).toNat = cei (dv m e) s := by
 have a : flr (dv m e) s = m * 2 ^ (e + s).toNat := by rw [flr_dv, if_pos h]
 have b : flr (dv (-m) e) s = -m * 2 ^ (e + s).toNat := by rw [flr_dv, if_pos h]
 refine ⟨a.symm, ?_⟩
 unfold cei
 rw [← dv_neg, b, Int.neg_mul, Int.neg_neg]
theorem of_lt {m e s : Int} (h : e + s < 0) : m / 2 ^ (0 - (e + s)).toNat = flr (dv m e) s ∧ -(-m / 2 ^ (0 - (e + s)).toNat) = cei (dv m e) s := by
 have a : flr (dv m e) s = m / 2 ^ (-(e + s)).toNat := by rw [flr_dv, if_neg (by omega)]
 have b : flr (dv (-m) e) s = -m / 2 ^ (-(e + s)).toNat := by rw [flr_dv, if_neg (by omega)]
 rw [show (0 : Int) - (e + s) = -(e + s) by omega]
 refine ⟨a.symm, ?_⟩
 unfold cei
 rw [← dv_neg, b]
theorem half_enc {a b : Int} {X : Rat} {t s n : Nat} (h : t = s + n) (h1 : (a : Rat) ≤ X * ((2 ^ t : Int) : Rat)) (h2 : X * ((2 ^ t : Int) : Rat) ≤ (b : Rat)) :
  ((a / 2 ^ n : Int) : Rat) ≤ X * ((2 ^ s : Int) : Rat) ∧ X * ((2 ^ s : Int) : Rat) ≤ ((-(-b / 2 ^ n) : Int) : Rat) := by
 have n0 : (0 : Rat) < ((2 ^ n : Int) : Rat) := Rat.intCast_pos.2 (two_pos n)
 have e : ((2 ^ t : Int) : Rat) = ((2 ^ s : Int) : Rat) * ((2 ^ n : Int) : Rat) := by rw [h, Int.pow_add, Rat.intCast_mul]
 rw [e, ← Rat.mul_assoc] at h1 h2
 have f := (fl_R (a := a) (two_pos n)).1
 have g := (ce_R (a := b) (two_pos n)).1
 exact ⟨Rat.le_of_mul_le_mul_right (Rat.le_trans f h1) n0, Rat.le_of_mul_le_mul_right (Rat.le_trans h2 g) n0⟩
theorem half_w {a b W : Int} {n : Nat} (h : b - a ≤ W * 2 ^ n) : -(-b / 2 ^ n) - a / 2 ^ n ≤ W + 1 := by
 have n0 := two_pos n
 have f1 := Int.lt_ediv_add_one_mul_self a n0
 have f2 := Int.lt_ediv_add_one_mul_self (-b) n0
 generalize a / 2 ^ n = u at *
 generalize -b / 2 ^ n = v at *
 generalize (2 : Int) ^ n = T at *
 refine Decidable.byContradiction fun hn => ?_
 have m := Int.mul_le_mul_of_nonneg_right (show W + 2 ≤ -v - u by omega) (show 0 ≤ T by omega)
 grind
def tmLo (a b k : Int) : Int := if k < 0 then b * k else a * k
def tmHi (a b k : Int) : Int := if k < 0 then a * k else b * k
theorem tm_enc {a b k : Int} {y : Rat} (h1 : (a : Rat) ≤ y) (h2 : y ≤ (b : Rat)) : ((tmLo a b k : Int) : Rat) ≤ y * k ∧ y * k ≤ ((tmHi a b k : Int) : Rat) := by
 unfold tmLo tmHi
 split
 ·rename_i h
  have k0 : (0 : Rat) ≤ -(k : Rat) := by rw [← Rat.intCast_neg]; exact Rat.intCast_nonneg.2 (by omega)
  have m1 := Rat.mul_le_mul_of_nonneg_right h1 k0
  have m2 := Rat.mul_le_mul_of_nonneg_right h2 k0
  rw [Rat.intCast_mul, Rat.intCast_mul]
  constructor <;> grind
 ·rename_i h
  have k0 : (0 : Rat) ≤ (k : Rat) := Rat.intCast_nonneg.2 (by omega)
  have m1 := Rat.mul_le_mul_of_nonneg_right h1 k0
  have m2 := Rat.mul_le_mul_of_nonneg_right h2 k0
  rw [Rat.intCast_mul, Rat.intCast_mul]
  exact ⟨m1, m2⟩
theorem tm_w {a b k W : Int} (hab : a ≤ b) (hk : -W ≤ k ∧ k ≤ W) (h : b - a < 16777216) : tmHi a b k - tmLo a b k ≤ 16777216 * W := by
 unfold tmLo tmHi
 have key : ∀ {x y : Int}, 0 ≤ x → x ≤ 16777216 → 0 ≤ y → y ≤ W → x * y ≤ 16777216 * W := fun h1 h2 h3 h4 =>
  Int.le_trans (Int.mul_le_mul_of_nonneg_right h2 h3) (Int.mul_le_mul_of_nonneg_left h4 (by omega))
 split
 ·have := key (x := b - a) (y := -k) (by omega) (by omega) (by omega) (by omega)
  rw [Int.mul_neg, Int.sub_mul] at this
  omega
 ·have := key (x := b - a) (y := k) (by omega) (by omega) (by omega) (by omega)
  rw [Int.sub_mul] at this
  omega
theorem cl_sc {x : Int} {t : Nat} {P : Int} (ht : t ≤ 430) : (x * 2 ^ (430 - t) ≤ P → (x : Rat) ≤ dv P (-430) * ((2 ^ t : Int) : Rat)) ∧ (P ≤ x * 2 ^ (430 - t) → dv P (-430) * ((2 ^ t : Int) : Rat) ≤ (x : Rat)) := by
 have T0 : (0 : Rat) < ((2 ^ t : Int) : Rat) := Rat.intCast_pos.2 (two_pos t)
 have e : dv (x * 2 ^ (430 - t)) (-430) * ((2 ^ t : Int) : Rat) = (x : Rat) := by
  rw [dv_shl, show (-430 : Int) + ((430 - t : Nat) : Int) = -(t : Int) by omega, dv_sc]
 constructor
 ·intro h
  have a := Rat.mul_le_mul_of_nonneg_right ((dv_le (c := -430)).2 h) (Rat.le_of_lt T0)
  rwa [e] at a
 ·intro h
  have a := Rat.mul_le_mul_of_nonneg_right ((dv_le (c := -430)).2 h) (Rat.le_of_lt T0)
  rwa [e] at a
def Encl (f : Nat → Rat) (s : Nat) (lo hi : Int) : Prop := ∃ N, ∀ K, N ≤ K → (lo : Rat) ≤ f K * ((2 ^ s : Int) : Rat) ∧ f K * ((2 ^ s : Int) : Rat) ≤ (hi : Rat)
theorem Encl.half {f : Nat → Rat} {t s n : Nat} {a b : Int} (h : Encl f t a b) (e : t = s + n) : Encl f s (a / 2 ^ n) (-(-b / 2 ^ n)) := by
 obtain ⟨N, h⟩ := h
 exact ⟨N, fun K hK => half_enc e (h K hK).1 (h K hK).2⟩
theorem Encl.le {f : Nat → Rat} {s : Nat} {a b : Int} (h : Encl f s a b) : a ≤ b := by
 obtain ⟨N, h⟩ := h
 exact Rat.intCast_le_intCast.1 (Rat.le_trans (h N (Nat.le_refl _)).1 (h N (Nat.le_refl _)).2)
theorem Encl.meet {f : Nat → Rat} {s n : Nat} {a b c d : Int} (h : Encl f s a b) (k : Encl f (s + n) c d) : a * 2 ^ n ≤ d ∧ c ≤ b * 2 ^ n := by
 obtain ⟨N, h⟩ := h
 obtain ⟨N', k⟩ := k
 have x := h (N + N') (by omega)
 have y := k (N + N') (by omega)
 have n0 : (0 : Rat) < ((2 ^ n : Int) : Rat) := Rat.intCast_pos.2 (two_pos n)
 rw [Int.pow_add, Rat.intCast_mul, ← Rat.mul_assoc] at y
 have m1 := Rat.mul_le_mul_of_nonneg_right x.1 (Rat.le_of_lt n0)
 have m2 := Rat.mul_le_mul_of_nonneg_right x.2 (Rat.le_of_lt n0)
 rw [← Rat.intCast_mul] at m1 m2
 exact ⟨Rat.intCast_le_intCast.1 (Rat.le_trans m1 y.2), Rat.intCast_le_intCast.1 (Rat.le_trans y.1 m2)⟩
theorem cmpI_le (x y : Int) : cmpI x y ≤ 0 ↔ x ≤ y := by unfold cmpI; split <;> (try split) <;> omega
theorem Sp_of {a b c d : Int} (h1 : a = c) (h2 : b = d) : vsub (.agg [.bool (decide (a < 0)), N a.natAbs, .bool (decide (b < 0)), N b.natAbs]) (.agg [.bool (decide (c < 0)), N c.natAbs, .bool (decide (d < 0)), N d.natAbs]) := by
 subst h1; subst h2; exact vsub_refl _
theorem pt_hi1 {b d : Int} (h : ((b.natAbs % d.toNat : Nat) : Int) ≠ 0) : sgn false (b.natAbs / d.toNat + (1 : Int).toNat) = ptHi b d := by
 unfold ptHi
 rw [if_neg (by omega)]; rfl
theorem pt_hi2 {b d : Int} (h : ((b.natAbs % d.toNat : Nat) : Int) = 0) : sgn false (b.natAbs / d.toNat) = ptHi b d := by
 unfold ptHi
 rw [if_pos (by omega)]; rfl
theorem tiny_8 {b : Int} : iLe (nbits b.natAbs : Int) 3 = decide (b.natAbs < 8) := by
 unfold iLe
 have h : (nbits b.natAbs : Int) ≤ 3 ↔ b.natAbs < 8 := by
  constructor
  ·intro h
   have l := nbits_lt b.natAbs
   have := Nat.pow_le_pow_right (n := 2) (by omega) (show nbits b.natAbs ≤ 3 by omega)
   omega
  ·intro h
   have := nbits_of_lt (x := b.natAbs) (k := 3) (by omega)
   omega
 exact decide_eq_decide.2 h
end Go.Proofs.YtcbihoojfakhdaaGreatDoor

namespace Go.Proofs.YtcbihoojfakhdaaGreatDoor
open Go.RowKit
set_option maxRecDepth 100000
theorem fx_One (s : Int) (c0 : (0 : Int) ≤ s ∧ s ≤ 20000) : Impl Tryz.prog Amb 213 [(.int .i64 s)] (.agg [(.bool (decide (((1 : Int) * 2 ^ (s).toNat) < 0))), (N (((1 : Int) * 2 ^ (s).toNat).natAbs)), (.bool (decide (((1 : Int) * 2 ^ (s).toNat) < 0))), (N (((1 : Int) * 2 ^ (s).toNat).natAbs))]) := by
 exact impl_ob hP hAmb Tryz.func213 (by kernel_rfl) (.lit <| .call (zV (1 : Int)) <| .lit <| .call (zV ((1 : Int) * 2 ^ (s).toNat)) <| .lit <| .call (.agg [(.bool (decide (((1 : Int) * 2 ^ (s).toNat) < 0))), (N (((1 : Int) * 2 ^ (s).toNat).natAbs)), (.bool (decide (((1 : Int) * 2 ^ (s).toNat) < 0))), (N (((1 : Int) * 2 ^ (s).toNat).natAbs))]) <| .lits 2 <| .ret)
  (cast_ob (aI True.intro (aI (int_Of 1 oO) (have f2 := (L_i64 oO : L (1 : Int).natAbs ≤ 2); aI (int_Shl (1 : Int) s oO oO) (have f1 := L_abs_shl (1 : Int) (s).toNat; aI (fx_Exact ((1 : Int) * 2 ^ (s).toNat) oO) ((vsub_refl (.agg [(.bool (decide (((1 : Int) * 2 ^ (s).toNat) < 0))), (N (((1 : Int) * 2 ^ (s).toNat).natAbs)), (.bool (decide (((1 : Int) * 2 ^ (s).toNat) < 0))), (N (((1 : Int) * 2 ^ (s).toNat).natAbs))]))))))) (by kernel_rfl))
theorem fx_Of (m : Int) (e : Int) (s : Int) (c0 : L (m).natAbs ≤ 8192) (c1 : (-200000 : Int) ≤ e ∧ e ≤ 200000) (c2 : (0 : Int) ≤ s ∧ s ≤ 20000) : Impl Tryz.prog Amb 161 [(yV m e), (.int .i64 s)] (.agg [(.bool (decide ((flr (dv m e) s) < 0))), (N ((flr (dv m e) s).natAbs)), (.bool (decide ((cei (dv m e) s) < 0))), (N ((cei (dv m e) s).natAbs))]) := by
 exact impl_ob hP hAmb Tryz.func161 (by kernel_rfl) (.lits 2 <| .yes <| .lit <| .both (.lits 2 <| .call (zV (m * 2 ^ ((e + s)).toNat)) <| .lit <| .call (.agg [(.bool (decide ((m * 2 ^ ((e + s)).toNat) < 0))), (N ((m * 2 ^ ((e + s)).toNat).natAbs)), (.bool (decide ((m * 2 ^ ((e + s)).toNat) < 0))), (N ((m * 2 ^ ((e + s)).toNat).natAbs))]) <| .lits 2 <| .ret) (.lits 2 <| .call (.agg [(.bool (decide (m < 0))), (N m.natAbs), (.bool (decide (m < 0))), (N m.natAbs)]) <| .lit <| .yes <| .lit <| .call (.agg [(.bool (decide ((m / 2 ^ (((0 : Int) - (e + s))).toNat) < 0))), (N ((m / 2 ^ (((0 : Int) - (e + s))).toNat).natAbs)), (.bool (decide ((-(-m / 2 ^ (((0 : Int) - (e + s))).toNat)) < 0))), (N ((-(-m / 2 ^ (((0 : Int) - (e + s))).toNat)).natAbs))]) <| .lits 2 <| .ret))
  (cast_ob (aI True.intro (aI (fits_i64 oO : (fits .i64 (e + s)) = true) (aI (fun (h1 : (iGe (e + s) 0) = true) => have _gh1 := iGe_t h1; aI (int_Shl m (e + s) oO oO) (have f2 := L_abs_shl m ((e + s)).toNat; aI (fx_Exact (m * 2 ^ ((e + s)).toNat) oO) ((by rw [← (of_ge (m := m) (e := e) (s := s) oO).1, ← (of_ge (m := m) (e := e) (s := s) oO).2]; exact vsub_refl _ : vsub (.agg [(.bool (decide ((m * 2 ^ ((e + s)).toNat) < 0))), (N ((m * 2 ^ ((e + s)).toNat).natAbs)), (.bool (decide ((m * 2 ^ ((e + s)).toNat) < 0))), (N ((m * 2 ^ ((e + s)).toNat).natAbs))]) (.agg [(.bool (decide ((flr (dv m e) s) < 0))), (N ((flr (dv m e) s).natAbs)), (.bool (decide ((cei (dv m e) s) < 0))), (N ((cei (dv m e) s).natAbs))]))))) (fun (h3 : (iGe (e + s) 0) = false) => have _gh3 := iGe_f h3; aI (fx_Exact m oO) (aI (fits_i64 oO : (fits .i64 ((0 : Int) - (e + s))) = true) (aI (fx_Half m m ((0 : Int) - (e + s)) oO oO oO) (have f7 := L_abs_neg (-m / 2 ^ (((0 : Int) - (e + s))).toNat); have f6 := L_abs_shr (-m) (((0 : Int) - (e + s))).toNat; have f5 := L_abs_neg m; have f4 := L_abs_shr m (((0 : Int) - (e + s))).toNat; (by rw [← (of_lt (m := m) (e := e) (s := s) oO).1, ← (of_lt (m := m) (e := e) (s := s) oO).2]; exact vsub_refl _ : vsub (.agg [(.bool (decide ((m / 2 ^ (((0 : Int) - (e + s))).toNat) < 0))), (N ((m / 2 ^ (((0 : Int) - (e + s))).toNat).natAbs)), (.bool (decide ((-(-m / 2 ^ (((0 : Int) - (e + s))).toNat)) < 0))), (N ((-(-m / 2 ^ (((0 : Int) - (e + s))).toNat)).natAbs))]) (.agg [(.bool (decide ((flr (dv m e) s) < 0))), (N ((flr (dv m e) s).natAbs)), (.bool (decide ((cei (dv m e) s) < 0))), (N ((cei (dv m e) s).natAbs))]))))))))) (by kernel_rfl))
theorem fx_Mul (a : Int) (b : Int) (c : Int) (d : Int) (s : Int) (c0 : L (a).natAbs ≤ 8192) (c1 : L (b).natAbs ≤ 8192) (c2 : L (c).natAbs ≤ 8192) (c3 : L (d).natAbs ≤ 8192) (c4 : (0 : Int) ≤ s ∧ s ≤ 20000) : Impl Tryz.prog Amb 236 [(.agg [(.bool (decide (a < 0))), (N a.natAbs), (.bool (decide (b < 0))), (N b.natAbs)]), (.agg [(.bool (decide (c < 0))), (N c.natAbs), (.bool (decide (d < 0))), (N d.natAbs)]), (.int .i64 s)] (.agg [(.bool (decide ((a * c / 2 ^ (s).toNat) < 0))), (N ((a * c / 2 ^ (s).toNat).natAbs)), (.bool (decide ((-(-(b * d) / 2 ^ (s).toNat)) < 0))), (N ((-(-(b * d) / 2 ^ (s).toNat)).natAbs))]) := by
 exact impl_ob hP hAmb Tryz.func236 (by kernel_rfl) (.lits 3 <| .call (zV (a * c)) <| .lit <| .call (zV ((a * c) / 2 ^ (s).toNat)) <| .lits 3 <| .call (zV (b * d)) <| .lit <| .call (zV (-(-(b * d) / 2 ^ (s).toNat))) <| .lits 3 <| .ret)
  (cast_ob (aI True.intro (aI (int_Mul a c oO oO) (have f6 := L_abs_mul a c; aI (int_Shr (a * c) s oO oO) (have f5 := L_abs_shr (a * c) (s).toNat; aI (int_Mul b d oO oO) (have f4 := L_abs_mul b d; aI (fx_up (b * d) s oO oO) (have f3 := L_abs_neg (-(b * d) / 2 ^ (s).toNat); have f2 := L_abs_shr (-(b * d)) (s).toNat; have f1 := L_abs_neg (b * d); (vsub_of (by first | rfl | simp_all) : vsub (.agg [(.bool (decide (((a * c) / 2 ^ (s).toNat) < 0))), (N (((a * c) / 2 ^ (s).toNat).natAbs)), (.bool (decide ((-(-(b * d) / 2 ^ (s).toNat)) < 0))), (N ((-(-(b * d) / 2 ^ (s).toNat)).natAbs))]) (.agg [(.bool (decide ((a * c / 2 ^ (s).toNat) < 0))), (N ((a * c / 2 ^ (s).toNat).natAbs)), (.bool (decide ((-(-(b * d) / 2 ^ (s).toNat)) < 0))), (N ((-(-(b * d) / 2 ^ (s).toNat)).natAbs))])))))))) (by kernel_rfl))
theorem fx_TimesN (a : Int) (b : Int) (n : Int) (c0 : L (a).natAbs ≤ 65536) (c1 : L (b).natAbs ≤ 65536) (c2 : (-9223372036854775808 : Int) ≤ n ∧ n < 0) : Impl Tryz.prog Amb 165 [(.agg [(.bool (decide (a < 0))), (N a.natAbs), (.bool (decide (b < 0))), (N b.natAbs)]), (.int .i64 n)] (.agg [(.bool (decide ((b * n) < 0))), (N ((b * n).natAbs)), (.bool (decide ((a * n) < 0))), (N ((a * n).natAbs))]) := by
 exact impl_ob hP hAmb Tryz.func165 (by kernel_rfl) (.lit <| .call (zV n) <| .lits 2 <| .yes <| .lits 3 <| .call (zV (b * n)) <| .lits 3 <| .call (zV (a * n)) <| .lits 3 <| .ret)
  (cast_ob (aI True.intro (aI (int_Of n oO) (have f3 := (L_i64 oO : L (n : Int).natAbs ≤ 2); aI (iLt_mk oO : (iLt n 0) = true) (aI (int_Mul b n oO oO) (have f2 := L_abs_mul b n; aI (int_Mul a n oO oO) (have f1 := L_abs_mul a n; (vsub_refl (.agg [(.bool (decide ((b * n) < 0))), (N ((b * n).natAbs)), (.bool (decide ((a * n) < 0))), (N ((a * n).natAbs))])))))))) (by kernel_rfl))
theorem fx_TimesA (a b n : Int) (c0 : L (a).natAbs ≤ 65536) (c1 : L (b).natAbs ≤ 65536) (c2 : (-9223372036854775808 : Int) ≤ n ∧ n ≤ 9223372036854775807) : Impl Tryz.prog Amb 165 [(.agg [(.bool (decide (a < 0))), (N a.natAbs), (.bool (decide (b < 0))), (N b.natAbs)]), .int .i64 n] (.agg [(.bool (decide ((tmLo a b n) < 0))), (N ((tmLo a b n).natAbs)), (.bool (decide ((tmHi a b n) < 0))), (N ((tmHi a b n).natAbs))]) := by
 by_cases h : n < 0
 ·unfold tmLo tmHi
  rw [if_pos h, if_pos h]
  exact fx_TimesN a b n c0 c1 ⟨by omega, h⟩
 ·unfold tmLo tmHi
  rw [if_neg h, if_neg h]
  exact fx_Times a b n c0 c1 ⟨by omega, by omega⟩
theorem fx_Part (a : Int) (b : Int) (d : Int) (c0 : L (a).natAbs ≤ 65536) (c1 : L (b).natAbs ≤ 65536) (c2 : (0 : Int) < d ∧ d < 4294967296) : Impl Tryz.prog Amb 242 [(.agg [(.bool (decide (a < 0))), (N a.natAbs), (.bool (decide (b < 0))), (N b.natAbs)]), (.int .u32 d)] (.agg [(.bool (decide ((ptLo a d) < 0))), (N ((ptLo a d).natAbs)), (.bool (decide ((ptHi b d) < 0))), (N ((ptHi b d).natAbs))]) := by
 have z1 := L_lit 1 (by decide)
 exact impl_ob hP hAmb Tryz.func242 (by kernel_rfl) (.lits 2 <| .call (.tup [(N (a.natAbs / (d).toNat)), (.int .u32 ((a.natAbs % (d).toNat : Nat) : Int)), (.bool true)]) <| .lits 2 <| .call (.tup [(N (b.natAbs / (d).toNat)), (.int .u32 ((b.natAbs % (d).toNat : Nat) : Int)), (.bool true)]) <| .lit <| .both (.lit <| .call (N 1) <| .lit <| .call (N ((b.natAbs / (d).toNat) + 1)) <| .lit <| .call (zV (sgn false (a.natAbs / (d).toNat))) <| .lit <| .call (zV (sgn false ((b.natAbs / (d).toNat) + 1))) <| .lits 3 <| .ret) (.lit <| .call (zV (sgn false (a.natAbs / (d).toNat))) <| .lit <| .call (zV (sgn false (b.natAbs / (d).toNat))) <| .lits 3 <| .ret))
  (cast_ob (aI True.intro (aI (quot_SmallI a.natAbs d oO oO) (have f9 := L_div a.natAbs (d).toNat; aI (quot_SmallI b.natAbs d oO oO) (have f8 := L_div b.natAbs (d).toNat; aI (fun (h1 : (iNe ((b.natAbs % (d).toNat : Nat) : Int) 0) = true) => have _gh1 := iNe_t h1; aI (nat_Of 1 oO) (aI (nat_Add (b.natAbs / (d).toNat) 1 oO oO) (have f4 := L_add (b.natAbs / (d).toNat) 1; aI (int_Nat false (a.natAbs / (d).toNat) oO) (have f3 := L_sgn false (a.natAbs / (d).toNat); aI (int_Nat false ((b.natAbs / (d).toNat) + 1) oO) (have f2 := L_sgn false ((b.natAbs / (d).toNat) + 1); (Sp_of rfl (pt_hi1 oO) : vsub (.agg [(.bool (decide ((sgn false (a.natAbs / (d).toNat)) < 0))), (N ((sgn false (a.natAbs / (d).toNat)).natAbs)), (.bool (decide ((sgn false ((b.natAbs / (d).toNat) + 1)) < 0))), (N ((sgn false ((b.natAbs / (d).toNat) + 1)).natAbs))]) (.agg [(.bool (decide ((ptLo a d) < 0))), (N ((ptLo a d).natAbs)), (.bool (decide ((ptHi b d) < 0))), (N ((ptHi b d).natAbs))]))))))) (fun (h5 : (iNe ((b.natAbs % (d).toNat : Nat) : Int) 0) = false) => have _gh5 := iNe_f h5; aI (int_Nat false (a.natAbs / (d).toNat) oO) (have f7 := L_sgn false (a.natAbs / (d).toNat); aI (int_Nat false (b.natAbs / (d).toNat) oO) (have f6 := L_sgn false (b.natAbs / (d).toNat); (Sp_of rfl (pt_hi2 oO) : vsub (.agg [(.bool (decide ((sgn false (a.natAbs / (d).toNat)) < 0))), (N ((sgn false (a.natAbs / (d).toNat)).natAbs)), (.bool (decide ((sgn false (b.natAbs / (d).toNat)) < 0))), (N ((sgn false (b.natAbs / (d).toNat)).natAbs))]) (.agg [(.bool (decide ((ptLo a d) < 0))), (N ((ptLo a d).natAbs)), (.bool (decide ((ptHi b d) < 0))), (N ((ptHi b d).natAbs))]))))))))) (by kernel_rfl))
theorem fx_tiny (b : Int) (c0 : L (b).natAbs ≤ 65536) : Impl Tryz.prog Amb 249 [(zV b)] (.bool (decide ((b).natAbs < 8))) := by
 exact impl_ob hP hAmb Tryz.func249 (by kernel_rfl) (.lits 2 <| .call (.int .i64 (nbits b.natAbs : Int)) <| .lits 2 <| .ret)
  (cast_ob (aI True.intro (aI (nat_Bits b.natAbs oO) (have f1 := nbits_L b.natAbs; (vsub_of (congrArg V.bool tiny_8) : vsub (.bool (iLe (nbits b.natAbs : Int) 3)) (.bool (decide ((b).natAbs < 8))))))) (by kernel_rfl))
theorem fx_Tiny (a : Int) (b : Int) (c0 : L (b).natAbs ≤ 65536) : Impl Tryz.prog Amb 241 [(.agg [(.bool (decide (a < 0))), (N a.natAbs), (.bool (decide (b < 0))), (N b.natAbs)])] (.bool (decide ((b).natAbs < 8))) := by
 exact impl_ob hP hAmb Tryz.func241 (by kernel_rfl) (.lits 2 <| .call (.bool (decide ((b).natAbs < 8))) <| .lit <| .ret)
  (cast_ob (aI True.intro (aI (fx_tiny b oO) ((vsub_refl (.bool (decide ((b).natAbs < 8))))))) (by kernel_rfl))
end Go.Proofs.YtcbihoojfakhdaaGreatDoor


namespace Go.Proofs.YtcbihoojfakhdaaGreatDoor
theorem cmpD_le {m e n f : Int} : cmpD m e n f ≤ 0 ↔ dv m e ≤ dv n f := by rw [cmpD_dv, cmpQ_le]
end Go.Proofs.YtcbihoojfakhdaaGreatDoor

namespace Go.Proofs.YtcbihoojfakhdaaGreatDoor
open Go.RowKit
set_option maxRecDepth 100000
set_option maxHeartbeats 8000000
theorem r13_At (m : Int) (e : Int) (v : Int) (c0 : L (m).natAbs ≤ 4000) (c1 : (-65536 : Int) ≤ e ∧ e ≤ 65536) (c2 : vdb m e = true) (c3 : (0 : Int) ≤ v ∧ v ≤ 1500) : Impl Tryz.prog Amb 45 [(yV m e), (.int .i64 v)] (.agg [(.bool (decide ((flr (dv m e) v) < 0))), (N ((flr (dv m e) v).natAbs)), (.bool (decide ((cei (dv m e) v) < 0))), (N ((cei (dv m e) v).natAbs))]) := by
 have lm := L_abs_neg m
 have q1 := dv_L c2 oO
 have q3 : vdb (-m) e = true := by rw [vdb_opp]; exact c2
 have q2 := dv_L q3 oO
 exact impl_ob hP hAmb Tryz.func45 (by kernel_rfl) (.lits 2 <| .call (.agg [(.bool (decide ((dv m e).num < 0))), (N (((dv m e).num).natAbs)), (N ((dv m e).den))]) <| .lits 3 <| .call (zV (flr (dv m e) v)) <| .lits 4 <| .call (yV (-m) e) <| .lit <| .call (.agg [(.bool (decide ((dv (-m) e).num < 0))), (N (((dv (-m) e).num).natAbs)), (N ((dv (-m) e).den))]) <| .lit <| .call (zV (flr (dv (-m) e) v)) <| .lit <| .call (zV (-(flr (dv (-m) e) v))) <| .lits 3 <| .ret)
  (cast_ob (aI True.intro (aI (r08_Rat m e oU oU oU) (have f6 := (dv_L ‹vdb m e = true› oU : L (dv m e).num.natAbs ≤ L (m).natAbs + 2050 ∧ L (dv m e).den ≤ 2050); aI (r08_Cut (dv m e) v oU oU oU) (have f5 := flr_L (dv m e) v; aI (r08_Neg m e oU) (have f4 := L_abs_neg m; aI (r08_Rat (-m) e oU oU oU) (have f3 := (dv_L ‹vdb (-m) e = true› oU : L (dv (-m) e).num.natAbs ≤ L ((-m)).natAbs + 2050 ∧ L (dv (-m) e).den ≤ 2050); aI (r08_Cut (dv (-m) e) v oU oU oU) (have f2 := flr_L (dv (-m) e) v; aI (r05_Neg (flr (dv (-m) e) v) oU) (have f1 := L_abs_neg (flr (dv (-m) e) v); (Sp_of rfl (by unfold cei; rw [dv_neg]) : vsub (.agg [(.bool (decide ((flr (dv m e) v) < 0))), (N ((flr (dv m e) v).natAbs)), (.bool (decide ((-(flr (dv (-m) e) v)) < 0))), (N ((-(flr (dv (-m) e) v)).natAbs))]) (.agg [(.bool (decide ((flr (dv m e) v) < 0))), (N ((flr (dv m e) v).natAbs)), (.bool (decide ((cei (dv m e) v) < 0))), (N ((cei (dv m e) v).natAbs))])))))))))) (by kernel_rfl))
end Go.Proofs.YtcbihoojfakhdaaGreatDoor

namespace Go.Proofs.YtcbihoojfakhdaaGreatDoor
theorem dv_ge0 {m e : Int} : 0 ≤ dv m e ↔ 0 ≤ m := by rw [← dv_zero e, dv_le]
theorem dv_top {m e : Int} (hm : m ≠ 0) : dv (m.natAbs : Int) e < dv 1 (topD m e) ∧ dv 1 (topD m e - 1) ≤ dv (m.natAbs : Int) e := by
 have h1 := nbits_lt m.natAbs
 have h2 := nbits_le (show m.natAbs ≠ 0 by omega)
 have h3 := nbits_pos (show m.natAbs ≠ 0 by omega)
 have ht : topD m e = (nbits m.natAbs : Int) + e := by unfold topD; rw [if_neg hm]
 constructor
 ·rw [dv_at (m := 1) (show e ≤ topD m e by omega), dv_lt, Int.one_mul, pow_cast, show (topD m e - e).toNat = nbits m.natAbs by omega]; omega
 ·rw [dv_at (m := 1) (show e ≤ topD m e - 1 by omega), dv_le, Int.one_mul, pow_cast, show (topD m e - 1 - e).toNat = nbits m.natAbs - 1 by omega]; omega
end Go.Proofs.YtcbihoojfakhdaaGreatDoor



namespace Go.Proofs.YtcbihoojfakhdaaGreatDoor
open Go.RowKit
set_option maxRecDepth 100000
def fx_Settle2_0_mk (fk : Nat) (u1 : V) (u2 : V) (_ _ w : Int) (x : Int) : St := ⟨mkS 27 [(0, (.val (.int .i64 w))), (1, (.val (.clos fk [u1, u2]))), (4, (.own 0 0)), (5, (.val (.int .i64 24)))], [⟨true, false, [(V.bool false), V.nil, (V.bool false), V.nil]⟩]⟩
def fx_Settle2_0_I (_ : Nat) (_ : V) (_ : V) (_ _ _ : Int) (x : Int) : Prop := x = x
def fx_Settle2_0_mu (_ : Nat) (_ : V) (_ : V) (_ _ _ : Int) (x : Int) : Nat := 0
def fx_Settle2_0_ex (_ : Nat) (_ : V) (_ : V) (ka kb _ : Int) (y : Int) : Ex × St := (.ret, ⟨mkS 27 [(4, (.own 0 0))], [⟨true, false, [(V.bool (decide ((ka / 2 ^ 24) < 0))), (N ((ka / 2 ^ 24).natAbs)), (V.bool (decide ((-(-kb / 2 ^ 24)) < 0))), (N ((-(-kb / 2 ^ 24)).natAbs))]⟩]⟩)
def fx_Settle2_0_J (_ : Nat) (_ : V) (_ : V) (_ _ _ : Int) (y : Int) : Prop := y = y
theorem fx_Settle2_0 (fk : Nat) (u1 : V) (u2 : V) (ka kb w : Int) (c0 : Impl Tryz.prog Amb fk [(.int .i64 (w + 24)), u1, u2] (.agg [(.bool (decide (ka < 0))), (N ka.natAbs), (.bool (decide (kb < 0))), (N kb.natAbs)]))(c1 : L ka.natAbs ≤ 8192 ∧ L kb.natAbs ≤ 8192)(c2 : nbits (kb - ka).natAbs ≤ 24)(c3 : (0 : Int) ≤ w ∧ w ≤ 5000) (x0 : Int) (hI : fx_Settle2_0_I fk u1 u2 ka kb w x0) : LoopOk Tryz.prog Amb (loopN Tryz.f133 0) (fx_Settle2_0_mk fk u1 u2 ka kb w x0) (fun e st_ => ∃ y, fx_Settle2_0_J fk u1 u2 ka kb w y ∧ fx_Settle2_0_ex fk u1 u2 ka kb w y = (e, st_)) :=
 loop_ob hP hAmb ⟨[0, 1, 4, 5], 1, []⟩ (fx_Settle2_0_mk fk u1 u2 ka kb w) (fx_Settle2_0_I fk u1 u2 ka kb w) (fx_Settle2_0_mu fk u1 u2 ka kb w) (fx_Settle2_0_ex fk u1 u2 ka kb w) (fx_Settle2_0_J fk u1 u2 ka kb w) x0 hI (fun j => .lit <| .yes <| .lit <| .call (.agg [(.bool (decide (ka < 0))), (N ka.natAbs), (.bool (decide (kb < 0))), (N kb.natAbs)]) <| .lits 3 <| .call (zV (kb - ka)) <| .lits 2 <| .call (.int .i64 (nbits ((kb - ka).natAbs) : Int)) <| .lit <| .yes <| .lits 5 <| .call (.agg [(.bool (decide ((ka / 2 ^ 24) < 0))), (N ((ka / 2 ^ 24).natAbs)), (.bool (decide ((-(-kb / 2 ^ 24)) < 0))), (N ((-(-kb / 2 ^ 24)).natAbs))]) <| .lit <| .fin3 ⟨[4], [0]⟩) (by
  rintro j hI
  have hI : j = j := hI
  have h1 := hI
  exact cast_ob (aI True.intro (aI (fits_i64 oS : (fits .i64 (w + 24)) = true) (aI (c0 ) (aI (fx_Width ka kb oS oS) (have f106 := L_abs_sub kb ka; aI (nat_Bits ((kb - ka).natAbs) oS) (have f105 := nbits_L ((kb - ka).natAbs); aI (iLe_mk oO : (iLe (nbits ((kb - ka).natAbs) : Int) 24) = true) (aI (fx_Half ka kb 24 oS oS oS) (have f104 := L_abs_neg (-kb / 2 ^ 24); have f103 := L_abs_shr (-kb) 24; have f102 := L_abs_neg kb; have f101 := L_abs_shr ka 24; aI tT ((nx_ret ((fx_Settle2_0_ex fk u1 u2 ka kb w j).2) j (show j = j from rfl) rfl : NX (fx_Settle2_0_mk fk u1 u2 ka kb w) (fx_Settle2_0_I fk u1 u2 ka kb w) (fx_Settle2_0_mu fk u1 u2 ka kb w) (fx_Settle2_0_ex fk u1 u2 ka kb w) (fx_Settle2_0_J fk u1 u2 ka kb w) j .ret ((fx_Settle2_0_ex fk u1 u2 ka kb w j).2))))))))))) (by kernel_rfl))
theorem fx_Settle2 (fk : Nat) (u1 : V) (u2 : V) (ka : Int) (kb : Int) (w : Int) (c0 : Impl Tryz.prog Amb fk [(.int .i64 (w + 24)), u1, u2] (.agg [(.bool (decide (ka < 0))), (N ka.natAbs), (.bool (decide (kb < 0))), (N kb.natAbs)])) (c1 : L ka.natAbs ≤ 8192 ∧ L kb.natAbs ≤ 8192) (c2 : nbits (kb - ka).natAbs ≤ 24) (c3 : (0 : Int) ≤ w ∧ w ≤ 5000) : Impl Tryz.prog Amb 133 [(.int .i64 w), (.clos fk [u1, u2])] (.agg [(.bool (decide ((ka / 2 ^ 24) < 0))), (N ((ka / 2 ^ 24).natAbs)), (.bool (decide ((-(-kb / 2 ^ 24)) < 0))), (N ((-(-kb / 2 ^ 24)).natAbs))]) := by
 exact impl_ob hP hAmb Tryz.func133 (by kernel_rfl) (.loop ⟨[0, 1, 4, 5], 1, []⟩ ((fx_Settle2_0_mk fk u1 u2 ka kb w (0 : Int))) (Int) (fx_Settle2_0_ex fk u1 u2 ka kb w) (fx_Settle2_0_J fk u1 u2 ka kb w) (fun y => .lit <| .ret))
  (cast_ob (aI True.intro (aI tT (aI (rfl : (fx_Settle2_0_mk fk u1 u2 ka kb w (0 : Int)) = (fx_Settle2_0_mk fk u1 u2 ka kb w (0 : Int))) (aI (fx_Settle2_0 fk u1 u2 ka kb w c0 c1 c2 c3 (0 : Int) (show (0 : Int) = (0 : Int) from rfl)) (fun y (hJ : fx_Settle2_0_J fk u1 u2 ka kb w y) => have hJ : y = y := hJ; (vsub_refl (.agg [(.bool (decide ((ka / 2 ^ 24) < 0))), (N ((ka / 2 ^ 24).natAbs)), (.bool (decide ((-(-kb / 2 ^ 24)) < 0))), (N ((-(-kb / 2 ^ 24)).natAbs))]))))))) (by kernel_rfl))
end Go.Proofs.YtcbihoojfakhdaaGreatDoor


namespace Go.Proofs.YtcbihoojfakhdaaGreatDoor
open Go.RowKit
set_option maxRecDepth 100000
theorem wrap_neg {x : Int} (h : x < 0) (k : -4294967295 ≤ x) : IntKind.wrap .i64 (IntKind.wrap .u64 ((0 : Int) - (x.natAbs : Int))) = x := by
 rw [wrap_u64]
 have e : ((0 : Int) - (x.natAbs : Int)) % 18446744073709551616 = 18446744073709551616 + x := by omega
 rw [e]
 simp [IntKind.wrap, IntKind.bits, IntKind.signed]
 omega
theorem nat_Uint1 (a : Nat) (c0 : a < 4294967296) : Impl Tryz.prog Amb 238 [(N a)] (.tup [(.int .u64 (a : Int)), (.bool true)]) := by
 have l1 := L_le (n := a) (k := 1) (by rw [Nat.pow_one]; exact c0)
 have e0 := L_len a
 have g0 := gi_nonneg (limbs a) 0
 have g1 := gi_lt (dig_limbs a) 0
 exact impl_ob hP hAmb Tryz.func238 (by kernel_rfl) (.lit <| .call (.int .i64 (L a : Int)) <| .lit <| .both (.lit <| .ret) (.lit <| .both (.yes <| .yes <| .lit <| .yes <| .lit <| .ret) (.lit <| .both (.yes <| .yes <| .lit <| .yes <| .lit <| .yes <| .yes <| .yes <| .lit <| .yes <| .lits 2 <| .ret) (.lit <| .ret))))
  (cast_ob (aI True.intro (aI (nat_sizeN a oO) (aI (fun (h1 : (iEq (L a : Int) 0) = true) => have _gh1 := iEq_t h1; (vsub_of (by rw [show a = 0 from Decidable.byContradiction fun h => by have := L_pos h; omega]; rfl) : vsub (.tup [(.int .u64 0), (.bool true)]) (.tup [(.int .u64 (a : Int)), (.bool true)]))) (fun (h2 : (iEq (L a : Int) 0) = false) => have _gh2 := iEq_f h2; aI (fun (h3 : (iEq (L a : Int) 1) = true) => have _gh3 := iEq_t h3; aI (inB_mk oO : (inB (0 : Int) ((lim a).length)) = true) (aI (ld_L oO : (Nat.blt 0 (lim a).length && isIntK .u32 (nth (lim a) 0 .unk)) = true) (aI (fits_u64 oO : (fits .u64 (gi (limbs a) 0)) = true) ((vsub_of (by rw [gi_one (show L a = 1 by omega)]) : vsub (.tup [(.int .u64 (gi (limbs a) 0)), (.bool true)]) (.tup [(.int .u64 (a : Int)), (.bool true)])))))) (fun (h4 : (iEq (L a : Int) 1) = false) => have _gh4 := iEq_f h4; aI (fun (h5 : (iEq (L a : Int) 2) = true) => have _gh5 := iEq_t h5; aI (inB_mk oO : (inB (1 : Int) ((lim a).length)) = true) (aI (ld_L oO : (Nat.blt 1 (lim a).length && isIntK .u32 (nth (lim a) 1 .unk)) = true) (aI (fits_u64 oO : (fits .u64 (gi (limbs a) 1)) = true) (aI (fits_u64 oO : (fits .u64 ((gi (limbs a) 1) * 2 ^ 32)) = true) (aI (inB_mk oO : (inB (0 : Int) ((lim a).length)) = true) (aI (ld_L oO : (Nat.blt 0 (lim a).length && isIntK .u32 (nth (lim a) 0 .unk)) = true) (aI (fits_u64 oO : (fits .u64 (gi (limbs a) 0)) = true) ((False.elim oO : vsub (.tup [(.int .u64 (wOr .u64 ((gi (limbs a) 1) * 2 ^ 32) (gi (limbs a) 0))), (.bool true)]) (.tup [(.int .u64 (a : Int)), (.bool true)])))))))))) (fun (h6 : (iEq (L a : Int) 2) = false) => have _gh6 := iEq_f h6; (False.elim oO : vsub (.tup [(.int .u64 0), (.bool false)]) (.tup [(.int .u64 (a : Int)), (.bool true)])))))))) (by kernel_rfl))
theorem int_Int1 (x : Int) (c0 : -4294967295 ≤ x ∧ x ≤ 4294967295) : Impl Tryz.prog Amb 211 [(zV x)] (.tup [(.int .i64 x), (.bool true)]) := by
 have wz := wrap_neg (x := x)
 exact impl_ob hP hAmb Tryz.func211 (by kernel_rfl) (.lits 2 <| .call (.tup [(.int .u64 (x.natAbs : Int)), (.bool true)]) <| .lits 4 <| .both (.lits 3 <| .yes <| .lit <| .yes <| .lit <| .ret) (.lits 4 <| .both (.lits 3 <| .yes <| .lit <| .no <| .lit <| .no <| .lit <| .ret) (.lits 4 <| .ret)))
  (cast_ob (aI True.intro (aI (nat_Uint1 x.natAbs oO) (aI (fun (h1 : (!(decide (x < 0))) = true) => have _gh1 := of_decide_eq_false (notb_t h1); aI (iLt_mk oO : (iLt (x.natAbs : Int) 9223372036854775808) = true) (aI (fits_i64 oO : (fits .i64 (x.natAbs : Int)) = true) ((vsub_of (by rw [show (x.natAbs : Int) = x by omega]) : vsub (.tup [(.int .i64 (x.natAbs : Int)), (.bool true)]) (.tup [(.int .i64 x), (.bool true)]))))) (fun (h2 : (!(decide (x < 0))) = false) => have _gh2 := of_decide_eq_true (notb_f h2); aI (fun (h3 : (decide (x < 0)) = true) => have _gh3 := of_decide_eq_true h3; aI (iLe_mk oO : (iLe (x.natAbs : Int) 9223372036854775808) = true) ((vsub_of (by rw [wz oO oO]) : vsub (.tup [(.int .i64 (IntKind.wrap .i64 (IntKind.wrap .u64 ((0 : Int) - (x.natAbs : Int))))), (.bool true)]) (.tup [(.int .i64 x), (.bool true)])))) (fun (h4 : (decide (x < 0)) = false) => have _gh4 := of_decide_eq_false h4; (False.elim oO : vsub (.tup [(.int .i64 0), (.bool false)]) (.tup [(.int .i64 x), (.bool true)]))))))) (by kernel_rfl))
theorem fx_Nearest (a : Int) (b : Int) (c : Int) (d : Int) (c0 : L (a).natAbs ≤ 3000) (c1 : L (b).natAbs ≤ 3000) (c2 : L (c).natAbs ≤ 3000) (c3 : L (d).natAbs ≤ 3000) (c4 : 0 < c + d) (c5 : -4294967295 ≤ (Int.fdiv (((a + b) * 2 ^ 1) + (c + d)) ((c + d) * 2 ^ 1)) ∧ (Int.fdiv (((a + b) * 2 ^ 1) + (c + d)) ((c + d) * 2 ^ 1)) ≤ 4294967295) : Impl Tryz.prog Amb 163 [(.agg [(.bool (decide (a < 0))), (N a.natAbs), (.bool (decide (b < 0))), (N b.natAbs)]), (.agg [(.bool (decide (c < 0))), (N c.natAbs), (.bool (decide (d < 0))), (N d.natAbs)])] (.int .i64 (Int.fdiv (((a + b) * 2 ^ 1) + (c + d)) ((c + d) * 2 ^ 1))) := by
 exact impl_ob hP hAmb Tryz.func163 (by kernel_rfl) (.lits 3 <| .call (zV (a + b)) <| .lits 3 <| .call (zV (c + d)) <| .lits 2 <| .call (zV ((a + b) * 2 ^ 1)) <| .lits 2 <| .call (zV (((a + b) * 2 ^ 1) + (c + d))) <| .lits 2 <| .call (zV ((c + d) * 2 ^ 1)) <| .lit <| .call (.tup [(zV (Int.fdiv (((a + b) * 2 ^ 1) + (c + d)) ((c + d) * 2 ^ 1))), (zV ((((a + b) * 2 ^ 1) + (c + d)) - (Int.fdiv (((a + b) * 2 ^ 1) + (c + d)) ((c + d) * 2 ^ 1)) * ((c + d) * 2 ^ 1))), (.bool true)]) <| .lits 2 <| .call (.tup [(.int .i64 (Int.fdiv (((a + b) * 2 ^ 1) + (c + d)) ((c + d) * 2 ^ 1))), (.bool true)]) <| .lit <| .ret)
  (cast_ob (aI True.intro (aI (int_Add a b oO oO) (have f7 := L_abs_add a b; aI (int_Add c d oO oO) (have f6 := L_abs_add c d; aI (int_Shl (a + b) 1 oO oO) (have f5 := L_abs_shl (a + b) 1; aI (int_Add ((a + b) * 2 ^ 1) (c + d) oO oO) (have f4 := L_abs_add ((a + b) * 2 ^ 1) (c + d); aI (int_Shl (c + d) 1 oO oO) (have f3 := L_abs_shl (c + d) 1; aI (int_DivMod (((a + b) * 2 ^ 1) + (c + d)) ((c + d) * 2 ^ 1) oO oO oO) (have f2 := L_rm (((a + b) * 2 ^ 1) + (c + d)) ((c + d) * 2 ^ 1); have f1 := L_fdiv (((a + b) * 2 ^ 1) + (c + d)) ((c + d) * 2 ^ 1); aI (int_Int1 (Int.fdiv (((a + b) * 2 ^ 1) + (c + d)) ((c + d) * 2 ^ 1)) oO) ((vsub_refl (.int .i64 (Int.fdiv (((a + b) * 2 ^ 1) + (c + d)) ((c + d) * 2 ^ 1))))))))))))) (by kernel_rfl))
end Go.Proofs.YtcbihoojfakhdaaGreatDoor


namespace Go.Proofs.YtcbihoojfakhdaaGreatDoor
def Sm (f : Nat → Rat) : Nat → Rat
 | 0 => 0
 | n + 1 => Sm f n + f n
theorem Sm_congr {f g : Nat → Rat} : ∀ {n : Nat}, (∀ i, i < n → f i = g i) → Sm f n = Sm g n
 | 0, _ => rfl
 | n + 1, h => by
  show Sm f n + f n = Sm g n + g n
  rw [Sm_congr (n := n) (fun i hi => h i (by omega)), h n (by omega)]
theorem Sm_add (f g : Nat → Rat) : ∀ n, Sm (fun i => f i + g i) n = Sm f n + Sm g n
 | 0 => by show (0 : Rat) = 0 + 0; grind
 | n + 1 => by
  show Sm (fun i => f i + g i) n + (f n + g n) = Sm f n + f n + (Sm g n + g n)
  rw [Sm_add f g n]; grind
theorem Sm_mul (f : Nat → Rat) (c : Rat) : ∀ n, Sm f n * c = Sm (fun i => f i * c) n
 | 0 => by show (0 : Rat) * c = 0; grind
 | n + 1 => by
  show (Sm f n + f n) * c = Sm (fun i => f i * c) n + f n * c
  rw [← Sm_mul f c n]; grind
theorem Sm_shift (f : Nat → Rat) : ∀ n, Sm f (n + 1) = f 0 + Sm (fun i => f (i + 1)) n
 | 0 => by show (0 : Rat) + f 0 = f 0 + 0; grind
 | n + 1 => by
  show Sm f (n + 1) + f (n + 1) = f 0 + (Sm (fun i => f (i + 1)) n + f (n + 1))
  rw [Sm_shift f n]; grind
theorem Sm_le {f g : Nat → Rat} : ∀ {n : Nat}, (∀ i, i < n → f i ≤ g i) → Sm f n ≤ Sm g n
 | 0, _ => Rat.le_refl
 | n + 1, h => by
  have a := Sm_le (n := n) (fun i hi => h i (by omega))
  have b := h n (by omega)
  show Sm f n + f n ≤ Sm g n + g n
  grind
theorem Sm_nonneg {f : Nat → Rat} (h : ∀ i, 0 ≤ f i) : ∀ n, 0 ≤ Sm f n
 | 0 => Rat.le_refl
 | n + 1 => Rat.add_nonneg (Sm_nonneg h n) (h n)
theorem Sm_mono {f : Nat → Rat} (h : ∀ i, 0 ≤ f i) {n m : Nat} (hn : n ≤ m) : Sm f n ≤ Sm f m := by
 obtain ⟨k, rfl⟩ : ∃ k, m = n + k := ⟨m - n, by omega⟩
 induction k with
 | zero => exact Rat.le_refl
 | succ k ih =>
  have a := ih (by omega)
  have b := h (n + k)
  show Sm f n ≤ Sm f (n + k) + f (n + k)
  grind
theorem Sm_tri (f : Nat → Nat → Rat) : ∀ K, Sm (fun n => Sm (fun i => f i (n - i)) (n + 1)) K = Sm (fun i => Sm (f i) (K - i)) K
 | 0 => rfl
 | K + 1 => by
  have h := Sm_tri f K
  have e : Sm (fun i => Sm (f i) (K + 1 - i)) (K + 1) = Sm (fun i => Sm (f i) (K - i) + f i (K - i)) (K + 1) := Sm_congr fun i hi => by
   rw [show K + 1 - i = (K - i) + 1 by omega]; rfl
  rw [e, Sm_add]
  show Sm (fun n => Sm (fun i => f i (n - i)) (n + 1)) K + Sm (fun i => f i (K - i)) (K + 1) = Sm (fun i => Sm (f i) (K - i)) K + Sm (f K) (K - K) + Sm (fun i => f i (K - i)) (K + 1)
  rw [h, Nat.sub_self]
  show _ = _ + 0 + _
  grind
theorem Sm_prod (f g : Nat → Rat) (K : Nat) : ∀ n, Sm f n * Sm g K = Sm (fun i => Sm (fun j => f i * g j) K) n
 | 0 => by show (0 : Rat) * _ = 0; grind
 | n + 1 => by
  have h := Sm_prod f g K n
  have e : f n * Sm g K = Sm (fun j => f n * g j) K := by
   rw [Rat.mul_comm, Sm_mul]
   exact Sm_congr fun i _ => Rat.mul_comm _ _
  show (Sm f n + f n) * Sm g K = Sm (fun i => Sm (fun j => f i * g j) K) n + Sm (fun j => f n * g j) K
  rw [← h, ← e]; grind
def nx (n : Nat) : Int := (n : Int) + 1
theorem nx_pos (n : Nat) : (0 : Rat) < (nx n : Rat) := Rat.intCast_pos.2 (by unfold nx; omega)
def tE (x : Rat) : Nat → Rat
 | 0 => 1
 | n + 1 => tE x n * x / (nx n : Rat)
theorem tE_mul (x : Rat) (n : Nat) : tE x n * x = (nx n : Rat) * tE x (n + 1) := by
 show tE x n * x = (nx n : Rat) * (tE x n * x / (nx n : Rat))
 have := nx_pos n
 rw [Rat.mul_comm (nx n : Rat), Rat.div_mul_cancel (by grind)]
theorem tE_nonneg {x : Rat} (h : 0 ≤ x) : ∀ n, 0 ≤ tE x n
 | 0 => by show (0 : Rat) ≤ 1; decide
 | n + 1 => by
  show 0 ≤ tE x n * x / (nx n : Rat)
  rw [Rat.div_def]
  exact Rat.mul_nonneg (Rat.mul_nonneg (tE_nonneg h n) h) (Rat.le_of_lt (Rat.inv_pos.2 (nx_pos n)))
def EP (x : Rat) (K : Nat) : Rat := Sm (tE x) K
theorem tE_add (x y : Rat) : ∀ n, tE (x + y) n = Sm (fun i => tE x i * tE y (n - i)) (n + 1)
 | 0 => by show (1 : Rat) = 0 + 1 * 1; grind
 | n + 1 => by
  have h := tE_add x y n
  have np := nx_pos n
  have key : Sm (fun i => tE x i * tE y (n - i)) (n + 1) * (x + y) = (nx n : Rat) * Sm (fun i => tE x i * tE y (n + 1 - i)) (n + 2) := by
   have ex : Sm (fun i => tE x i * tE y (n - i)) (n + 1) * x = Sm (fun i => (i : Rat) * (tE x i * tE y (n + 1 - i))) (n + 2) := by
    rw [Sm_mul, Sm_shift (fun i => (i : Rat) * (tE x i * tE y (n + 1 - i))) (n + 1)]
    have z : (((0 : Nat) : Nat) : Rat) * (tE x 0 * tE y (n + 1 - 0)) = 0 := by
     rw [show ((0 : Nat) : Rat) = 0 from rfl]; grind
    rw [z, Rat.zero_add]
    refine Sm_congr fun i hi => ?_
    rw [show n + 1 - (i + 1) = n - i by omega]
    have t := tE_mul x i
    have c : ((i + 1 : Nat) : Rat) = (nx i : Rat) := rfl
    show tE x i * tE y (n - i) * x = ((i + 1 : Nat) : Rat) * (tE x (i + 1) * tE y (n - i))
    rw [c]
    grind
   have ey : Sm (fun i => tE x i * tE y (n - i)) (n + 1) * y = Sm (fun i => ((nx n : Rat) - (i : Rat)) * (tE x i * tE y (n + 1 - i))) (n + 2) := by
    rw [Sm_mul]
    show _ = Sm (fun i => ((nx n : Rat) - (i : Rat)) * (tE x i * tE y (n + 1 - i))) (n + 1) + ((nx n : Rat) - ((n + 1 : Nat) : Rat)) * (tE x (n + 1) * tE y (n + 1 - (n + 1)))
    have c : ((n + 1 : Nat) : Rat) = (nx n : Rat) := rfl
    rw [c]
    have z : ((nx n : Rat) - (nx n : Rat)) * (tE x (n + 1) * tE y (n + 1 - (n + 1))) = 0 := by grind
    rw [z, Rat.add_zero]
    refine Sm_congr fun i hi => ?_
    have t := tE_mul y (n - i)
    rw [show n + 1 - i = (n - i) + 1 by omega]
    have d : (nx (n - i) : Rat) = (nx n : Rat) - (i : Rat) := by
     have e : nx (n - i) = nx n - (i : Int) := by unfold nx; omega
     rw [e, Rat.intCast_sub]; rfl
    rw [← d]
    grind
   rw [show Sm (fun i => tE x i * tE y (n - i)) (n + 1) * (x + y) = Sm (fun i => tE x i * tE y (n - i)) (n + 1) * x + Sm (fun i => tE x i * tE y (n - i)) (n + 1) * y by grind, ex, ey, ← Sm_add, Rat.mul_comm (nx n : Rat), Sm_mul]
   exact Sm_congr fun i _ => by grind
  show tE (x + y) n * (x + y) / (nx n : Rat) = _
  rw [h, key, Rat.mul_comm, Rat.mul_div_cancel (by grind)]
theorem EP_conv (x y : Rat) (K : Nat) : EP (x + y) K = Sm (fun i => Sm (fun j => tE x i * tE y j) (K - i)) K := by
 unfold EP
 rw [← Sm_tri (fun i j => tE x i * tE y j) K]
 exact Sm_congr fun n _ => tE_add x y n
theorem EP_mul {x y : Rat} (hx : 0 ≤ x) (hy : 0 ≤ y) (K : Nat) : EP (x + y) K ≤ EP x K * EP y K ∧ EP x K * EP y K ≤ EP (x + y) (2 * K) := by
 have nn : ∀ i j, 0 ≤ tE x i * tE y j := fun i j => Rat.mul_nonneg (tE_nonneg hx i) (tE_nonneg hy j)
 have p : EP x K * EP y K = Sm (fun i => Sm (fun j => tE x i * tE y j) K) K := Sm_prod _ _ K K
 rw [p, EP_conv, EP_conv]
 constructor
 ·exact Sm_le fun i _ => Sm_mono (nn i) (by omega)
 ·refine Rat.le_trans (Sm_le (g := fun i => Sm (fun j => tE x i * tE y j) (2 * K - i)) fun i hi => Sm_mono (nn i) (by omega)) (Sm_mono (fun i => Sm_nonneg (nn i) _) (by omega))
theorem EP_mono {x : Rat} (h : 0 ≤ x) {n m : Nat} (hn : n ≤ m) : EP x n ≤ EP x m := Sm_mono (tE_nonneg h) hn
end Go.Proofs.YtcbihoojfakhdaaGreatDoor

namespace Go.Proofs.YtcbihoojfakhdaaGreatDoor
theorem tE_half {x : Rat} (h0 : 0 ≤ x) {m : Nat} (h : 2 * x ≤ (nx m : Rat)) : 2 * tE x (m + 1) ≤ tE x m := by
 have np := nx_pos m
 have t := tE_mul x m
 have p := tE_nonneg h0 m
 refine Rat.le_of_mul_le_mul_right (c := (nx m : Rat)) ?_ np
 have e : 2 * tE x (m + 1) * (nx m : Rat) = tE x m * (2 * x) := by grind
 rw [e]
 exact Rat.mul_le_mul_of_nonneg_left h p
theorem nx_mono {a b : Nat} (h : a ≤ b) : (nx a : Rat) ≤ (nx b : Rat) := Rat.intCast_le_intCast.2 (by unfold nx; omega)
theorem EP_tail {x : Rat} (h0 : 0 ≤ x) {n : Nat} (h : 2 * x ≤ (nx n : Rat)) (K : Nat) : EP x K ≤ EP x (n + 1) + tE x n := by
 have key : ∀ k, EP x (n + 1 + k) + tE x (n + k) ≤ EP x (n + 1) + tE x n := by
  intro k
  induction k with
  | zero => exact Rat.le_refl
  | succ k ih =>
   have a := tE_half h0 (m := n + k) (Rat.le_trans h (nx_mono (by omega)))
   have e : EP x (n + 1 + (k + 1)) = EP x (n + 1 + k) + tE x (n + k + 1) := by
    show Sm (tE x) (n + 1 + k) + tE x (n + 1 + k) = _
    rw [show n + 1 + k = n + k + 1 by omega]; rfl
   rw [e]
   show EP x (n + 1 + k) + tE x (n + k + 1) + tE x (n + k + 1) ≤ _
   grind
 have a := key K
 have b := EP_mono h0 (show K ≤ n + 1 + K by omega)
 have c := tE_nonneg h0 (n + K)
 grind
theorem one_pow_le {q : Rat} (h : 1 ≤ q) : ∀ n : Nat, 1 ≤ q ^ n
 | 0 => by rw [Rat.pow_zero]; exact Rat.le_refl
 | n + 1 => by
  have a := one_pow_le h n
  have m := Rat.mul_le_mul_of_nonneg_left h (show (0 : Rat) ≤ q ^ n by grind)
  rw [Rat.pow_succ]; grind
end Go.Proofs.YtcbihoojfakhdaaGreatDoor









