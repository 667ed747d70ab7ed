/-
  Lower layers: what functions of the program compute, and zxa facts. Conditions: as the theorems say.
-/
import Derived.BigRegion
import Derived.RegionTactic
import Derived.ChangeAlike
import Derived.WalkKit
import Derived.Test.YtcbihoojfakhdaaGreatDoorPfP
set_option linter.unusedVariables false
set_option linter.unusedSimpArgs false
namespace Go.Proofs.YtcbihoojfakhdaaGreatDoor
open Go.RowKit
set_option maxRecDepth 100000
theorem zms (a b : Nat) (s : Int) (c0 : L a ≤ 16777216 ∧ L b ≤ 16777216)(c1 : 2 ≤ L (b * 2 ^ s.toNat))(c2 : 2147483648 ≤ (limbs (b * 2 ^ s.toNat)).getD (L (b * 2 ^ s.toNat) - 1) 0)(c3 : 0 ≤ s ∧ s ≤ 32) (x0 : Int × List V × List V × List Nat × List Nat) (hI : qdm_loop_I a b s x0) : LoopOk Tryz.prog Amb (loopN Tryz.f226 0) (qdm_loop_mk a b s x0) (fun e st_ => ∃ y, qdm_loop_J a b s y ∧ qdm_loop_ex a b s y = (e, st_)) :=
 z72 hP hAmb ⟨[10, 11, 12, 13, 14, 15], 4, []⟩ (qdm_loop_mk a b s) (qdm_loop_I a b s) (qdm_loop_mu a b s) (qdm_loop_ex a b s) (qdm_loop_J a b s) x0 hI (fun (k, o0, o, lu, lq) => .lit <| .both (.lit <| .yes <| .lit <| .yes <| .yes <| .yes <| .callM (U (lowL lu ((0 + k.toNat) + L (b * 2 ^ s.toNat) + 1) (Xd lu (0 + k.toNat) (L (b * 2 ^ s.toNat)) % (4294967296 ^ (0 + k.toNat) * (b * 2 ^ s.toNat))))) (.int .u32 ((kq lu (0 + k.toNat) (b * 2 ^ s.toNat) : Nat) : Int)) <| .lit <| .yes <| .yes <| .lit <| .yes <| .fin2 ⟨[10, 11, 12, 13, 14, 15], 4, []⟩) (.fin2 ⟨[10, 11, 12, 13, 14], 4, []⟩)) (by
  rintro ⟨k, o0, o, lu, lq⟩ hI
  have hI : (o0 = U lu ∧ o = U lq) ∧ DvIn (a * 2 ^ s.toNat) (b * 2 ^ s.toNat) (L (a * 2 ^ s.toNat) + 1 - L (b * 2 ^ s.toNat)) k lu lq := hI
  obtain ⟨⟨rfl, rfl⟩, h1⟩ := hI
  have e0 := z8x (b * 2 ^ s.toNat)
  have e1 := z73 lu
  have e2 := z73 lq
  have ⟨p0, p1, p2, p3, p4, p5, _⟩ := h1
  have hkn : 0 ≤ k → Kn lu (0 + k.toNat) (b * 2 ^ s.toNat) := fun q => by rw [Nat.zero_add]; exact zm9 h1 q c1 c2
  have hls := z99 a s.toNat
  have hz : 0 + k.toNat = k.toNat := Nat.zero_add _
  have hnx : 0 ≤ k → DvIn (a * 2 ^ s.toNat) (b * 2 ^ s.toNat) (L (a * 2 ^ s.toNat) + 1 - L (b * 2 ^ s.toNat)) (k - 1) (lowL lu (0 + k.toNat + L (b * 2 ^ s.toNat) + 1) (Xd lu (0 + k.toNat) (L (b * 2 ^ s.toNat)) % (4294967296 ^ (0 + k.toNat) * (b * 2 ^ s.toNat)))) (lq.set k.toNat (kq lu (0 + k.toNat) (b * 2 ^ s.toNat))) := fun q => by rw [hz]; exact zmb h1 q c1 c2
  have hx := fun q => (hkn q).qlt
  exact z6t (aI True.intro (aI (fun (h101 : (iGe k 0) = true) => have _gh101 := z7q h101; aI (z89 oO : (fits .i64 (k + ((lim (b * 2 ^ s.toNat)).length : Int))) = true) (aI (z89 oO : (fits .i64 ((k + ((lim (b * 2 ^ s.toNat)).length : Int)) + 1)) = true) (aI (z88 (z88 (z88 (z7x oO) (z7x oO)) (z7x oO)) (zmk oO) : ((((iLe (0 : Int) k) && (iLe k ((k + ((lim (b * 2 ^ s.toNat)).length : Int)) + 1))) && (iLe ((k + ((lim (b * 2 ^ s.toNat)).length : Int)) + 1) ((L (a * 2 ^ s.toNat) + 1) : Int))) && ((iEq k 0) || (iLt k ((L (a * 2 ^ s.toNat) + 1) : Int)))) = true) (aI (z8h oO : ((true && Nat.ble ((0 + k.toNat) + (((k + ((lim (b * 2 ^ s.toNat)).length : Int)) + 1) - k).toNat) (U lu).length) && (true && true)) = true) (aI (zmr lu (0 + k.toNat) ((((k + ((lim (b * 2 ^ s.toNat)).length : Int)) + 1) - k).toNat) (b * 2 ^ s.toNat) (hkn oO) oO oO) (aI (z85 oO : (inB k ((((L (a * 2 ^ s.toNat) + 1) : Int) - ((lim (b * 2 ^ s.toNat)).length : Int)).toNat)) = true) (aI (z8f oO : (Nat.ble ((0 + k.toNat) + 1) (U lq).length) = true) (aI (z89 oO : (fits .i64 (k - 1)) = true) (aI tT ((z6z ((k - 1), (U (lowL lu ((0 + k.toNat) + L (b * 2 ^ s.toNat) + 1) (Xd lu (0 + k.toNat) (L (b * 2 ^ s.toNat)) % (4294967296 ^ (0 + k.toNat) * (b * 2 ^ s.toNat))))), (List.set (U lq) (0 + k.toNat) (.int .u32 ((kq lu (0 + k.toNat) (b * 2 ^ s.toNat) : Nat) : Int))), (lowL lu ((0 + k.toNat) + L (b * 2 ^ s.toNat) + 1) (Xd lu (0 + k.toNat) (L (b * 2 ^ s.toNat)) % (4294967296 ^ (0 + k.toNat) * (b * 2 ^ s.toNat)))), (lq.set k.toNat (kq lu (0 + k.toNat) (b * 2 ^ s.toNat)))) (show ((U (lowL lu ((0 + k.toNat) + L (b * 2 ^ s.toNat) + 1) (Xd lu (0 + k.toNat) (L (b * 2 ^ s.toNat)) % (4294967296 ^ (0 + k.toNat) * (b * 2 ^ s.toNat))))) = U (lowL lu ((0 + k.toNat) + L (b * 2 ^ s.toNat) + 1) (Xd lu (0 + k.toNat) (L (b * 2 ^ s.toNat)) % (4294967296 ^ (0 + k.toNat) * (b * 2 ^ s.toNat)))) ∧ (List.set (U lq) (0 + k.toNat) (.int .u32 ((kq lu (0 + k.toNat) (b * 2 ^ s.toNat) : Nat) : Int))) = U (lq.set k.toNat (kq lu (0 + k.toNat) (b * 2 ^ s.toNat)))) ∧ DvIn (a * 2 ^ s.toNat) (b * 2 ^ s.toNat) (L (a * 2 ^ s.toNat) + 1 - L (b * 2 ^ s.toNat)) (k - 1) (lowL lu ((0 + k.toNat) + L (b * 2 ^ s.toNat) + 1) (Xd lu (0 + k.toNat) (L (b * 2 ^ s.toNat)) % (4294967296 ^ (0 + k.toNat) * (b * 2 ^ s.toNat)))) (lq.set k.toNat (kq lu (0 + k.toNat) (b * 2 ^ s.toNat))) from ⟨⟨rfl, setU _ oO rfl⟩, hnx oO⟩) (show (k - 1 + 1).toNat < (k + 1).toNat by omega) : qdm_loop_N a b s (k, (U lu), (U lq), lu, lq) .normal (qdm_loop_mk a b s ((k - 1), (U (lowL lu ((0 + k.toNat) + L (b * 2 ^ s.toNat) + 1) (Xd lu (0 + k.toNat) (L (b * 2 ^ s.toNat)) % (4294967296 ^ (0 + k.toNat) * (b * 2 ^ s.toNat))))), (List.set (U lq) (0 + k.toNat) (.int .u32 ((kq lu (0 + k.toNat) (b * 2 ^ s.toNat) : Nat) : Int))), (lowL lu ((0 + k.toNat) + L (b * 2 ^ s.toNat) + 1) (Xd lu (0 + k.toNat) (L (b * 2 ^ s.toNat)) % (4294967296 ^ (0 + k.toNat) * (b * 2 ^ s.toNat)))), (lq.set k.toNat (kq lu (0 + k.toNat) (b * 2 ^ s.toNat)))))))))))))))) (fun (h102 : (iGe k 0) = false) => have _gh102 := z7r h102; aI tT ((z70 1 ((qdm_loop_ex a b s (lu, lq)).2) (lu, lq) (show DvIn (a * 2 ^ s.toNat) (b * 2 ^ s.toNat) (L (a * 2 ^ s.toNat) + 1 - L (b * 2 ^ s.toNat)) (-1) lu lq from (show k = -1 by omega) ▸ h1) rfl : qdm_loop_N a b s (k, (U lu), (U lq), lu, lq) (.exit 1) ((qdm_loop_ex a b s (lu, lq)).2)))))) (by kernel_rfl))
theorem zmt (a : Nat) (b : Nat) (c0 : L a ≤ 16777216) (c1 : L b ≤ 16777216) (c2 : 0 < b) : Impl Tryz.prog Amb 226 [(N a), (N b)] (.tup [(N (a / b)), (N (a % b)), (.bool true)]) := by
 have e0 := z8x a
 have e1 := z8x b
 have p0 := z90 (show b ≠ 0 by omega)
 have hcm := zmh a b
 have tb := zc0 b p0
 have g0 := gi_b (z7f b) (((lim b).length : Int) - 1).toNat
 have g1 := gi_b (z7f b) 0
 have eT : (((lim b).length : Int) - 1).toNat = ((L b : Int) - 1).toNat := by rw [z8x]
 have hs : nbits b + ((32 - (Lib.bitLen (gi (limbs b) (((lim b).length : Int) - 1).toNat).toNat : Int))).toNat = 32 * L b := by rw [eT]; omega
 have hsr : 0 ≤ (32 - (Lib.bitLen (gi (limbs b) (((lim b).length : Int) - 1).toNat).toNat : Int)) ∧ (32 - (Lib.bitLen (gi (limbs b) (((lim b).length : Int) - 1).toNat).toNat : Int)) ≤ 32 := by rw [eT]; omega
 have hno0 := zm8 (show b ≠ 0 by omega) hs
 have hno : L (b * 2 ^ ((32 - (Lib.bitLen (gi (limbs b) (((lim b).length : Int) - 1).toNat).toNat : Int))).toNat) = L b ∧ 2147483648 ≤ (limbs (b * 2 ^ ((32 - (Lib.bitLen (gi (limbs b) (((lim b).length : Int) - 1).toNat).toNat : Int))).toNat)).getD (L (b * 2 ^ ((32 - (Lib.bitLen (gi (limbs b) (((lim b).length : Int) - 1).toNat).toNat : Int))).toNat) - 1) 0 := by rw [hno0.1]; exact ⟨rfl, hno0.2⟩
 have e2 := z8x (b * 2 ^ ((32 - (Lib.bitLen (gi (limbs b) (((lim b).length : Int) - 1).toNat).toNat : Int))).toNat)
 have hls := z99 a ((32 - (Lib.bitLen (gi (limbs b) (((lim b).length : Int) - 1).toNat).toNat : Int))).toNat
 have hft : b ≤ a → (a * 2 ^ ((32 - (Lib.bitLen (gi (limbs b) (((lim b).length : Int) - 1).toNat).toNat : Int))).toNat) < 4294967296 ^ (L (a * 2 ^ ((32 - (Lib.bitLen (gi (limbs b) (((lim b).length : Int) - 1).toNat).toNat : Int))).toNat) + 1 - L (b * 2 ^ ((32 - (Lib.bitLen (gi (limbs b) (((lim b).length : Int) - 1).toNat).toNat : Int))).toNat)) * (b * 2 ^ ((32 - (Lib.bitLen (gi (limbs b) (((lim b).length : Int) - 1).toNat).toNat : Int))).toNat) ∧ L (a * 2 ^ ((32 - (Lib.bitLen (gi (limbs b) (((lim b).length : Int) - 1).toNat).toNat : Int))).toNat) + 1 = (L (a * 2 ^ ((32 - (Lib.bitLen (gi (limbs b) (((lim b).length : Int) - 1).toNat).toNat : Int))).toNat) + 1 - L (b * 2 ^ ((32 - (Lib.bitLen (gi (limbs b) (((lim b).length : Int) - 1).toNat).toNat : Int))).toNat)) + L (b * 2 ^ ((32 - (Lib.bitLen (gi (limbs b) (((lim b).length : Int) - 1).toNat).toNat : Int))).toNat) := fun h => zmf (Nat.mul_le_mul_right _ h) (fun q => by rw [q, z8z] at hno; omega)
 have g3 : L b = 1 → gi (limbs b) 0 = (b : Int) := zmg
 have gm : L b = 1 → 0 ≤ ((a % (gi (limbs b) 0).toNat : Nat) : Int) ∧ ((a % (gi (limbs b) 0).toNat : Nat) : Int) < 4294967296 := fun q => by have := Nat.mod_lt a (show 0 < (gi (limbs b) 0).toNat by rw [zmg q]; omega); omega
 exact z6u hP hAmb Tryz.func226 (by kernel_rfl) (.lit <| .call (N a) <| .lit <| .call (N b) <| .lit <| .no <| .lit <| .call (.int .i64 (cmpN a b)) <| .lit <| .both (.lit <| .ret) (.lit <| .both (.yes <| .yes <| .lit <| .call (.tup [(N (a / ((gi (limbs b) 0)).toNat)), (.int .u32 ((a % ((gi (limbs b) 0)).toNat : Nat) : Int)), (.bool true)]) <| .lit <| .yes <| .lit <| .call (N ((((a % ((gi (limbs b) 0)).toNat : Nat) : Int)).toNat)) <| .lit <| .ret) (.lit <| .yes <| .yes <| .yes <| .lit <| .call (.int .i64 (32 - (Lib.bitLen ((gi (limbs b) ((((lim b).length : Int) - 1).toNat))).toNat : Int))) <| .lit <| .call (N (b * 2 ^ ((32 - (Lib.bitLen ((gi (limbs b) ((((lim b).length : Int) - 1).toNat))).toNat : Int))).toNat)) <| .lit <| .callO 1 (L (a * 2 ^ ((32 - (Lib.bitLen ((gi (limbs b) ((((lim b).length : Int) - 1).toNat))).toNat : Int))).toNat)) (lim (a * 2 ^ ((32 - (Lib.bitLen ((gi (limbs b) ((((lim b).length : Int) - 1).toNat))).toNat : Int))).toNat)) <| .yes <| .lit <| .yes <| .yes <| .lit <| .yes <| .lit <| .yes <| .loop ⟨[10, 11, 12, 13, 14, 15], 4, []⟩ ((qdm_loop_mk a b (32 - (Lib.bitLen (gi (limbs b) (((lim b).length : Int) - 1).toNat).toNat : Int)) ((((((L (a * 2 ^ ((32 - (Lib.bitLen ((gi (limbs b) ((((lim b).length : Int) - 1).toNat))).toNat : Int))).toNat)) + 1) : Int) - ((lim (b * 2 ^ ((32 - (Lib.bitLen ((gi (limbs b) ((((lim b).length : Int) - 1).toNat))).toNat : Int))).toNat)).length : Int)) - 1), ((lim (a * 2 ^ ((32 - (Lib.bitLen ((gi (limbs b) ((((lim b).length : Int) - 1).toNat))).toNat : Int))).toNat)) ++ [(V.int .u32 0)]), (List.replicate (((((L (a * 2 ^ ((32 - (Lib.bitLen ((gi (limbs b) ((((lim b).length : Int) - 1).toNat))).toNat : Int))).toNat)) + 1) : Int) - ((lim (b * 2 ^ ((32 - (Lib.bitLen ((gi (limbs b) ((((lim b).length : Int) - 1).toNat))).toNat : Int))).toNat)).length : Int)).toNat) (.int .u32 0)), (limbs (a * 2 ^ (32 - (Lib.bitLen (gi (limbs b) (((lim b).length : Int) - 1).toNat).toNat : Int)).toNat) ++ [0]), (List.replicate (L (a * 2 ^ (32 - (Lib.bitLen (gi (limbs b) (((lim b).length : Int) - 1).toNat).toNat : Int)).toNat) + 1 - L (b * 2 ^ (32 - (Lib.bitLen (gi (limbs b) (((lim b).length : Int) - 1).toNat).toNat : Int)).toNat)) 0)))) (List Nat × List Nat) (qdm_loop_ex a b (32 - (Lib.bitLen (gi (limbs b) (((lim b).length : Int) - 1).toNat).toNat : Int))) (qdm_loop_J a b (32 - (Lib.bitLen (gi (limbs b) (((lim b).length : Int) - 1).toNat).toNat : Int))) (fun y => .yes <| .call (N (val y.2)) <| .yes <| .yes <| .call (N (val (y.1.take (L (b * 2 ^ ((32 - (Lib.bitLen (gi (limbs b) (((lim b).length : Int) - 1).toNat).toNat : Int))).toNat))))) <| .lit <| .call (N ((val (y.1.take (L (b * 2 ^ ((32 - (Lib.bitLen (gi (limbs b) (((lim b).length : Int) - 1).toNat).toNat : Int))).toNat)))) / 2 ^ ((32 - (Lib.bitLen (gi (limbs b) (((lim b).length : Int) - 1).toNat).toNat : Int))).toNat)) <| .lit <| .ret))))
  (z6t (aI True.intro (aI (zam a oA) (aI (zam b oA) (aI (z84 oO : (iEq ((lim b).length : Int) 0) = false) (aI (zas a b oA oA) (aI (fun (h1 : (iLt (cmpN a b) 0) = true) => have _gh1 := z7k h1; (by have h : a < b := oO; rw [Nat.div_eq_of_lt h, Nat.mod_eq_of_lt h]; exact z6f (by show vsub .nil (.sl 1 (U (limbs 0))); rw [z7c]; exact z6d 1) (z6b _) (z6b _) : vsub (.tup [.nil, (N a), (.bool true)]) (.tup [(N (a / b)), (N (a % b)), (.bool true)]))) (fun (h2 : (iLt (cmpN a b) 0) = false) => have _gh2 := z7l h2; aI (fun (h3 : (iEq ((lim b).length : Int) 1) = true) => have _gh3 := z7s h3; aI (z85 oA : (inB (0 : Int) ((lim b).length)) = true) (aI (ld_L oA : (Nat.blt 0 (lim b).length && isIntK .u32 (nth (lim b) 0 .unk)) = true) (aI (zd5 a (gi (limbs b) 0) oA oA) (aI (z8a oA : (fits .u64 ((a % ((gi (limbs b) 0)).toNat : Nat) : Int)) = true) (aI (zao ((a % ((gi (limbs b) 0)).toNat : Nat) : Int) oA) ((by rw [zmg (show L b = 1 by omega)]; exact z6b _ : vsub (.tup [(N (a / ((gi (limbs b) 0)).toNat)), (N ((((a % ((gi (limbs b) 0)).toNat : Nat) : Int)).toNat)), (.bool true)]) (.tup [(N (a / b)), (N (a % b)), (.bool true)])))))))) (fun (h4 : (iEq ((lim b).length : Int) 1) = false) => have _gh4 := z7t h4; aI (z89 oA : (fits .i64 (((lim b).length : Int) - 1)) = true) (aI (z85 oA : (inB (((lim b).length : Int) - 1) ((lim b).length)) = true) (aI (ld_L oA : (Nat.blt ((((lim b).length : Int) - 1).toNat) (lim b).length && isIntK .u32 (nth (lim b) ((((lim b).length : Int) - 1).toNat) .unk)) = true) (aI (zmm (gi (limbs b) ((((lim b).length : Int) - 1).toNat)) oA) (aI (zcj b (32 - (Lib.bitLen ((gi (limbs b) ((((lim b).length : Int) - 1).toNat))).toNat : Int)) oA oA) (aI (zmn a (32 - (Lib.bitLen ((gi (limbs b) ((((lim b).length : Int) - 1).toNat))).toNat : Int)) oA oA oA) (aI (z88 (z88 (z88 (rfl) rfl) (z8f oA)) (by first | rfl | (simp <;> omega) | (rw [z8x]; simp)) : (true && true && Nat.ble ((L (a * 2 ^ ((32 - (Lib.bitLen ((gi (limbs b) ((((lim b).length : Int) - 1).toNat))).toNat : Int))).toNat)) + 1) 1073741824 && Nat.beq (lim (a * 2 ^ ((32 - (Lib.bitLen ((gi (limbs b) ((((lim b).length : Int) - 1).toNat))).toNat : Int))).toNat)).length (L (a * 2 ^ ((32 - (Lib.bitLen ((gi (limbs b) ((((lim b).length : Int) - 1).toNat))).toNat : Int))).toNat))) = true) (aI (z89 oA : (fits .i64 ((((L (a * 2 ^ ((32 - (Lib.bitLen ((gi (limbs b) ((((lim b).length : Int) - 1).toNat))).toNat : Int))).toNat)) + 1) : Int) - ((lim (b * 2 ^ ((32 - (Lib.bitLen ((gi (limbs b) ((((lim b).length : Int) - 1).toNat))).toNat : Int))).toNat)).length : Int))) = true) (aI (z8g oA : (((iEq ((((L (a * 2 ^ ((32 - (Lib.bitLen ((gi (limbs b) ((((lim b).length : Int) - 1).toNat))).toNat : Int))).toNat)) + 1) : Int) - ((lim (b * 2 ^ ((32 - (Lib.bitLen ((gi (limbs b) ((((lim b).length : Int) - 1).toNat))).toNat : Int))).toNat)).length : Int)) ((((L (a * 2 ^ ((32 - (Lib.bitLen ((gi (limbs b) ((((lim b).length : Int) - 1).toNat))).toNat : Int))).toNat)) + 1) : Int) - ((lim (b * 2 ^ ((32 - (Lib.bitLen ((gi (limbs b) ((((lim b).length : Int) - 1).toNat))).toNat : Int))).toNat)).length : Int))) && (iLe 0 ((((L (a * 2 ^ ((32 - (Lib.bitLen ((gi (limbs b) ((((lim b).length : Int) - 1).toNat))).toNat : Int))).toNat)) + 1) : Int) - ((lim (b * 2 ^ ((32 - (Lib.bitLen ((gi (limbs b) ((((lim b).length : Int) - 1).toNat))).toNat : Int))).toNat)).length : Int)))) && (iLe ((((L (a * 2 ^ ((32 - (Lib.bitLen ((gi (limbs b) ((((lim b).length : Int) - 1).toNat))).toNat : Int))).toNat)) + 1) : Int) - ((lim (b * 2 ^ ((32 - (Lib.bitLen ((gi (limbs b) ((((lim b).length : Int) - 1).toNat))).toNat : Int))).toNat)).length : Int)) 1073741824)) = true) (aI (z89 oA : (fits .i64 ((((L (a * 2 ^ ((32 - (Lib.bitLen ((gi (limbs b) ((((lim b).length : Int) - 1).toNat))).toNat : Int))).toNat)) + 1) : Int) - ((lim (b * 2 ^ ((32 - (Lib.bitLen ((gi (limbs b) ((((lim b).length : Int) - 1).toNat))).toNat : Int))).toNat)).length : Int))) = true) (aI (z89 oA : (fits .i64 (((((L (a * 2 ^ ((32 - (Lib.bitLen ((gi (limbs b) ((((lim b).length : Int) - 1).toNat))).toNat : Int))).toNat)) + 1) : Int) - ((lim (b * 2 ^ ((32 - (Lib.bitLen ((gi (limbs b) ((((lim b).length : Int) - 1).toNat))).toNat : Int))).toNat)).length : Int)) - 1)) = true) (aI tT (aI (rfl : (qdm_loop_mk a b (32 - (Lib.bitLen (gi (limbs b) (((lim b).length : Int) - 1).toNat).toNat : Int)) ((((((L (a * 2 ^ ((32 - (Lib.bitLen ((gi (limbs b) ((((lim b).length : Int) - 1).toNat))).toNat : Int))).toNat)) + 1) : Int) - ((lim (b * 2 ^ ((32 - (Lib.bitLen ((gi (limbs b) ((((lim b).length : Int) - 1).toNat))).toNat : Int))).toNat)).length : Int)) - 1), ((lim (a * 2 ^ ((32 - (Lib.bitLen ((gi (limbs b) ((((lim b).length : Int) - 1).toNat))).toNat : Int))).toNat)) ++ [(V.int .u32 0)]), (List.replicate (((((L (a * 2 ^ ((32 - (Lib.bitLen ((gi (limbs b) ((((lim b).length : Int) - 1).toNat))).toNat : Int))).toNat)) + 1) : Int) - ((lim (b * 2 ^ ((32 - (Lib.bitLen ((gi (limbs b) ((((lim b).length : Int) - 1).toNat))).toNat : Int))).toNat)).length : Int)).toNat) (.int .u32 0)), (limbs (a * 2 ^ (32 - (Lib.bitLen (gi (limbs b) (((lim b).length : Int) - 1).toNat).toNat : Int)).toNat) ++ [0]), (List.replicate (L (a * 2 ^ (32 - (Lib.bitLen (gi (limbs b) (((lim b).length : Int) - 1).toNat).toNat : Int)).toNat) + 1 - L (b * 2 ^ (32 - (Lib.bitLen (gi (limbs b) (((lim b).length : Int) - 1).toNat).toNat : Int)).toNat)) 0))) = (qdm_loop_mk a b (32 - (Lib.bitLen (gi (limbs b) (((lim b).length : Int) - 1).toNat).toNat : Int)) ((((((L (a * 2 ^ ((32 - (Lib.bitLen ((gi (limbs b) ((((lim b).length : Int) - 1).toNat))).toNat : Int))).toNat)) + 1) : Int) - ((lim (b * 2 ^ ((32 - (Lib.bitLen ((gi (limbs b) ((((lim b).length : Int) - 1).toNat))).toNat : Int))).toNat)).length : Int)) - 1), ((lim (a * 2 ^ ((32 - (Lib.bitLen ((gi (limbs b) ((((lim b).length : Int) - 1).toNat))).toNat : Int))).toNat)) ++ [(V.int .u32 0)]), (List.replicate (((((L (a * 2 ^ ((32 - (Lib.bitLen ((gi (limbs b) ((((lim b).length : Int) - 1).toNat))).toNat : Int))).toNat)) + 1) : Int) - ((lim (b * 2 ^ ((32 - (Lib.bitLen ((gi (limbs b) ((((lim b).length : Int) - 1).toNat))).toNat : Int))).toNat)).length : Int)).toNat) (.int .u32 0)), (limbs (a * 2 ^ (32 - (Lib.bitLen (gi (limbs b) (((lim b).length : Int) - 1).toNat).toNat : Int)).toNat) ++ [0]), (List.replicate (L (a * 2 ^ (32 - (Lib.bitLen (gi (limbs b) (((lim b).length : Int) - 1).toNat).toNat : Int)).toNat) + 1 - L (b * 2 ^ (32 - (Lib.bitLen (gi (limbs b) (((lim b).length : Int) - 1).toNat).toNat : Int)).toNat)) 0)))) (aI (zms a b (32 - (Lib.bitLen (gi (limbs b) (((lim b).length : Int) - 1).toNat).toNat : Int)) (⟨c0, c1⟩) oO hno.2 hsr ((((((L (a * 2 ^ ((32 - (Lib.bitLen ((gi (limbs b) ((((lim b).length : Int) - 1).toNat))).toNat : Int))).toNat)) + 1) : Int) - ((lim (b * 2 ^ ((32 - (Lib.bitLen ((gi (limbs b) ((((lim b).length : Int) - 1).toNat))).toNat : Int))).toNat)).length : Int)) - 1), ((lim (a * 2 ^ ((32 - (Lib.bitLen ((gi (limbs b) ((((lim b).length : Int) - 1).toNat))).toNat : Int))).toNat)) ++ [(V.int .u32 0)]), (List.replicate (((((L (a * 2 ^ ((32 - (Lib.bitLen ((gi (limbs b) ((((lim b).length : Int) - 1).toNat))).toNat : Int))).toNat)) + 1) : Int) - ((lim (b * 2 ^ ((32 - (Lib.bitLen ((gi (limbs b) ((((lim b).length : Int) - 1).toNat))).toNat : Int))).toNat)).length : Int)).toNat) (.int .u32 0)), (limbs (a * 2 ^ (32 - (Lib.bitLen (gi (limbs b) (((lim b).length : Int) - 1).toNat).toNat : Int)).toNat) ++ [0]), (List.replicate (L (a * 2 ^ (32 - (Lib.bitLen (gi (limbs b) (((lim b).length : Int) - 1).toNat).toNat : Int)).toNat) + 1 - L (b * 2 ^ (32 - (Lib.bitLen (gi (limbs b) (((lim b).length : Int) - 1).toNat).toNat : Int)).toNat)) 0)) (show (((lim (a * 2 ^ ((32 - (Lib.bitLen ((gi (limbs b) ((((lim b).length : Int) - 1).toNat))).toNat : Int))).toNat)) ++ [(V.int .u32 0)]) = U (limbs (a * 2 ^ (32 - (Lib.bitLen (gi (limbs b) (((lim b).length : Int) - 1).toNat).toNat : Int)).toNat) ++ [0]) ∧ (List.replicate (((((L (a * 2 ^ ((32 - (Lib.bitLen ((gi (limbs b) ((((lim b).length : Int) - 1).toNat))).toNat : Int))).toNat)) + 1) : Int) - ((lim (b * 2 ^ ((32 - (Lib.bitLen ((gi (limbs b) ((((lim b).length : Int) - 1).toNat))).toNat : Int))).toNat)).length : Int)).toNat) (.int .u32 0)) = U (List.replicate (L (a * 2 ^ (32 - (Lib.bitLen (gi (limbs b) (((lim b).length : Int) - 1).toNat).toNat : Int)).toNat) + 1 - L (b * 2 ^ (32 - (Lib.bitLen (gi (limbs b) (((lim b).length : Int) - 1).toNat).toNat : Int)).toNat)) 0)) ∧ DvIn (a * 2 ^ (32 - (Lib.bitLen (gi (limbs b) (((lim b).length : Int) - 1).toNat).toNat : Int)).toNat) (b * 2 ^ (32 - (Lib.bitLen (gi (limbs b) (((lim b).length : Int) - 1).toNat).toNat : Int)).toNat) (L (a * 2 ^ (32 - (Lib.bitLen (gi (limbs b) (((lim b).length : Int) - 1).toNat).toNat : Int)).toNat) + 1 - L (b * 2 ^ (32 - (Lib.bitLen (gi (limbs b) (((lim b).length : Int) - 1).toNat).toNat : Int)).toNat)) (((((L (a * 2 ^ ((32 - (Lib.bitLen ((gi (limbs b) ((((lim b).length : Int) - 1).toNat))).toNat : Int))).toNat)) + 1) : Int) - ((lim (b * 2 ^ ((32 - (Lib.bitLen ((gi (limbs b) ((((lim b).length : Int) - 1).toNat))).toNat : Int))).toNat)).length : Int)) - 1) (limbs (a * 2 ^ (32 - (Lib.bitLen (gi (limbs b) (((lim b).length : Int) - 1).toNat).toNat : Int)).toNat) ++ [0]) (List.replicate (L (a * 2 ^ (32 - (Lib.bitLen (gi (limbs b) (((lim b).length : Int) - 1).toNat).toNat : Int)).toNat) + 1 - L (b * 2 ^ (32 - (Lib.bitLen (gi (limbs b) (((lim b).length : Int) - 1).toNat).toNat : Int)).toNat)) 0) from ⟨⟨z79 _ [0], by rw [show ((((L (a * 2 ^ (32 - (Lib.bitLen (gi (limbs b) (((lim b).length : Int) - 1).toNat).toNat : Int)).toNat) + 1) : Int) - ((lim (b * 2 ^ (32 - (Lib.bitLen (gi (limbs b) (((lim b).length : Int) - 1).toNat).toNat : Int)).toNat)).length : Int)).toNat) = (L (a * 2 ^ (32 - (Lib.bitLen (gi (limbs b) (((lim b).length : Int) - 1).toNat).toNat : Int)).toNat) + 1 - L (b * 2 ^ (32 - (Lib.bitLen (gi (limbs b) (((lim b).length : Int) - 1).toNat).toNat : Int)).toNat)) by omega]; exact z7b _⟩, by have := zmc (hft oO).1 (hft oO).2; rwa [show (((L (a * 2 ^ (32 - (Lib.bitLen (gi (limbs b) (((lim b).length : Int) - 1).toNat).toNat : Int)).toNat) + 1 - L (b * 2 ^ (32 - (Lib.bitLen (gi (limbs b) (((lim b).length : Int) - 1).toNat).toNat : Int)).toNat)) : Nat) : Int) - 1 = (((((L (a * 2 ^ ((32 - (Lib.bitLen ((gi (limbs b) ((((lim b).length : Int) - 1).toNat))).toNat : Int))).toNat)) + 1) : Int) - ((lim (b * 2 ^ ((32 - (Lib.bitLen ((gi (limbs b) ((((lim b).length : Int) - 1).toNat))).toNat : Int))).toNat)).length : Int)) - 1) by omega] at this⟩)) (fun y (hJ : qdm_loop_J a b (32 - (Lib.bitLen (gi (limbs b) (((lim b).length : Int) - 1).toNat).toNat : Int)) y) => have hJ : DvIn (a * 2 ^ (32 - (Lib.bitLen (gi (limbs b) (((lim b).length : Int) - 1).toNat).toNat : Int)).toNat) (b * 2 ^ (32 - (Lib.bitLen (gi (limbs b) (((lim b).length : Int) - 1).toNat).toNat : Int)).toNat) (L (a * 2 ^ (32 - (Lib.bitLen (gi (limbs b) (((lim b).length : Int) - 1).toNat).toNat : Int)).toNat) + 1 - L (b * 2 ^ (32 - (Lib.bitLen (gi (limbs b) (((lim b).length : Int) - 1).toNat).toNat : Int)).toNat)) (-1) y.1 y.2 := hJ; have ⟨d0, d1, d2, d3, d4, d5⟩ := zmd hJ; have d6 := z73 y.1; have d7 := z73 y.2; have d8 : L (val (y.1.take (L (b * 2 ^ ((32 - (Lib.bitLen (gi (limbs b) (((lim b).length : Int) - 1).toNat).toNat : Int))).toNat)))) ≤ L (a * 2 ^ ((32 - (Lib.bitLen (gi (limbs b) (((lim b).length : Int) - 1).toNat).toNat : Int))).toNat) := (by rw [d4]; exact z97 _ _); aI (z8h oA : ((true && Nat.ble (0 + ((((L (a * 2 ^ (32 - (Lib.bitLen (gi (limbs b) (((lim b).length : Int) - 1).toNat).toNat : Int)).toNat) + 1) : Int) - ((lim (b * 2 ^ (32 - (Lib.bitLen (gi (limbs b) (((lim b).length : Int) - 1).toNat).toNat : Int)).toNat)).length : Int)).toNat)) (U y.2).length) && true) = true) (aI (zd2 (List.take ((((L (a * 2 ^ (32 - (Lib.bitLen (gi (limbs b) (((lim b).length : Int) - 1).toNat).toNat : Int)).toNat) + 1) : Int) - ((lim (b * 2 ^ (32 - (Lib.bitLen (gi (limbs b) (((lim b).length : Int) - 1).toNat).toNat : Int)).toNat)).length : Int)).toNat) (List.drop 0 (U y.2))) y.2 (tkU rfl oO) d3 oO) (aI (z88 (z88 (z88 (rfl) (z7x oA)) (z7x oA)) (rfl) : (((true && (iLe (0 : Int) ((lim (b * 2 ^ (32 - (Lib.bitLen (gi (limbs b) (((lim b).length : Int) - 1).toNat).toNat : Int)).toNat)).length : Int))) && (iLe ((lim (b * 2 ^ (32 - (Lib.bitLen (gi (limbs b) (((lim b).length : Int) - 1).toNat).toNat : Int)).toNat)).length : Int) ((L (a * 2 ^ (32 - (Lib.bitLen (gi (limbs b) (((lim b).length : Int) - 1).toNat).toNat : Int)).toNat) + 1) : Int))) && true) = true) (aI (z8h oA : ((true && Nat.ble (0 + (((lim (b * 2 ^ (32 - (Lib.bitLen (gi (limbs b) (((lim b).length : Int) - 1).toNat).toNat : Int)).toNat)).length : Int) - 0).toNat) (U y.1).length) && true) = true) (aI (zd2 (List.take ((((lim (b * 2 ^ (32 - (Lib.bitLen (gi (limbs b) (((lim b).length : Int) - 1).toNat).toNat : Int)).toNat)).length : Int) - 0).toNat) (List.drop 0 (U y.1))) (y.1.take (L (b * 2 ^ ((32 - (Lib.bitLen (gi (limbs b) (((lim b).length : Int) - 1).toNat).toNat : Int))).toNat))) (tkU2 oO) (z8k d1 _) (by rw [List.length_take]; omega)) (aI (zcl (val (y.1.take (L (b * 2 ^ ((32 - (Lib.bitLen (gi (limbs b) (((lim b).length : Int) - 1).toNat).toNat : Int))).toNat)))) (32 - (Lib.bitLen (gi (limbs b) (((lim b).length : Int) - 1).toNat).toNat : Int)) oA oA) ((by rw [d5, d4, zmi, zmj]; exact z6b _ : vsub (.tup [(N (val y.2)), (N ((val (y.1.take (L (b * 2 ^ ((32 - (Lib.bitLen (gi (limbs b) (((lim b).length : Int) - 1).toNat).toNat : Int))).toNat)))) / 2 ^ ((32 - (Lib.bitLen (gi (limbs b) (((lim b).length : Int) - 1).toNat).toNat : Int))).toNat)), (.bool true)]) (.tup [(N (a / b)), (N (a % b)), (.bool true)])))))))))))))))))))))))))))))) (by kernel_rfl))
theorem zmu (x : Int) (y : Int) (c0 : L (x).natAbs ≤ 16777216) (c1 : L (y).natAbs ≤ 16777216) (c2 : y ≠ 0) : Impl Tryz.prog Amb 182 [(zV x), (zV y)] (.tup [(zV (Int.fdiv x y)), (zV (x - (Int.fdiv x y) * y)), (.bool true)]) := by
 have l3 := z96 x.natAbs y.natAbs
 have l1 := L_le (n := 1) (k := 1) (by decide)
 have l4 := zdi (x.natAbs % y.natAbs)
 have l5 := z8x (x.natAbs % y.natAbs)
 have l6 := Nat.mod_lt x.natAbs (show 0 < y.natAbs by omega)
 have l7 := z93 (x.natAbs / y.natAbs) 1
 have l8 := z95 y.natAbs (x.natAbs % y.natAbs)
 exact z6u hP hAmb Tryz.func182 (by kernel_rfl) (.lits 3 <| .call (.tup [(N (x.natAbs / y.natAbs)), (N (x.natAbs % y.natAbs)), (.bool true)]) <| .lits 5 <| .both (.lits 4 <| .both (.lit <| .call (N 1) <| .lit <| .call (N ((x.natAbs / y.natAbs) + 1)) <| .lits 2 <| .call (.tup [(N (y.natAbs - (x.natAbs % y.natAbs))), (.bool (decide ((x.natAbs % y.natAbs) ≤ y.natAbs)))]) <| .lits 4 <| .call (zV (sgn (!(bEq (decide (x < 0)) (decide (y < 0)))) ((x.natAbs / y.natAbs) + 1))) <| .lits 2 <| .call (zV (sgn (decide (y < 0)) (y.natAbs - (x.natAbs % y.natAbs)))) <| .lits 3 <| .ret) (.lits 4 <| .call (zV (sgn (!(bEq (decide (x < 0)) (decide (y < 0)))) (x.natAbs / y.natAbs))) <| .lits 2 <| .call (zV (sgn (decide (y < 0)) (x.natAbs % y.natAbs))) <| .lits 3 <| .ret)) (.lits 8 <| .call (zV (sgn (!(bEq (decide (x < 0)) (decide (y < 0)))) (x.natAbs / y.natAbs))) <| .lits 2 <| .call (zV (sgn (decide (y < 0)) (x.natAbs % y.natAbs))) <| .lits 3 <| .ret))
  (z6t (aI True.intro (aI (zmt x.natAbs y.natAbs oA oA oA) (have f6 := z97 x.natAbs y.natAbs; have f5 := z96 x.natAbs y.natAbs; aI (fun (h1 : (!(bEq (decide (x < 0)) (decide (y < 0)))) = true) => aI (fun (h2 : (iGt ((lim (x.natAbs % y.natAbs)).length : Int) 0) = true) => have _gh2 := z7o h2; aI (zao 1 oA) (aI (zav (x.natAbs / y.natAbs) 1 oA oA) (aI (zdu y.natAbs (x.natAbs % y.natAbs) oA oA) (aI (zdv (!(bEq (decide (x < 0)) (decide (y < 0)))) ((x.natAbs / y.natAbs) + 1) oA) (aI (zdv (decide (y < 0)) (y.natAbs - (x.natAbs % y.natAbs)) oA) ((z6f (Z_of (by rw [zhp (by first | assumption | simp_all)]; exact zhl c2 (by first | assumption | simp_all) oO)) (Z_of (zhq c2 (by first | assumption | simp_all) oO)) (z6b _) : vsub (.tup [(zV (sgn (!(bEq (decide (x < 0)) (decide (y < 0)))) ((x.natAbs / y.natAbs) + 1))), (zV (sgn (decide (y < 0)) (y.natAbs - (x.natAbs % y.natAbs)))), (.bool true)]) (.tup [(zV (Int.fdiv x y)), (zV (x - (Int.fdiv x y) * y)), (.bool true)])))))))) (fun (h3 : (iGt ((lim (x.natAbs % y.natAbs)).length : Int) 0) = false) => have _gh3 := z7p h3; aI (zdv (!(bEq (decide (x < 0)) (decide (y < 0)))) (x.natAbs / y.natAbs) oA) (aI (zdv (decide (y < 0)) (x.natAbs % y.natAbs) oA) ((z6f (Z_of (zhm c2 oO)) (Z_of (zhr c2 oO)) (z6b _) : vsub (.tup [(zV (sgn (!(bEq (decide (x < 0)) (decide (y < 0)))) (x.natAbs / y.natAbs))), (zV (sgn (decide (y < 0)) (x.natAbs % y.natAbs))), (.bool true)]) (.tup [(zV (Int.fdiv x y)), (zV (x - (Int.fdiv x y) * y)), (.bool true)])))))) (fun (h4 : (!(bEq (decide (x < 0)) (decide (y < 0)))) = false) => aI (zdv (!(bEq (decide (x < 0)) (decide (y < 0)))) (x.natAbs / y.natAbs) oA) (aI (zdv (decide (y < 0)) (x.natAbs % y.natAbs) oA) ((z6f (Z_of (zhn c2 (by first | assumption | simp_all))) (Z_of (zhs c2 (by first | assumption | simp_all))) (z6b _) : vsub (.tup [(zV (sgn (!(bEq (decide (x < 0)) (decide (y < 0)))) (x.natAbs / y.natAbs))), (zV (sgn (decide (y < 0)) (x.natAbs % y.natAbs))), (.bool true)]) (.tup [(zV (Int.fdiv x y)), (zV (x - (Int.fdiv x y) * y)), (.bool true)])))))))) (by kernel_rfl))

end Go.Proofs.YtcbihoojfakhdaaGreatDoor

namespace Go.Proofs.YtcbihoojfakhdaaGreatDoor
def dv (m e : Int) : Rat := (m : Rat) * (2 : Rat) ^ e
theorem zmv : (2 : Rat) ≠ 0 := by decide
theorem zmw (a b : Int) : (2 : Rat) ^ (a + b) = 2 ^ a * 2 ^ b := Rat.zpow_add zmv a b
theorem zmx (a : Int) : (0 : Rat) < 2 ^ a := Rat.zpow_pos (by decide)
theorem zmy (a : Int) : (2 : Rat) ^ a ≠ 0 := fun h => by have := zmx a; rw [h] at this; exact absurd this Rat.lt_irrefl
theorem zmz (n : Nat) : (2 : Rat) ^ (n : Int) = (((2 : Int) ^ n : Int) : Rat) := by
 rw [Rat.zpow_natCast, Rat.intCast_pow]; rfl
theorem zn0 : (2 : Rat) ^ (0 : Int) = 1 := Rat.zpow_zero 2
theorem zn1 (a : Int) : (2 : Rat) ^ a * 2 ^ (-a) = 1 := by rw [← zmw, Int.add_right_neg, zn0]
theorem zn2 (m e : Int) (k : Nat) : dv (m * 2 ^ k) e = dv m (e + k) := by
 unfold dv
 rw [zmw, zmz, Rat.intCast_mul]
 grind
theorem zn3 {m e c : Int} (h : c ≤ e) : dv m e = dv (m * 2 ^ (e - c).toNat) c := by
 rw [zn2]; congr 1; omega
theorem zn4 {m n c : Int} : dv m c < dv n c ↔ m < n := by
 unfold dv; rw [Rat.mul_lt_mul_right (zmx c), Rat.intCast_lt_intCast]
theorem zn5 {m n c : Int} : dv m c ≤ dv n c ↔ m ≤ n := by
 rw [← Rat.not_lt, zn4]; omega
theorem zn6 (e : Int) : dv 0 e = 0 := by unfold dv; rw [Rat.intCast_zero, Rat.zero_mul]
theorem zn7 (m : Int) : dv m 0 = (m : Rat) := by unfold dv; rw [zn0, Rat.mul_one]
theorem zn8 (m e : Int) : dv (-m) e = -dv m e := by unfold dv; rw [Rat.intCast_neg, Rat.neg_mul]
theorem zn9 (m n c : Int) : dv (m + n) c = dv m c + dv n c := by
 unfold dv; rw [Rat.intCast_add]; grind
theorem zna (m e n f : Int) : dv (adS m e n f) (iMin e f) = dv m e + dv n f := by
 have h := zia e f
 unfold adS
 rw [zn9, ← zn3 (by omega), ← zn3 (by omega)]
def cmpQ (x y : Rat) : Int := if x < y then -1 else if y < x then 1 else 0
theorem znb (m e n f : Int) : cmpD m e n f = cmpQ (dv m e) (dv n f) := by
 have h := zia e f
 unfold cmpD cmpI cmpQ
 rw [zn3 (m := m) (show iMin e f ≤ e by omega), zn3 (m := n) (show iMin e f ≤ f by omega)]
 simp only [zn4]
theorem znc {m e : Int} : 0 < dv m e ↔ 0 < m := by rw [← zn6 e, zn4]
theorem znd (m e : Int) : dv (dm m) (de m e) = dv m e := by
 unfold de; rw [← zn2, zid]
theorem zne {m e : Int} (h : mkE m e = 0) : dv (mkM m e) (mkX m e) = dv m e := by
 unfold mkM mkX
 rw [if_pos h]
 by_cases h0 : m = 0
 ·rw [h0, zib, zn6, zn6]
 ·rw [if_pos ⟨h, h0⟩, znd]
theorem znf {m e : Int} : vdb (mkM m e) (mkX m e) = true := by
 by_cases h : mkE m e = 0
 ·by_cases h0 : m = 0
  ·have : mkM m e = 0 ∧ mkX m e = 0 := by unfold mkM mkX; rw [if_pos h, if_neg (fun q => q.2 h0), h0, zib]; exact ⟨rfl, rfl⟩
   rw [this.1, this.2]; rfl
  ·have e1 : mkM m e = dm m := by unfold mkM; rw [if_pos h]
   have e2 : mkX m e = de m e := by unfold mkX; rw [if_pos ⟨h, h0⟩]
   rw [e1, e2]
   unfold mkE at h
   split at h
   ·omega
   ·try rw [if_neg h0] at h
    split at h
    ·assumption
    ·omega
 ·rw [(zj8 h).1, (zj8 h).2]; rfl
def flr (r : Rat) (p : Int) : Int := (r * 2 ^ p).floor
def cei (r : Rat) (p : Int) : Int := -(flr (-r) p)
theorem zng (n d : Int) (hd : 0 < d) : ((n : Rat) / (d : Rat)).floor = n / d := by
 have hq : (0 : Rat) < (d : Rat) := Rat.intCast_pos.2 hd
 have key : ∀ x : Int, x ≤ ((n : Rat) / (d : Rat)).floor ↔ x ≤ n / d := fun x => by
  rw [Rat.le_floor_iff, Int.le_ediv_iff_mul_le hd, ← Rat.intCast_le_intCast (a := x * d), Rat.intCast_mul, ← Rat.not_lt, Rat.div_lt_iff hq, Rat.not_lt]
 have h1 := (key _).1 (Int.le_refl _)
 have h2 := (key _).2 (Int.le_refl _)
 omega
theorem znh (m e p : Int) : flr (dv m e) p = if 0 ≤ e + p then m * 2 ^ (e + p).toNat else m / 2 ^ (-(e + p)).toNat := by
 have h : dv m e * 2 ^ p = dv m (e + p) := by unfold dv; rw [zmw]; grind
 unfold flr
 rw [h]
 split
 ·rename_i h0
  rw [zn3 h0, zn7, Rat.floor_intCast, Int.sub_zero]
 ·rename_i h0
  rw [← zng _ _ (zip _)]
  congr 1
  have h1 := zn1 (e + p)
  have h2 := zmz (-(e + p)).toNat
  rw [show (((-(e + p)).toNat : Nat) : Int) = -(e + p) by omega] at h2
  rw [← h2]
  unfold dv
  have h3 := zmy (-(e + p))
  grind
theorem zni (n d p : Int) (hd : 0 < d) : flr ((n : Rat) / (d : Rat)) p = if 0 ≤ p then n * 2 ^ p.toNat / d else n / (d * 2 ^ (-p).toNat) := by
 have hq : (d : Rat) ≠ 0 := fun h => by have := Rat.intCast_eq_zero_iff.1 h; omega
 unfold flr
 split
 ·rename_i h0
  rw [← zng _ _ hd]
  congr 1
  have h2 := zmz p.toNat
  rw [show ((p.toNat : Nat) : Int) = p by omega] at h2
  rw [h2, Rat.intCast_mul]
  grind
 ·rename_i h0
  rw [← zng _ _ (Int.mul_pos hd (zip _))]
  congr 1
  have h1 := zn1 p
  have h2 := zmz (-p).toNat
  rw [show (((-p).toNat : Nat) : Int) = -p by omega] at h2
  rw [Rat.intCast_mul, ← h2]
  have h3 := zmy (-p)
  grind
theorem znj (r : Rat) (p : Int) : dv (flr r p) (-p) ≤ r := by
 have h3 := Rat.mul_le_mul_of_nonneg_right (Rat.floor_le (r * 2 ^ p)) (Rat.le_of_lt (zmx (-p)))
 rw [Rat.mul_assoc r, zn1, Rat.mul_one] at h3
 exact h3
theorem znk (r : Rat) (p : Int) : r < dv (flr r p + 1) (-p) := by
 have h3 := Rat.mul_lt_mul_of_pos_right (Rat.lt_floor_add_one (r * 2 ^ p)) (zmx (-p))
 rw [Rat.mul_assoc r, zn1, Rat.mul_one] at h3
 exact h3
theorem znl {r : Rat} {p x : Int} : x ≤ flr r p ↔ dv x (-p) ≤ r := by
 have h1 := zn1 (-p)
 rw [Int.neg_neg] at h1
 unfold flr dv
 rw [Rat.le_floor_iff]
 constructor
 ·intro h
  have := Rat.mul_le_mul_of_nonneg_right h (Rat.le_of_lt (zmx (-p)))
  rwa [Rat.mul_assoc r, zn1, Rat.mul_one] at this
 ·intro h
  have := Rat.mul_le_mul_of_nonneg_right h (Rat.le_of_lt (zmx p))
  rwa [Rat.mul_assoc (x : Rat), h1, Rat.mul_one] at this
theorem znm (r : Rat) (p : Int) : r ≤ dv (cei r p) (-p) := by
 have := znj (-r) p
 unfold cei; rw [zn8]
 have := Rat.neg_le_neg this
 rwa [Rat.neg_neg] at this
theorem znn {r : Rat} {p x : Int} : cei r p ≤ x ↔ r ≤ dv x (-p) := by
 have := znl (r := -r) (p := p) (x := -x)
 rw [zn8] at this
 unfold cei
 constructor
 ·intro h
  have := Rat.neg_le_neg (this.1 (by omega))
  rwa [Rat.neg_neg, Rat.neg_neg] at this
 ·intro h
  have := this.2 (Rat.neg_le_neg h)
  omega
end Go.Proofs.YtcbihoojfakhdaaGreatDoor

namespace Go.Proofs.YtcbihoojfakhdaaGreatDoor
theorem zno {n d : Int} : (!(bEq (decide (n < 0)) (decide (d < 0)))) = true ↔ (n < 0 ∧ 0 ≤ d) ∨ (0 ≤ n ∧ d < 0) := by
 by_cases h1 : n < 0 <;> by_cases h2 : d < 0 <;> simp [bEq, h1, h2] <;> omega
theorem znp {n d : Int} (hd : d ≠ 0) : (Rat.divInt n d).num = sgn (!(bEq (decide (n < 0)) (decide (d < 0)))) (n.natAbs / Nat.gcd n.natAbs d.natAbs) ∧ (Rat.divInt n d).den = d.natAbs / Nat.gcd n.natAbs d.natAbs := by
 have hg : Int.gcd d n = Nat.gcd n.natAbs d.natAbs := by rw [Int.gcd_eq_natAbs_gcd_natAbs, Nat.gcd_comm]
 refine ⟨?_, by rw [Rat.den_divInt, if_neg hd, hg]⟩
 rw [Rat.num_divInt, hg]
 have hdvd : Nat.gcd n.natAbs d.natAbs ∣ n.natAbs := Nat.gcd_dvd_left _ _
 have hp : 0 < Nat.gcd n.natAbs d.natAbs := Nat.gcd_pos_of_pos_right _ (by omega)
 generalize Nat.gcd n.natAbs d.natAbs = g at *
 obtain ⟨k, hk⟩ := hdvd
 have hkd : n.natAbs / g = k := by rw [hk]; exact Nat.mul_div_cancel_left k hp
 rw [hkd]
 have hs : sgn (!(bEq (decide (n < 0)) (decide (d < 0)))) k = if (n < 0 ∧ 0 ≤ d) ∨ (0 ≤ n ∧ d < 0) then -(k : Int) else (k : Int) := by
  unfold sgn
  simp only [zno]
 rw [hs]
 have hgk : ((g : Int) * k) = (n.natAbs : Int) := by rw [hk]; simp
 have hg0 : (g : Int) ≠ 0 := by omega
 rcases Int.lt_trichotomy d 0 with h | h | h
 ·rw [Int.sign_eq_neg_one_of_neg h]
  by_cases hn : n < 0
  ·rw [if_neg (by omega), show (-1 : Int) * n = (g : Int) * k by omega, Int.mul_ediv_cancel_left _ hg0]
  ·rw [if_pos (by omega), show (-1 : Int) * n = (g : Int) * (-(k : Int)) by rw [Int.mul_neg]; omega, Int.mul_ediv_cancel_left _ hg0]
 ·exact absurd h hd
 ·rw [Int.sign_eq_one_of_pos h]
  by_cases hn : n < 0
  ·rw [if_pos (by omega), show (1 : Int) * n = (g : Int) * (-(k : Int)) by rw [Int.mul_neg]; omega, Int.mul_ediv_cancel_left _ hg0]
  ·rw [if_neg (by omega), show (1 : Int) * n = (g : Int) * k by omega, Int.mul_ediv_cancel_left _ hg0]
theorem q_L {n d : Int} (hd : d ≠ 0) : L (Rat.divInt n d).num.natAbs ≤ L n.natAbs ∧ L (Rat.divInt n d).den ≤ L d.natAbs := by
 have h := znp (n := n) hd
 rw [h.1, h.2, zdc]
 exact ⟨z96 _ _, z96 _ _⟩
theorem znq (r : Rat) : (r.den : Int) ≠ 0 := by have := r.den_nz; omega
theorem q_eq (r : Rat) : r = (r.num : Rat) / (r.den : Int) := by
 have h := Rat.num_divInt_den r
 rw [Rat.divInt_eq_div] at h
 exact h.symm
theorem znr (r s : Rat) : cmpI (r.num * (s.den : Int)) (s.num * (r.den : Int)) = cmpQ r s := by
 unfold cmpI cmpQ
 simp only [Rat.lt_iff]
theorem zns (n : Int) : Rat.divInt n 1 = (n : Rat) := by rw [Rat.divInt_eq_div, Rat.intCast_one]; grind
theorem znt (r : Rat) : (-r).num = -r.num ∧ (-r).den = r.den := ⟨Rat.neg_num r, Rat.neg_den r⟩
theorem znu {m e : Int} (he : 0 ≤ e) : (dv m e).num = m * 2 ^ e.toNat ∧ (dv m e).den = 1 := by
 rw [zn3 he, zn7, Int.sub_zero]
 exact ⟨Rat.num_intCast _, Rat.den_intCast _⟩
theorem znv {m e : Int} (hv : vdb m e = true) (he : e < 0) : (dv m e).num = m ∧ (dv m e).den = 2 ^ (-e).toNat := by
 have hm : m.natAbs % 2 = 1 := by
  rcases zi9.1 hv with ⟨_, h2⟩ | ⟨_, _, _, _, h⟩
  ·omega
  ·exact h
 have hc : Nat.Coprime m.natAbs (2 ^ (-e).toNat) := by
  refine Nat.Coprime.pow_right _ ?_
  rw [Nat.coprime_comm]
  unfold Nat.Coprime
  rw [Nat.gcd_rec, hm]; decide
 have h : dv m e = (⟨m, 2 ^ (-e).toNat, Nat.pos_iff_ne_zero.1 (Nat.pow_pos (by omega)), hc⟩ : Rat) := by
  rw [Rat.mk_eq_mkRat, Rat.mkRat_eq_div]
  have h1 := zn1 e
  have h2 := zmz (-e).toNat
  rw [show (((-e).toNat : Nat) : Int) = -e by omega] at h2
  have h3 := zmy (-e)
  have h4 : (((2 ^ (-e).toNat : Nat)) : Rat) = 2 ^ (-e) := by
   rw [h2, ← Rat.intCast_natCast, Int.natCast_pow]; rfl
  rw [h4]
  unfold dv
  grind
 rw [h]
 exact ⟨rfl, rfl⟩
theorem znw (r : Rat) (p : Int) : flr r p = if 0 ≤ p then r.num * 2 ^ p.toNat / (r.den : Int) else r.num / ((r.den : Int) * 2 ^ (-p).toNat) := by
 have h := zni r.num (r.den : Int) p (by have := r.den_nz; omega)
 rw [← q_eq] at h
 exact h
theorem znx {r : Rat} {n : Nat} (hd : r.den = 2 ^ n) {p : Int} (hp : (n : Int) ≤ p) : flr r p = r.num * 2 ^ (p - n).toNat := by
 rw [znw, if_pos (by omega), hd, Int.natCast_pow]
 have : p.toNat = (p - n).toNat + n := by omega
 rw [this, Int.pow_add, ← Int.mul_assoc]
 exact Int.mul_ediv_cancel _ (by have := zip n; exact Int.ne_of_gt this)
theorem zny {r : Rat} {n : Nat} (hd : r.den = 2 ^ n) {p : Int} (hp : p < (n : Int)) : flr r p = r.num / 2 ^ ((n : Int) - p).toNat := by
 rw [znw, hd, Int.natCast_pow]
 split
 ·rename_i h0
  have : ((2 : Nat) : Int) ^ n = 2 ^ p.toNat * 2 ^ ((n : Int) - p).toNat := by rw [← Int.pow_add]; show (2 : Int) ^ n = _; congr 1; omega
  rw [this, Int.mul_comm r.num, Int.mul_ediv_mul_of_pos _ _ (zip _)]
 ·rename_i h0
  congr 1
  show (2 : Int) ^ n * _ = _
  rw [← Int.pow_add]; congr 1; omega
theorem znz (x y : Nat) : Nat.gcd y (x % y) = Nat.gcd x y := by rw [Nat.gcd_comm x y, Nat.gcd_rec y x, Nat.gcd_comm]
theorem zo0 {x y a b : Nat} (h : Nat.gcd x y = Nat.gcd a b) (hy : y = 0) : x = Nat.gcd a b := by rw [← h, hy, Nat.gcd_zero_right]
theorem zo1 (r : Rat) : L (r.den : Int).natAbs = L r.den := by rw [Int.natAbs_natCast]
theorem zo2 {n : Int} (h : -9223372036854775808 ≤ n ∧ n ≤ 9223372036854775807) : L (Int.cast n : Rat).num.natAbs ≤ 2 ∧ L (Int.cast n : Rat).den ≤ 1 := by
 rw [Rat.num_intCast, Rat.den_intCast]
 exact ⟨zh8 h, L_le (by decide)⟩
theorem zo3 (r : Rat) : L (-r).num.natAbs = L r.num.natAbs ∧ L (-r).den = L r.den := by
 rw [Rat.neg_num, Rat.neg_den, Int.natAbs_neg]; exact ⟨rfl, rfl⟩
theorem zo4 (x y : Rat) : (cmpQ x y = -1 ∧ x < y) ∨ (cmpQ x y = 1 ∧ y < x) ∨ (cmpQ x y = 0 ∧ x = y) := by
 unfold cmpQ
 by_cases h : x < y
 ·exact .inl ⟨if_pos h, h⟩
 ·rw [if_neg h]
  by_cases h2 : y < x
  ·exact .inr (.inl ⟨if_pos h2, h2⟩)
  ·exact .inr (.inr ⟨if_neg h2, Rat.le_antisymm (Rat.not_lt.1 h2) (Rat.not_lt.1 h)⟩)
end Go.Proofs.YtcbihoojfakhdaaGreatDoor

namespace Go.Proofs.YtcbihoojfakhdaaGreatDoor
open Go.RowKit
theorem zo5 {P : Program} {C : World → Prop} {f : FuncId} {ds ds' : List V} {r : V} (hd : ∀ (w : World) (S : Nat → Prop) (l : List Value), RdL w S l ds → RdL w S l ds') (h : Impl P C f ds' r) : Impl P C f ds r :=
 ⟨h.1, fun w S args hC hS ha => h.2 w S args hC hS (hd w S args ha)⟩
theorem zo6 (v : Int) {n : Int} (hn : 0 < n) : -n < v.tmod n := by
 have := Int.tmod_lt_of_pos (-v) hn
 rw [Int.neg_tmod] at this
 omega
theorem zo7 {v n : Int} (hn : 0 < n) (h : wRem v n < 0) : wRem v n + n = v % n := by
 unfold wRem at *
 have h1 := Int.tmod_add_mul_tdiv v n
 have h2 := zo6 v hn
 have h3 : v % n = (v.tmod n) % n := by
  conv => lhs; rw [← h1]
  rw [Int.add_mul_emod_self_left]
 rw [h3, ← Int.add_emod_right, Int.emod_eq_of_lt (by omega) (by omega)]
theorem zo8 {v n : Int} (hn : 0 < n) (h : 0 ≤ wRem v n) : wRem v n = v % n := by
 unfold wRem at *
 have h1 := Int.tmod_add_mul_tdiv v n
 have h2 := Int.tmod_lt_of_pos v hn
 have h3 : v % n = (v.tmod n) % n := by
  conv => lhs; rw [← h1]
  rw [Int.add_mul_emod_self_left]
 rw [h3, Int.emod_eq_of_lt h h2]
theorem zo9 {v n : Int} (hn : 0 < n) : -n < wRem v n ∧ wRem v n < n := ⟨zo6 v hn, Int.tmod_lt_of_pos v hn⟩
theorem zoa {m e : Int} (hE : mkE m e = 0) : (m = 0 ∧ mkM m e = 0 ∧ mkX m e = 0) ∨ (m ≠ 0 ∧ mkM m e = dm m ∧ mkX m e = de m e ∧ vdb (dm m) (de m e) = true) := by
 by_cases hm : m = 0
 ·refine .inl ⟨hm, ?_, ?_⟩
  ·unfold mkM; rw [if_pos hE, hm, zib]
  ·unfold mkX; rw [if_neg (fun q => q.2 hm)]
 ·refine .inr ⟨hm, ?_, ?_, ?_⟩
  ·unfold mkM; rw [if_pos hE]
  ·unfold mkX; rw [if_pos ⟨hE, hm⟩]
  ·unfold mkE at hE
   split at hE
   ·omega
   ·first
    | (rw [if_neg hm] at hE; split at hE; assumption; omega)
    | (split at hE; assumption; omega)
theorem zob {m e p : Int} (hE : mkE m e = 0) (hp : -p ≤ e) (h : (-2048 : Int) ≤ p ∧ p ≤ 8192) : onB (mkM m e) (mkX m e) p = true := by
 refine decide_eq_true ⟨h, ?_⟩
 rcases zoa hE with ⟨_, h1, h2⟩ | ⟨_, h1, h2, h3⟩
 ·exact .inl h1
 ·refine .inr ?_; rw [h2]; unfold de; omega
theorem zoc {m e : Int} (h : L m.natAbs ≤ 900) (he : -60000 ≤ e ∧ e ≤ 30000) : mkE m e = 0 := by
 by_cases hm : m = 0
 ·exact (zij (by omega) hm).2.2
 ·refine (zil (by omega) hm ?_).2.2
  rw [zi9]
  have h1 := L_dm m
  have h2 := zfd (dm m).natAbs
  have h3 := tz_L m.natAbs
  have h4 := zig hm
  unfold de
  exact .inr ⟨zif hm, by omega, by omega, by omega, h4⟩
end Go.Proofs.YtcbihoojfakhdaaGreatDoor

namespace Go.Proofs.YtcbihoojfakhdaaGreatDoor
open Go.RowKit
def rawI (b : Bool) (l : List Nat) (n : Int) : Int := if (l.length : Int) ≤ n then sgn b (val l) else 0
theorem zod {b : Bool} {l : List Nat} {n : Int} (h : (l.length : Int) ≤ n) : rawI b l n = sgn b (val l) := by unfold rawI; rw [if_pos h]
theorem zoe {b : Bool} {l : List Nat} {n : Int} (h : n < (l.length : Int)) : rawI b l n = 0 := by unfold rawI; rw [if_neg (by omega)]
theorem zof {b : Bool} {l : List Nat} (hl : Dig l) {n : Int} (hn : 0 ≤ n) : (L (rawI b l n).natAbs : Int) ≤ n := by
 by_cases h : (l.length : Int) ≤ n
 ·rw [zod h]
  have := zh6 b (val l)
  have := zg6 hl
  omega
 ·rw [zoe (by omega)]
  have : L (0 : Int).natAbs = 0 := z8z
  omega
theorem zog {b : Bool} {l : List Nat} {n : Int} (h : n < (l.length : Int)) : vsub (.tup [.agg [.bool false, .nil], .bool false]) (.tup [.agg [.bool (decide (rawI b l n < 0)), N (rawI b l n).natAbs], .bool (decide ((l.length : Int) ≤ n))]) := by
 rw [zoe h, decide_eq_false (show ¬((l.length : Int) ≤ n) by omega)]
 exact z6e zin (z6b _)
theorem zoh {b : Bool} {l : List Nat} {n : Int} (h : (l.length : Int) ≤ n) : vsub (.tup [.agg [.bool (decide (sgn b (val l) < 0)), N (sgn b (val l)).natAbs], .bool true]) (.tup [.agg [.bool (decide (rawI b l n < 0)), N (rawI b l n).natAbs], .bool (decide ((l.length : Int) ≤ n))]) := by
 rw [zod h, decide_eq_true h]
 exact z6b _
theorem zoi (e : Int) : mkM 0 e = 0 ∧ mkX 0 e = 0 := by
 refine ⟨?_, ?_⟩
 ·unfold mkM; split
  ·exact zib
  ·rfl
 ·unfold mkX; rw [if_neg (fun q => q.2 rfl)]
theorem zoj {b : Bool} {l : List Nat} {n e : Int} (h : n < (l.length : Int)) : vsub (.tup [.agg [.bool false, .nil, .int .i64 0], .bool false])
  (.tup [.agg [.bool (decide (mkM (rawI b l n) e < 0)), N (mkM (rawI b l n) e).natAbs, .int .i64 (mkX (rawI b l n) e)], .bool (decide ((l.length : Int) ≤ n))]) := by
 rw [zoe h, (zoi e).1, (zoi e).2, decide_eq_false (show ¬((l.length : Int) ≤ n) by omega)]
 exact z6e zim (z6b _)
theorem zok {m e : Int} {p : Prop} [Decidable p] (h : mkE m e = 0) (hp : p) : iEq (mkE m e) 0 = decide p := by rw [h, decide_eq_true hp]; rfl
end Go.Proofs.YtcbihoojfakhdaaGreatDoor

namespace Go.Proofs.YtcbihoojfakhdaaGreatDoor
theorem zol (m e : Int) : vdb (-m) e = vdb m e := by
 unfold vdb; rw [Int.natAbs_neg]; simp only [Int.neg_eq_zero]
def scl (x n : Int) : Int := if n < 0 then x / 2 ^ (-n).toNat else x * 2 ^ n.toNat
theorem zom (x n : Int) : (L (scl x n).natAbs : Int) ≤ L x.natAbs + n.toNat / 32 + 1 := by
 unfold scl
 split
 ·have := zhg x (-n).toNat; omega
 ·have := zhe x n.toNat; omega
theorem zon (m e p : Int) : flr (dv m e) p = scl m (e + p) := by
 rw [znh]; unfold scl
 by_cases h : 0 ≤ e + p
 ·rw [if_pos h, if_neg (by omega)]
 ·rw [if_neg h, if_pos (by omega)]
def flF (n d p : Int) : Int := if 0 ≤ p then n * 2 ^ p.toNat / d else n / (d * 2 ^ (-p).toNat)
theorem zoo (r : Rat) (p : Int) : flF r.num (r.den : Int) p = flr r p := (znw r p).symm
theorem zop {x y : Int} (hy : 0 < y) : Int.fdiv x y = x / y := Int.fdiv_eq_ediv_of_nonneg _ (by omega)
theorem zoq {n d p : Int} (hd : 0 < d) (hp : 0 ≤ p) : Int.fdiv (n * 2 ^ p.toNat) d = flF n d p := by unfold flF; rw [if_pos hp, zop hd]
theorem zor {n d p : Int} (hd : 0 < d) (hp : p < 0) : Int.fdiv n (d * 2 ^ (-p).toNat) = flF n d p := by
 unfold flF; rw [if_neg (by omega), zop (Int.mul_pos hd (zip _))]
theorem zos (x y : Int) : L (x / y).natAbs ≤ L x.natAbs + 1 := by
 rcases Int.lt_trichotomy y 0 with h | h | h
 ·have h1 := zho (-x) (-y)
  rw [Int.neg_fdiv_neg] at h1
  have e : x / y = -(x / -y) := by rw [Int.ediv_neg, Int.neg_neg]
  have h2 := zho x (-y)
  rw [zop (by omega)] at h2
  rw [e, Int.natAbs_neg]; exact h2
 ·subst h; rw [Int.ediv_zero]; simp [z8z]
 ·have h1 := zho x y
  rw [zop h] at h1; exact h1
theorem zot (n d p : Int) : (L (flF n d p).natAbs : Int) ≤ L n.natAbs + p.toNat / 32 + 2 := by
 unfold flF
 split
 ·have h1 := zos (n * 2 ^ p.toNat) d
  have h2 := zhe n p.toNat
  omega
 ·have h1 := zos n (d * 2 ^ (-p).toNat)
  omega
theorem zou (r : Rat) (p : Int) : (L (flr r p).natAbs : Int) ≤ L r.num.natAbs + p.toNat / 32 + 2 ∧ (L (cei r p).natAbs : Int) ≤ L r.num.natAbs + p.toNat / 32 + 2 := by
 have h1 := zot r.num (r.den : Int) p
 have h2 := zot (-r).num ((-r).den : Int) p
 rw [zoo] at h1 h2
 rw [Rat.neg_num, Int.natAbs_neg] at h2
 unfold cei
 rw [Int.natAbs_neg]
 exact ⟨h1, h2⟩
theorem zov (m e p : Int) : (L (flr (dv m e) p).natAbs : Int) ≤ L m.natAbs + (e + p).toNat / 32 + 1 ∧ (L (cei (dv m e) p).natAbs : Int) ≤ L m.natAbs + (e + p).toNat / 32 + 1 := by
 have h1 := zom m (e + p)
 have h2 := zom (-m) (e + p)
 rw [← zon] at h1 h2
 rw [Int.natAbs_neg] at h2
 unfold cei
 rw [Int.natAbs_neg, ← zn8]
 exact ⟨h1, h2⟩
theorem zow {d : Nat} (h0 : d ≠ 0) (h : (tz d : Int) = (nbits d : Int) - 1) : d = 2 ^ tz d := by
 have h1 := zbs d
 have h2 := zbv h0
 have h3 := Nat.dvd_of_mod_eq_zero (zcb h0).1
 obtain ⟨k, hk⟩ := h3
 have e : nbits d = tz d + 1 := by omega
 rw [e, Nat.pow_succ] at h1
 have hp : 0 < 2 ^ tz d := Nat.pow_pos (by omega)
 have hk1 : k = 1 := by
  rcases Nat.lt_or_ge k 2 with q | q
  ·rcases Nat.eq_zero_or_pos k with q0 | q0
   ·rw [q0] at hk; omega
   ·omega
  ·have := Nat.mul_le_mul_left (2 ^ tz d) q; omega
 rw [hk1, Nat.mul_one] at hk
 exact hk
theorem dv_L {m e : Int} (hv : vdb m e = true) (he : -65536 ≤ e ∧ e ≤ 65536) : L (dv m e).num.natAbs ≤ L m.natAbs + 2050 ∧ L (dv m e).den ≤ 2050 := by
 by_cases h : 0 ≤ e
 ·have h1 := znu (m := m) h
  have h2 := zhe m e.toNat
  have h3 : L 1 ≤ 1 := L_le (by decide)
  rw [h1.1, h1.2]
  omega
 ·have h1 := znv hv (by omega)
  have h2 := z98 (-e).toNat
  rw [h1.1, h1.2]
  omega
end Go.Proofs.YtcbihoojfakhdaaGreatDoor

namespace Go.Proofs.YtcbihoojfakhdaaGreatDoor
open Go.RowKit
set_option maxRecDepth 100000
def r04_Gcd_0_mk (_ _ : Nat) (x : Nat × Nat) : St := ⟨mkS 21 [(0, (.val (N x.1))), (1, (.val (N x.2)))], []⟩
def r04_Gcd_0_I (a b : Nat) (x : Nat × Nat) : Prop := Nat.gcd x.1 x.2 = Nat.gcd a b ∧ L x.1 ≤ 16777216 ∧ L x.2 ≤ 16777216
def r04_Gcd_0_mu (_ _ : Nat) (x : Nat × Nat) : Nat := x.2
def r04_Gcd_0_ex (_ _ : Nat) (y : Nat) : Ex × St := (.exit 0, ⟨mkS 21 [(0, (.val (N y)))], []⟩)
def r04_Gcd_0_J (a b : Nat) (y : Nat) : Prop := y = Nat.gcd a b
abbrev r04_Gcd_0_N (a b : Nat) := NX (r04_Gcd_0_mk a b) (r04_Gcd_0_I a b) (r04_Gcd_0_mu a b) (r04_Gcd_0_ex a b) (r04_Gcd_0_J a b)
theorem zox (a b : Nat) (c0 : L a ≤ 16777216)(c1 : L b ≤ 16777216) (x0 : Nat × Nat) (hI : r04_Gcd_0_I a b x0) : LoopOk Tryz.prog Amb (loopN Tryz.f245 0) (r04_Gcd_0_mk a b x0) (fun e st_ => ∃ y, r04_Gcd_0_J a b y ∧ r04_Gcd_0_ex a b y = (e, st_)) :=
 z72 hP hAmb ⟨[0, 1], 0, []⟩ (r04_Gcd_0_mk a b) (r04_Gcd_0_I a b) (r04_Gcd_0_mu a b) (r04_Gcd_0_ex a b) (r04_Gcd_0_J a b) x0 hI (fun (x, y) => .lit <| .both (.lit <| .call (.tup [(N (x / y)), (N (x % y)), (.bool true)]) <| .fin2 ⟨[0, 1], 0, []⟩) (.fin2 ⟨[0], 0, []⟩)) (by
  rintro ⟨x, y⟩ hI
  have hI : Nat.gcd x y = Nat.gcd a b ∧ L x ≤ 16777216 ∧ L y ≤ 16777216 := hI
  obtain ⟨h1, h2, h3⟩ := hI
  have m0 := z97 x y
  have m1 := z8x y
  have m2 := zdi y
  have m3 := fun q => Nat.mod_lt x (show 0 < y from q)
  exact z6t (aI True.intro (aI (fun (h101 : (iGt ((lim y).length : Int) 0) = true) => have _gh101 := z7o h101; aI (zh5 x y oO oO oO) (have f103 := z97 x y; have f102 := z96 x y; aI tT ((z6z (y, (x % y)) (show Nat.gcd y (x % y) = Nat.gcd a b ∧ L y ≤ 16777216 ∧ L (x % y) ≤ 16777216 from ⟨(znz x y).trans h1, h3, by omega⟩) (m3 oO) : r04_Gcd_0_N a b (x, y) .normal (r04_Gcd_0_mk a b (y, (x % y))))))) (fun (h104 : (iGt ((lim y).length : Int) 0) = false) => have _gh104 := z7p h104; aI tT ((z70 0 ((r04_Gcd_0_ex a b x).2) x (show x = Nat.gcd a b from zo0 h1 oO) rfl : r04_Gcd_0_N a b (x, y) (.exit 0) ((r04_Gcd_0_ex a b x).2)))))) (by kernel_rfl))
theorem zoy (a : Nat) (b : Nat) (c0 : L a ≤ 16777216) (c1 : L b ≤ 16777216) : Impl Tryz.prog Amb 245 [(N a), (N b)] (N (Nat.gcd a b)) := by
 exact z6u hP hAmb Tryz.func245 (by kernel_rfl) (.loop ⟨[0, 1], 0, []⟩ ((r04_Gcd_0_mk a b (a, b))) (Nat) (r04_Gcd_0_ex a b) (r04_Gcd_0_J a b) (fun y => .lit <| .ret))
  (z6t (aI True.intro (aI tT (aI (rfl : (r04_Gcd_0_mk a b (a, b)) = (r04_Gcd_0_mk a b (a, b))) (aI (zox a b c0 c1 (a, b) (show Nat.gcd a (b) = Nat.gcd a b ∧ L a ≤ 16777216 ∧ L (b) ≤ 16777216 from ⟨rfl, c0, c1⟩)) (fun y (hJ : r04_Gcd_0_J a b y) => have hJ : y = Nat.gcd a b := hJ; (z6c (congrArg N hJ) : vsub (N y) (N (Nat.gcd a b)))))))) (by kernel_rfl))
theorem zoz (a : Nat) (b : Nat) (c0 : L a ≤ 16777216) (c1 : L b ≤ 16777216) (c2 : 0 < b) : Impl Tryz.prog Amb 246 [(N a), (N b)] (N (a / b)) := by
 exact z6u hP hAmb Tryz.func246 (by kernel_rfl) (.lit <| .call (.tup [(N (a / b)), (N (a % b)), (.bool true)]) <| .lit <| .ret)
  (z6t (aI True.intro (aI (zh5 a b oA oA oA) (have f2 := z97 a b; have f1 := z96 a b; (z6b (N (a / b)))))) (by kernel_rfl))
theorem zp0 (a : Nat) (b : Nat) (c0 : L a ≤ 16777216) (c1 : L b ≤ 16777216) (c2 : 0 < b) : Impl Tryz.prog Amb 225 [(N a), (N b)] (.tup [(N (a / (Nat.gcd a b))), (N (b / (Nat.gcd a b))), (.bool true)]) := by
 have e1 := z8x b
 have e2 := zdi b
 have e3 := Nat.gcd_pos_of_pos_right a (show 0 < b from c2)
 have e4 := z8y (Nat.gcd_le_right a (show 0 < b from c2))
 exact z6u hP hAmb Tryz.func225 (by kernel_rfl) (.lit <| .no <| .lit <| .call (N (Nat.gcd a b)) <| .lit <| .call (N (a / (Nat.gcd a b))) <| .lit <| .call (N (b / (Nat.gcd a b))) <| .lit <| .ret)
  (z6t (aI True.intro (aI (z84 oO : (iEq ((lim b).length : Int) 0) = false) (aI (zoy a b oA oA) (aI (zoz a (Nat.gcd a b) oA oA oA) (have f2 := z96 a (Nat.gcd a b); aI (zoz b (Nat.gcd a b) oA oA oA) (have f1 := z96 b (Nat.gcd a b); (z6b (.tup [(N (a / (Nat.gcd a b))), (N (b / (Nat.gcd a b))), (.bool true)])))))))) (by kernel_rfl))
theorem zp1 (n : Int) (d : Int) (c0 : L (n).natAbs ≤ 4000000) (c1 : L (d).natAbs ≤ 4000000) (c2 : d ≠ 0) : Impl Tryz.prog Amb 181 [(zV n), (zV d)] (.tup [(.agg [(.bool (decide ((Rat.divInt n d).num < 0))), (N (((Rat.divInt n d).num).natAbs)), (N ((Rat.divInt n d).den))]), (.int .i64 0)]) := by
 have qm := znp (n := n) c2
 exact z6u hP hAmb Tryz.func181 (by kernel_rfl) (.lits 3 <| .call (.tup [(N (n.natAbs / (Nat.gcd n.natAbs d.natAbs))), (N (d.natAbs / (Nat.gcd n.natAbs d.natAbs))), (.bool true)]) <| .lits 6 <| .call (zV (sgn (!(bEq (decide (n < 0)) (decide (d < 0)))) (n.natAbs / (Nat.gcd n.natAbs d.natAbs)))) <| .lits 3 <| .ret)
  (z6t (aI True.intro (aI (zp0 n.natAbs d.natAbs oA oA oA) (have f3 := z96 d.natAbs (Nat.gcd n.natAbs d.natAbs); have f2 := z96 n.natAbs (Nat.gcd n.natAbs d.natAbs); aI (zht (!(bEq (decide (n < 0)) (decide (d < 0)))) (n.natAbs / (Nat.gcd n.natAbs d.natAbs)) oA) (have f1 := zh6 (!(bEq (decide (n < 0)) (decide (d < 0)))) (n.natAbs / (Nat.gcd n.natAbs d.natAbs)); (by rw [qm.1, qm.2]; exact z6b _ : vsub (.tup [(.agg [(.bool (decide ((sgn (!(bEq (decide (n < 0)) (decide (d < 0)))) (n.natAbs / (Nat.gcd n.natAbs d.natAbs))) < 0))), (N ((sgn (!(bEq (decide (n < 0)) (decide (d < 0)))) (n.natAbs / (Nat.gcd n.natAbs d.natAbs))).natAbs)), (N (d.natAbs / (Nat.gcd n.natAbs d.natAbs)))]), (.int .i64 0)]) (.tup [(.agg [(.bool (decide ((Rat.divInt n d).num < 0))), (N (((Rat.divInt n d).num).natAbs)), (N ((Rat.divInt n d).den))]), (.int .i64 0)])))))) (by kernel_rfl))
theorem zp2 (n : Int) (d : Int) (c0 : L (n).natAbs ≤ 4000000) (c1 : L (d).natAbs ≤ 4000000) (c2 : d ≠ 0) : Impl Tryz.prog Amb 114 [(zV n), (zV d)] (.agg [(.bool (decide ((Rat.divInt n d).num < 0))), (N (((Rat.divInt n d).num).natAbs)), (N ((Rat.divInt n d).den))]) := by
 exact z6u hP hAmb Tryz.func114 (by kernel_rfl) (.lits 3 <| .call (.tup [(.agg [(.bool (decide ((Rat.divInt n d).num < 0))), (N (((Rat.divInt n d).num).natAbs)), (N ((Rat.divInt n d).den))]), (.int .i64 0)]) <| .lits 4 <| .ret)
  (z6t (aI True.intro (aI (zp1 n d oA oA oA) (have f1 := q_L (n := n) (show d ≠ 0 by first | assumption | omega | decide); (z6b (.agg [(.bool (decide ((Rat.divInt n d).num < 0))), (N (((Rat.divInt n d).num).natAbs)), (N ((Rat.divInt n d).den))]))))) (by kernel_rfl))
theorem zp3 (r : Rat) (c0 : L r.num.natAbs ≤ 1000000) (c1 : L r.den ≤ 1000000) : Impl Tryz.prog Amb 180 [(.agg [(.bool (decide (r.num < 0))), (N r.num.natAbs), (N r.den)])] (zV (r.den : Int)) := by
 exact z6u hP hAmb Tryz.func180 (by kernel_rfl) (.lits 2 <| .call (zV (sgn false r.den)) <| .lits 2 <| .ret)
  (z6t (aI True.intro (aI (zht false r.den oA) (have f1 := zh6 false r.den; (Z_of (zdb _) : vsub (zV (sgn false r.den)) (zV (r.den : Int)))))) (by kernel_rfl))
theorem zp4 (n : Int) (c0 : (-9223372036854775808 : Int) ≤ n ∧ n ≤ 9223372036854775807) : Impl Tryz.prog Amb 58 [(.int .i64 n)] (.agg [(.bool (decide ((Int.cast n : Rat).num < 0))), (N (((Int.cast n : Rat).num).natAbs)), (N ((Int.cast n : Rat).den))]) := by
 exact z6u hP hAmb Tryz.func58 (by kernel_rfl) (.lit <| .call (zV n) <| .lit <| .call (zV (1 : Int)) <| .lit <| .call (.agg [(.bool (decide ((Rat.divInt n (1 : Int)).num < 0))), (N (((Rat.divInt n (1 : Int)).num).natAbs)), (N ((Rat.divInt n (1 : Int)).den))]) <| .lits 2 <| .ret)
  (z6t (aI True.intro (aI (zhv n oA) (have f3 := (zh8 oA : L (n : Int).natAbs ≤ 2); aI (zhv 1 oA) (have f2 := (zh8 oA : L (1 : Int).natAbs ≤ 2); aI (zp2 n (1 : Int) oA oA oA) (have f1 := q_L (n := n) (show (1 : Int) ≠ 0 by first | assumption | omega | decide); (by rw [zns]; exact z6b _ : vsub (.agg [(.bool (decide ((Rat.divInt n (1 : Int)).num < 0))), (N (((Rat.divInt n (1 : Int)).num).natAbs)), (N ((Rat.divInt n (1 : Int)).den))]) (.agg [(.bool (decide ((Int.cast n : Rat).num < 0))), (N (((Int.cast n : Rat).num).natAbs)), (N ((Int.cast n : Rat).den))]))))))) (by kernel_rfl))
theorem zp5 (r : Rat) (c0 : L r.num.natAbs ≤ 1000000) (c1 : L r.den ≤ 1000000) : Impl Tryz.prog Amb 233 [(.agg [(.bool (decide (r.num < 0))), (N r.num.natAbs), (N r.den)])] (.agg [(.bool (decide ((-r).num < 0))), (N (((-r).num).natAbs)), (N ((-r).den))]) := by
 exact z6u hP hAmb Tryz.func233 (by kernel_rfl) (.lits 2 <| .call (zV (-r.num)) <| .lits 4 <| .ret)
  (z6t (aI True.intro (aI (zhy r.num oA) (have f1 := zdh r.num; (by rw [(znt r).1, (znt r).2]; exact z6b _ : vsub (.agg [(.bool (decide ((-r.num) < 0))), (N ((-r.num).natAbs)), (N r.den)]) (.agg [(.bool (decide ((-r).num < 0))), (N (((-r).num).natAbs)), (N ((-r).den))]))))) (by kernel_rfl))
theorem zp6 (r : Rat) (s : Rat) (c0 : L r.num.natAbs ≤ 1000000) (c1 : L r.den ≤ 1000000) (c2 : L s.num.natAbs ≤ 1000000) (c3 : L s.den ≤ 1000000) : Impl Tryz.prog Amb 113 [(.agg [(.bool (decide (r.num < 0))), (N r.num.natAbs), (N r.den)]), (.agg [(.bool (decide (s.num < 0))), (N s.num.natAbs), (N s.den)])] (.int .i64 (cmpQ r s)) := by
 exact z6u hP hAmb Tryz.func113 (by kernel_rfl) (.lits 3 <| .call (zV (s.den : Int)) <| .lit <| .call (zV (r.num * (s.den : Int))) <| .lits 3 <| .call (zV (r.den : Int)) <| .lit <| .call (zV (s.num * (r.den : Int))) <| .lit <| .call (.int .i64 (cmpI (r.num * (s.den : Int)) (s.num * (r.den : Int)))) <| .lit <| .ret)
  (z6t (aI True.intro (aI (zp3 s oA oA) (have f7 := znq s; have f6 := zo1 s; aI (zi1 r.num (s.den : Int) oA oA) (have f5 := zdg r.num (s.den : Int); aI (zp3 r oA oA) (have f4 := znq r; have f3 := zo1 r; aI (zi1 s.num (r.den : Int) oA oA) (have f2 := zdg s.num (r.den : Int); aI (zi2 (r.num * (s.den : Int)) (s.num * (r.den : Int)) oA oA) (have f1 := zhc (r.num * (s.den : Int)) (s.num * (r.den : Int)); (z6c (congrArg (V.int .i64) (znr r s)) : vsub (.int .i64 (cmpI (r.num * (s.den : Int)) (s.num * (r.den : Int)))) (.int .i64 (cmpQ r s)))))))))) (by kernel_rfl))
theorem zp7 (n : Int) (c0 : (0 : Int) ≤ n ∧ n ≤ 200000) : Impl Tryz.prog Amb 167 [(.int .i64 n)] (N (1 * 2 ^ (n).toNat)) := by
 have l1 := L_le (n := 1) (k := 1) (by decide)
 exact z6u hP hAmb Tryz.func167 (by kernel_rfl) (.lit <| .call (N 1) <| .lit <| .call (N (1 * 2 ^ (n).toNat)) <| .lit <| .ret)
  (z6t (aI True.intro (aI (zgi 1 oA) (aI (zgp 1 n oA oA) (have f1 := z99 1 (n).toNat; (z6b (N (1 * 2 ^ (n).toNat))))))) (by kernel_rfl))
theorem zp8 (m : Int) (e : Int) (c0 : L (m).natAbs ≤ 100000) (c1 : (-65536 : Int) ≤ e ∧ e ≤ 65536) (c2 : vdb m e = true) : Impl Tryz.prog Amb 97 [(yV m e)] (.agg [(.bool (decide ((dv m e).num < 0))), (N (((dv m e).num).natAbs)), (N ((dv m e).den))]) := by
 exact z6u hP hAmb Tryz.func97 (by kernel_rfl) (.lits 2 <| .both (.lits 3 <| .call (zV (m * 2 ^ (e).toNat)) <| .lit <| .call (N 1) <| .lits 3 <| .ret) (.lits 3 <| .yes <| .lit <| .call (N (1 * 2 ^ (((0 : Int) - e)).toNat)) <| .lits 3 <| .ret))
  (z6t (aI True.intro (aI (fun (h1 : (iGe e 0) = true) => have _gh1 := z7q h1; aI (zi3 m e oA oA) (have f2 := zhe m (e).toNat; aI (zgi 1 oA) ((by rw [(znu (show 0 ≤ e by omega)).1, (znu (m := m) (show 0 ≤ e by omega)).2]; exact z6b _ : vsub (.agg [(.bool (decide ((m * 2 ^ (e).toNat) < 0))), (N ((m * 2 ^ (e).toNat).natAbs)), (N 1)]) (.agg [(.bool (decide ((dv m e).num < 0))), (N (((dv m e).num).natAbs)), (N ((dv m e).den))]))))) (fun (h3 : (iGe e 0) = false) => have _gh3 := z7r h3; aI (z89 oA : (fits .i64 ((0 : Int) - e)) = true) (aI (zp7 ((0 : Int) - e) oA) (have f4 := z99 1 (((0 : Int) - e)).toNat; (by rw [(znv c2 (show e < 0 by omega)).1, (znv c2 (show e < 0 by omega)).2, show (0 - e) = -e by omega, Nat.one_mul]; exact z6b _ : vsub (.agg [(.bool (decide (m < 0))), (N m.natAbs), (N (1 * 2 ^ (((0 : Int) - e)).toNat))]) (.agg [(.bool (decide ((dv m e).num < 0))), (N (((dv m e).num).natAbs)), (N ((dv m e).den))]))))))) (by kernel_rfl))
theorem zp9 (r : Rat) (p : Int) (c0 : L r.num.natAbs ≤ 100000) (c1 : L r.den ≤ 30000) (c2 : (-10000 : Int) ≤ p ∧ p ≤ 10000) : Impl Tryz.prog Amb 98 [(.agg [(.bool (decide (r.num < 0))), (N r.num.natAbs), (N r.den)]), (.int .i64 p)] (zV (flr r p)) := by
 have n0 := zbv r.den_nz
 have n1 := zfd r.den
 have t1 := fun q => zow r.den_nz q
 have d0 := znq r
 have d1 : (0 : Int) < (r.den : Int) := by omega
 have d2 := zo1 r
 have d3 : sgn false r.den = (r.den : Int) := zdb _
 have d4 := zdc false r.den
 have l1 := z99 r.den (-p).toNat
 have d5 := zip (0 - p).toNat
 have d6 : (r.den : Int) * 2 ^ (0 - p).toNat ≠ 0 := Int.mul_ne_zero d0 (Int.ne_of_gt d5)
 have d7 := zhe (sgn false r.den) (0 - p).toNat
 exact z6u hP hAmb Tryz.func98 (by kernel_rfl) (.lits 2 <| .call (.int .i64 (nbits r.den : Int)) <| .lit <| .yes <| .lits 2 <| .call (.int .i64 (tz r.den : Int)) <| .lit <| .both (.lit <| .both (.lits 2 <| .yes <| .lit <| .call (zV (r.num * 2 ^ ((p - ((nbits r.den : Int) - 1))).toNat)) <| .lits 2 <| .ret) (.lits 2 <| .yes <| .lit <| .call (zV (r.num / 2 ^ ((((nbits r.den : Int) - 1) - p)).toNat)) <| .lits 2 <| .ret)) (.lits 3 <| .call (zV (sgn false r.den)) <| .lit <| .both (.lits 2 <| .call (zV (r.num * 2 ^ (p).toNat)) <| .lits 4 <| .call (.tup [(zV (Int.fdiv (r.num * 2 ^ (p).toNat) (sgn false r.den))), (zV ((r.num * 2 ^ (p).toNat) - (Int.fdiv (r.num * 2 ^ (p).toNat) (sgn false r.den)) * (sgn false r.den))), (.bool true)]) <| .lits 5 <| .ret) (.lits 2 <| .yes <| .lit <| .call (zV ((sgn false r.den) * 2 ^ (((0 : Int) - p)).toNat)) <| .lits 4 <| .call (.tup [(zV (Int.fdiv r.num ((sgn false r.den) * 2 ^ (((0 : Int) - p)).toNat))), (zV (r.num - (Int.fdiv r.num ((sgn false r.den) * 2 ^ (((0 : Int) - p)).toNat)) * ((sgn false r.den) * 2 ^ (((0 : Int) - p)).toNat))), (.bool true)]) <| .lits 5 <| .ret)))
  (z6t (aI True.intro (aI (zgu r.den (by first | omega | (rw [d3]; first | omega | assumption))) (have f15 := zfd r.den; aI (z89 (by first | omega | (rw [d3]; first | omega | assumption)) : (fits .i64 ((nbits r.den : Int) - 1)) = true) (aI (zgw r.den (by first | omega | (rw [d3]; first | omega | assumption))) (have f14 := tz_L r.den; aI (fun (h1 : (iEq (tz r.den : Int) ((nbits r.den : Int) - 1)) = true) => have _gh1 := z7s h1; aI (fun (h2 : (iGe p ((nbits r.den : Int) - 1)) = true) => have _gh2 := z7q h2; aI (z89 (by first | omega | (rw [d3]; first | omega | assumption)) : (fits .i64 (p - ((nbits r.den : Int) - 1))) = true) (aI (zi3 r.num (p - ((nbits r.den : Int) - 1)) (by first | omega | (rw [d3]; first | omega | assumption)) (by first | omega | (rw [d3]; first | omega | assumption))) (have f3 := zhe r.num ((p - ((nbits r.den : Int) - 1))).toNat; (Z_of (by rw [znx (t1 oO) oO]; congr 3; omega) : vsub (zV (r.num * 2 ^ ((p - ((nbits r.den : Int) - 1))).toNat)) (zV (flr r p)))))) (fun (h4 : (iGe p ((nbits r.den : Int) - 1)) = false) => have _gh4 := z7r h4; aI (z89 (by first | omega | (rw [d3]; first | omega | assumption)) : (fits .i64 (((nbits r.den : Int) - 1) - p)) = true) (aI (zi4 r.num (((nbits r.den : Int) - 1) - p) (by first | omega | (rw [d3]; first | omega | assumption)) (by first | omega | (rw [d3]; first | omega | assumption))) (have f5 := zhg r.num ((((nbits r.den : Int) - 1) - p)).toNat; (Z_of (by rw [zny (t1 oO) oO]; congr 3; omega) : vsub (zV (r.num / 2 ^ ((((nbits r.den : Int) - 1) - p)).toNat)) (zV (flr r p))))))) (fun (h6 : (iEq (tz r.den : Int) ((nbits r.den : Int) - 1)) = false) => have _gh6 := z7t h6; aI (zht false r.den (by first | omega | (rw [d3]; first | omega | assumption))) (have f13 := zh6 false r.den; aI (fun (h7 : (iGe p 0) = true) => have _gh7 := z7q h7; aI (zi3 r.num p (by first | omega | (rw [d3]; first | omega | assumption)) (by first | omega | (rw [d3]; first | omega | assumption))) (have f9 := zhe r.num (p).toNat; aI (zi5 (r.num * 2 ^ (p).toNat) (sgn false r.den) (by first | omega | (rw [d3]; first | omega | assumption)) (by first | omega | (rw [d3]; first | omega | assumption)) (by first | omega | (rw [d3]; first | omega | assumption))) (have f8 := zho (r.num * 2 ^ (p).toNat) (sgn false r.den); (Z_of (by rw [d3, zoq d1 oO, zoo]) : vsub (zV (Int.fdiv (r.num * 2 ^ (p).toNat) (sgn false r.den))) (zV (flr r p)))))) (fun (h10 : (iGe p 0) = false) => have _gh10 := z7r h10; aI (z89 (by first | omega | (rw [d3]; first | omega | assumption)) : (fits .i64 ((0 : Int) - p)) = true) (aI (zi3 (sgn false r.den) ((0 : Int) - p) (by first | omega | (rw [d3]; first | omega | assumption)) (by first | omega | (rw [d3]; first | omega | assumption))) (have f12 := zhe (sgn false r.den) (((0 : Int) - p)).toNat; aI (zi5 r.num ((sgn false r.den) * 2 ^ (((0 : Int) - p)).toNat) (by first | omega | (rw [d3]; first | omega | assumption)) (by first | omega | (rw [d3]; first | omega | assumption)) (by first | omega | (rw [d3]; first | omega | assumption))) (have f11 := zho r.num ((sgn false r.den) * 2 ^ (((0 : Int) - p)).toNat); (Z_of (by rw [d3, show (0 : Int) - p = -p by omega, zor d1 oO, zoo]) : vsub (zV (Int.fdiv r.num ((sgn false r.den) * 2 ^ (((0 : Int) - p)).toNat))) (zV (flr r p)))))))))))))) (by kernel_rfl))
theorem zpa (r : Rat) (p : Int) (c0 : L r.num.natAbs ≤ 30000) (c1 : L r.den ≤ 30000) (c2 : (-2048 : Int) ≤ p ∧ p ≤ 8192) : Impl Tryz.prog Amb 195 [(.agg [(.bool (decide (r.num < 0))), (N r.num.natAbs), (N r.den)]), (.int .i64 p)] (.tup [(yV (mkM (flr r p) (-p)) (mkX (flr r p) (-p))), (.int .i64 (mkE (flr r p) (-p)))]) := by
 have ez : (0 : Int) - p = -p := Int.zero_sub p
 exact z6u hP hAmb Tryz.func195 (by kernel_rfl) (.lit <| .call (.bool (decide ((-2048 : Int) ≤ p ∧ p ≤ 8192))) <| .lit <| .no <| .lits 2 <| .call (zV (flr r p)) <| .lit <| .yes <| .lit <| .call (.tup [(yV (mkM (flr r p) ((0 : Int) - p)) (mkX (flr r p) ((0 : Int) - p))), (.int .i64 (mkE (flr r p) ((0 : Int) - p)))]) <| .lits 2 <| .ret)
  (z6t (aI True.intro (aI (zjx p oA) (aI (zjs oO : (!(decide ((-2048 : Int) ≤ p ∧ p ≤ 8192))) = false) (aI (zp9 r p oA oA oA) (have f2 := zou r p; aI (z89 oA : (fits .i64 ((0 : Int) - p)) = true) (aI (zjg (flr r p) ((0 : Int) - p) oA oA) (have f1 := zih (flr r p) ((0 : Int) - p); (by rw [ez]; exact z6b _ : vsub (.tup [(yV (mkM (flr r p) ((0 : Int) - p)) (mkX (flr r p) ((0 : Int) - p))), (.int .i64 (mkE (flr r p) ((0 : Int) - p)))]) (.tup [(yV (mkM (flr r p) (-p)) (mkX (flr r p) (-p))), (.int .i64 (mkE (flr r p) (-p)))]))))))))) (by kernel_rfl))
theorem zpb (r : Rat) (p : Int) (c0 : L r.num.natAbs ≤ 30000) (c1 : L r.den ≤ 30000) (c2 : (-2048 : Int) ≤ p ∧ p ≤ 8192) : Impl Tryz.prog Amb 196 [(.agg [(.bool (decide (r.num < 0))), (N r.num.natAbs), (N r.den)]), (.int .i64 p)] (.tup [(yV (mkM (cei r p) (-p)) (mkX (cei r p) (-p))), (.int .i64 (mkE (cei r p) (-p)))]) := by
 have ez : (0 : Int) - p = -p := Int.zero_sub p
 exact z6u hP hAmb Tryz.func196 (by kernel_rfl) (.lit <| .call (.bool (decide ((-2048 : Int) ≤ p ∧ p ≤ 8192))) <| .lit <| .no <| .lits 2 <| .call (.agg [(.bool (decide ((-r).num < 0))), (N (((-r).num).natAbs)), (N ((-r).den))]) <| .lit <| .call (zV (flr (-r) p)) <| .lit <| .call (zV (-(flr (-r) p))) <| .lit <| .yes <| .lit <| .call (.tup [(yV (mkM (-(flr (-r) p)) ((0 : Int) - p)) (mkX (-(flr (-r) p)) ((0 : Int) - p))), (.int .i64 (mkE (-(flr (-r) p)) ((0 : Int) - p)))]) <| .lits 2 <| .ret)
  (z6t (aI True.intro (aI (zjx p oA) (aI (zjs oO : (!(decide ((-2048 : Int) ≤ p ∧ p ≤ 8192))) = false) (aI (zp5 r oA oA) (have f4 := zo3 r; aI (zp9 (-r) p oA oA oA) (have f3 := zou (-r) p; aI (zhy (flr (-r) p) oA) (have f2 := zdh (flr (-r) p); aI (z89 oA : (fits .i64 ((0 : Int) - p)) = true) (aI (zjg (-(flr (-r) p)) ((0 : Int) - p) oA oA) (have f1 := zih (-(flr (-r) p)) ((0 : Int) - p); (by rw [ez]; exact z6b _ : vsub (.tup [(yV (mkM (-(flr (-r) p)) ((0 : Int) - p)) (mkX (-(flr (-r) p)) ((0 : Int) - p))), (.int .i64 (mkE (-(flr (-r) p)) ((0 : Int) - p)))]) (.tup [(yV (mkM (cei r p) (-p)) (mkX (cei r p) (-p))), (.int .i64 (mkE (cei r p) (-p)))]))))))))))) (by kernel_rfl))
end Go.Proofs.YtcbihoojfakhdaaGreatDoor



namespace Go.Proofs.YtcbihoojfakhdaaGreatDoor
theorem zpc {m e n f : Int} : cmpD n f m e < 0 ↔ dv n f < dv m e := by
 rw [znb]
 rcases zo4 (dv n f) (dv m e) with ⟨h, k⟩ | ⟨h, k⟩ | ⟨h, k⟩
 ·rw [h]; exact ⟨fun _ => k, fun _ => by omega⟩
 ·rw [h]; exact ⟨fun q => by omega, fun q => absurd (Rat.lt_iff_le_and_ne.1 q).1 (Rat.not_le.2 k)⟩
 ·rw [h, k]; exact ⟨fun q => by omega, fun q => absurd q Rat.lt_irrefl⟩
theorem zpd {m e n f : Int} : 0 < cmpD n f m e ↔ dv m e < dv n f := by
 rw [zj2, ← zpc]; omega
theorem zpe {P : Program} {C : World → Prop} {f : FuncId} {ds : List V} {r r' : V} (h : r = r') (k : Impl P C f ds r) : Impl P C f ds r' := h ▸ k
end Go.Proofs.YtcbihoojfakhdaaGreatDoor



namespace Go.Proofs.YtcbihoojfakhdaaGreatDoor
open Go.RowKit
set_option maxRecDepth 100000
theorem zpf (v : Int) (n : Int) (c0 : (0 : Int) < n ∧ n ≤ 1000000000) (c1 : (-9223372036854775808 : Int) ≤ v ∧ v ≤ 9223372036854775807) : Impl Tryz.prog Amb 16 [(.int .i64 v), (.int .i64 n)] (.int .i64 (v % n)) := by
 have r0 := zo9 (v := v) (n := n) oO
 exact z6u hP hAmb Tryz.func16 (by kernel_rfl) (.yes <| .lit <| .both (.lit <| .yes <| .lit <| .ret) (.lit <| .ret))
  (z6t (aI True.intro (aI (z80 oA : (iNe n 0) = true) (aI (fun (h1 : (iLt (wRem v n) 0) = true) => have _gh1 := z7k h1; aI (z89 oA : (fits .i64 ((wRem v n) + n)) = true) ((z6c (congrArg (V.int .i64) (zo7 oO oO)) : vsub (.int .i64 ((wRem v n) + n)) (.int .i64 (v % n))))) (fun (h2 : (iLt (wRem v n) 0) = false) => have _gh2 := z7l h2; (z6c (congrArg (V.int .i64) (zo8 oO oO)) : vsub (.int .i64 (wRem v n)) (.int .i64 (v % n))))))) (by kernel_rfl))
theorem zpg (b : Bool) (l : List Nat) (n : Int) (c0 : Dig l) (c1 : l.length ≤ 9223372036854775807) (c2 : (0 : Int) ≤ n ∧ n ≤ 1000) : Impl Tryz.prog Amb 66 [(.agg [(.bool b), (.sl 1 (U l))]), (.int .i64 n)] (.tup [(zV (rawI b l n)), (.bool (decide ((l.length : Int) ≤ n)))]) := by
 have e0 := z73 l
 exact z6u hP hAmb Tryz.func66 (by kernel_rfl) (.lits 2 <| .both (.lits 3 <| .ret) (.lits 3 <| .call (zV (sgn b (val l))) <| .lits 2 <| .ret))
  (z6t (aI True.intro (aI (fun (h1 : (iGt ((U l).length : Int) n) = true) => have _gh1 := z7o h1; (zog oO : vsub (.tup [(.agg [(.bool false), .nil]), (.bool false)]) (.tup [(zV (rawI b l n)), (.bool (decide ((l.length : Int) ≤ n)))]))) (fun (h2 : (iGt ((U l).length : Int) n) = false) => have _gh2 := z7p h2; aI (zhu b (U l) l rfl c0 oO) (have f4 := zg6 ‹Dig l›; have f3 := zh6 b (val l); (zoh oO : vsub (.tup [(zV (sgn b (val l))), (.bool true)]) (.tup [(zV (rawI b l n)), (.bool (decide ((l.length : Int) ≤ n)))])))))) (by kernel_rfl))
theorem zph (b : Bool) (l : List Nat) (e : Int) (n : Int) (k : Int) (c0 : Dig l) (c1 : l.length ≤ 9223372036854775807) (c2 : (-9223372036854775808 : Int) ≤ e ∧ e ≤ 9223372036854775807) (c3 : (0 : Int) ≤ n ∧ n ≤ 800) (c4 : (0 : Int) ≤ k ∧ k ≤ 20000) : Impl Tryz.prog Amb 15 [(.agg [(.bool b), (.sl 1 (U l)), (.int .i64 e)]), (.int .i64 n), (.int .i64 k)] (.tup [(yV (mkM (rawI b l n) (e % (2 * k + 1) - k)) (mkX (rawI b l n) (e % (2 * k + 1) - k))), (.bool (decide ((l.length : Int) ≤ n)))]) := by
 have ej := Int.emod_nonneg e (show (2 * k + 1 : Int) ≠ 0 by omega)
 have ek := Int.emod_lt_of_pos e (show (0 : Int) < 2 * k + 1 by omega)
 exact z6u hP hAmb Tryz.func15 (by kernel_rfl) (.lits 2 <| .call (.tup [(zV (rawI b l n)), (.bool (decide ((l.length : Int) ≤ n)))]) <| .lits 2 <| .both (.lits 3 <| .ret) (.lits 3 <| .yes <| .lit <| .yes <| .lit <| .call (.int .i64 (e % (((2 : Int) * k) + 1))) <| .lit <| .yes <| .lit <| .call (mkT (rawI b l n) ((e % (((2 : Int) * k) + 1)) - k)) <| .lits 4 <| .ret))
  (z6t (aI True.intro (aI (zpg b l n oA oA oA) (have f6 := (zof (b := b) ‹Dig l› (show (0 : Int) ≤ n by first | omega | (simp <;> omega))); aI (fun (h1 : (!(decide ((l.length : Int) ≤ n))) = true) => have _gh1 := of_decide_eq_false (z86 h1); (zoj oO : vsub (.tup [(.agg [(.bool false), .nil, (.int .i64 0)]), (.bool false)]) (.tup [(yV (mkM (rawI b l n) (e % (2 * k + 1) - k)) (mkX (rawI b l n) (e % (2 * k + 1) - k))), (.bool (decide ((l.length : Int) ≤ n)))]))) (fun (h2 : (!(decide ((l.length : Int) ≤ n))) = false) => have _gh2 := of_decide_eq_true (z87 h2); aI (z89 oA : (fits .i64 ((2 : Int) * k)) = true) (aI (z89 oA : (fits .i64 (((2 : Int) * k) + 1)) = true) (aI (zpf e (((2 : Int) * k) + 1) oA oA) (have f5 := Int.emod_lt_of_pos e (show (0 : Int) < (((2 : Int) * k) + 1) by first | omega | (simp <;> omega)); have f4 := Int.emod_nonneg e (show ((((2 : Int) * k) + 1) : Int) ≠ 0 by first | omega | (simp <;> omega)); aI (z89 oA : (fits .i64 ((e % (((2 : Int) * k) + 1)) - k)) = true) (aI (zjg (rawI b l n) ((e % (((2 : Int) * k) + 1)) - k) oA oA) (have f3 := zih (rawI b l n) ((e % (((2 : Int) * k) + 1)) - k); (z6e (z6b _) (z6c (congrArg V.bool (zok (zoc oO oO) oO))) : vsub (.tup [(yV (mkM (rawI b l n) ((e % (((2 : Int) * k) + 1)) - k)) (mkX (rawI b l n) ((e % (((2 : Int) * k) + 1)) - k))), (.bool (iEq (mkE (rawI b l n) ((e % (((2 : Int) * k) + 1)) - k)) 0))]) (.tup [(yV (mkM (rawI b l n) (e % (2 * k + 1) - k)) (mkX (rawI b l n) (e % (2 * k + 1) - k))), (.bool (decide ((l.length : Int) ≤ n)))]))))))))))) (by kernel_rfl))
end Go.Proofs.YtcbihoojfakhdaaGreatDoor

namespace Go.Proofs.YtcbihoojfakhdaaGreatDoor
theorem zpi {m e : Int} (hE : mkE m e = 0) : (m = 0 ∧ mkX m e = 0) ∨ (m ≠ 0 ∧ e ≤ mkX m e ∧ mkX m e ≤ e + 32 * (L m.natAbs : Int)) := by
 rcases zoa hE with ⟨h, _, k⟩ | ⟨h, _, k, _⟩
 ·exact .inl ⟨h, k⟩
 ·have := tz_L m.natAbs
  refine .inr ⟨h, ?_, ?_⟩ <;> rw [k] <;> unfold de <;> omega
theorem zpj {m e : Int} (h : L m.natAbs ≤ 900) (he : -60000 ≤ e ∧ e ≤ 30000) : mkE m e = 0 ∧ L (mkM m e).natAbs ≤ L m.natAbs ∧ iMin e 0 ≤ mkX m e ∧ mkX m e ≤ iMax e 0 + 32 * (L m.natAbs : Int) ∧ vdb (mkM m e) (mkX m e) = true ∧ dv (mkM m e) (mkX m e) = dv m e := by
 have hE := zoc h he
 have h1 := zih m e
 have h2 := zia e 0
 have h3 : e ≤ iMax e 0 ∧ 0 ≤ iMax e 0 := by unfold iMax; split <;> omega
 refine ⟨hE, h1.1, ?_, ?_, znf, zne hE⟩ <;> rcases zpi hE with ⟨_, k⟩ | ⟨_, k, l⟩ <;> omega
theorem zpk {n : Int} (h : -9223372036854775808 ≤ n ∧ n ≤ 9223372036854775807) : mkE n 0 = 0 ∧ L (mkM n 0).natAbs ≤ 2 ∧ 0 ≤ mkX n 0 ∧ mkX n 0 ≤ 64 ∧ vdb (mkM n 0) (mkX n 0) = true ∧ dv (mkM n 0) (mkX n 0) = (n : Rat) := by
 have hl := zh8 h
 have h1 := zpj (m := n) (e := 0) (by omega) (by omega)
 have h2 : iMin 0 0 = 0 := rfl
 have h3 : iMax 0 0 = 0 := rfl
 rw [h2, h3, zn7] at h1
 exact ⟨h1.1, by omega, h1.2.2.1, by omega, h1.2.2.2.2.1, h1.2.2.2.2.2⟩
theorem zpl {x y : Rat} : cmpQ x y ≤ 0 ↔ x ≤ y := by
 rcases zo4 x y with ⟨q, k⟩ | ⟨q, k⟩ | ⟨q, k⟩
 ·exact ⟨fun _ => Rat.le_of_lt k, fun _ => by omega⟩
 ·exact ⟨fun h => by omega, fun h => absurd h (Rat.not_le.2 k)⟩
 ·exact ⟨fun _ => by rw [k]; exact Rat.le_refl, fun _ => by omega⟩
end Go.Proofs.YtcbihoojfakhdaaGreatDoor

namespace Go.Proofs.YtcbihoojfakhdaaGreatDoor
theorem zpm {a b : Int} (h : a ≤ 0) : iLe b 0 = decide (a ≤ 0 ∧ b ≤ 0) := by unfold iLe; by_cases q : b ≤ 0 <;> simp [q, h]
end Go.Proofs.YtcbihoojfakhdaaGreatDoor

namespace Go.Proofs.YtcbihoojfakhdaaGreatDoor
theorem oM {p : Prop} (h : p := by first | omega | exact ml_fine (by omega) (by omega) (by omega) (by omega) | exact ad_fine (by omega) (by omega) (by omega) (by omega) | exact (en_vdb _ _ _).1 | exact (en_vdb _ _ _).2) : p := h
theorem oD {p : Prop} (h : p := by first | omega | exact ml_fine (by omega) (by omega) (by omega) (by omega) | exact ad_fine (by omega) (by omega) (by omega) (by omega) | exact (en_vdb _ _ _).1 | exact (en_vdb _ _ _).2 | decide) : p := h
theorem oN {p : Prop} (h : p := by first | omega | exact ml_fine (by omega) (by omega) (by omega) (by omega) | exact ad_fine (by omega) (by omega) (by omega) (by omega) | exact (en_vdb _ _ _).1 | exact (en_vdb _ _ _).2 | assumption) : p := h
theorem oN2 {p : Prop} (h : p := by first | omega | exact ml_fine (by omega) (by omega) (by omega) (by omega) | exact ad_fine (by omega) (by omega) (by omega) (by omega) | exact (en_vdb _ _ _).1 | exact (en_vdb _ _ _).2 | assumption | exact ad_fine (by omega) (by omega) (by omega) (by omega)) : p := h
theorem oP {p : Prop} (h : p := by first | assumption | omega | exact o1.2.2.2.2.1) : p := h
theorem oW {p : Prop} (h : p := by first | assumption | exact pw_or (by omega) | (simp; done) | omega) : p := h
theorem oS {p : Prop} (h : p := by first | omega | assumption) : p := h
theorem oR {p : Prop} (h : p := by first | omega | assumption | exact Rat.le_refl) : p := h
theorem oT {p : Prop} (h : p := by first | assumption | omega | exact Rat.le_refl | exact of0.2.2.2.2.1) : p := h
theorem oU {p : Prop} (h : p := by first | assumption | omega) : p := h
end Go.Proofs.YtcbihoojfakhdaaGreatDoor


namespace Go.Proofs.YtcbihoojfakhdaaGreatDoor
theorem zpn {m e n f : Int} {a c : Nat} (hm : L m.natAbs ≤ a) (hn : L n.natAbs ≤ a) (h : e - f ≤ 32 * c) (k : f - e ≤ 32 * c) : L (adS m e n f).natAbs ≤ a + c + 2 := by
 have h0 := zia e f
 have h1 := zhe m (e - iMin e f).toNat
 have h2 := zhe n (f - iMin e f).toNat
 have h3 := zdf (m * 2 ^ (e - iMin e f).toNat) (n * 2 ^ (f - iMin e f).toNat)
 unfold adS
 omega
end Go.Proofs.YtcbihoojfakhdaaGreatDoor



namespace Go.Proofs.YtcbihoojfakhdaaGreatDoor
theorem fl_R {a T : Int} (hT : 0 < T) : ((a / T : Int) : Rat) * (T : Rat) ≤ (a : Rat) ∧ (a : Rat) < ((a / T : Int) : Rat) * (T : Rat) + (T : Rat) := by
 have h1 := Int.ediv_mul_le a (show T ≠ 0 by omega)
 have h2 := Int.lt_ediv_add_one_mul_self a hT
 rw [Int.add_mul, Int.one_mul] at h2
 rw [← Rat.intCast_mul, ← Rat.intCast_add, Rat.intCast_le_intCast, Rat.intCast_lt_intCast]
 exact ⟨h1, h2⟩
theorem ce_R {a T : Int} (hT : 0 < T) : (a : Rat) ≤ ((-(-a / T) : Int) : Rat) * (T : Rat) ∧ ((-(-a / T) : Int) : Rat) * (T : Rat) < (a : Rat) + (T : Rat) := by
 have h := fl_R (a := -a) hT
 rw [Rat.intCast_neg] at h ⊢
 constructor <;> grind
theorem zpo {a n : Int} {y : Rat} (hn : 0 < n) (h : (a : Rat) ≤ y) : ((a / n : Int) : Rat) ≤ y / (n : Rat) := by
 have n0 : (0 : Rat) < n := Rat.intCast_pos.2 hn
 have f := (fl_R (a := a) hn).1
 have e := Rat.div_mul_cancel (a := y) (b := (n : Rat)) (by grind)
 exact Rat.le_of_mul_le_mul_right (c := (n : Rat)) (by rw [e]; exact Rat.le_trans f h) n0
theorem zpp {b n : Int} {y : Rat} (hn : 0 < n) (h : y ≤ (b : Rat)) : y / (n : Rat) ≤ ((-(-b / n) : Int) : Rat) := by
 have n0 : (0 : Rat) < n := Rat.intCast_pos.2 hn
 have f := (ce_R (a := b) hn).1
 have e := Rat.div_mul_cancel (a := y) (b := (n : Rat)) (by grind)
 exact Rat.le_of_mul_le_mul_right (c := (n : Rat)) (by rw [e]; exact Rat.le_trans h f) n0
theorem zpq {P : Nat → Prop} [DecidablePred P] : ∀ {n : Nat}, P n → ∃ N, N ≤ n ∧ P N ∧ ∀ j, j < N → ¬ P j
 | 0, h => ⟨0, Nat.le_refl _, h, fun j hj => by omega⟩
 | n + 1, h => by
  by_cases q : ∃ m, m ≤ n ∧ P m
  ·obtain ⟨m, hm, pm⟩ := q
   obtain ⟨N, hN, pN, hj⟩ := zpq pm
   exact ⟨N, by omega, pN, hj⟩
  ·exact ⟨n + 1, Nat.le_refl _, h, fun j hj pj => q ⟨j, by omega, pj⟩⟩
def ptLo (a d : Int) : Int := ((a.natAbs / d.toNat : Nat) : Int)
def ptHi (b d : Int) : Int := ((b.natAbs / d.toNat + (if b.natAbs % d.toNat = 0 then 0 else 1) : Nat) : Int)
theorem zpr {a d : Int} (ha : 0 ≤ a) (hd : 0 < d) : ptLo a d = a / d := by
 unfold ptLo
 obtain ⟨x, rfl⟩ := Int.eq_ofNat_of_zero_le ha
 obtain ⟨y, rfl⟩ := Int.eq_ofNat_of_zero_le (show 0 ≤ d by omega)
 simp
theorem zps {b d : Int} (hb : 0 ≤ b) (hd : 0 < d) : ptHi b d = -(-b / d) := by
  unfold ptHi
  obtain ⟨x, rfl⟩ := Int.eq_ofNat_of_zero_le hb
  obtain ⟨y, rfl⟩ := Int.eq_ofNat_of_zero_le (show 0 ≤ d by omega)
  simp only [Int.natAbs_natCast, Int.toNat_natCast]
  have e := Nat.div_add_mod x y
  have l := Nat.mod_lt x (show 0 < y by omega)
  have key : ∀ q : Int, q * (y : Int) ≤ -(x : Int) → -(x : Int) < (q + 1) * (y : Int) → -(x : Int) / (y : Int) = q := by
    intro q h1 h2
    have a1 := Int.le_ediv_of_mul_le hd h1
    have a2 := Int.ediv_lt_of_lt_mul hd h2
    omega
  have ei : ((y : Int)) * ((x / y : Nat) : Int) + ((x % y : Nat) : Int) = (x : Int) := by
    have := congrArg (Nat.cast : Nat → Int) e
    push_cast at this ⊢
    exact this
  split
  · rename_i h0
    rw [key (-((x / y : Nat) : Int)) (by rw [h0] at ei; grind) (by rw [h0] at ei; grind)]
    omega
  · rename_i h0
    rw [key (-((x / y : Nat) : Int) - 1) (by have : ((x % y : Nat) : Int) ≤ y := by omega
                                             grind) (by have : (0 : Int) < ((x % y : Nat) : Int) := by omega
                                                        grind)]
    omega
structure ArH (T x1 x2 : Int) : Prop where
 hT : 8 ≤ T
 h1 : 0 ≤ x1
 h2 : x1 ≤ x2
 h3 : 2 * x2 ≤ T
end Go.Proofs.YtcbihoojfakhdaaGreatDoor

namespace Go.Proofs.YtcbihoojfakhdaaGreatDoor
theorem zpt (x : Int) (t : Nat) : dv x (-(t : Int)) * ((2 ^ t : Int) : Rat) = (x : Rat) := by
 have e : ((2 ^ t : Int) : Rat) = (2 : Rat) ^ (t : Int) := (zmz t).symm
 unfold dv
 rw [e, Rat.mul_assoc, Rat.mul_comm ((2 : Rat) ^ (-(t : Int))), zn1, Rat.mul_one]
theorem zpu (r : Rat) (t : Nat) : ((flr r t : Int) : Rat) ≤ r * ((2 ^ t : Int) : Rat) ∧ r * ((2 ^ t : Int) : Rat) < ((flr r t : Int) : Rat) + 1 := by
 have T0 : (0 : Rat) < ((2 ^ t : Int) : Rat) := Rat.intCast_pos.2 (zip t)
 have a := Rat.mul_le_mul_of_nonneg_right (znj r t) (Rat.le_of_lt T0)
 have b := Rat.mul_lt_mul_of_pos_right (znk r t) T0
 rw [zpt] at a b
 rw [Rat.intCast_add] at b
 exact ⟨a, b⟩
theorem zpv (r : Rat) (t : Nat) : r * ((2 ^ t : Int) : Rat) ≤ ((cei r t : Int) : Rat) ∧ ((cei r t : Int) : Rat) < r * ((2 ^ t : Int) : Rat) + 1 := by
 have h := zpu (-r) t
 unfold cei
 rw [Rat.intCast_neg]
 constructor <;> grind
theorem zpw (r : Rat) (t : Nat) : cei r t ≤ flr r t + 1 ∧ flr r t ≤ cei r t := by
 have a := zpu r t
 have b := zpv r t
 constructor
 ·refine Decidable.byContradiction fun hn => ?_
  have : ((flr r t + 2 : Int) : Rat) ≤ ((cei r t : Int) : Rat) := Rat.intCast_le_intCast.2 (by omega)
  rw [Rat.intCast_add, show ((2 : Int) : Rat) = 2 from rfl] at this
  grind
 ·refine Rat.intCast_le_intCast.1 ?_
  grind
structure LnH (T : Int) (M Z : Rat) (d1 d2 xa xb : Int) : Prop where
 hT : 256 ≤ T
 m1 : 3 ≤ 4 * M
 m2 : 2 * M ≤ 3
 xa1 : (xa : Rat) ≤ M * (T : Rat)
 xb1 : M * (T : Rat) ≤ (xb : Rat)
 x2 : xb ≤ xa + 1
 d0 : 0 ≤ d1
 d3 : d2 ≤ d1 + 1
 z0 : 0 ≤ Z
 z2 : 2 * (Z * (M + 1)) ≤ 1
 dz1 : (d1 : Rat) ≤ Z * (M + 1) * (T : Rat)
 dz2 : Z * (M + 1) * (T : Rat) ≤ (d2 : Rat)
end Go.Proofs.YtcbihoojfakhdaaGreatDoor

namespace Go.Proofs.YtcbihoojfakhdaaGreatDoor
def mn4 (a b c d : Int) : Int := min (min (min (a * c) (a * d)) (b * c)) (b * d)
def mx4 (a b c d : Int) : Int := max (max (max (a * c) (a * d)) (b * c)) (b * d)
def rm1 (a b c d T : Int) : Int := mn4 a b c d / T
def rm2 (a b c d T : Int) : Int := -(-(mx4 a b c d) / T)
theorem zpx (a b c d : Int) : mn4 a b c d ≤ a * c ∧ mn4 a b c d ≤ a * d ∧ mn4 a b c d ≤ b * c ∧ mn4 a b c d ≤ b * d := by unfold mn4; omega
theorem zpy (a b c d : Int) : a * c ≤ mx4 a b c d ∧ a * d ≤ mx4 a b c d ∧ b * c ≤ mx4 a b c d ∧ b * d ≤ mx4 a b c d := by unfold mx4; omega
theorem zpz {a b c d : Int} {B : Nat} (h1 : (a * c).natAbs ≤ B) (h2 : (a * d).natAbs ≤ B) (h3 : (b * c).natAbs ≤ B) (h4 : (b * d).natAbs ≤ B) : (mn4 a b c d).natAbs ≤ B ∧ (mx4 a b c d).natAbs ≤ B := by unfold mn4 mx4; omega
theorem zq0 {x y : Rat} {a b c d : Int} (h1 : (a : Rat) ≤ x) (h2 : x ≤ (b : Rat)) (h3 : (c : Rat) ≤ y) (h4 : y ≤ (d : Rat)) : ((mn4 a b c d : Int) : Rat) ≤ x * y ∧ x * y ≤ ((mx4 a b c d : Int) : Rat) := by
 obtain ⟨p1, p2, p3, p4⟩ := zpx a b c d
 obtain ⟨q1, q2, q3, q4⟩ := zpy a b c d
 rw [← Rat.intCast_le_intCast, Rat.intCast_mul] at p1 p2 p3 p4 q1 q2 q3 q4
 have lo : ∀ {u v w z : Rat}, u ≤ v → 0 ≤ w → u * w ≤ v * w := fun h k => Rat.mul_le_mul_of_nonneg_right h k
 rcases (Rat.le_total : 0 ≤ y ∨ y ≤ 0) with hy | hy
 ·have e1 := Rat.mul_le_mul_of_nonneg_right h1 hy
  have e2 := Rat.mul_le_mul_of_nonneg_right h2 hy
  constructor
  ·rcases (Rat.le_total : (0 : Rat) ≤ a ∨ (a : Rat) ≤ 0) with ha | ha
   ·have := Rat.mul_le_mul_of_nonneg_left h3 ha; grind
   ·have := Rat.mul_le_mul_of_nonneg_left h4 (show (0 : Rat) ≤ -a by grind); grind
  ·rcases (Rat.le_total : (0 : Rat) ≤ b ∨ (b : Rat) ≤ 0) with ha | ha
   ·have := Rat.mul_le_mul_of_nonneg_left h4 ha; grind
   ·have := Rat.mul_le_mul_of_nonneg_left h3 (show (0 : Rat) ≤ -b by grind); grind
 ·have hy' : (0 : Rat) ≤ -y := by grind
  have e1 := Rat.mul_le_mul_of_nonneg_right h1 hy'
  have e2 := Rat.mul_le_mul_of_nonneg_right h2 hy'
  constructor
  ·rcases (Rat.le_total : (0 : Rat) ≤ b ∨ (b : Rat) ≤ 0) with ha | ha
   ·have := Rat.mul_le_mul_of_nonneg_left h3 ha; grind
   ·have := Rat.mul_le_mul_of_nonneg_left h4 (show (0 : Rat) ≤ -b by grind); grind
  ·rcases (Rat.le_total : (0 : Rat) ≤ a ∨ (a : Rat) ≤ 0) with ha | ha
   ·have := Rat.mul_le_mul_of_nonneg_left h4 ha; grind
   ·have := Rat.mul_le_mul_of_nonneg_left h3 (show (0 : Rat) ≤ -a by grind); grind
theorem zq1 {x y : Rat} {a b c d T : Int} (hT : 0 < T) (h1 : (a : Rat) ≤ x * T) (h2 : x * T ≤ (b : Rat)) (h3 : (c : Rat) ≤ y * T) (h4 : y * T ≤ (d : Rat)) : ((rm1 a b c d T : Int) : Rat) ≤ x * y * T ∧ x * y * T ≤ ((rm2 a b c d T : Int) : Rat) := by
 have T0 : (0 : Rat) < T := Rat.intCast_pos.2 hT
 have m := zq0 h1 h2 h3 h4
 have f := (fl_R (a := mn4 a b c d) hT).1
 have g := (ce_R (a := mx4 a b c d) hT).1
 unfold rm1 rm2
 constructor
 ·exact Rat.le_of_mul_le_mul_right (c := (T : Rat)) (by grind) T0
 ·exact Rat.le_of_mul_le_mul_right (c := (T : Rat)) (by grind) T0
theorem zq2 {a b c d T : Int} {B S C : Nat} (hT : 0 < T) (ha : a.natAbs ≤ B) (hb : b.natAbs ≤ B) (hc : c.natAbs ≤ S) (hd : d.natAbs ≤ S) (h : (B * S : Nat) ≤ C * T.toNat) : (rm1 a b c d T).natAbs ≤ C ∧ (rm2 a b c d T).natAbs ≤ C := by
 have k : ∀ {x y : Int}, x.natAbs ≤ B → y.natAbs ≤ S → (x * y).natAbs ≤ B * S := fun hx hy => by rw [Int.natAbs_mul]; exact Nat.mul_le_mul hx hy
 have m := zpz (k ha hc) (k ha hd) (k hb hc) (k hb hd)
 have e : ((B * S : Nat) : Int) ≤ (C : Int) * T := by
  have : ((B * S : Nat) : Int) ≤ ((C * T.toNat : Nat) : Int) := by omega
  rw [Int.natCast_mul C, Int.toNat_of_nonneg (by omega)] at this
  exact this
 have fd : ∀ {x : Int}, x.natAbs ≤ B * S → (x / T).natAbs ≤ C := by
  intro x hx
  have h1 : x / T ≤ C := Int.ediv_le_of_le_mul hT (by omega)
  have h2 : -(C : Int) ≤ x / T := Int.le_ediv_of_mul_le hT (by rw [Int.neg_mul]; omega)
  omega
 unfold rm1 rm2
 have a1 := fd m.1
 have a2 := fd (x := -(mx4 a b c d)) (by rw [Int.natAbs_neg]; exact m.2)
 exact ⟨a1, by rw [Int.natAbs_neg]; exact a2⟩
def ovLo (a b n : Int) : Int := Int.fdiv (min a b) n
def ovHi (a b n : Int) : Int := -(Int.fdiv (-(max a b)) n)
structure RrH (v : Nat) (x1 x2 : Int) : Prop where
 hv : 8 ≤ v
 h1 : x1.natAbs ≤ 2 ^ (v - 1)
 h2 : x2.natAbs ≤ 2 ^ (v - 1)
theorem zq3 (v : Nat) : ((2 : Int) ^ v).toNat = 2 ^ v := by rw [zb2]; exact Int.toNat_natCast _
theorem zq4 {a b n : Int} {y : Rat} (hn : 0 < n) (h1 : (a : Rat) ≤ y) (h2 : y ≤ (b : Rat)) : ((ovLo a b n : Int) : Rat) ≤ y / (n : Rat) ∧ y / (n : Rat) ≤ ((ovHi a b n : Int) : Rat) := by
 unfold ovLo ovHi
 rw [Int.fdiv_eq_ediv_of_nonneg _ (show 0 ≤ n by omega), Int.fdiv_eq_ediv_of_nonneg _ (show 0 ≤ n by omega)]
 constructor
 ·exact zpo hn (Rat.le_trans (Rat.intCast_le_intCast.2 (show min a b ≤ a by omega)) h1)
 ·exact zpp hn (Rat.le_trans h2 (Rat.intCast_le_intCast.2 (show b ≤ max a b by omega)))
end Go.Proofs.YtcbihoojfakhdaaGreatDoor

namespace Go.Proofs.YtcbihoojfakhdaaGreatDoor
theorem zq5 {m e s : Int} (h : 0 ≤ e + s) : m * 2 ^ (e + s).toNat = flr (dv m e) s ∧ m * 2 ^ (e + s).toNat = cei (dv m e) s := by
 have a : flr (dv m e) s = m * 2 ^ (e + s).toNat := by rw [znh, if_pos h]
 have b : flr (dv (-m) e) s = -m * 2 ^ (e + s).toNat := by rw [znh, if_pos h]
 refine ⟨a.symm, ?_⟩
 unfold cei
 rw [← zn8, b, Int.neg_mul, Int.neg_neg]
theorem zq6 {m e s : Int} (h : e + s < 0) : m / 2 ^ (0 - (e + s)).toNat = flr (dv m e) s ∧ -(-m / 2 ^ (0 - (e + s)).toNat) = cei (dv m e) s := by
 have a : flr (dv m e) s = m / 2 ^ (-(e + s)).toNat := by rw [znh, if_neg (by omega)]
 have b : flr (dv (-m) e) s = -m / 2 ^ (-(e + s)).toNat := by rw [znh, if_neg (by omega)]
 rw [show (0 : Int) - (e + s) = -(e + s) by omega]
 refine ⟨a.symm, ?_⟩
 unfold cei
 rw [← zn8, b]
theorem zq7 {a b : Int} {X : Rat} {t s n : Nat} (h : t = s + n) (h1 : (a : Rat) ≤ X * ((2 ^ t : Int) : Rat)) (h2 : X * ((2 ^ t : Int) : Rat) ≤ (b : Rat)) :
  ((a / 2 ^ n : Int) : Rat) ≤ X * ((2 ^ s : Int) : Rat) ∧ X * ((2 ^ s : Int) : Rat) ≤ ((-(-b / 2 ^ n) : Int) : Rat) := by
 have n0 : (0 : Rat) < ((2 ^ n : Int) : Rat) := Rat.intCast_pos.2 (zip n)
 have e : ((2 ^ t : Int) : Rat) = ((2 ^ s : Int) : Rat) * ((2 ^ n : Int) : Rat) := by rw [h, Int.pow_add, Rat.intCast_mul]
 rw [e, ← Rat.mul_assoc] at h1 h2
 have f := (fl_R (a := a) (zip n)).1
 have g := (ce_R (a := b) (zip n)).1
 exact ⟨Rat.le_of_mul_le_mul_right (Rat.le_trans f h1) n0, Rat.le_of_mul_le_mul_right (Rat.le_trans h2 g) n0⟩
theorem zq8 {a b W : Int} {n : Nat} (h : b - a ≤ W * 2 ^ n) : -(-b / 2 ^ n) - a / 2 ^ n ≤ W + 1 := by
 have n0 := zip n
 have f1 := Int.lt_ediv_add_one_mul_self a n0
 have f2 := Int.lt_ediv_add_one_mul_self (-b) n0
 generalize a / 2 ^ n = u at *
 generalize -b / 2 ^ n = v at *
 generalize (2 : Int) ^ n = T at *
 refine Decidable.byContradiction fun hn => ?_
 have m := Int.mul_le_mul_of_nonneg_right (show W + 2 ≤ -v - u by omega) (show 0 ≤ T by omega)
 grind
def tmLo (a b k : Int) : Int := if k < 0 then b * k else a * k
def tmHi (a b k : Int) : Int := if k < 0 then a * k else b * k
theorem zq9 {a b k : Int} {y : Rat} (h1 : (a : Rat) ≤ y) (h2 : y ≤ (b : Rat)) : ((tmLo a b k : Int) : Rat) ≤ y * k ∧ y * k ≤ ((tmHi a b k : Int) : Rat) := by
 unfold tmLo tmHi
 split
 ·rename_i h
  have k0 : (0 : Rat) ≤ -(k : Rat) := by rw [← Rat.intCast_neg]; exact Rat.intCast_nonneg.2 (by omega)
  have m1 := Rat.mul_le_mul_of_nonneg_right h1 k0
  have m2 := Rat.mul_le_mul_of_nonneg_right h2 k0
  rw [Rat.intCast_mul, Rat.intCast_mul]
  constructor <;> grind
 ·rename_i h
  have k0 : (0 : Rat) ≤ (k : Rat) := Rat.intCast_nonneg.2 (by omega)
  have m1 := Rat.mul_le_mul_of_nonneg_right h1 k0
  have m2 := Rat.mul_le_mul_of_nonneg_right h2 k0
  rw [Rat.intCast_mul, Rat.intCast_mul]
  exact ⟨m1, m2⟩
theorem tm_w {a b k W : Int} (hab : a ≤ b) (hk : -W ≤ k ∧ k ≤ W) (h : b - a < 16777216) : tmHi a b k - tmLo a b k ≤ 16777216 * W := by
 unfold tmLo tmHi
 have key : ∀ {x y : Int}, 0 ≤ x → x ≤ 16777216 → 0 ≤ y → y ≤ W → x * y ≤ 16777216 * W := fun h1 h2 h3 h4 =>
  Int.le_trans (Int.mul_le_mul_of_nonneg_right h2 h3) (Int.mul_le_mul_of_nonneg_left h4 (by omega))
 split
 ·have := key (x := b - a) (y := -k) (by omega) (by omega) (by omega) (by omega)
  rw [Int.mul_neg, Int.sub_mul] at this
  omega
 ·have := key (x := b - a) (y := k) (by omega) (by omega) (by omega) (by omega)
  rw [Int.sub_mul] at this
  omega
def ptLn : Int := 1921868181103848789005135799070027024580345152612047297481125309024332866685277824573051215291055110282969622901371337173642342478
def cLn : Rat := dv ptLn (-430)
theorem zqa {x : Int} {t : Nat} {P : Int} (ht : t ≤ 430) : (x * 2 ^ (430 - t) ≤ P → (x : Rat) ≤ dv P (-430) * ((2 ^ t : Int) : Rat)) ∧ (P ≤ x * 2 ^ (430 - t) → dv P (-430) * ((2 ^ t : Int) : Rat) ≤ (x : Rat)) := by
 have T0 : (0 : Rat) < ((2 ^ t : Int) : Rat) := Rat.intCast_pos.2 (zip t)
 have e : dv (x * 2 ^ (430 - t)) (-430) * ((2 ^ t : Int) : Rat) = (x : Rat) := by
  rw [zn2, show (-430 : Int) + ((430 - t : Nat) : Int) = -(t : Int) by omega, zpt]
 constructor
 ·intro h
  have a := Rat.mul_le_mul_of_nonneg_right ((zn5 (c := -430)).2 h) (Rat.le_of_lt T0)
  rwa [e] at a
 ·intro h
  have a := Rat.mul_le_mul_of_nonneg_right ((zn5 (c := -430)).2 h) (Rat.le_of_lt T0)
  rwa [e] at a
def Encl (f : Nat → Rat) (s : Nat) (lo hi : Int) : Prop := ∃ N, ∀ K, N ≤ K → (lo : Rat) ≤ f K * ((2 ^ s : Int) : Rat) ∧ f K * ((2 ^ s : Int) : Rat) ≤ (hi : Rat)
theorem Encl.half {f : Nat → Rat} {t s n : Nat} {a b : Int} (h : Encl f t a b) (e : t = s + n) : Encl f s (a / 2 ^ n) (-(-b / 2 ^ n)) := by
 obtain ⟨N, h⟩ := h
 exact ⟨N, fun K hK => zq7 e (h K hK).1 (h K hK).2⟩
theorem Encl.le {f : Nat → Rat} {s : Nat} {a b : Int} (h : Encl f s a b) : a ≤ b := by
 obtain ⟨N, h⟩ := h
 exact Rat.intCast_le_intCast.1 (Rat.le_trans (h N (Nat.le_refl _)).1 (h N (Nat.le_refl _)).2)
theorem Encl.meet {f : Nat → Rat} {s n : Nat} {a b c d : Int} (h : Encl f s a b) (k : Encl f (s + n) c d) : a * 2 ^ n ≤ d ∧ c ≤ b * 2 ^ n := by
 obtain ⟨N, h⟩ := h
 obtain ⟨N', k⟩ := k
 have x := h (N + N') (by omega)
 have y := k (N + N') (by omega)
 have n0 : (0 : Rat) < ((2 ^ n : Int) : Rat) := Rat.intCast_pos.2 (zip n)
 rw [Int.pow_add, Rat.intCast_mul, ← Rat.mul_assoc] at y
 have m1 := Rat.mul_le_mul_of_nonneg_right x.1 (Rat.le_of_lt n0)
 have m2 := Rat.mul_le_mul_of_nonneg_right x.2 (Rat.le_of_lt n0)
 rw [← Rat.intCast_mul] at m1 m2
 exact ⟨Rat.intCast_le_intCast.1 (Rat.le_trans m1 y.2), Rat.intCast_le_intCast.1 (Rat.le_trans y.1 m2)⟩
theorem zqb {a b c d : Int} (h1 : a = c) (h2 : b = d) : vsub (.agg [.bool (decide (a < 0)), N a.natAbs, .bool (decide (b < 0)), N b.natAbs]) (.agg [.bool (decide (c < 0)), N c.natAbs, .bool (decide (d < 0)), N d.natAbs]) := by
 subst h1; subst h2; exact z6b _
theorem zqc {b d : Int} (h : ((b.natAbs % d.toNat : Nat) : Int) ≠ 0) : sgn false (b.natAbs / d.toNat + (1 : Int).toNat) = ptHi b d := by
 unfold ptHi
 rw [if_neg (by omega)]; rfl
theorem zqd {b d : Int} (h : ((b.natAbs % d.toNat : Nat) : Int) = 0) : sgn false (b.natAbs / d.toNat) = ptHi b d := by
 unfold ptHi
 rw [if_pos (by omega)]; rfl
theorem zqe {b : Int} : iLe (nbits b.natAbs : Int) 3 = decide (b.natAbs < 8) := by
 unfold iLe
 have h : (nbits b.natAbs : Int) ≤ 3 ↔ b.natAbs < 8 := by
  constructor
  ·intro h
   have l := zbs b.natAbs
   have := Nat.pow_le_pow_right (n := 2) (by omega) (show nbits b.natAbs ≤ 3 by omega)
   omega
  ·intro h
   have := zkv (x := b.natAbs) (k := 3) (by omega)
   omega
 exact decide_eq_decide.2 h
theorem zqf (n : Int) (g : Bool) (s : Int) : 0 ≤ (arcT n g s).1 := by
 have key : ∀ (f : Nat) (n : Nat) (k : Int) (p : Nat) (a : Int), 0 ≤ k → 0 ≤ (arcG n g f k p a).1 := by
  intro f
  induction f with
  | zero => intro n k p a h; exact h
  | succ f ih =>
   intro n k p a h
   rw [arcG]
   split
   ·exact h
   ·exact ih _ _ _ _ (by omega)
 exact key _ _ _ _ _ (Int.le_refl _)
end Go.Proofs.YtcbihoojfakhdaaGreatDoor
