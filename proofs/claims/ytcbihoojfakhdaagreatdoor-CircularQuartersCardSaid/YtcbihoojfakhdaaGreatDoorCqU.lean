/-
  Lower layers: what functions of the program compute, and plain facts. Conditions: as the theorems say.
-/
import Derived.Test.YtcbihoojfakhdaaGreatDoorCqT
set_option linter.unusedVariables false
set_option linter.unusedSimpArgs false
namespace Go.Proofs.YtcbihoojfakhdaaGreatDoor
open Go.RowKit
set_option maxRecDepth 100000
set_option maxHeartbeats 2000000
theorem mill_DyadicB (b : Bool) (l : List Nat) (e : Int) (n : Int) (k : Int) (c0 : Dig l) (c1 : l.length ≤ 9223372036854775807) (c2 : (-9223372036854775808 : Int) ≤ e ∧ e ≤ 9223372036854775807) (c3 : (0 : Int) ≤ n ∧ n ≤ 90) (c4 : (0 : Int) ≤ k ∧ k ≤ 60000) : Impl Tryz.prog Amb 15 [(.agg [(.bool b), (.sl 1 (U l)), (.int .i64 e)]), (.int .i64 n), (.int .i64 k)] (.tup [(yV (mkM (rawI b l n) (e % (2 * k + 1) - k)) (mkX (rawI b l n) (e % (2 * k + 1) - k))), (.bool (decide ((l.length : Int) ≤ n)))]) := by
 have ej := Int.emod_nonneg e (show (2 * k + 1 : Int) ≠ 0 by omega)
 have ek := Int.emod_lt_of_pos e (show (0 : Int) < 2 * k + 1 by omega)
 exact impl_ob hP hAmb Tryz.func15 (by kernel_rfl) (.lits 2 <| .call (.tup [(zV (rawI b l n)), (.bool (decide ((l.length : Int) ≤ n)))]) <| .lits 2 <| .both (.lits 3 <| .ret) (.lits 3 <| .yes <| .lit <| .yes <| .lit <| .call (.int .i64 (e % (((2 : Int) * k) + 1))) <| .lit <| .yes <| .lit <| .call (mkT (rawI b l n) ((e % (((2 : Int) * k) + 1)) - k)) <| .lits 4 <| .ret))
  (cast_ob (aI True.intro (aI (mill_Int b l n oO oO oO) (have f6 := (rawI_L (b := b) ‹Dig l› (show (0 : Int) ≤ n by omega)); aI (fun (h1 : (!(decide ((l.length : Int) ≤ n))) = true) => have _gh1 := of_decide_eq_false (notb_t h1); (rawd_ret1 oO : vsub (.tup [(.agg [(.bool false), .nil, (.int .i64 0)]), (.bool false)]) (.tup [(yV (mkM (rawI b l n) (e % (2 * k + 1) - k)) (mkX (rawI b l n) (e % (2 * k + 1) - k))), (.bool (decide ((l.length : Int) ≤ n)))]))) (fun (h2 : (!(decide ((l.length : Int) ≤ n))) = false) => have _gh2 := of_decide_eq_true (notb_f h2); aI (fits_i64 oO : (fits .i64 ((2 : Int) * k)) = true) (aI (fits_i64 oO : (fits .i64 (((2 : Int) * k) + 1)) = true) (aI (mill_Mod e (((2 : Int) * k) + 1) oO oO) (have f5 := Int.emod_lt_of_pos e (show (0 : Int) < (((2 : Int) * k) + 1) by omega); have f4 := Int.emod_nonneg e (show ((((2 : Int) * k) + 1) : Int) ≠ 0 by omega); aI (fits_i64 oO : (fits .i64 ((e % (((2 : Int) * k) + 1)) - k)) = true) (aI (r08_Make (rawI b l n) ((e % (((2 : Int) * k) + 1)) - k) oO oO) (have f3 := mk_facts (rawI b l n) ((e % (((2 : Int) * k) + 1)) - k); (vsub_tup2 (vsub_refl _) (vsub_of (congrArg V.bool (rawd_ok (mk_fine3 oO oO) oO))) : vsub (.tup [(yV (mkM (rawI b l n) ((e % (((2 : Int) * k) + 1)) - k)) (mkX (rawI b l n) ((e % (((2 : Int) * k) + 1)) - k))), (.bool (iEq (mkE (rawI b l n) ((e % (((2 : Int) * k) + 1)) - k)) 0))]) (.tup [(yV (mkM (rawI b l n) (e % (2 * k + 1) - k)) (mkX (rawI b l n) (e % (2 * k + 1) - k))), (.bool (decide ((l.length : Int) ≤ n)))]))))))))))) (by kernel_rfl))
theorem mkX_up {m e c : Int} (hc : 0 ≤ c) (h : mkE m e = 0) (he : e ≤ c) : mkX m e ≤ c + 32 * (L m.natAbs : Int) ∧ (e ≤ mkX m e ∨ mkX m e = 0) := by
 have t := tz_L m.natAbs
 rcases mk_cases h with ⟨_, _, h2⟩ | ⟨_, _, h2, _⟩
 ·rw [h2]; omega
 ·rw [h2]; unfold de; omega
end Go.Proofs.YtcbihoojfakhdaaGreatDoor

namespace Go.Proofs.YtcbihoojfakhdaaGreatDoor
open Go.RowKit
set_option maxRecDepth 100000
theorem r13_Touches (m : Int) (e : Int) (n : Int) (f : Int) (p : Int) (g : Int) (q : Int) (h : Int) (c0 : L (m).natAbs ≤ 8192) (c1 : L (n).natAbs ≤ 8192) (c2 : (-65536 : Int) ≤ e ∧ e ≤ 65536) (c3 : (-65536 : Int) ≤ f ∧ f ≤ 65536) (c4 : L (p).natAbs ≤ 8192) (c5 : L (q).natAbs ≤ 8192) (c6 : (-65536 : Int) ≤ g ∧ g ≤ 65536) (c7 : (-65536 : Int) ≤ h ∧ h ≤ 65536) : Impl Tryz.prog Amb 48 [(wV m e n f), (wV p g q h)] (.bool (iEq (ivCmp m e n f p g q h) 0)) := by
 exact impl_ob hP hAmb Tryz.func48 (by kernel_rfl) (.lits 3 <| .call (.int .i64 (ivCmp m e n f p g q h)) <| .lits 2 <| .ret)
  (cast_ob (aI True.intro (aI (r10_Cmp m e n f p g q h oO oO oO oO oO oO oO oO) ((vsub_refl (.bool (iEq (ivCmp m e n f p g q h) 0)))))) (by kernel_rfl))
def eA (w : Int) : Int := (mkM ((eLo (w + 24)) / 2 ^ 24) (-w))
def eB (w : Int) : Int := (mkX ((eLo (w + 24)) / 2 ^ 24) (-w))
end Go.Proofs.YtcbihoojfakhdaaGreatDoor
