/-
  Lower layers: what functions of the program compute, and plain facts. Conditions: as the theorems say.
-/
import Derived.Test.YtcbihoojfakhdaaGreatDoorChecked
import Derived.Test.YtcbihoojfakhdaaGreatDoorRows
import Derived.WalkKit
import Derived.ProofKit
import Derived.OpenShut
import Derived.Deep.DeepHandedRow
import Derived.Lib.LaidTab
import Derived.Lib.SmallJoins
import Derived.ChangeSlices
import Derived.Carry
import Derived.Test.YtcbihoojfakhdaaGreatDoorCards
import Derived.Test.YtcbihoojfakhdaaGreatDoorTie
import Derived.Test.YtcbihoojfakhdaaGreatDoorCqV
set_option linter.unusedVariables false
set_option linter.unusedSimpArgs false
namespace Go.Proofs.YtcbihoojfakhdaaGreatDoor
open Go.RowKit
set_option maxRecDepth 100000
set_option maxHeartbeats 2000000
theorem over33 : ∃ u1 u2 ua ub p : Int, Impl Tryz.prog Amb 17 [(.int .i64 1)] (yV u1 u2) ∧ Impl Tryz.prog Amb 27 [(zV u1), (.int .i64 33)] (.tup [(yV ua ub), (.int .i64 p)]) ∧ Impl Tryz.prog Amb 93 [(yV ua ub)] (.bool false) := by
 have one : mkM 1 0 = 1 := by kernel_rfl
 have l1 : L (1 : Int).natAbs ≤ 1 := L_lit 1 (by decide)
 have hN := r08_Make 1 33 oO oO
 have e : mkM 1 33 = 1 ∧ mkX 1 33 = 33 := ⟨by kernel_rfl, by kernel_rfl⟩
 rw [e.1, e.2] at hN
 refine ⟨_, _, _, _, _, r08_Of 1 oO, by rw [one]; exact hN, ci_insF 1 33 oO oO (by decide)⟩
theorem l17_CircularQuarters (b1 : Bool) (l1 : List Nat) (e1 w : Int) (c0 : Dig l1) (c1 : l1.length ≤ 9223372036854775807) (c2 : (-9223372036854775808 : Int) ≤ e1 ∧ e1 ≤ 9223372036854775807) (c3 : (-9223372036854775808 : Int) ≤ w ∧ w ≤ 9223372036854775807) : Impl Tryz.prog Amb 8 [(.agg [(.bool b1), (.sl 1 (U l1)), (.int .i64 e1)]), .int .i64 w] (.bool true) := by
 have hD := mill_DyadicB b1 l1 e1 2 60 c0 c1 c2 oO oO
 have hr := rawI_L (b := b1) (n := 2) c0 oO
 have ej := Int.emod_nonneg e1 (show (2 * 60 + 1 : Int) ≠ 0 by omega)
 have ek := Int.emod_lt_of_pos e1 (show (0 : Int) < 2 * 60 + 1 by omega)
 have w1 := Int.emod_nonneg w (show (120 : Int) ≠ 0 by omega)
 have w2 := Int.emod_lt_of_pos w (show (0 : Int) < 120 by omega)
 have hE := mk_fine3 (m := (rawI b1 l1 2)) (e := (e1 % (2 * 60 + 1) - 60)) oO oO
 have hf := mk_facts (rawI b1 l1 2) (e1 % (2 * 60 + 1) - 60)
 have hx := mkX_up (c := 60) oO hE oO
 have hv := mk_vdb hE
 generalize (mkM (rawI b1 l1 2) (e1 % (2 * 60 + 1) - 60)) = m at *
 generalize (mkX (rawI b1 l1 2) (e1 % (2 * 60 + 1) - 60)) = ee at *
 have lm : L m.natAbs ≤ 2 := by omega
 have er : -60 ≤ ee ∧ ee ≤ 130 := by omega
 clear hE hx hf hr ej ek
 by_cases hl : (l1.length : Int) ≤ 2
 ·rw [decide_eq_true hl] at hD
  obtain ⟨nn, hn, ht⟩ := qua_rounds (m := m) (e := ee) lm er
  have hx := shq_fit (m := m) er (j := nn) hn
  have vx := shq_vdb hv (j := nn) oO
  have tp := (ht nn (Nat.le_refl _)).1 rfl
  have dd := dv_tople tp
  rw [dv32] at dd
  have hA11 := ci_quaA m (shq m ee nn) 11 oO oO
  obtain ⟨u1, u2, ua, ub, p, hO1, hO2, hI33⟩ := over33
  have hL33 := ci_quaL ua ub ((12 : Int) + (w % 120)) oO hI33
  obtain ⟨k, A, B, hTu, hk, ab, hw2, qb, ab1, ab2⟩ := fx_TurnE2 m (shq m ee nn) ((12 : Int) + (w % 120)) oO oO oO dd.1 dd.2
  have T0 : (0 : Rat) < ((2 ^ ((12 : Int) + (w % 120)).toNat : Int) : Rat) := Rat.intCast_pos.2 (two_pos _)
  have pw := Int.le_trans (show (4096 : Int) ≤ 2 ^ 12 by decide) (Int.ofNat_le.2 (Nat.pow_le_pow_right (n := 2) oO (show 12 ≤ ((12 : Int) + (w % 120)).toNat by omega)))
  rw [← pow_cast] at pw
  have m1 := Rat.mul_le_mul_of_nonneg_right qb.1 (Rat.le_of_lt T0)
  have m2 := Rat.mul_le_mul_of_nonneg_right qb.2 (Rat.le_of_lt T0)
  rw [Rat.mul_assoc] at m1 m2
  have R1 : 100 * A ≤ 80 * 2 ^ ((12 : Int) + (w % 120)).toNat := by
   refine Rat.intCast_le_intCast.1 ?_
   rw [Rat.intCast_mul, Rat.intCast_mul]
   show (100 : Rat) * _ ≤ 80 * _
   grind
  have R2 : -(80 * 2 ^ ((12 : Int) + (w % 120)).toNat) ≤ 100 * B := by
   refine Rat.intCast_le_intCast.1 ?_
   rw [Rat.intCast_neg, Rat.intCast_mul, Rat.intCast_mul]
   show -((80 : Rat) * _) ≤ 100 * _
   grind
  have hUn := r17_Unit A B ((12 : Int) + (w % 120)) oO oO oO
  have pv2 : ((2 ^ ((12 : Int) + (w % 120)).toNat : Nat) : Int) = (2 : Int) ^ ((12 : Int) + (w % 120)).toNat := (pow_cast _).symm
  have lA : L A.natAbs ≤ 70 := abs_big (t := ((12 : Int) + (w % 120)).toNat) (c := 1) oO oO oO
  have lB : L B.natAbs ≤ 70 := abs_big (t := ((12 : Int) + (w % 120)).toNat) (c := 1) oO oO oO
  have mA := dy_Make A (0 - ((12 : Int) + (w % 120))) oO oO
  have mB := dy_Make B (0 - ((12 : Int) + (w % 120))) oO oO
  rw [Int.zero_sub, mk_fine2 (m := A) (e := -((12 : Int) + (w % 120))) oO oO] at mA
  rw [Int.zero_sub, mk_fine2 (m := B) (e := -((12 : Int) + (w % 120))) oO oO] at mB
  have hR := ci_qua m (shq m ee nn) ((12 : Int) + (w % 120)) k A B _ _ _ _ oO (ins_ok m (shq m ee nn) oO oO dd) hTu (by rw [Int.zero_sub]; exact mA) (by rw [Int.zero_sub]; exact mB)
  obtain ⟨_, _, _, _, fa', fb', wa, wb, k1, ⟨rfl, rfl, rfl, rfl⟩, ⟨d1, d2, d3, d4, d5, d6⟩, hk1⟩ := qua_checks A B ((12 : Int) + (w % 120)) oO ab hw2 oO oO
  by_cases kp : 0 ≤ k
  ·obtain ⟨p1, p2, n1, n2, xa, xb, t1, t2, s1, s2, ⟨g1, g2, g3, g4, g5⟩, ⟨ls1, ls2⟩, se1, se2⟩ := qua_refP m (shq m ee nn) ((12 : Int) + (w % 120)) k oO lm oO vx oO oO
   have hOut := r13_Out s1 s2 (((12 : Int) + (w % 120)) + 60) (((12 : Int) + (w % 120)) + 20) oO oO oO
   rw [show ((((12 : Int) + (w % 120)) + 60) - (((12 : Int) + (w % 120)) + 20)).toNat = 40 by omega] at hOut
   have he2 := half_enc (a := s1) (b := s2) (X := dv m (shq m ee nn) - (k : Rat) * cQ) (t := (((12 : Int) + (w % 120)) + 60).toNat) (s := ((12 : Int) + (w % 120)).toNat + 20) (n := 40) oO se1 se2
   have mc := meet_const ab1 ab2 he2.1 he2.2
   have o1 := L_abs_shr s1 40
   have o2 := L_abs_neg s2
   have o3 := L_abs_shr (-s2) 40
   have o4 := L_abs_neg (-s2 / 2 ^ 40)
   generalize s1 / 2 ^ 40 = u1' at hOut mc o1
   generalize -(-s2 / 2 ^ 40) = u2' at hOut mc o4
   have fa := mk_facts A (-((12 : Int) + (w % 120)))
   have fb := mk_facts B (-((12 : Int) + (w % 120)))
   have fc := mk_facts u1' (-(((12 : Int) + (w % 120)) + 20))
   have fd := mk_facts u2' (-(((12 : Int) + (w % 120)) + 20))
   have hTo := r13_Touches (mkM A (-((12 : Int) + (w % 120)))) (mkX A (-((12 : Int) + (w % 120)))) (mkM B (-((12 : Int) + (w % 120)))) (mkX B (-((12 : Int) + (w % 120)))) (mkM u1' (-(((12 : Int) + (w % 120)) + 20))) (mkX u1' (-(((12 : Int) + (w % 120)) + 20))) (mkM u2' (-(((12 : Int) + (w % 120)) + 20))) (mkX u2' (-(((12 : Int) + (w % 120)) + 20))) oO oO oO oO oO oO oO oO
   rw [meets_ok (mk_fine2 oO oO) (mk_fine2 oO oO) (mk_fine2 oO oO) (mk_fine2 oO oO) oO (by rw [show (-((12 : Int) + (w % 120)) - -(((12 : Int) + (w % 120)) + 20)).toNat = 20 by omega]; exact mc.2) (by rw [show (-((12 : Int) + (w % 120)) - -(((12 : Int) + (w % 120)) + 20)).toNat = 20 by omega]; exact mc.1)] at hTo
   exact l17_QuaP b1 l1 e1 m ee w k _ _ _ _ _ _ _ _ _ _ _ _ _ _ _ _ _ _ _ _ _ _ _ _ _ _ _ _ nn l17_awake (by rw [shq_zero hv]; exact hD) c3 oO ht (fun j hj => by have s := shq_fit (m := m) er (j := j) oO; exact r08_Top m _ oO oO) (fun j hj => shq_step hv lm er oO) hR d1 d2 d3 hUn d4 d5 d6 g1 g2 g3 g4 g5 hA11 hO1 hO2 hL33 hOut hTo oO oO hk1
  ·obtain ⟨p1, p2, n1, n2, xa, xb, t1, t2, s1, s2, ⟨g1, g2, g3, g4, g5⟩, ⟨ls1, ls2⟩, se1, se2⟩ := qua_refN m (shq m ee nn) ((12 : Int) + (w % 120)) k oO lm oO vx oO oO
   have hOut := r13_Out s1 s2 (((12 : Int) + (w % 120)) + 60) (((12 : Int) + (w % 120)) + 20) oO oO oO
   rw [show ((((12 : Int) + (w % 120)) + 60) - (((12 : Int) + (w % 120)) + 20)).toNat = 40 by omega] at hOut
   have he2 := half_enc (a := s1) (b := s2) (X := dv m (shq m ee nn) - (k : Rat) * cQ) (t := (((12 : Int) + (w % 120)) + 60).toNat) (s := ((12 : Int) + (w % 120)).toNat + 20) (n := 40) oO se1 se2
   have mc := meet_const ab1 ab2 he2.1 he2.2
   have o1 := L_abs_shr s1 40
   have o2 := L_abs_neg s2
   have o3 := L_abs_shr (-s2) 40
   have o4 := L_abs_neg (-s2 / 2 ^ 40)
   generalize s1 / 2 ^ 40 = u1' at hOut mc o1
   generalize -(-s2 / 2 ^ 40) = u2' at hOut mc o4
   have fa := mk_facts A (-((12 : Int) + (w % 120)))
   have fb := mk_facts B (-((12 : Int) + (w % 120)))
   have fc := mk_facts u1' (-(((12 : Int) + (w % 120)) + 20))
   have fd := mk_facts u2' (-(((12 : Int) + (w % 120)) + 20))
   have hTo := r13_Touches (mkM A (-((12 : Int) + (w % 120)))) (mkX A (-((12 : Int) + (w % 120)))) (mkM B (-((12 : Int) + (w % 120)))) (mkX B (-((12 : Int) + (w % 120)))) (mkM u1' (-(((12 : Int) + (w % 120)) + 20))) (mkX u1' (-(((12 : Int) + (w % 120)) + 20))) (mkM u2' (-(((12 : Int) + (w % 120)) + 20))) (mkX u2' (-(((12 : Int) + (w % 120)) + 20))) oO oO oO oO oO oO oO oO
   rw [meets_ok (mk_fine2 oO oO) (mk_fine2 oO oO) (mk_fine2 oO oO) (mk_fine2 oO oO) oO (by rw [show (-((12 : Int) + (w % 120)) - -(((12 : Int) + (w % 120)) + 20)).toNat = 20 by omega]; exact mc.2) (by rw [show (-((12 : Int) + (w % 120)) - -(((12 : Int) + (w % 120)) + 20)).toNat = 20 by omega]; exact mc.1)] at hTo
   exact l17_QuaN b1 l1 e1 m ee w k _ _ _ _ _ _ _ _ _ _ _ _ _ _ _ _ _ _ _ _ _ _ _ _ _ _ _ _ nn l17_awake (by rw [shq_zero hv]; exact hD) c3 oO ht (fun j hj => by have s := shq_fit (m := m) er (j := j) oO; exact r08_Top m _ oO oO) (fun j hj => shq_step hv lm er oO) hR d1 d2 d3 hUn d4 d5 d6 g1 g2 g3 (by rw [Int.zero_sub] at g4 ⊢; exact g4) g5 hA11 hO1 hO2 hL33 hOut hTo oO oO hk1
 ·rw [decide_eq_false hl] at hD
  exact l17_QuaF b1 l1 e1 w m ee l17_awake hD

end Go.Proofs.YtcbihoojfakhdaaGreatDoor

namespace Go.Proofs.YtcbihoojfakhdaaGreatDoor
open Go.ChangeShapes Go.WideShapes Go.ChangeAt Go.RowKit
theorem ownNone : ownKnob Tryz.prog.godebug = none := by kernel_rfl
theorem gTab : Tryz.prog.globalNamed "math/bits.deBruijn32tab" = some 0 := by kernel_rfl
theorem gTabType : (Tryz.prog.globals[0]?).map (·.type) = some 184 := by kernel_rfl
theorem cellsTab : Tryz.prog.cellsOf 184 = 32 := by kernel_rfl
theorem cellsU8 : Tryz.prog.cellsOf 5 = 1 := by kernel_rfl
theorem amb_of {W : World} (h : laidMetH Tryz.prog [("math/bits.deBruijn32tab", Rows.laid_math_bits_deBruijn32tab)] W) : Amb W := by
 have t : Lib.TabIs Tryz.prog W "math/bits.deBruijn32tab" .u8 tab32 := Lib.tabIs_of_head (rest := []) gTab gTabType Tryz.underlying184 Tryz.underlying5 cellsU8 cellsTab h
 intro i v hi
 have hlt : i < tab32.length := by
  rcases Nat.lt_or_ge i tab32.length with q | q
  ·exact q
  ·rw [List.getElem?_eq_none q] at hi; cases hi
 have h1 := t.cell gTab i hlt
 rw [List.getD_eq_getElem?_getD, hi] at h1
 exact h1
theorem int_wf {n : Int} (h : (Lit.int .i64 n).wf = true) : (-9223372036854775808 : Int) ≤ n ∧ n ≤ 9223372036854775807 := by
 simp only [Lit.wf, Bool.and_eq_true, decide_eq_true_eq] at h
 simp [IntKind.min, IntKind.max, IntKind.signed, IntKind.bits] at h
 omega
noncomputable def laidWorld (os : Os) : World :=
  { World.holding Tryz.prog os ⟨#[], #[], []⟩ with heap := (World.holding Tryz.prog os ⟨#[], #[], []⟩).heap.modify 0 fun
      | .cells _ t frozen => .cells (tab32.map (Value.int .u8)).toArray t frozen
      | o => o }
theorem post_of_below {H : Type} {enc : TypeId × Value → H} {P : Program} {f : Func} {s : ChangeSpec} {apart fresh handsOn again : Bool} {W W' : World} {args : Array Value} {v : Value} {ds gs : List (DataW H)} {before pa pv : List MemPlace}
  (hW : DataW.Whole enc P f.params.toList s.vars apart W args.toList ds gs before)
  (hres : ∀ (b : Nat) (sp : Nat → Bool) (hd : Bool), DataW.TrodAll enc P W' b sp hd f.resultTypes.toList (v.resultList f.resultTypes.size) (s.fn H (ds ++ gs)).results [])
  (hargs : ∀ sp : Nat → Bool, (∀ p ∈ before, sp p.block = true) → DataW.TrodAll enc P W' 0 sp true f.params.toList args.toList (s.fn H (ds ++ gs)).args pa)
  (hvars : ∀ sp : Nat → Bool, (∀ p ∈ before, sp p.block = true) → DataW.TrodVars enc P W' sp s.vars (s.fn H (ds ++ gs)).vars pv)
  (hps : before = pa ++ pv) (hb : Below W.heap.size W W')
  (hok : ∀ (j : Nat) (t : TypeId) (r : Value), f.resultTypes[j]? = some t → (v.resultList f.resultTypes.size)[j]? = some r → Value.okWide P W' .any 0 t r) : s.post enc P f apart fresh handsOn again W args v W' := by
 have lt := hW.lt
 have old : ∀ p ∈ before, (fun b => decide (b < W.heap.size)) p.block = true := fun p hp => decide_eq_true (lt p hp)
 subst hps
 refine ⟨ds, gs, pa ++ pv, [], pa, pv, hW, hres _ _ _, hargs _ old, hvars _ old, hb.frame _, fun _ => ?_⟩
 obtain ⟨_, _, _, _, _, hz, hn⟩ := hW
 have h1 := trodAll_append (hargs (fun _ => true) fun _ _ => rfl) (hres 0 (fun _ => true) true)
 refine ⟨hok, _, _, _, ⟨_, pv, h1, hvars _ fun _ _ => rfl, rfl, fun b off hp => ?_, fun ha => ?_⟩, fun p hp _ => ?_⟩
 ·have hp' : MemPlace.cell b off ∈ pa ++ pv := by simpa using hp
  rw [hb.frozen (lt _ hp')]
  exact hz b off hp'
 ·simpa using hn ha
 ·simpa using hp
end Go.Proofs.YtcbihoojfakhdaaGreatDoor

namespace Go.Proofs.YtcbihoojfakhdaaGreatDoor
open Go.ChangeShapes Go.WideShapes Go.ChangeAt Go.RowKit
set_option maxRecDepth 100000
variable {H : Type} {enc : TypeId × Value → H} {W : World} {sp : Nat → Bool} {held : Bool}
theorem laidOut : laidOutB Tryz.prog = true := by kernel_rfl
theorem cellsU32 : Tryz.prog.cellsOf 141 = 1 := by kernel_rfl
theorem cellsSl : Tryz.prog.cellsOf 22 = 1 := by kernel_rfl
theorem cellsBool : Tryz.prog.cellsOf 4 = 1 := by kernel_rfl
theorem cellsInt : Tryz.prog.cellsOf 3 = 1 := by kernel_rfl
theorem cellsZ : Tryz.prog.cellsOf 24 = 2 := by kernel_rfl
theorem cellsY : Tryz.prog.cellsOf 26 = 3 := by kernel_rfl
theorem rdl_U (S : Nat → Prop) : ∀ l : List Nat, RdL W S (l.map fun (d : Nat) => Value.int .u32 (d : Int)) (U l)
 | [] => .nil
 | _ :: l => .cons .int (rdl_U S l)
theorem wf_u32 {n : Int} (h : (Lit.int .u32 n).wf = true) : 0 ≤ n ∧ n < 4294967296 := by
 simp only [Lit.wf, Bool.and_eq_true, decide_eq_true_eq] at h
 simp [IntKind.min, IntKind.max, IntKind.signed, IntKind.bits] at h
 omega
theorem open_slice32 {n : Nat} {c : Value} {x : DataW H × List MemPlace} {b0 : Nat} (h : DataW.trod enc Tryz.prog W 0 sp held n 22 [c] = some x) (hok : Cell.okWide Tryz.prog W .any b0 22 c) :
  ∃ l : List Nat, Dig l ∧ l.length ≤ maxLen ∧ Rd W (fun _ => True) c (.sl 1 (U l)) := by
 rcases open_ints Tryz.underlying22 Tryz.underlying141 cellsU32 h with ⟨hc, _⟩ | ⟨a, len, cap, zs, hc, _, hl, hm, hz, _, hcell, hwf⟩
 ·obtain rfl : c = .slice none 0 0 := by simpa using hc
  exact ⟨[], (fun d hd => by cases hd), Nat.zero_le _, .nilsl⟩
 ·obtain rfl : c = .slice (some a) len cap := by simpa using hc
  have hlen : len ≤ zs.length := by rw [hz]; split <;> omega
  simp only [Cell.okWide, Cell.ok, Tryz.underlying22, World.has] at hok
  obtain ⟨_, _, _, hs, row, cells, hsh, _⟩ := hok
  obtain ⟨ab, ao, spot⟩ := a
  simp only at hs hsh
  subst hs
  have hb : ab < W.heap.size := by
   unfold World.shape? at hsh
   split at hsh
   ·rename_i q; exact (Array.getElem?_eq_some_iff.1 q).1
   ·cases hsh
  refine ⟨(zs.take len).map Int.toNat, ?_, ?_, ?_⟩
  ·intro d hd
   obtain ⟨z, hz', rfl⟩ := List.mem_map.1 hd
   have := wf_u32 (hwf z (List.mem_of_mem_take hz'))
   show z.toNat < 4294967296
   omega
  ·simp; omega
  ·refine .sl (vals := ((zs.take len).map Int.toNat).map fun (d : Nat) => Value.int .u32 (d : Int)) trivial hb hl (by simp [U]; omega) (rdl_U _ _) ?_
   intro i v hv
   simp only [List.getElem?_map, Option.map_eq_some_iff] at hv
   obtain ⟨d, ⟨z, hz', rfl⟩, rfl⟩ := hv
   have hi : i < len := by
    rcases Nat.lt_or_ge i len with q | q
    ·exact q
    ·rw [List.getElem?_eq_none (by simp; omega)] at hz'; cases hz'
   rw [List.getElem?_take, if_pos hi] at hz'
   have h1 := hcell i (by omega)
   rw [List.getD_eq_getElem?_getD, hz'] at h1
   have h2 := wf_u32 (hwf z (List.mem_of_getElem? hz'))
   have h3 : ((z.toNat : Nat) : Int) = z := Int.toNat_of_nonneg h2.1
   simp only [Option.getD_some] at h1
   rw [h3]
   have h4 : (Addr.mk ab ao none).add i = ⟨ab, ao + i, none⟩ := by
    unfold Addr.add; split
    ·rename_i q; subst q; rfl
    ·rfl
   rw [h4] at h1
   exact h1
theorem open_Z {n : Nat} {c0 c1 : Value} {x : DataW H × List MemPlace} {b0 : Nat} (h : DataW.trod enc Tryz.prog W 0 sp held n 24 [c0, c1] = some x) (hok : Cell.okWide Tryz.prog W .any b0 22 c1) :
  ∃ (b : Bool) (l : List Nat), Dig l ∧ l.length ≤ maxLen ∧ RdL W (fun _ => True) [c0, c1] [.bool b, .sl 1 (U l)] := by
 obtain ⟨y0, y1, m, _, _, h0, h1⟩ := trod_struct2 Tryz.underlying24 h
 have k0 : DataW.trod enc Tryz.prog W 0 sp held m 4 [c0] = some y0 := by simpa [cellsBool] using h0
 have k1 : DataW.trod enc Tryz.prog W 0 sp held m 22 [c1] = some y1 := by simpa [cellsSl] using h1
 obtain ⟨b, hb, _⟩ := DataW.trod_bool Tryz.underlying4 k0
 obtain rfl : c0 = .bool b := by simpa using hb
 obtain ⟨l, d, e, r⟩ := open_slice32 k1 hok
 exact ⟨b, l, d, e, .cons .bool (.cons r .nil)⟩
theorem open_Y {n : Nat} {c0 c1 c2 : Value} {x : DataW H × List MemPlace} {b0 : Nat} (h : DataW.trod enc Tryz.prog W 0 sp held n 26 [c0, c1, c2] = some x) (hok : Cell.okWide Tryz.prog W .any b0 22 c1) :
  ∃ (b : Bool) (l : List Nat) (e : Int), Dig l ∧ l.length ≤ maxLen ∧ ((-9223372036854775808 : Int) ≤ e ∧ e ≤ 9223372036854775807) ∧ RdL W (fun _ => True) [c0, c1, c2] [.bool b, .sl 1 (U l), .int .i64 e] := by
 obtain ⟨y0, y1, m, _, _, h0, h1⟩ := trod_struct2 Tryz.underlying26 h
 have k0 : DataW.trod enc Tryz.prog W 0 sp held m 24 [c0, c1] = some y0 := by simpa [cellsZ] using h0
 have k1 : DataW.trod enc Tryz.prog W 0 sp held m 3 [c2] = some y1 := by simpa [cellsInt] using h1
 obtain ⟨b, l, d, e, r⟩ := open_Z k0 hok
 obtain ⟨z, hz, _, hw⟩ := DataW.trod_int Tryz.underlying3 k1
 obtain rfl : c2 = .int .i64 z := by simpa using hz
 cases r with | cons r0 r => cases r with | cons r1 r => cases r with | nil =>
  exact ⟨b, l, z, d, e, int_wf hw, .cons r0 (.cons r1 (.cons .int .nil))⟩
end Go.Proofs.YtcbihoojfakhdaaGreatDoor

namespace Go.Proofs.YtcbihoojfakhdaaGreatDoor
open Go.ChangeShapes Go.WideShapes Go.ChangeAt Go.RowKit
set_option maxRecDepth 100000
variable {H : Type} {enc : TypeId × Value → H} {W : World} {sp : Nat → Bool} {held : Bool}
theorem array3 {α : Type} {cs : Array α} (h : cs.size = 3) : ∃ c0 c1 c2, cs = #[c0, c1, c2] := by
 obtain ⟨l⟩ := cs
 match l, h with
 | [c0, c1, c2], _ => exact ⟨c0, c1, c2, rfl⟩
end Go.Proofs.YtcbihoojfakhdaaGreatDoor

namespace Go.Proofs.YtcbihoojfakhdaaGreatDoor
open Go.ChangeShapes Go.WideShapes Go.ChangeAt Go.RowKit
set_option maxRecDepth 100000
variable {H : Type} {enc : TypeId × Value → H} {W : World} {sp : Nat → Bool} {held : Bool}
theorem open_D {v : Value} {d : DataW H} {p : List MemPlace} {b0 : Nat} (hv : Value.okWide Tryz.prog W .any b0 26 v) (h : DataW.Trod enc Tryz.prog W 0 sp held 26 v d p) :
  ∃ (b : Bool) (l : List Nat) (e : Int), (Dig l ∧ l.length ≤ maxLen ∧ ((-9223372036854775808 : Int) ≤ e ∧ e ≤ 9223372036854775807)) ∧ Rd W (fun _ => True) v (.agg [.bool b, .sl 1 (U l), .int .i64 e]) := by
 simp only [Value.okWide, Tryz.underlying26] at hv
 obtain ⟨cs, rfl, hsz, ts, hts, _, hrow⟩ := hv
 have e0 : Tryz.prog.cellTypes Tryz.prog.depth 26 = some [4, 22, 3] := by kernel_rfl
 rw [e0] at hts
 obtain rfl := Option.some.inj hts
 obtain ⟨c0, c1, c2, rfl⟩ := array3 (hsz.trans cellsY)
 obtain ⟨u1, q1, ok1⟩ := hrow 1 c1 rfl
 obtain rfl : 22 = u1 := by simpa using q1
 obtain ⟨n, hn⟩ := h
 have k : DataW.trod enc Tryz.prog W 0 sp held n 26 [c0, c1, c2] = some (d, p) := by simpa [Value.cells] using hn
 obtain ⟨b, l, e, d1, d2, d3, r1⟩ := open_Y k ok1
 exact ⟨b, l, e, ⟨d1, d2, d3⟩, .agg r1⟩
end Go.Proofs.YtcbihoojfakhdaaGreatDoor

namespace Go.Proofs.YtcbihoojfakhdaaGreatDoor.circularQuarters
open Go.ChangeShapes Go.WideShapes Go.ChangeAt Go.RowKit
set_option maxRecDepth 100000 in
theorem contract (H : Type) (enc : TypeId × Value → H) (W : World) (base : Nat) (args : Array Value) (ds gs : List (DataW H)) (before : List MemPlace)
  (hval : ∀ (j : Nat) t v, Tryz.f8.params[j]? = some t → args[j]? = some v → Value.okWide Tryz.prog W .any base t v)
  (hW : DataW.Whole enc Tryz.prog Tryz.f8.params.toList Rows.circularQuartersSpec.vars false W args.toList ds gs before) (hL : laidMetH Tryz.prog Rows.circularQuartersRow.laid W) :
  Calls Tryz.prog 8 args W fun e W' => ∃ v, e = .returned v ∧ Rows.circularQuartersSpec.post enc Tryz.prog Tryz.f8 false true false false W args v W' := by
 have hW' := hW
 obtain ⟨p, q, hA0, hV, rfl, hfz, hnd⟩ := hW
 have hA : DataW.TrodAll enc Tryz.prog W 0 (fun _ => true) true Tryz.f8.params.toList args.toList ds p := hA0
 rw [Tryz.params8] at hA hval
 obtain ⟨v0, vs0, d0, ds0, p0, q0, hargs0, rfl, rfl, h0, r0⟩ := trodAll_cons hA
 obtain ⟨v1, vs1, d1, ds1, p1, q1, hargs1, rfl, rfl, h1, r1⟩ := trodAll_cons r0
 obtain ⟨rfl, rfl, rfl⟩ := trodAll_nil r1
 obtain rfl : args = #[v0, v1] := by cases args; simp_all
 obtain ⟨rfl, rfl⟩ := trodVars_none hV
 obtain ⟨b0, l0, e0, ⟨a0, a0', a0''⟩, t0⟩ := open_D (hval 0 26 v0 rfl rfl) h0
 have m0 : l0.length ≤ 9223372036854775807 := a0'
 have k1 := h1
 obtain ⟨x1, rfl, rfl, rfl, w1⟩ := open_int Tryz.underlying3 (hval 1 3 v1 rfl rfl) h1
 have b1 := int_wf w1
 clear hA0
 have hlt := hW'.lt
 have hI := l17_CircularQuarters b0 l0 e0 x1 a0 m0 a0'' b1
 have hC := hI.2 W (fun _ => True) [v0, .int .i64 x1] (amb_of hL) (fun _ _ => trivial) (.cons t0 (.cons .int (.nil)))
 refine hC.mono fun e W' hh => ?_
 obtain ⟨v, rfl, hv, hb⟩ := hh
 have hv := hv.bool_inv
 subst hv
 exact ⟨_, rfl, post_of_below (pa := (p0 ++ ([] ++ []))) (pv := []) hW' (fun _ _ _ => trodAll_cons_mk (shut_bool Tryz.underlying4 _) trodAll_mk0) (fun sp hsp => (trodAll_cons_mk (WideElems.Trod_stays laidOut (by kernel_rfl) (of_decide_eq_true (by kernel_rfl)) h0 (fun x hx => hb.same (hlt x (by simp [hx]))) (fun x hx => hsp x (by simp [hx]))) (trodAll_cons_mk (shut_int Tryz.underlying3 w1) trodAll_mk0))) (fun _ _ => rfl) rfl
  hb (ok_one (by kernel_rfl) rfl (okWide_bool_mk Tryz.underlying4 _))⟩
theorem laid_met (os : Os) : laidMet Tryz.prog Rows.circularQuartersRow.laid ((laidWorld os).forCall (fun _ _ => 0) ⟨#[], #[.agg #[.bool false, .slice none 0 0, .int .i64 0], .int .i64 0], []⟩).memory :=
 laidMet_of_run' 64 (by kernel_rfl) (by kernel_rfl)
theorem reads (os : Os) {H : Type} (enc : TypeId × Value → H) : ∃ places, DataW.whole enc Tryz.prog ((laidWorld os).forCall (fun _ _ => 0) ⟨#[], #[.agg #[.bool false, .slice none 0 0, .int .i64 0], .int .i64 0], []⟩).memory Tryz.f8.params.toList Rows.circularQuartersSpec.vars false #[Value.agg #[.bool false, .slice none 0 0, .int .i64 0], Value.int .i64 0].toList 64 = some ([.agg [.agg [.lit (.bool false), .nil], .lit (.int .i64 0)], .lit (.int .i64 0)], [], places) :=
 ⟨[], by kernel_rfl⟩
set_option maxRecDepth 100000 in
theorem lifted (os : Os) (started : os.Started) (H : Type) (enc : TypeId × Value → H) (F : Stop.Interp) :
  ReturnsInHanded {} Tryz.checked os 8 .any ((OpenSpec.ofChange Rows.circularQuartersSpec).preRow enc Tryz.prog Tryz.f8 Rows.circularQuartersRow.domain false Rows.circularQuartersRow.laid) (((OpenSpec.ofChange Rows.circularQuartersSpec).at F).post enc Tryz.prog Tryz.f8 false true false false) := by
 obtain ⟨places, hx⟩ := reads os enc
 refine returnsInHanded_of_row (C := Tryz.checked) (s := OpenSpec.ofChange Rows.circularQuartersSpec) ownNone started (by kernel_rfl) Tryz.func8
  (witness_row_at (enc := enc) (C := Tryz.checked) false (laidWorld os) #[.agg #[.bool false, .slice none 0 0, .int .i64 0], .int .i64 0] rfl (by kernel_rfl) (by kernel_rfl) (by kernel_rfl)
   (OpenSpec.preRow_of_cond 64 hx (by kernel_rfl) (fun k hk => by cases hk) (by kernel_rfl) (laid_met os))) ?_
 intro W base args ds gs before hval hW _ _ _ hL _ _
 exact contract H enc W base args ds gs before hval hW hL
end Go.Proofs.YtcbihoojfakhdaaGreatDoor.circularQuarters
