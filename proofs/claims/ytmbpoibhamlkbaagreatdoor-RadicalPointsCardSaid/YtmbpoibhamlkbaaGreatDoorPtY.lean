/-
  Lower layers: what functions of the program compute, and plain facts. Conditions: as the theorems say.
-/
import Derived.Test.YtmbpoibhamlkbaaGreatDoorChecked
import Derived.Test.YtmbpoibhamlkbaaGreatDoorRows
import Derived.WalkKit
import Derived.ProofKit
import Derived.OpenShut
import Derived.Deep.DeepHandedRow
import Derived.Lib.LaidTab
import Derived.Lib.SmallJoins
import Derived.ChangeSlices
import Derived.Carry
import Derived.Test.YtmbpoibhamlkbaaGreatDoorPtX
set_option linter.unusedVariables false
set_option linter.unusedSimpArgs false
namespace Go.Proofs.YtmbpoibhamlkbaaGreatDoor
open Go.RowKit
set_option maxRecDepth 100000
set_option maxHeartbeats 8000000
theorem pt_ok {m ee n f d x k w : Int} (h1 : dv m ee ≤ dv d x) (h2 : dv d x ≤ dv n f) (hL : L d.natAbs ≤ 7) (hx : -10 ≤ x ∧ x ≤ 600) (hv : vdb d x = true) (hk : -6 ≤ k ∧ k ≤ 6) (hw : 0 ≤ w ∧ w ≤ 60) :
    ∃ (N1 E1 M1 X1 sa sb sc sd : Int) (D1 : Nat), (Impl Tryz.prog Amb 48 [(.agg [(.bool (decide ((dv d x).num < 0))), (N (((dv d x).num).natAbs)), (N ((dv d x).den))]), (.int .i64 k)] (.tup [(.agg [(.bool (decide (N1 < 0))), (N N1.natAbs), (N D1)]), (.int .i64 E1)])) ∧ ((pqE m ee n f k w) = 0 → E1 = 0 ∧ Impl Tryz.prog Amb 26 [(wV (pqV (enM (pwL m ee n f k) (pwH m ee n f k) w) m ee n f k w) (pqV (enX (pwL m ee n f k) (pwH m ee n f k) w) m ee n f k w) (pqV (enN (pwL m ee n f k) (pwH m ee n f k) w) m ee n f k w) (pqV (enF (pwL m ee n f k) (pwH m ee n f k) w) m ee n f k w)), (.agg [(.bool (decide (N1 < 0))), (N N1.natAbs), (N D1)])] (.bool true)) ∧ (Impl Tryz.prog Amb 40 [(yV d x), (yV d x)] (.tup [(yV M1 X1), (.int .i64 0)])) ∧ (Impl Tryz.prog Amb 32 [(wV M1 X1 M1 X1), (.int .i64 w)] (.tup [(wV sa sb sc sd), (.int .i64 0)])) ∧ (d < 0 → Impl Tryz.prog Amb 26 [(wV sa sb sc sd), (.agg [(.bool (decide ((dv (-d) x).num < 0))), (N (((dv (-d) x).num).natAbs)), (N ((dv (-d) x).den))])] (.bool true)) ∧ (¬ d < 0 → Impl Tryz.prog Amb 26 [(wV sa sb sc sd), (.agg [(.bool (decide ((dv d x).num < 0))), (N (((dv d x).num).natAbs)), (N ((dv d x).den))])] (.bool true)) := by
  have ls := dv_Ls hv oO
  have q1 : L (dv d x).num.natAbs ≤ 58 := by omega
  have q2 : L (dv d x).den ≤ 58 := by omega
  have lc := pw_Lc (r := dv d x) (k := k) oO oO oO
  have rp := rp_point (w := w) hL hx hw (M := mkM (d * d) (x + x)) (X := mkX (d * d) (x + x)) rfl rfl
  have lm := L_abs_mul d d
  have fm := mk_fit (m := d * d) (e := x + x) oO oO
  have s1 := (sr_facts (mkM (d * d) (x + x)) (mkX (d * d) (x + x)) w false).2
  have s2 := (sr_facts (mkM (d * d) (x + x)) (mkX (d * d) (x + x)) w true).2
  have g1 := vdb_range _ _ s1
  have g2 := vdb_range _ _ s2
  have zp := pq_facts m ee n f k w
  have ln := dv_Ls (m := -d) (e := x) (by rw [vdb_opp]; exact hv) oO
  have la := L_abs_neg d
  refine ⟨ppN (dv d x) k, ppE (dv d x) k, mkM (d * d) (x + x), mkX (d * d) (x + x), srM (mkM (d * d) (x + x)) (mkX (d * d) (x + x)) w false, srX (mkM (d * d) (x + x)) (mkX (d * d) (x + x)) w false, srM (mkM (d * d) (x + x)) (mkX (d * d) (x + x)) w true, srX (mkM (d * d) (x + x)) (mkX (d * d) (x + x)) w true, ppD (dv d x) k, r07_PowerQ _ k q1 q2 oO, fun h => ?_, ?_, ?_, fun h => ?_, fun h => ?_⟩
  · have nz := pq_nz h h1 h2
    have e3 := pp_ne nz
    have k0 := pq_0 h
    refine ⟨e3.2.2, ?_⟩
    have hb := pw_in (k := k) h1 h2 k0.2.1
    have hd := en_has2 k0.2.2.1 hb.1 hb.2
    have ve := en_vdb (pwL m ee n f k) (pwH m ee n f k) w
    have ze := en_sz (pwL m ee n f k) (pwH m ee n f k) w
    simp only [k0.2.2.2]
    exact impl_eq (congrArg V.bool hd) (r10_HasQ _ _ _ _ _ _ (dv d x ^ k) oO oO oO oO ve.1 ve.2 oO oO ⟨e3.1, e3.2.1⟩)
  · have hm := r08_Mul d x d x oO oO oO oO
    exact impl_eq (congrArg (fun c => V.tup [(yV (mkM (d * d) (x + x)) (mkX (d * d) (x + x))), V.int .i64 c]) fm.1) hm
  · have q8 : stT (mkM (d * d) (x + x)) (mkX (d * d) (x + x)) (mkM (d * d) (x + x)) (mkX (d * d) (x + x)) w = .tup [(wV (srM (mkM (d * d) (x + x)) (mkX (d * d) (x + x)) w false) (srX (mkM (d * d) (x + x)) (mkX (d * d) (x + x)) w false) (srM (mkM (d * d) (x + x)) (mkX (d * d) (x + x)) w true) (srX (mkM (d * d) (x + x)) (mkX (d * d) (x + x)) w true)), .int .i64 0] := by unfold stT; simp only [rp.2.1.1, rp.2.1.2]
    have hs := impl_eq q8 (rad_Sqrt (mkM (d * d) (x + x)) (mkX (d * d) (x + x)) (mkM (d * d) (x + x)) (mkX (d * d) (x + x)) w oO oO rp.1.2.2.2 oO oO rp.1.2.2.2 oO)
    exact hs
  · have hy := rp.2.2 (dv (-d) x) (dv_ge0.2 oO) (by rw [dv_neg]; grind)
    exact impl_eq (congrArg V.bool (has_ok hy)) (r10_Has _ _ _ _ (dv (-d) x) oO oO oO oO s1 s2 oO oO)
  · have hy := rp.2.2 (dv d x) (dv_ge0.2 oO) rfl
    exact impl_eq (congrArg V.bool (has_ok hy)) (r10_Has _ _ _ _ (dv d x) oO oO oO oO s1 s2 oO oO)
theorem l12_RadicalPoints (b1 : Bool) (l1 : List Nat) (e1 : Int) (b2 : Bool) (l2 : List Nat) (e2 : Int) (k w : Int) (c0 : Dig l1) (c1 : l1.length ≤ 9223372036854775807) (c2 : (-9223372036854775808 : Int) ≤ e1 ∧ e1 ≤ 9223372036854775807) (c3 : Dig l2) (c4 : l2.length ≤ 9223372036854775807) (c5 : (-9223372036854775808 : Int) ≤ e2 ∧ e2 ≤ 9223372036854775807) (c6 : (-9223372036854775808 : Int) ≤ k ∧ k ≤ 9223372036854775807) (c7 : (-9223372036854775808 : Int) ≤ w ∧ w ≤ 9223372036854775807) : Impl Tryz.prog Amb 8 [(.agg [(.bool b1), (.sl 1 (U l1)), (.int .i64 e1), (.bool b2), (.sl 1 (U l2)), (.int .i64 e2)]), .int .i64 k, .int .i64 w] (.bool true) := by
  have fa := iv_fit (b := b1) (e := e1) (c := b2) (f := e2) (n := 2) (k := 6) c0 c3 oO oO
  have hi := mill_Iv b1 l1 e1 b2 l2 e2 2 6 c0 c1 c3 c4 c2 c5 oO oO
  generalize hm : (ivM b1 l1 e1 b2 l2 e2 2 6) = m at fa hi
  generalize he : (ivX b1 l1 e1 b2 l2 e2 2 6) = ee at fa hi
  generalize hn : (ivN b1 l1 e1 b2 l2 e2 2 6) = n at fa hi
  generalize hf : (ivF b1 l1 e1 b2 l2 e2 2 6) = f at fa hi
  have w1 := Int.emod_nonneg w (show (60 : Int) ≠ 0 by omega)
  have w2 := Int.emod_lt_of_pos w (show (0 : Int) < 60 by omega)
  have k1 := Int.emod_nonneg k (show (13 : Int) ≠ 0 by omega)
  have k2 := Int.emod_lt_of_pos k (show (0 : Int) < 13 by omega)
  have hp := rad_Power m ee n f ((k % 13) - 6) (w % 60) oO oO fa.2.1 oO oO fa.2.2.1 fa.2.2.2 oO oO
  have hd := r10_Mid m ee n f oO oO oO oO (ad_fine oO oO oO oO)
  have m1 := mid_fit (m := m) (e := ee) (n := n) (f := f) oO oO oO oO fa.2.2.2
  have m2 := mid_fit2 (m := m) (e := ee) (n := n) (f := f) oO oO oO oO
  obtain ⟨N0, E0, M0, X0, p0, q0, r0, s0, D0, a1, a2, a3, a4, a5, a6⟩ := pt_ok (k := (k % 13) - 6) (w := w % 60) (Rat.le_refl (a := dv m ee)) fa.2.2.2 oO oO fa.2.1 oO oO
  obtain ⟨N1, E1, M1, X1, p1, q1, r1, s1, D1, t1, t2, t3, t4, t5, t6⟩ := pt_ok (k := (k % 13) - 6) (w := w % 60) fa.2.2.2 (Rat.le_refl (a := dv n f)) oO oO fa.2.2.1 oO oO
  obtain ⟨N2, E2, M2, X2, p2, q2, r2, s2, D2, u1, u2, u3, u4, u5, u6⟩ := pt_ok (k := (k % 13) - 6) (w := w % 60) m1.2.2.1 m1.2.2.2 oO oO m1.2.1 oO oO
  exact l12_RPt0 b1 l1 e1 b2 l2 e2 k w m ee n f (midM m ee n f) (midX m ee n f) _ _ _ _ _ _ N0 E0 M0 X0 p0 q0 r0 s0 N1 E1 M1 X1 p1 q1 r1 s1 N2 E2 M2 X2 p2 q2 r2 s2 D0 D1 D2 c7 c6 hi hp hd ⟨by omega, by omega, by omega⟩ fa.2.1 a1 a2 a3 a4 a5 a6 ⟨by omega, by omega, by omega⟩ fa.2.2.1 t1 t2 t3 t4 t5 t6 m2 m1.2.1 u1 u2 u3 u4 u5 u6

end Go.Proofs.YtmbpoibhamlkbaaGreatDoor

namespace Go.Proofs.YtmbpoibhamlkbaaGreatDoor
open Go.ChangeShapes Go.WideShapes Go.ChangeAt Go.RowKit
theorem ownNone : ownKnob Tryz.prog.godebug = none := by kernel_rfl
theorem gTab : Tryz.prog.globalNamed "math/bits.deBruijn32tab" = some 0 := by kernel_rfl
theorem gTabType : (Tryz.prog.globals[0]?).map (·.type) = some 172 := by kernel_rfl
theorem cellsTab : Tryz.prog.cellsOf 172 = 32 := by kernel_rfl
theorem cellsU8 : Tryz.prog.cellsOf 5 = 1 := by kernel_rfl
theorem amb_of {W : World} (h : laidMetH Tryz.prog [("math/bits.deBruijn32tab", Rows.laid_math_bits_deBruijn32tab)] W) : Amb W := by
  have t : Lib.TabIs Tryz.prog W "math/bits.deBruijn32tab" .u8 tab32 := Lib.tabIs_of_head (rest := []) gTab gTabType Tryz.underlying172 Tryz.underlying5 cellsU8 cellsTab h
  intro i v hi
  have hlt : i < tab32.length := by
    rcases Nat.lt_or_ge i tab32.length with q | q
    · exact q
    · rw [List.getElem?_eq_none q] at hi; cases hi
  have h1 := t.cell gTab i hlt
  rw [List.getD_eq_getElem?_getD, hi] at h1
  exact h1
theorem int_wf {n : Int} (h : (Lit.int .i64 n).wf = true) : (-9223372036854775808 : Int) ≤ n ∧ n ≤ 9223372036854775807 := by
  simp only [Lit.wf, Bool.and_eq_true, decide_eq_true_eq] at h
  simp [IntKind.min, IntKind.max, IntKind.signed, IntKind.bits] at h
  omega
noncomputable def laidWorld (os : Os) : World :=
  { World.holding Tryz.prog os ⟨#[], #[], []⟩ with heap := (World.holding Tryz.prog os ⟨#[], #[], []⟩).heap.modify 0 fun
      | .cells _ t frozen => .cells (tab32.map (Value.int .u8)).toArray t frozen
      | o => o }
theorem post_of_below {H : Type} {enc : TypeId × Value → H} {P : Program} {f : Func} {s : ChangeSpec} {apart fresh handsOn again : Bool} {W W' : World} {args : Array Value} {v : Value} {ds gs : List (DataW H)} {before pa pv : List MemPlace}
    (hW : DataW.Whole enc P f.params.toList s.vars apart W args.toList ds gs before)
    (hres : ∀ (b : Nat) (sp : Nat → Bool) (hd : Bool), DataW.TrodAll enc P W' b sp hd f.resultTypes.toList (v.resultList f.resultTypes.size) (s.fn H (ds ++ gs)).results [])
    (hargs : ∀ sp : Nat → Bool, (∀ p ∈ before, sp p.block = true) → DataW.TrodAll enc P W' 0 sp true f.params.toList args.toList (s.fn H (ds ++ gs)).args pa)
    (hvars : ∀ sp : Nat → Bool, (∀ p ∈ before, sp p.block = true) → DataW.TrodVars enc P W' sp s.vars (s.fn H (ds ++ gs)).vars pv)
    (hps : before = pa ++ pv) (hb : Below W.heap.size W W')
    (hok : ∀ (j : Nat) (t : TypeId) (r : Value), f.resultTypes[j]? = some t → (v.resultList f.resultTypes.size)[j]? = some r → Value.okWide P W' .any 0 t r) : s.post enc P f apart fresh handsOn again W args v W' := by
  have lt := hW.lt
  have old : ∀ p ∈ before, (fun b => decide (b < W.heap.size)) p.block = true := fun p hp => decide_eq_true (lt p hp)
  subst hps
  refine ⟨ds, gs, pa ++ pv, [], pa, pv, hW, hres _ _ _, hargs _ old, hvars _ old, hb.frame _, fun _ => ?_⟩
  obtain ⟨_, _, _, _, _, hz, hn⟩ := hW
  have h1 := trodAll_append (hargs (fun _ => true) fun _ _ => rfl) (hres 0 (fun _ => true) true)
  refine ⟨hok, _, _, _, ⟨_, pv, h1, hvars _ fun _ _ => rfl, rfl, fun b off hp => ?_, fun ha => ?_⟩, fun p hp _ => ?_⟩
  · have hp' : MemPlace.cell b off ∈ pa ++ pv := by simpa using hp
    rw [hb.frozen (lt _ hp')]
    exact hz b off hp'
  · simpa using hn ha
  · simpa using hp
end Go.Proofs.YtmbpoibhamlkbaaGreatDoor

namespace Go.Proofs.YtmbpoibhamlkbaaGreatDoor
open Go.ChangeShapes Go.WideShapes Go.ChangeAt Go.RowKit
set_option maxRecDepth 100000
variable {H : Type} {enc : TypeId × Value → H} {W : World} {sp : Nat → Bool} {held : Bool}
theorem laidOut : laidOutB Tryz.prog = true := by kernel_rfl
theorem cellsU32 : Tryz.prog.cellsOf 137 = 1 := by kernel_rfl
theorem cellsSl : Tryz.prog.cellsOf 22 = 1 := by kernel_rfl
theorem cellsBool : Tryz.prog.cellsOf 4 = 1 := by kernel_rfl
theorem cellsInt : Tryz.prog.cellsOf 3 = 1 := by kernel_rfl
theorem cellsZ : Tryz.prog.cellsOf 24 = 2 := by kernel_rfl
theorem cellsY : Tryz.prog.cellsOf 26 = 3 := by kernel_rfl
theorem cellsW : Tryz.prog.cellsOf 28 = 6 := by kernel_rfl
theorem rdl_U (S : Nat → Prop) : ∀ l : List Nat, RdL W S (l.map fun (d : Nat) => Value.int .u32 (d : Int)) (U l)
  | [] => .nil
  | _ :: l => .cons .int (rdl_U S l)
theorem wf_u32 {n : Int} (h : (Lit.int .u32 n).wf = true) : 0 ≤ n ∧ n < 4294967296 := by
  simp only [Lit.wf, Bool.and_eq_true, decide_eq_true_eq] at h
  simp [IntKind.min, IntKind.max, IntKind.signed, IntKind.bits] at h
  omega
theorem open_slice32 {n : Nat} {c : Value} {x : DataW H × List MemPlace} {b0 : Nat} (h : DataW.trod enc Tryz.prog W 0 sp held n 22 [c] = some x) (hok : Cell.okWide Tryz.prog W .any b0 22 c) :
    ∃ l : List Nat, Dig l ∧ l.length ≤ maxLen ∧ Rd W (fun _ => True) c (.sl 1 (U l)) := by
  rcases open_ints Tryz.underlying22 Tryz.underlying137 cellsU32 h with ⟨hc, _⟩ | ⟨a, len, cap, zs, hc, _, hl, hm, hz, _, hcell, hwf⟩
  · obtain rfl : c = .slice none 0 0 := by simpa using hc
    exact ⟨[], (fun d hd => by cases hd), Nat.zero_le _, .nilsl⟩
  · obtain rfl : c = .slice (some a) len cap := by simpa using hc
    have hlen : len ≤ zs.length := by rw [hz]; split <;> omega
    simp only [Cell.okWide, Cell.ok, Tryz.underlying22, World.has] at hok
    obtain ⟨_, _, _, hs, row, cells, hsh, _⟩ := hok
    obtain ⟨ab, ao, spot⟩ := a
    simp only at hs hsh
    subst hs
    have hb : ab < W.heap.size := by
      unfold World.shape? at hsh
      split at hsh
      · rename_i q; exact (Array.getElem?_eq_some_iff.1 q).1
      · cases hsh
    refine ⟨(zs.take len).map Int.toNat, ?_, ?_, ?_⟩
    · intro d hd
      obtain ⟨z, hz', rfl⟩ := List.mem_map.1 hd
      have := wf_u32 (hwf z (List.mem_of_mem_take hz'))
      show z.toNat < 4294967296
      omega
    · simp; omega
    · refine .sl (vals := ((zs.take len).map Int.toNat).map fun (d : Nat) => Value.int .u32 (d : Int)) trivial hb hl (by simp [U]; omega) (rdl_U _ _) ?_
      intro i v hv
      simp only [List.getElem?_map, Option.map_eq_some_iff] at hv
      obtain ⟨d, ⟨z, hz', rfl⟩, rfl⟩ := hv
      have hi : i < len := by
        rcases Nat.lt_or_ge i len with q | q
        · exact q
        · rw [List.getElem?_eq_none (by simp; omega)] at hz'; cases hz'
      rw [List.getElem?_take, if_pos hi] at hz'
      have h1 := hcell i (by omega)
      rw [List.getD_eq_getElem?_getD, hz'] at h1
      have h2 := wf_u32 (hwf z (List.mem_of_getElem? hz'))
      have h3 : ((z.toNat : Nat) : Int) = z := Int.toNat_of_nonneg h2.1
      simp only [Option.getD_some] at h1
      rw [h3]
      have h4 : (Addr.mk ab ao none).add i = ⟨ab, ao + i, none⟩ := by
        unfold Addr.add; split
        · rename_i q; subst q; rfl
        · rfl
      rw [h4] at h1
      exact h1
theorem open_Z {n : Nat} {c0 c1 : Value} {x : DataW H × List MemPlace} {b0 : Nat} (h : DataW.trod enc Tryz.prog W 0 sp held n 24 [c0, c1] = some x) (hok : Cell.okWide Tryz.prog W .any b0 22 c1) :
    ∃ (b : Bool) (l : List Nat), Dig l ∧ l.length ≤ maxLen ∧ RdL W (fun _ => True) [c0, c1] [.bool b, .sl 1 (U l)] := by
  obtain ⟨y0, y1, m, _, _, h0, h1⟩ := trod_struct2 Tryz.underlying24 h
  have k0 : DataW.trod enc Tryz.prog W 0 sp held m 4 [c0] = some y0 := by simpa [cellsBool] using h0
  have k1 : DataW.trod enc Tryz.prog W 0 sp held m 22 [c1] = some y1 := by simpa [cellsSl] using h1
  obtain ⟨b, hb, _⟩ := DataW.trod_bool Tryz.underlying4 k0
  obtain rfl : c0 = .bool b := by simpa using hb
  obtain ⟨l, d, e, r⟩ := open_slice32 k1 hok
  exact ⟨b, l, d, e, .cons .bool (.cons r .nil)⟩
theorem open_Y {n : Nat} {c0 c1 c2 : Value} {x : DataW H × List MemPlace} {b0 : Nat} (h : DataW.trod enc Tryz.prog W 0 sp held n 26 [c0, c1, c2] = some x) (hok : Cell.okWide Tryz.prog W .any b0 22 c1) :
    ∃ (b : Bool) (l : List Nat) (e : Int), Dig l ∧ l.length ≤ maxLen ∧ ((-9223372036854775808 : Int) ≤ e ∧ e ≤ 9223372036854775807) ∧ RdL W (fun _ => True) [c0, c1, c2] [.bool b, .sl 1 (U l), .int .i64 e] := by
  obtain ⟨y0, y1, m, _, _, h0, h1⟩ := trod_struct2 Tryz.underlying26 h
  have k0 : DataW.trod enc Tryz.prog W 0 sp held m 24 [c0, c1] = some y0 := by simpa [cellsZ] using h0
  have k1 : DataW.trod enc Tryz.prog W 0 sp held m 3 [c2] = some y1 := by simpa [cellsInt] using h1
  obtain ⟨b, l, d, e, r⟩ := open_Z k0 hok
  obtain ⟨z, hz, _, hw⟩ := DataW.trod_int Tryz.underlying3 k1
  obtain rfl : c2 = .int .i64 z := by simpa using hz
  cases r with | cons r0 r => cases r with | cons r1 r => cases r with | nil =>
    exact ⟨b, l, z, d, e, int_wf hw, .cons r0 (.cons r1 (.cons .int .nil))⟩
theorem array6 {α : Type} {cs : Array α} (h : cs.size = 6) : ∃ c0 c1 c2 c3 c4 c5, cs = #[c0, c1, c2, c3, c4, c5] := by
  obtain ⟨l⟩ := cs
  match l, h with
  | [c0, c1, c2, c3, c4, c5], _ => exact ⟨c0, c1, c2, c3, c4, c5, rfl⟩
theorem open_W {v : Value} {d : DataW H} {p : List MemPlace} {b0 : Nat} (hv : Value.okWide Tryz.prog W .any b0 28 v) (h : DataW.Trod enc Tryz.prog W 0 sp held 28 v d p) :
    ∃ (b : Bool) (l : List Nat) (e : Int) (c : Bool) (r : List Nat) (f : Int), (Dig l ∧ l.length ≤ maxLen ∧ ((-9223372036854775808 : Int) ≤ e ∧ e ≤ 9223372036854775807)) ∧ (Dig r ∧ r.length ≤ maxLen ∧ ((-9223372036854775808 : Int) ≤ f ∧ f ≤ 9223372036854775807)) ∧
      Rd W (fun _ => True) v (.agg [.bool b, .sl 1 (U l), .int .i64 e, .bool c, .sl 1 (U r), .int .i64 f]) := by
  simp only [Value.okWide, Tryz.underlying28] at hv
  obtain ⟨cs, rfl, hsz, ts, hts, _, hrow⟩ := hv
  have e0 : Tryz.prog.cellTypes Tryz.prog.depth 28 = some [4, 22, 3, 4, 22, 3] := by kernel_rfl
  rw [e0] at hts
  obtain rfl := Option.some.inj hts
  obtain ⟨c0, c1, c2, c3, c4, c5, rfl⟩ := array6 (hsz.trans cellsW)
  obtain ⟨u1, q1, ok1⟩ := hrow 1 c1 rfl
  obtain rfl : 22 = u1 := by simpa using q1
  obtain ⟨u4, q4, ok4⟩ := hrow 4 c4 rfl
  obtain rfl : 22 = u4 := by simpa using q4
  obtain ⟨n, hn⟩ := h
  obtain ⟨y0, y1, m, _, _, h0, h1⟩ := trod_struct2 Tryz.underlying28 hn
  have k0 : DataW.trod enc Tryz.prog W 0 sp held m 26 [c0, c1, c2] = some y0 := by simpa [cellsY, Value.cells] using h0
  have k1 : DataW.trod enc Tryz.prog W 0 sp held m 26 [c3, c4, c5] = some y1 := by simpa [cellsY, Value.cells] using h1
  obtain ⟨b, l, e, d1, d2, d3, r1⟩ := open_Y k0 ok1
  obtain ⟨c, r, f, f1, f2, f3, r2⟩ := open_Y k1 ok4
  refine ⟨b, l, e, c, r, f, ⟨d1, d2, d3⟩, ⟨f1, f2, f3⟩, ?_⟩
  cases r1 with | cons a0 r1 => cases r1 with | cons a1 r1 => cases r1 with | cons a2 r1 => cases r1 with | nil =>
  cases r2 with | cons b0 r2 => cases r2 with | cons b1 r2 => cases r2 with | cons b2 r2 => cases r2 with | nil =>
    exact .agg (.cons a0 (.cons a1 (.cons a2 (.cons b0 (.cons b1 (.cons b2 .nil))))))
end Go.Proofs.YtmbpoibhamlkbaaGreatDoor
