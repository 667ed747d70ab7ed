/-
  Lower layers: what functions of the program compute, and plain facts. Conditions: as the theorems say.
-/
import Derived.Test.YtmbpoibhamlkbaaGreatDoorChecked
import Derived.Test.YtmbpoibhamlkbaaGreatDoorRows
import Derived.WalkKit
import Derived.ProofKit
import Derived.OpenShut
import Derived.Deep.DeepHandedRow
import Derived.Lib.LaidTab
import Derived.Lib.SmallJoins
import Derived.ChangeSlices
import Derived.Carry
import Derived.Test.YtmbpoibhamlkbaaGreatDoorPlX
set_option linter.unusedVariables false
set_option linter.unusedSimpArgs false
namespace Go.Proofs.YtmbpoibhamlkbaaGreatDoor
open Go.RowKit
set_option maxRecDepth 100000
set_option maxHeartbeats 8000000

theorem l11_ALarge1 (b1 : Bool) (l1 : List Nat) (e1 : Int) (b2 : Bool) (l2 : List Nat) (e2 : Int) (b3 : Bool) (l3 : List Nat) (e3 : Int) (n : Int) (w : Int) (c0 : Dig l1) (c1 : l1.length ≤ 9223372036854775807) (c2 : (-9223372036854775808 : Int) ≤ e1 ∧ e1 ≤ 9223372036854775807) (c3 : Dig l2) (c4 : l2.length ≤ 9223372036854775807) (c5 : (-9223372036854775808 : Int) ≤ e2 ∧ e2 ≤ 9223372036854775807) (c6 : Dig l3) (c7 : l3.length ≤ 9223372036854775807) (c8 : (-9223372036854775808 : Int) ≤ e3 ∧ e3 ≤ 9223372036854775807) (c9 : (-9223372036854775808 : Int) ≤ n ∧ n ≤ 9223372036854775807) (c10 : (-9223372036854775808 : Int) ≤ w ∧ w ≤ 9223372036854775807) (vr sm : Bool) (h7 : (l1.length : Int) ≤ 20 → (l2.length : Int) ≤ 20 → Impl Tryz.prog Amb 59 [(.agg [(.bool b1), (.sl 1 (U l1)), (.int .i64 e1), (.bool b2), (.sl 1 (U l2)), (.int .i64 e2)])] (.bool vr)) (h8 : (l1.length : Int) ≤ 20 → (l2.length : Int) ≤ 20 → vr = true → Impl Tryz.prog Amb 57 [(.agg [(.bool b1), (.sl 1 (U l1)), (.int .i64 e1), (.bool b2), (.sl 1 (U l2)), (.int .i64 e2)])] (.bool sm)) (h9 : (l1.length : Int) ≤ 20 → (l2.length : Int) ≤ 20 → vr = true → Impl Tryz.prog Amb 58 [(.agg [(.bool b1), (.sl 1 (U l1)), (.int .i64 e1), (.bool b2), (.sl 1 (U l2)), (.int .i64 e2)])] (.bool sm)) : Impl Tryz.prog Amb 10 [(.agg [(.bool b1), (.sl 1 (U l1)), (.int .i64 e1), (.bool b2), (.sl 1 (U l2)), (.int .i64 e2)]), (.agg [(.bool b3), (.sl 1 (U l3)), (.int .i64 e3)]), (.int .i64 n), (.int .i64 w)] (.bool true) := by
  have hr := rawI_L (b := b3) (n := 3) c6 oO
  have ej := Int.emod_nonneg e3 (show (2 * 20 + 1 : Int) ≠ 0 by omega)
  have ek := Int.emod_lt_of_pos e3 (show (0 : Int) < 2 * 20 + 1 by omega)
  have f0 := mk_fit (m := (rawI b3 l3 3)) (e := (e3 % (2 * 20 + 1) - 20)) oO oO
  have i0 := iMin_range (e3 % (2 * 20 + 1) - 20) 0
  have i1 : iMax (e3 % (2 * 20 + 1) - 20) 0 ≤ 20 := by unfold iMax; split <;> omega
  generalize hm : (mkM (rawI b3 l3 3) (e3 % (2 * 20 + 1) - 20)) = m at f0
  generalize he : (mkX (rawI b3 l3 3) (e3 % (2 * 20 + 1) - 20)) = ee at f0
  have t0 := topD_range m ee
  have n0 := Int.emod_nonneg n (show (5 : Int) ≠ 0 by omega)
  have n1 := Int.emod_lt_of_pos n (show (0 : Int) < 5 by omega)
  have f1 := mk_fit (m := m) (e := ee + ((((2048 : Int) - (topD m ee)) - 2) + (n % 5))) oO oO
  have i2 := iMin_range (ee + ((((2048 : Int) - (topD m ee)) - 2) + (n % 5))) 0
  have i3 : iMax (ee + ((((2048 : Int) - (topD m ee)) - 2) + (n % 5))) 0 ≤ 2300 := by unfold iMax; split <;> omega
  refine l11_ALarge0 b1 l1 e1 b2 l2 e2 b3 l3 e3 n w m ee _ _ _ vr sm c9 c10 oO oO f1.2.2.2.2.1 ?_ (r08_Shift m ee ((((2048 : Int) - (topD m ee)) - 2) + (n % 5)) oO oO oO) h7 h8 h9
  have h := mill_Dyadic b3 l3 e3 3 20 c6 c7 c8 oO oO
  rw [hm, he] at h
  exact h
theorem l11_ArithLarge (b1 : Bool) (l1 : List Nat) (e1 : Int) (b2 : Bool) (l2 : List Nat) (e2 : Int) (b3 : Bool) (l3 : List Nat) (e3 : Int) (n : Int) (w : Int) (c0 : Dig l1) (c1 : l1.length ≤ 9223372036854775807) (c2 : (-9223372036854775808 : Int) ≤ e1 ∧ e1 ≤ 9223372036854775807) (c3 : Dig l2) (c4 : l2.length ≤ 9223372036854775807) (c5 : (-9223372036854775808 : Int) ≤ e2 ∧ e2 ≤ 9223372036854775807) (c6 : Dig l3) (c7 : l3.length ≤ 9223372036854775807) (c8 : (-9223372036854775808 : Int) ≤ e3 ∧ e3 ≤ 9223372036854775807) (c9 : (-9223372036854775808 : Int) ≤ n ∧ n ≤ 9223372036854775807) (c10 : (-9223372036854775808 : Int) ≤ w ∧ w ≤ 9223372036854775807) : Impl Tryz.prog Amb 10 [(.agg [(.bool b1), (.sl 1 (U l1)), (.int .i64 e1), (.bool b2), (.sl 1 (U l2)), (.int .i64 e2)]), (.agg [(.bool b3), (.sl 1 (U l3)), (.int .i64 e3)]), (.int .i64 n), (.int .i64 w)] (.bool true) := by
  have key : ∃ vr sm : Bool, ((l1.length : Int) ≤ 20 → (l2.length : Int) ≤ 20 → Impl Tryz.prog Amb 59 [(.agg [(.bool b1), (.sl 1 (U l1)), (.int .i64 e1), (.bool b2), (.sl 1 (U l2)), (.int .i64 e2)])] (.bool vr)) ∧ ((l1.length : Int) ≤ 20 → (l2.length : Int) ≤ 20 → vr = true → Impl Tryz.prog Amb 57 [(.agg [(.bool b1), (.sl 1 (U l1)), (.int .i64 e1), (.bool b2), (.sl 1 (U l2)), (.int .i64 e2)])] (.bool sm)) ∧ ((l1.length : Int) ≤ 20 → (l2.length : Int) ≤ 20 → vr = true → Impl Tryz.prog Amb 58 [(.agg [(.bool b1), (.sl 1 (U l1)), (.int .i64 e1), (.bool b2), (.sl 1 (U l2)), (.int .i64 e2)])] (.bool sm)) := by
    rcases raw_or b1 l1 c0 c1 with ⟨x, rfl, rfl⟩ | hx
    · rcases raw_or b2 l2 c3 c4 with ⟨y, rfl, rfl⟩ | hy
      · refine ⟨ivB x e1 y e2, smB x e1 y e2, fun p q => ?_, fun p q hv => ?_, fun p q hv => ?_⟩
        · have l0 : L x.natAbs ≤ 20 := by unfold L; omega
          have l1 : L y.natAbs ≤ 20 := by unfold L; omega
          exact r10_Valid x e1 y e2 oO oO
        · have l0 : L x.natAbs ≤ 20 := by unfold L; omega
          have l1 : L y.natAbs ≤ 20 := by unfold L; omega
          have r := ivB_range (not_of' hv)
          exact ar_Small x e1 y e2 oO oO oO oO
        · have l0 : L x.natAbs ≤ 20 := by unfold L; omega
          have l1 : L y.natAbs ≤ 20 := by unfold L; omega
          have r := ivB_range (not_of' hv)
          exact r11_Small x e1 y e2 oO oO oO oO
      · refine ⟨false, false, fun p q => ?_, fun p q hv => (by cases hv), fun p q hv => (by cases hv)⟩
        have l0 : L x.natAbs ≤ 20 := by unfold L; omega
        exact r10_ValidM x e1 b2 l2 e2 oO (r08_ValidX b2 l2 e2 hy)
    · exact ⟨false, false, fun _ _ => r10_ValidX b1 l1 e1 b2 l2 e2 (r08_ValidX b1 l1 e1 hx), fun p q hv => (by cases hv), fun p q hv => (by cases hv)⟩
  obtain ⟨vr, sm, h7, h8, h9⟩ := key
  exact l11_ALarge1 b1 l1 e1 b2 l2 e2 b3 l3 e3 n w c0 c1 c2 c3 c4 c5 c6 c7 c8 c9 c10 vr sm h7 h8 h9


end Go.Proofs.YtmbpoibhamlkbaaGreatDoor

namespace Go.Proofs.YtmbpoibhamlkbaaGreatDoor
open Go.ChangeShapes Go.WideShapes Go.ChangeAt Go.RowKit

theorem ownNone : ownKnob Tryz.prog.godebug = none := by kernel_rfl
theorem gTab : Tryz.prog.globalNamed "math/bits.deBruijn32tab" = some 0 := by kernel_rfl
theorem gTabType : (Tryz.prog.globals[0]?).map (·.type) = some 172 := by kernel_rfl
theorem cellsTab : Tryz.prog.cellsOf 172 = 32 := by kernel_rfl
theorem cellsU8 : Tryz.prog.cellsOf 5 = 1 := by kernel_rfl
theorem amb_of {W : World} (h : laidMetH Tryz.prog [("math/bits.deBruijn32tab", Rows.laid_math_bits_deBruijn32tab)] W) : Amb W := by
  have t : Lib.TabIs Tryz.prog W "math/bits.deBruijn32tab" .u8 tab32 := Lib.tabIs_of_head (rest := []) gTab gTabType Tryz.underlying172 Tryz.underlying5 cellsU8 cellsTab h
  intro i v hi
  have hlt : i < tab32.length := by
    rcases Nat.lt_or_ge i tab32.length with q | q
    · exact q
    · rw [List.getElem?_eq_none q] at hi; cases hi
  have h1 := t.cell gTab i hlt
  rw [List.getD_eq_getElem?_getD, hi] at h1
  exact h1
theorem int_wf {n : Int} (h : (Lit.int .i64 n).wf = true) : (-9223372036854775808 : Int) ≤ n ∧ n ≤ 9223372036854775807 := by
  simp only [Lit.wf, Bool.and_eq_true, decide_eq_true_eq] at h
  simp [IntKind.min, IntKind.max, IntKind.signed, IntKind.bits] at h
  omega
noncomputable def laidWorld (os : Os) : World :=
  { World.holding Tryz.prog os ⟨#[], #[], []⟩ with heap := (World.holding Tryz.prog os ⟨#[], #[], []⟩).heap.modify 0 fun
      | .cells _ t frozen => .cells (tab32.map (Value.int .u8)).toArray t frozen
      | o => o }
theorem post_of_below {H : Type} {enc : TypeId × Value → H} {P : Program} {f : Func} {s : ChangeSpec} {apart fresh handsOn again : Bool} {W W' : World} {args : Array Value} {v : Value} {ds gs : List (DataW H)} {before pa pv : List MemPlace}
    (hW : DataW.Whole enc P f.params.toList s.vars apart W args.toList ds gs before)
    (hres : ∀ (b : Nat) (sp : Nat → Bool) (hd : Bool), DataW.TrodAll enc P W' b sp hd f.resultTypes.toList (v.resultList f.resultTypes.size) (s.fn H (ds ++ gs)).results [])
    (hargs : ∀ sp : Nat → Bool, (∀ p ∈ before, sp p.block = true) → DataW.TrodAll enc P W' 0 sp true f.params.toList args.toList (s.fn H (ds ++ gs)).args pa)
    (hvars : ∀ sp : Nat → Bool, (∀ p ∈ before, sp p.block = true) → DataW.TrodVars enc P W' sp s.vars (s.fn H (ds ++ gs)).vars pv)
    (hps : before = pa ++ pv) (hb : Below W.heap.size W W')
    (hok : ∀ (j : Nat) (t : TypeId) (r : Value), f.resultTypes[j]? = some t → (v.resultList f.resultTypes.size)[j]? = some r → Value.okWide P W' .any 0 t r) : s.post enc P f apart fresh handsOn again W args v W' := by
  have lt := hW.lt
  have old : ∀ p ∈ before, (fun b => decide (b < W.heap.size)) p.block = true := fun p hp => decide_eq_true (lt p hp)
  subst hps
  refine ⟨ds, gs, pa ++ pv, [], pa, pv, hW, hres _ _ _, hargs _ old, hvars _ old, hb.frame _, fun _ => ?_⟩
  obtain ⟨_, _, _, _, _, hz, hn⟩ := hW
  have h1 := trodAll_append (hargs (fun _ => true) fun _ _ => rfl) (hres 0 (fun _ => true) true)
  refine ⟨hok, _, _, _, ⟨_, pv, h1, hvars _ fun _ _ => rfl, rfl, fun b off hp => ?_, fun ha => ?_⟩, fun p hp _ => ?_⟩
  · have hp' : MemPlace.cell b off ∈ pa ++ pv := by simpa using hp
    rw [hb.frozen (lt _ hp')]
    exact hz b off hp'
  · simpa using hn ha
  · simpa using hp
end Go.Proofs.YtmbpoibhamlkbaaGreatDoor

namespace Go.Proofs.YtmbpoibhamlkbaaGreatDoor
open Go.ChangeShapes Go.WideShapes Go.ChangeAt Go.RowKit
set_option maxRecDepth 100000
variable {H : Type} {enc : TypeId × Value → H} {W : World} {sp : Nat → Bool} {held : Bool}
theorem laidOut : laidOutB Tryz.prog = true := by kernel_rfl
theorem cellsU32 : Tryz.prog.cellsOf 137 = 1 := by kernel_rfl
theorem cellsSl : Tryz.prog.cellsOf 22 = 1 := by kernel_rfl
theorem cellsBool : Tryz.prog.cellsOf 4 = 1 := by kernel_rfl
theorem cellsInt : Tryz.prog.cellsOf 3 = 1 := by kernel_rfl
theorem cellsZ : Tryz.prog.cellsOf 24 = 2 := by kernel_rfl
theorem cellsY : Tryz.prog.cellsOf 26 = 3 := by kernel_rfl
theorem cellsW : Tryz.prog.cellsOf 28 = 6 := by kernel_rfl
theorem rdl_U (S : Nat → Prop) : ∀ l : List Nat, RdL W S (l.map fun (d : Nat) => Value.int .u32 (d : Int)) (U l)
  | [] => .nil
  | _ :: l => .cons .int (rdl_U S l)
theorem wf_u32 {n : Int} (h : (Lit.int .u32 n).wf = true) : 0 ≤ n ∧ n < 4294967296 := by
  simp only [Lit.wf, Bool.and_eq_true, decide_eq_true_eq] at h
  simp [IntKind.min, IntKind.max, IntKind.signed, IntKind.bits] at h
  omega
theorem open_slice32 {n : Nat} {c : Value} {x : DataW H × List MemPlace} {b0 : Nat} (h : DataW.trod enc Tryz.prog W 0 sp held n 22 [c] = some x) (hok : Cell.okWide Tryz.prog W .any b0 22 c) :
    ∃ l : List Nat, Dig l ∧ l.length ≤ maxLen ∧ Rd W (fun _ => True) c (.sl 1 (U l)) := by
  rcases open_ints Tryz.underlying22 Tryz.underlying137 cellsU32 h with ⟨hc, _⟩ | ⟨a, len, cap, zs, hc, _, hl, hm, hz, _, hcell, hwf⟩
  · obtain rfl : c = .slice none 0 0 := by simpa using hc
    exact ⟨[], (fun d hd => by cases hd), Nat.zero_le _, .nilsl⟩
  · obtain rfl : c = .slice (some a) len cap := by simpa using hc
    have hlen : len ≤ zs.length := by rw [hz]; split <;> omega
    simp only [Cell.okWide, Cell.ok, Tryz.underlying22, World.has] at hok
    obtain ⟨_, _, _, hs, row, cells, hsh, _⟩ := hok
    obtain ⟨ab, ao, spot⟩ := a
    simp only at hs hsh
    subst hs
    have hb : ab < W.heap.size := by
      unfold World.shape? at hsh
      split at hsh
      · rename_i q; exact (Array.getElem?_eq_some_iff.1 q).1
      · cases hsh
    refine ⟨(zs.take len).map Int.toNat, ?_, ?_, ?_⟩
    · intro d hd
      obtain ⟨z, hz', rfl⟩ := List.mem_map.1 hd
      have := wf_u32 (hwf z (List.mem_of_mem_take hz'))
      show z.toNat < 4294967296
      omega
    · simp; omega
    · refine .sl (vals := ((zs.take len).map Int.toNat).map fun (d : Nat) => Value.int .u32 (d : Int)) trivial hb hl (by simp [U]; omega) (rdl_U _ _) ?_
      intro i v hv
      simp only [List.getElem?_map, Option.map_eq_some_iff] at hv
      obtain ⟨d, ⟨z, hz', rfl⟩, rfl⟩ := hv
      have hi : i < len := by
        rcases Nat.lt_or_ge i len with q | q
        · exact q
        · rw [List.getElem?_eq_none (by simp; omega)] at hz'; cases hz'
      rw [List.getElem?_take, if_pos hi] at hz'
      have h1 := hcell i (by omega)
      rw [List.getD_eq_getElem?_getD, hz'] at h1
      have h2 := wf_u32 (hwf z (List.mem_of_getElem? hz'))
      have h3 : ((z.toNat : Nat) : Int) = z := Int.toNat_of_nonneg h2.1
      simp only [Option.getD_some] at h1
      rw [h3]
      have h4 : (Addr.mk ab ao none).add i = ⟨ab, ao + i, none⟩ := by
        unfold Addr.add; split
        · rename_i q; subst q; rfl
        · rfl
      rw [h4] at h1
      exact h1
theorem open_Z {n : Nat} {c0 c1 : Value} {x : DataW H × List MemPlace} {b0 : Nat} (h : DataW.trod enc Tryz.prog W 0 sp held n 24 [c0, c1] = some x) (hok : Cell.okWide Tryz.prog W .any b0 22 c1) :
    ∃ (b : Bool) (l : List Nat), Dig l ∧ l.length ≤ maxLen ∧ RdL W (fun _ => True) [c0, c1] [.bool b, .sl 1 (U l)] := by
  obtain ⟨y0, y1, m, _, _, h0, h1⟩ := trod_struct2 Tryz.underlying24 h
  have k0 : DataW.trod enc Tryz.prog W 0 sp held m 4 [c0] = some y0 := by simpa [cellsBool] using h0
  have k1 : DataW.trod enc Tryz.prog W 0 sp held m 22 [c1] = some y1 := by simpa [cellsSl] using h1
  obtain ⟨b, hb, _⟩ := DataW.trod_bool Tryz.underlying4 k0
  obtain rfl : c0 = .bool b := by simpa using hb
  obtain ⟨l, d, e, r⟩ := open_slice32 k1 hok
  exact ⟨b, l, d, e, .cons .bool (.cons r .nil)⟩
theorem open_Y {n : Nat} {c0 c1 c2 : Value} {x : DataW H × List MemPlace} {b0 : Nat} (h : DataW.trod enc Tryz.prog W 0 sp held n 26 [c0, c1, c2] = some x) (hok : Cell.okWide Tryz.prog W .any b0 22 c1) :
    ∃ (b : Bool) (l : List Nat) (e : Int), Dig l ∧ l.length ≤ maxLen ∧ ((-9223372036854775808 : Int) ≤ e ∧ e ≤ 9223372036854775807) ∧ RdL W (fun _ => True) [c0, c1, c2] [.bool b, .sl 1 (U l), .int .i64 e] := by
  obtain ⟨y0, y1, m, _, _, h0, h1⟩ := trod_struct2 Tryz.underlying26 h
  have k0 : DataW.trod enc Tryz.prog W 0 sp held m 24 [c0, c1] = some y0 := by simpa [cellsZ] using h0
  have k1 : DataW.trod enc Tryz.prog W 0 sp held m 3 [c2] = some y1 := by simpa [cellsInt] using h1
  obtain ⟨b, l, d, e, r⟩ := open_Z k0 hok
  obtain ⟨z, hz, _, hw⟩ := DataW.trod_int Tryz.underlying3 k1
  obtain rfl : c2 = .int .i64 z := by simpa using hz
  cases r with | cons r0 r => cases r with | cons r1 r => cases r with | nil =>
    exact ⟨b, l, z, d, e, int_wf hw, .cons r0 (.cons r1 (.cons .int .nil))⟩
theorem array6 {α : Type} {cs : Array α} (h : cs.size = 6) : ∃ c0 c1 c2 c3 c4 c5, cs = #[c0, c1, c2, c3, c4, c5] := by
  obtain ⟨l⟩ := cs
  match l, h with
  | [c0, c1, c2, c3, c4, c5], _ => exact ⟨c0, c1, c2, c3, c4, c5, rfl⟩
theorem open_W {v : Value} {d : DataW H} {p : List MemPlace} {b0 : Nat} (hv : Value.okWide Tryz.prog W .any b0 28 v) (h : DataW.Trod enc Tryz.prog W 0 sp held 28 v d p) :
    ∃ (b : Bool) (l : List Nat) (e : Int) (c : Bool) (r : List Nat) (f : Int), (Dig l ∧ l.length ≤ maxLen ∧ ((-9223372036854775808 : Int) ≤ e ∧ e ≤ 9223372036854775807)) ∧ (Dig r ∧ r.length ≤ maxLen ∧ ((-9223372036854775808 : Int) ≤ f ∧ f ≤ 9223372036854775807)) ∧
      Rd W (fun _ => True) v (.agg [.bool b, .sl 1 (U l), .int .i64 e, .bool c, .sl 1 (U r), .int .i64 f]) := by
  simp only [Value.okWide, Tryz.underlying28] at hv
  obtain ⟨cs, rfl, hsz, ts, hts, _, hrow⟩ := hv
  have e0 : Tryz.prog.cellTypes Tryz.prog.depth 28 = some [4, 22, 3, 4, 22, 3] := by kernel_rfl
  rw [e0] at hts
  obtain rfl := Option.some.inj hts
  obtain ⟨c0, c1, c2, c3, c4, c5, rfl⟩ := array6 (hsz.trans cellsW)
  obtain ⟨u1, q1, ok1⟩ := hrow 1 c1 rfl
  obtain rfl : 22 = u1 := by simpa using q1
  obtain ⟨u4, q4, ok4⟩ := hrow 4 c4 rfl
  obtain rfl : 22 = u4 := by simpa using q4
  obtain ⟨n, hn⟩ := h
  obtain ⟨y0, y1, m, _, _, h0, h1⟩ := trod_struct2 Tryz.underlying28 hn
  have k0 : DataW.trod enc Tryz.prog W 0 sp held m 26 [c0, c1, c2] = some y0 := by simpa [cellsY, Value.cells] using h0
  have k1 : DataW.trod enc Tryz.prog W 0 sp held m 26 [c3, c4, c5] = some y1 := by simpa [cellsY, Value.cells] using h1
  obtain ⟨b, l, e, d1, d2, d3, r1⟩ := open_Y k0 ok1
  obtain ⟨c, r, f, f1, f2, f3, r2⟩ := open_Y k1 ok4
  refine ⟨b, l, e, c, r, f, ⟨d1, d2, d3⟩, ⟨f1, f2, f3⟩, ?_⟩
  cases r1 with | cons a0 r1 => cases r1 with | cons a1 r1 => cases r1 with | cons a2 r1 => cases r1 with | nil =>
  cases r2 with | cons b0 r2 => cases r2 with | cons b1 r2 => cases r2 with | cons b2 r2 => cases r2 with | nil =>
    exact .agg (.cons a0 (.cons a1 (.cons a2 (.cons b0 (.cons b1 (.cons b2 .nil))))))
end Go.Proofs.YtmbpoibhamlkbaaGreatDoor

namespace Go.Proofs.YtmbpoibhamlkbaaGreatDoor
open Go.ChangeShapes Go.WideShapes Go.ChangeAt Go.RowKit
set_option maxRecDepth 100000
variable {H : Type} {enc : TypeId × Value → H} {W : World} {sp : Nat → Bool} {held : Bool}
theorem array3 {α : Type} {cs : Array α} (h : cs.size = 3) : ∃ c0 c1 c2, cs = #[c0, c1, c2] := by
  obtain ⟨l⟩ := cs
  match l, h with
  | [c0, c1, c2], _ => exact ⟨c0, c1, c2, rfl⟩
end Go.Proofs.YtmbpoibhamlkbaaGreatDoor

namespace Go.Proofs.YtmbpoibhamlkbaaGreatDoor
open Go.ChangeShapes Go.WideShapes Go.ChangeAt Go.RowKit
set_option maxRecDepth 100000
variable {H : Type} {enc : TypeId × Value → H} {W : World} {sp : Nat → Bool} {held : Bool}
theorem open_D {v : Value} {d : DataW H} {p : List MemPlace} {b0 : Nat} (hv : Value.okWide Tryz.prog W .any b0 26 v) (h : DataW.Trod enc Tryz.prog W 0 sp held 26 v d p) :
    ∃ (b : Bool) (l : List Nat) (e : Int), (Dig l ∧ l.length ≤ maxLen ∧ ((-9223372036854775808 : Int) ≤ e ∧ e ≤ 9223372036854775807)) ∧ Rd W (fun _ => True) v (.agg [.bool b, .sl 1 (U l), .int .i64 e]) := by
  simp only [Value.okWide, Tryz.underlying26] at hv
  obtain ⟨cs, rfl, hsz, ts, hts, _, hrow⟩ := hv
  have e0 : Tryz.prog.cellTypes Tryz.prog.depth 26 = some [4, 22, 3] := by kernel_rfl
  rw [e0] at hts
  obtain rfl := Option.some.inj hts
  obtain ⟨c0, c1, c2, rfl⟩ := array3 (hsz.trans cellsY)
  obtain ⟨u1, q1, ok1⟩ := hrow 1 c1 rfl
  obtain rfl : 22 = u1 := by simpa using q1
  obtain ⟨n, hn⟩ := h
  have k : DataW.trod enc Tryz.prog W 0 sp held n 26 [c0, c1, c2] = some (d, p) := by simpa [Value.cells] using hn
  obtain ⟨b, l, e, d1, d2, d3, r1⟩ := open_Y k ok1
  exact ⟨b, l, e, ⟨d1, d2, d3⟩, .agg r1⟩
end Go.Proofs.YtmbpoibhamlkbaaGreatDoor
