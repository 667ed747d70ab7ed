/-
  From a contract of the pure logic to what a row asks: the table from the row's list, the row's word on old memory, a world for the witness. Condition: none beyond what is said.
-/
import Derived.Test.YtcijnloneigfcaaDoorPvSeat
import Derived.Test.YtcijnloneigfcaaDoorChecked
import Derived.Test.YtcijnloneigfcaaDoorRows
import Derived.WalkKit
import Derived.ProofKit
import Derived.OpenShut
import Derived.Deep.DeepHandedRow
import Derived.Lib.LaidTab
set_option linter.unusedVariables false
set_option linter.unusedSimpArgs false
namespace Go.Proofs.YtcijnloneigfcaaDoor
open Go.ChangeShapes Go.WideShapes Go.ChangeAt Go.RowKit

theorem ownNone : ownKnob Tryd.prog.godebug = none := by kernel_rfl
theorem gTab : Tryd.prog.globalNamed "math/bits.deBruijn32tab" = some 0 := by kernel_rfl
theorem gTabType : (Tryd.prog.globals[0]?).map (·.type) = some 93 := by kernel_rfl
theorem cellsTab : Tryd.prog.cellsOf 93 = 32 := by kernel_rfl
theorem cellsU8 : Tryd.prog.cellsOf 5 = 1 := by kernel_rfl
theorem amb_of {W : World} (h : laidMetH Tryd.prog [("math/bits.deBruijn32tab", Rows.laid_math_bits_deBruijn32tab)] W) : Amb W := by
  have t : Lib.TabIs Tryd.prog W "math/bits.deBruijn32tab" .u8 tab32 := Lib.tabIs_of_head (rest := []) gTab gTabType Tryd.underlying93 Tryd.underlying5 cellsU8 cellsTab h
  intro i v hi
  have hlt : i < tab32.length := by
    rcases Nat.lt_or_ge i tab32.length with q | q
    · exact q
    · rw [List.getElem?_eq_none q] at hi; cases hi
  have h1 := t.cell gTab i hlt
  rw [List.getD_eq_getElem?_getD, hi] at h1
  exact h1
theorem int_wf {n : Int} (h : (Lit.int .i64 n).wf = true) : (-9223372036854775808 : Int) ≤ n ∧ n ≤ 9223372036854775807 := by
  simp only [Lit.wf, Bool.and_eq_true, decide_eq_true_eq] at h
  simp [IntKind.min, IntKind.max, IntKind.signed, IntKind.bits] at h
  omega
/-- a world whose table is laid -/
noncomputable def laidWorld (os : Os) : World :=
  { World.holding Tryd.prog os ⟨#[], #[], []⟩ with heap := (World.holding Tryd.prog os ⟨#[], #[], []⟩).heap.modify 0 fun
      | .cells _ t frozen => .cells (tab32.map (Value.int .u8)).toArray t frozen
      | o => o }
/-- what a row asks behind a call that changed nothing that was there -/
theorem post_of_below {H : Type} {enc : TypeId × Value → H} {P : Program} {f : Func} {s : ChangeSpec} {apart fresh handsOn again : Bool} {W W' : World} {args : Array Value} {v : Value} {ds gs : List (DataW H)} {before pa pv : List MemPlace}
    (hW : DataW.Whole enc P f.params.toList s.vars apart W args.toList ds gs before)
    (hres : ∀ (b : Nat) (sp : Nat → Bool) (hd : Bool), DataW.TrodAll enc P W' b sp hd f.resultTypes.toList (v.resultList f.resultTypes.size) (s.fn H (ds ++ gs)).results [])
    (hargs : ∀ sp : Nat → Bool, (∀ p ∈ before, sp p.block = true) → DataW.TrodAll enc P W' 0 sp true f.params.toList args.toList (s.fn H (ds ++ gs)).args pa)
    (hvars : ∀ sp : Nat → Bool, (∀ p ∈ before, sp p.block = true) → DataW.TrodVars enc P W' sp s.vars (s.fn H (ds ++ gs)).vars pv)
    (hps : before = pa ++ pv) (hb : Below W.heap.size W W')
    (hok : ∀ (j : Nat) (t : TypeId) (r : Value), f.resultTypes[j]? = some t → (v.resultList f.resultTypes.size)[j]? = some r → Value.okWide P W' .any 0 t r) : s.post enc P f apart fresh handsOn again W args v W' := by
  have lt := hW.lt
  have old : ∀ p ∈ before, (fun b => decide (b < W.heap.size)) p.block = true := fun p hp => decide_eq_true (lt p hp)
  subst hps
  refine ⟨ds, gs, pa ++ pv, [], pa, pv, hW, hres _ _ _, hargs _ old, hvars _ old, hb.frame _, fun _ => ?_⟩
  obtain ⟨_, _, _, _, _, hz, hn⟩ := hW
  have h1 := trodAll_append (hargs (fun _ => true) fun _ _ => rfl) (hres 0 (fun _ => true) true)
  refine ⟨hok, _, _, _, ⟨_, pv, h1, hvars _ fun _ _ => rfl, rfl, fun b off hp => ?_, fun ha => ?_⟩, fun p hp _ => ?_⟩
  · have hp' : MemPlace.cell b off ∈ pa ++ pv := by simpa using hp
    rw [hb.frozen (lt _ hp')]
    exact hz b off hp'
  · simpa using hn ha
  · simpa using hp
end Go.Proofs.YtcijnloneigfcaaDoor
