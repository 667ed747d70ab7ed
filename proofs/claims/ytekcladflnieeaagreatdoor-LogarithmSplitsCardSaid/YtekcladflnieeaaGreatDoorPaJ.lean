/-
  Lower layers: what functions of the program compute, and plain facts. Conditions: as the theorems say.
-/
import Derived.Test.YtekcladflnieeaaGreatDoorChecked
import Derived.Test.YtekcladflnieeaaGreatDoorRows
import Derived.WalkKit
import Derived.ProofKit
import Derived.OpenShut
import Derived.Deep.DeepHandedRow
import Derived.Lib.LaidTab
import Derived.Lib.SmallJoins
import Derived.ChangeSlices
import Derived.Carry
import Derived.Test.YtekcladflnieeaaGreatDoorCards
import Derived.Test.YtekcladflnieeaaGreatDoorTie
import Derived.Test.YtekcladflnieeaaGreatDoorPaI
set_option linter.unusedVariables false
set_option linter.unusedSimpArgs false
namespace Go.Proofs.YtekcladflnieeaaGreatDoor
open Go.RowKit
set_option maxRecDepth 100000
set_option maxHeartbeats 2000000
theorem l15_SplitsF (b1 : Bool) (l1 : List Nat) (e1 : Int) (m : Int) (ee : Int) (k : Int) (ek : Int) (p : Int) (q : Int) (c0 : Impl Tryz.prog Amb 25 [(.agg [(.bool b1), (.sl 1 (U l1)), (.int .i64 e1)]), (.int .i64 8), (.int .i64 60000)] (.tup [(yV m ee), (.bool false)])) (c1 : L (m).natAbs ≤ 1000) : Impl Tryz.prog Amb 6 [(.agg [(.bool b1), (.sl 1 (U l1)), (.int .i64 e1)])] (.bool true) := by
  have sm := sign_range m
  exact impl_ob hP hAmb Tryz.func6 (by kernel_rfl) (.lit <| .call (.bool true) <| .lits 4 <| .call (.tup [(yV m ee), (.bool false)]) <| .lits 4 <| .ret)
    (cast_ob (aI True.intro (aI (l15_awake ) (aI (c0 ) ((vsub_refl (.bool true)))))) (by kernel_rfl))
theorem l15_SplitsN (b1 : Bool) (l1 : List Nat) (e1 : Int) (m : Int) (ee : Int) (k : Int) (ek : Int) (p : Int) (q : Int) (c0 : Impl Tryz.prog Amb 25 [(.agg [(.bool b1), (.sl 1 (U l1)), (.int .i64 e1)]), (.int .i64 8), (.int .i64 60000)] (.tup [(yV m ee), (.bool true)])) (c1 : Impl Tryz.prog Amb 26 [(yV m ee)] (.tup [(.int .i64 0), (.agg [(.bool false), .nil, (.int .i64 0)]), (.int .i64 4)])) (c2 : Impl Tryz.prog Amb 27 [(yV m ee)] (.tup [(.int .i64 0), (.agg [(.bool false), .nil, (.int .i64 0)]), (.int .i64 4)])) (c3 : Impl Tryz.prog Amb 28 [(.agg [(.bool false), .nil, (.int .i64 0)]), (.agg [(.bool false), .nil, (.int .i64 0)])] (.bool true)) (c4 : L (m).natAbs ≤ 1000) (c5 : m ≤ 0) : Impl Tryz.prog Amb 6 [(.agg [(.bool b1), (.sl 1 (U l1)), (.int .i64 e1)])] (.bool true) := by
  have sm := sign_range m
  exact impl_ob hP hAmb Tryz.func6 (by kernel_rfl) (.lit <| .call (.bool true) <| .lits 4 <| .call (.tup [(yV m ee), (.bool true)]) <| .lits 5 <| .call (.tup [(.int .i64 0), (.agg [(.bool false), .nil, (.int .i64 0)]), (.int .i64 4)]) <| .lits 3 <| .call (.tup [(.int .i64 0), (.agg [(.bool false), .nil, (.int .i64 0)]), (.int .i64 4)]) <| .lits 13 <| .call (.bool true) <| .lits 8 <| .call (.int .i64 ((m).sign)) <| .lits 2 <| .ret)
    (cast_ob (aI True.intro (aI (l15_awake ) (aI (c0 ) (aI (c1 ) (aI (c2 ) (aI (c3 ) (aI (r08_Sign m ee oS) (have f1 := sign_range m; (vsub_of (congrArg V.bool (iLe_mk oO)) : vsub (.bool (iLe ((m).sign) 0)) (.bool true)))))))))) (by kernel_rfl))
theorem l15_SplitsP (b1 : Bool) (l1 : List Nat) (e1 : Int) (m : Int) (ee : Int) (k : Int) (ek : Int) (p : Int) (q : Int) (c0 : Impl Tryz.prog Amb 25 [(.agg [(.bool b1), (.sl 1 (U l1)), (.int .i64 e1)]), (.int .i64 8), (.int .i64 60000)] (.tup [(yV m ee), (.bool true)])) (c1 : Impl Tryz.prog Amb 26 [(yV m ee)] (.tup [(.int .i64 k), (yV m ek), (.int .i64 0)])) (c2 : Impl Tryz.prog Amb 27 [(yV m ee)] (.tup [(.int .i64 k), (yV m ek), (.int .i64 0)])) (c3 : Impl Tryz.prog Amb 28 [(yV m ek), (yV m ek)] (.bool true)) (c4 : Impl Tryz.prog Amb 22 [(yV m ek), (.int .i64 k)] (.tup [(yV p q), (.int .i64 0)])) (c5 : Impl Tryz.prog Amb 28 [(yV p q), (yV m ee)] (.bool true)) (c6 : L (m).natAbs ≤ 1000) : Impl Tryz.prog Amb 6 [(.agg [(.bool b1), (.sl 1 (U l1)), (.int .i64 e1)])] (.bool true) := by
  have sm := sign_range m
  exact impl_ob hP hAmb Tryz.func6 (by kernel_rfl) (.lit <| .call (.bool true) <| .lits 4 <| .call (.tup [(yV m ee), (.bool true)]) <| .lits 5 <| .call (.tup [(.int .i64 k), (yV m ek), (.int .i64 0)]) <| .lits 3 <| .call (.tup [(.int .i64 k), (yV m ek), (.int .i64 0)]) <| .lits 7 <| .no <| .lits 5 <| .call (.bool true) <| .lits 8 <| .call (.tup [(yV p q), (.int .i64 0)]) <| .lits 8 <| .call (.bool true) <| .lits 2 <| .ret)
    (cast_ob (aI True.intro (aI (l15_awake ) (aI (c0 ) (aI (c1 ) (aI (c2 ) (aI (iNe_mkF oO : (iNe k k) = false) (aI (c3 ) (aI (c4 ) (aI (c5 ) ((vsub_refl (.bool true)))))))))))) (by kernel_rfl))
end Go.Proofs.YtekcladflnieeaaGreatDoor

namespace Go.Proofs.YtekcladflnieeaaGreatDoor
open Go.RowKit
set_option maxRecDepth 100000
set_option maxHeartbeats 2000000
theorem mill_DyadicB (b : Bool) (l : List Nat) (e : Int) (n : Int) (k : Int) (c0 : Dig l) (c1 : l.length ≤ 9223372036854775807) (c2 : (-9223372036854775808 : Int) ≤ e ∧ e ≤ 9223372036854775807) (c3 : (0 : Int) ≤ n ∧ n ≤ 90) (c4 : (0 : Int) ≤ k ∧ k ≤ 60000) : Impl Tryz.prog Amb 25 [(.agg [(.bool b), (.sl 1 (U l)), (.int .i64 e)]), (.int .i64 n), (.int .i64 k)] (.tup [(yV (mkM (rawI b l n) (e % (2 * k + 1) - k)) (mkX (rawI b l n) (e % (2 * k + 1) - k))), (.bool (decide ((l.length : Int) ≤ n)))]) := by
  have ej := Int.emod_nonneg e (show (2 * k + 1 : Int) ≠ 0 by omega)
  have ek := Int.emod_lt_of_pos e (show (0 : Int) < 2 * k + 1 by omega)
  exact impl_ob hP hAmb Tryz.func25 (by kernel_rfl) (.lits 2 <| .call (.tup [(zV (rawI b l n)), (.bool (decide ((l.length : Int) ≤ n)))]) <| .lits 2 <| .both (.lits 3 <| .ret) (.lits 3 <| .yes <| .lit <| .yes <| .lit <| .call (.int .i64 (e % (((2 : Int) * k) + 1))) <| .lit <| .yes <| .lit <| .call (mkT (rawI b l n) ((e % (((2 : Int) * k) + 1)) - k)) <| .lits 4 <| .ret))
    (cast_ob (aI True.intro (aI (mill_Int b l n oO oO oO) (have f6 := (rawI_L (b := b) ‹Dig l› (show (0 : Int) ≤ n by omega)); aI (fun (h1 : (!(decide ((l.length : Int) ≤ n))) = true) => have _gh1 := of_decide_eq_false (notb_t h1); (rawd_ret1 oO : vsub (.tup [(.agg [(.bool false), .nil, (.int .i64 0)]), (.bool false)]) (.tup [(yV (mkM (rawI b l n) (e % (2 * k + 1) - k)) (mkX (rawI b l n) (e % (2 * k + 1) - k))), (.bool (decide ((l.length : Int) ≤ n)))]))) (fun (h2 : (!(decide ((l.length : Int) ≤ n))) = false) => have _gh2 := of_decide_eq_true (notb_f h2); aI (fits_i64 oO : (fits .i64 ((2 : Int) * k)) = true) (aI (fits_i64 oO : (fits .i64 (((2 : Int) * k) + 1)) = true) (aI (mill_Mod e (((2 : Int) * k) + 1) oO oO) (have f5 := Int.emod_lt_of_pos e (show (0 : Int) < (((2 : Int) * k) + 1) by omega); have f4 := Int.emod_nonneg e (show ((((2 : Int) * k) + 1) : Int) ≠ 0 by omega); aI (fits_i64 oO : (fits .i64 ((e % (((2 : Int) * k) + 1)) - k)) = true) (aI (r08_Make (rawI b l n) ((e % (((2 : Int) * k) + 1)) - k) oO oO) (have f3 := mk_facts (rawI b l n) ((e % (((2 : Int) * k) + 1)) - k); (vsub_tup2 (vsub_refl _) (vsub_of (congrArg V.bool (rawd_ok (mk_fine3 oO oO) oO))) : vsub (.tup [(yV (mkM (rawI b l n) ((e % (((2 : Int) * k) + 1)) - k)) (mkX (rawI b l n) ((e % (((2 : Int) * k) + 1)) - k))), (.bool (iEq (mkE (rawI b l n) ((e % (((2 : Int) * k) + 1)) - k)) 0))]) (.tup [(yV (mkM (rawI b l n) (e % (2 * k + 1) - k)) (mkX (rawI b l n) (e % (2 * k + 1) - k))), (.bool (decide ((l.length : Int) ≤ n)))]))))))))))) (by kernel_rfl))
theorem mkX_up {m e c : Int} (hc : 0 ≤ c) (h : mkE m e = 0) (he : e ≤ c) : mkX m e ≤ c + 32 * (L m.natAbs : Int) ∧ (e ≤ mkX m e ∨ mkX m e = 0) := by
  have t := tz_L m.natAbs
  rcases mk_cases h with ⟨_, _, h2⟩ | ⟨_, _, h2, _⟩
  · rw [h2]; omega
  · rw [h2]; unfold de; omega
theorem l15_LogarithmSplits (b1 : Bool) (l1 : List Nat) (e1 : Int) (c0 : Dig l1) (c1 : l1.length ≤ 9223372036854775807) (c2 : (-9223372036854775808 : Int) ≤ e1 ∧ e1 ≤ 9223372036854775807) : Impl Tryz.prog Amb 6 [(.agg [(.bool b1), (.sl 1 (U l1)), (.int .i64 e1)])] (.bool true) := by
  have hD := mill_DyadicB b1 l1 e1 8 60000 c0 c1 c2 oO oO
  have hr := rawI_L (b := b1) (n := 8) c0 oO
  have ej := Int.emod_nonneg e1 (show (2 * 60000 + 1 : Int) ≠ 0 by omega)
  have ek := Int.emod_lt_of_pos e1 (show (0 : Int) < 2 * 60000 + 1 by omega)
  have hE := mk_fine3 (m := (rawI b1 l1 8)) (e := (e1 % (2 * 60000 + 1) - 60000)) oO oO
  have hf := mk_facts (rawI b1 l1 8) (e1 % (2 * 60000 + 1) - 60000)
  have hx := mkX_up (c := 60000) oO hE oO
  have hv := mk_vdb hE
  generalize (mkM (rawI b1 l1 8) (e1 % (2 * 60000 + 1) - 60000)) = m at *
  generalize (mkX (rawI b1 l1 8) (e1 % (2 * 60000 + 1) - 60000)) = ee at *
  have lm : L m.natAbs ≤ 8 := by omega
  have er : -60001 ≤ ee ∧ ee ≤ 60256 := by omega
  clear hE hx hf hr ej ek
  by_cases hl : (l1.length : Int) ≤ 8
  · rw [decide_eq_true hl] at hD
    by_cases hm : m ≤ 0
    · have s1 := lg_SplitX m ee oO oO hm
      have s2 := r15_SplitX m ee oO oO hm
      have s3 : Impl Tryz.prog Amb 28 [(.agg [(.bool false), .nil, (.int .i64 0)]), (.agg [(.bool false), .nil, (.int .i64 0)])] (.bool true) :=
        impl_arg (fun w S l h => by
          cases h with | cons h1 h => cases h with | cons h2 h => cases h with | nil => exact .cons (rd_y0 h1) (.cons (rd_y0 h2) .nil))
          (impl_eq (congrArg V.bool (by decide)) (r08_Same 0 0 0 0 (by simp [L_zero]) (by simp [L_zero])))
      exact l15_SplitsN b1 l1 e1 m ee 0 0 0 0 hD s1 s2 s3 oO hm
    · have hm : 0 < m := by omega
      have s1 := lg_Split m ee oO oO hm
      have s2 := r15_Split m ee oO oO hm
      have f := sp_facts (e := ee) hm
      generalize spl m ee = k at *
      have s3 := impl_eq (congrArg V.bool (decide_eq_true (⟨rfl, rfl⟩ : (ee - k = ee - k) ∧ (m = m)))) (r08_Same m (ee - k) m (ee - k) oO oO)
      have s4 := r08_Shift m (ee - k) k oO oO oO
      rw [show ee - k + k = ee by omega, (mk_valid hv).1, (mk_valid hv).2.1, (mk_valid hv).2.2] at s4
      have s5 := impl_eq (congrArg V.bool (decide_eq_true (⟨rfl, rfl⟩ : (ee = ee) ∧ (m = m)))) (r08_Same m ee m ee oO oO)
      exact l15_SplitsP b1 l1 e1 m ee k (ee - k) m ee hD s1 s2 s3 s4 s5 oO
  · rw [decide_eq_false hl] at hD
    exact l15_SplitsF b1 l1 e1 m ee 0 0 0 0 hD oO
end Go.Proofs.YtekcladflnieeaaGreatDoor

namespace Go.Proofs.YtekcladflnieeaaGreatDoor
open Go.ChangeShapes Go.WideShapes Go.ChangeAt Go.RowKit
theorem ownNone : ownKnob Tryz.prog.godebug = none := by kernel_rfl
theorem gTab : Tryz.prog.globalNamed "math/bits.deBruijn32tab" = some 0 := by kernel_rfl
theorem gTabType : (Tryz.prog.globals[0]?).map (·.type) = some 173 := by kernel_rfl
theorem cellsTab : Tryz.prog.cellsOf 173 = 32 := by kernel_rfl
theorem cellsU8 : Tryz.prog.cellsOf 5 = 1 := by kernel_rfl
theorem amb_of {W : World} (h : laidMetH Tryz.prog [("math/bits.deBruijn32tab", Rows.laid_math_bits_deBruijn32tab)] W) : Amb W := by
  have t : Lib.TabIs Tryz.prog W "math/bits.deBruijn32tab" .u8 tab32 := Lib.tabIs_of_head (rest := []) gTab gTabType Tryz.underlying173 Tryz.underlying5 cellsU8 cellsTab h
  intro i v hi
  have hlt : i < tab32.length := by
    rcases Nat.lt_or_ge i tab32.length with q | q
    · exact q
    · rw [List.getElem?_eq_none q] at hi; cases hi
  have h1 := t.cell gTab i hlt
  rw [List.getD_eq_getElem?_getD, hi] at h1
  exact h1
theorem int_wf {n : Int} (h : (Lit.int .i64 n).wf = true) : (-9223372036854775808 : Int) ≤ n ∧ n ≤ 9223372036854775807 := by
  simp only [Lit.wf, Bool.and_eq_true, decide_eq_true_eq] at h
  simp [IntKind.min, IntKind.max, IntKind.signed, IntKind.bits] at h
  omega
noncomputable def laidWorld (os : Os) : World :=
  { World.holding Tryz.prog os ⟨#[], #[], []⟩ with heap := (World.holding Tryz.prog os ⟨#[], #[], []⟩).heap.modify 0 fun
      | .cells _ t frozen => .cells (tab32.map (Value.int .u8)).toArray t frozen
      | o => o }
theorem post_of_below {H : Type} {enc : TypeId × Value → H} {P : Program} {f : Func} {s : ChangeSpec} {apart fresh handsOn again : Bool} {W W' : World} {args : Array Value} {v : Value} {ds gs : List (DataW H)} {before pa pv : List MemPlace}
    (hW : DataW.Whole enc P f.params.toList s.vars apart W args.toList ds gs before)
    (hres : ∀ (b : Nat) (sp : Nat → Bool) (hd : Bool), DataW.TrodAll enc P W' b sp hd f.resultTypes.toList (v.resultList f.resultTypes.size) (s.fn H (ds ++ gs)).results [])
    (hargs : ∀ sp : Nat → Bool, (∀ p ∈ before, sp p.block = true) → DataW.TrodAll enc P W' 0 sp true f.params.toList args.toList (s.fn H (ds ++ gs)).args pa)
    (hvars : ∀ sp : Nat → Bool, (∀ p ∈ before, sp p.block = true) → DataW.TrodVars enc P W' sp s.vars (s.fn H (ds ++ gs)).vars pv)
    (hps : before = pa ++ pv) (hb : Below W.heap.size W W')
    (hok : ∀ (j : Nat) (t : TypeId) (r : Value), f.resultTypes[j]? = some t → (v.resultList f.resultTypes.size)[j]? = some r → Value.okWide P W' .any 0 t r) : s.post enc P f apart fresh handsOn again W args v W' := by
  have lt := hW.lt
  have old : ∀ p ∈ before, (fun b => decide (b < W.heap.size)) p.block = true := fun p hp => decide_eq_true (lt p hp)
  subst hps
  refine ⟨ds, gs, pa ++ pv, [], pa, pv, hW, hres _ _ _, hargs _ old, hvars _ old, hb.frame _, fun _ => ?_⟩
  obtain ⟨_, _, _, _, _, hz, hn⟩ := hW
  have h1 := trodAll_append (hargs (fun _ => true) fun _ _ => rfl) (hres 0 (fun _ => true) true)
  refine ⟨hok, _, _, _, ⟨_, pv, h1, hvars _ fun _ _ => rfl, rfl, fun b off hp => ?_, fun ha => ?_⟩, fun p hp _ => ?_⟩
  · have hp' : MemPlace.cell b off ∈ pa ++ pv := by simpa using hp
    rw [hb.frozen (lt _ hp')]
    exact hz b off hp'
  · simpa using hn ha
  · simpa using hp
end Go.Proofs.YtekcladflnieeaaGreatDoor

namespace Go.Proofs.YtekcladflnieeaaGreatDoor
open Go.ChangeShapes Go.WideShapes Go.ChangeAt Go.RowKit
set_option maxRecDepth 100000
variable {H : Type} {enc : TypeId × Value → H} {W : World} {sp : Nat → Bool} {held : Bool}
theorem laidOut : laidOutB Tryz.prog = true := by kernel_rfl
theorem cellsU32 : Tryz.prog.cellsOf 124 = 1 := by kernel_rfl
theorem cellsSl : Tryz.prog.cellsOf 22 = 1 := by kernel_rfl
theorem cellsBool : Tryz.prog.cellsOf 4 = 1 := by kernel_rfl
theorem cellsInt : Tryz.prog.cellsOf 3 = 1 := by kernel_rfl
theorem cellsZ : Tryz.prog.cellsOf 24 = 2 := by kernel_rfl
theorem cellsY : Tryz.prog.cellsOf 26 = 3 := by kernel_rfl
theorem rdl_U (S : Nat → Prop) : ∀ l : List Nat, RdL W S (l.map fun (d : Nat) => Value.int .u32 (d : Int)) (U l)
  | [] => .nil
  | _ :: l => .cons .int (rdl_U S l)
theorem wf_u32 {n : Int} (h : (Lit.int .u32 n).wf = true) : 0 ≤ n ∧ n < 4294967296 := by
  simp only [Lit.wf, Bool.and_eq_true, decide_eq_true_eq] at h
  simp [IntKind.min, IntKind.max, IntKind.signed, IntKind.bits] at h
  omega
theorem open_slice32 {n : Nat} {c : Value} {x : DataW H × List MemPlace} {b0 : Nat} (h : DataW.trod enc Tryz.prog W 0 sp held n 22 [c] = some x) (hok : Cell.okWide Tryz.prog W .any b0 22 c) :
    ∃ l : List Nat, Dig l ∧ l.length ≤ maxLen ∧ Rd W (fun _ => True) c (.sl 1 (U l)) := by
  rcases open_ints Tryz.underlying22 Tryz.underlying124 cellsU32 h with ⟨hc, _⟩ | ⟨a, len, cap, zs, hc, _, hl, hm, hz, _, hcell, hwf⟩
  · obtain rfl : c = .slice none 0 0 := by simpa using hc
    exact ⟨[], (fun d hd => by cases hd), Nat.zero_le _, .nilsl⟩
  · obtain rfl : c = .slice (some a) len cap := by simpa using hc
    have hlen : len ≤ zs.length := by rw [hz]; split <;> omega
    simp only [Cell.okWide, Cell.ok, Tryz.underlying22, World.has] at hok
    obtain ⟨_, _, _, hs, row, cells, hsh, _⟩ := hok
    obtain ⟨ab, ao, spot⟩ := a
    simp only at hs hsh
    subst hs
    have hb : ab < W.heap.size := by
      unfold World.shape? at hsh
      split at hsh
      · rename_i q; exact (Array.getElem?_eq_some_iff.1 q).1
      · cases hsh
    refine ⟨(zs.take len).map Int.toNat, ?_, ?_, ?_⟩
    · intro d hd
      obtain ⟨z, hz', rfl⟩ := List.mem_map.1 hd
      have := wf_u32 (hwf z (List.mem_of_mem_take hz'))
      show z.toNat < 4294967296
      omega
    · simp; omega
    · refine .sl (vals := ((zs.take len).map Int.toNat).map fun (d : Nat) => Value.int .u32 (d : Int)) trivial hb hl (by simp [U]; omega) (rdl_U _ _) ?_
      intro i v hv
      simp only [List.getElem?_map, Option.map_eq_some_iff] at hv
      obtain ⟨d, ⟨z, hz', rfl⟩, rfl⟩ := hv
      have hi : i < len := by
        rcases Nat.lt_or_ge i len with q | q
        · exact q
        · rw [List.getElem?_eq_none (by simp; omega)] at hz'; cases hz'
      rw [List.getElem?_take, if_pos hi] at hz'
      have h1 := hcell i (by omega)
      rw [List.getD_eq_getElem?_getD, hz'] at h1
      have h2 := wf_u32 (hwf z (List.mem_of_getElem? hz'))
      have h3 : ((z.toNat : Nat) : Int) = z := Int.toNat_of_nonneg h2.1
      simp only [Option.getD_some] at h1
      rw [h3]
      have h4 : (Addr.mk ab ao none).add i = ⟨ab, ao + i, none⟩ := by
        unfold Addr.add; split
        · rename_i q; subst q; rfl
        · rfl
      rw [h4] at h1
      exact h1
theorem open_Z {n : Nat} {c0 c1 : Value} {x : DataW H × List MemPlace} {b0 : Nat} (h : DataW.trod enc Tryz.prog W 0 sp held n 24 [c0, c1] = some x) (hok : Cell.okWide Tryz.prog W .any b0 22 c1) :
    ∃ (b : Bool) (l : List Nat), Dig l ∧ l.length ≤ maxLen ∧ RdL W (fun _ => True) [c0, c1] [.bool b, .sl 1 (U l)] := by
  obtain ⟨y0, y1, m, _, _, h0, h1⟩ := trod_struct2 Tryz.underlying24 h
  have k0 : DataW.trod enc Tryz.prog W 0 sp held m 4 [c0] = some y0 := by simpa [cellsBool] using h0
  have k1 : DataW.trod enc Tryz.prog W 0 sp held m 22 [c1] = some y1 := by simpa [cellsSl] using h1
  obtain ⟨b, hb, _⟩ := DataW.trod_bool Tryz.underlying4 k0
  obtain rfl : c0 = .bool b := by simpa using hb
  obtain ⟨l, d, e, r⟩ := open_slice32 k1 hok
  exact ⟨b, l, d, e, .cons .bool (.cons r .nil)⟩
theorem open_Y {n : Nat} {c0 c1 c2 : Value} {x : DataW H × List MemPlace} {b0 : Nat} (h : DataW.trod enc Tryz.prog W 0 sp held n 26 [c0, c1, c2] = some x) (hok : Cell.okWide Tryz.prog W .any b0 22 c1) :
    ∃ (b : Bool) (l : List Nat) (e : Int), Dig l ∧ l.length ≤ maxLen ∧ ((-9223372036854775808 : Int) ≤ e ∧ e ≤ 9223372036854775807) ∧ RdL W (fun _ => True) [c0, c1, c2] [.bool b, .sl 1 (U l), .int .i64 e] := by
  obtain ⟨y0, y1, m, _, _, h0, h1⟩ := trod_struct2 Tryz.underlying26 h
  have k0 : DataW.trod enc Tryz.prog W 0 sp held m 24 [c0, c1] = some y0 := by simpa [cellsZ] using h0
  have k1 : DataW.trod enc Tryz.prog W 0 sp held m 3 [c2] = some y1 := by simpa [cellsInt] using h1
  obtain ⟨b, l, d, e, r⟩ := open_Z k0 hok
  obtain ⟨z, hz, _, hw⟩ := DataW.trod_int Tryz.underlying3 k1
  obtain rfl : c2 = .int .i64 z := by simpa using hz
  cases r with | cons r0 r => cases r with | cons r1 r => cases r with | nil =>
    exact ⟨b, l, z, d, e, int_wf hw, .cons r0 (.cons r1 (.cons .int .nil))⟩
end Go.Proofs.YtekcladflnieeaaGreatDoor

namespace Go.Proofs.YtekcladflnieeaaGreatDoor
open Go.ChangeShapes Go.WideShapes Go.ChangeAt Go.RowKit
set_option maxRecDepth 100000
variable {H : Type} {enc : TypeId × Value → H} {W : World} {sp : Nat → Bool} {held : Bool}
theorem array3 {α : Type} {cs : Array α} (h : cs.size = 3) : ∃ c0 c1 c2, cs = #[c0, c1, c2] := by
  obtain ⟨l⟩ := cs
  match l, h with
  | [c0, c1, c2], _ => exact ⟨c0, c1, c2, rfl⟩
end Go.Proofs.YtekcladflnieeaaGreatDoor

namespace Go.Proofs.YtekcladflnieeaaGreatDoor
open Go.ChangeShapes Go.WideShapes Go.ChangeAt Go.RowKit
set_option maxRecDepth 100000
variable {H : Type} {enc : TypeId × Value → H} {W : World} {sp : Nat → Bool} {held : Bool}
theorem open_D {v : Value} {d : DataW H} {p : List MemPlace} {b0 : Nat} (hv : Value.okWide Tryz.prog W .any b0 26 v) (h : DataW.Trod enc Tryz.prog W 0 sp held 26 v d p) :
    ∃ (b : Bool) (l : List Nat) (e : Int), (Dig l ∧ l.length ≤ maxLen ∧ ((-9223372036854775808 : Int) ≤ e ∧ e ≤ 9223372036854775807)) ∧ Rd W (fun _ => True) v (.agg [.bool b, .sl 1 (U l), .int .i64 e]) := by
  simp only [Value.okWide, Tryz.underlying26] at hv
  obtain ⟨cs, rfl, hsz, ts, hts, _, hrow⟩ := hv
  have e0 : Tryz.prog.cellTypes Tryz.prog.depth 26 = some [4, 22, 3] := by kernel_rfl
  rw [e0] at hts
  obtain rfl := Option.some.inj hts
  obtain ⟨c0, c1, c2, rfl⟩ := array3 (hsz.trans cellsY)
  obtain ⟨u1, q1, ok1⟩ := hrow 1 c1 rfl
  obtain rfl : 22 = u1 := by simpa using q1
  obtain ⟨n, hn⟩ := h
  have k : DataW.trod enc Tryz.prog W 0 sp held n 26 [c0, c1, c2] = some (d, p) := by simpa [Value.cells] using hn
  obtain ⟨b, l, e, d1, d2, d3, r1⟩ := open_Y k ok1
  exact ⟨b, l, e, ⟨d1, d2, d3⟩, .agg r1⟩
end Go.Proofs.YtekcladflnieeaaGreatDoor

namespace Go.Proofs.YtekcladflnieeaaGreatDoor.logarithmSplits
open Go.ChangeShapes Go.WideShapes Go.ChangeAt Go.RowKit
set_option maxRecDepth 100000 in
theorem contract (H : Type) (enc : TypeId × Value → H) (W : World) (base : Nat) (args : Array Value) (ds gs : List (DataW H)) (before : List MemPlace)
    (hval : ∀ (j : Nat) t v, Tryz.f6.params[j]? = some t → args[j]? = some v → Value.okWide Tryz.prog W .any base t v)
    (hW : DataW.Whole enc Tryz.prog Tryz.f6.params.toList Rows.logarithmSplitsSpec.vars false W args.toList ds gs before) (hL : laidMetH Tryz.prog Rows.logarithmSplitsRow.laid W) :
    Calls Tryz.prog 6 args W fun e W' => ∃ v, e = .returned v ∧ Rows.logarithmSplitsSpec.post enc Tryz.prog Tryz.f6 false true false false W args v W' := by
  have hW' := hW
  obtain ⟨p, q, hA0, hV, rfl, hfz, hnd⟩ := hW
  have hA : DataW.TrodAll enc Tryz.prog W 0 (fun _ => true) true Tryz.f6.params.toList args.toList ds p := hA0
  rw [Tryz.params6] at hA hval
  obtain ⟨v0, vs0, d0, ds0, p0, q0, hargs0, rfl, rfl, h0, r0⟩ := trodAll_cons hA
  obtain ⟨rfl, rfl, rfl⟩ := trodAll_nil r0
  obtain rfl : args = #[v0] := by cases args; simp_all
  obtain ⟨rfl, rfl⟩ := trodVars_none hV
  obtain ⟨b0, l0, e0, ⟨a0, a0', a0''⟩, t0⟩ := open_D (hval 0 26 v0 rfl rfl) h0
  have m0 : l0.length ≤ 9223372036854775807 := a0'
  clear hA0
  have hlt := hW'.lt
  have hI := l15_LogarithmSplits b0 l0 e0 a0 m0 a0''
  have hC := hI.2 W (fun _ => True) [v0] (amb_of hL) (fun _ _ => trivial) (.cons t0 (.nil))
  refine hC.mono fun e W' hh => ?_
  obtain ⟨v, rfl, hv, hb⟩ := hh
  have hv := hv.bool_inv
  subst hv
  exact ⟨_, rfl, post_of_below (pa := (p0 ++ [])) (pv := []) hW' (fun _ _ _ => trodAll_cons_mk (shut_bool Tryz.underlying4 _) trodAll_mk0) (fun sp hsp => (trodAll_cons_mk (WideElems.Trod_stays laidOut (by kernel_rfl) (of_decide_eq_true (by kernel_rfl)) h0 (fun x hx => hb.same (hlt x (by simp [hx]))) (fun x hx => hsp x (by simp [hx]))) trodAll_mk0)) (fun _ _ => rfl) rfl
    hb (ok_one (by kernel_rfl) rfl (okWide_bool_mk Tryz.underlying4 _))⟩
theorem laid_met (os : Os) : laidMet Tryz.prog Rows.logarithmSplitsRow.laid ((laidWorld os).forCall (fun _ _ => 0) ⟨#[], #[.agg #[.bool false, .slice none 0 0, .int .i64 0]], []⟩).memory :=
  laidMet_of_run' 64 (by kernel_rfl) (by kernel_rfl)
theorem reads (os : Os) {H : Type} (enc : TypeId × Value → H) : ∃ places, DataW.whole enc Tryz.prog ((laidWorld os).forCall (fun _ _ => 0) ⟨#[], #[.agg #[.bool false, .slice none 0 0, .int .i64 0]], []⟩).memory Tryz.f6.params.toList Rows.logarithmSplitsSpec.vars false #[Value.agg #[.bool false, .slice none 0 0, .int .i64 0]].toList 64 = some ([.agg [.agg [.lit (.bool false), .nil], .lit (.int .i64 0)]], [], places) :=
  ⟨[], by kernel_rfl⟩
set_option maxRecDepth 100000 in
theorem lifted (os : Os) (started : os.Started) (H : Type) (enc : TypeId × Value → H) (F : Stop.Interp) :
    ReturnsInHanded {} Tryz.checked os 6 .any ((OpenSpec.ofChange Rows.logarithmSplitsSpec).preRow enc Tryz.prog Tryz.f6 Rows.logarithmSplitsRow.domain false Rows.logarithmSplitsRow.laid) (((OpenSpec.ofChange Rows.logarithmSplitsSpec).at F).post enc Tryz.prog Tryz.f6 false true false false) := by
  obtain ⟨places, hx⟩ := reads os enc
  refine returnsInHanded_of_row (C := Tryz.checked) (s := OpenSpec.ofChange Rows.logarithmSplitsSpec) ownNone started (by kernel_rfl) Tryz.func6
    (witness_row_at (enc := enc) (C := Tryz.checked) false (laidWorld os) #[.agg #[.bool false, .slice none 0 0, .int .i64 0]] rfl (by kernel_rfl) (by kernel_rfl) (by kernel_rfl)
      (OpenSpec.preRow_of_cond 64 hx (by kernel_rfl) (fun k hk => by cases hk) (by kernel_rfl) (laid_met os))) ?_
  intro W base args ds gs before hval hW _ _ _ hL _ _
  exact contract H enc W base args ds gs before hval hW hL
end Go.Proofs.YtekcladflnieeaaGreatDoor.logarithmSplits
