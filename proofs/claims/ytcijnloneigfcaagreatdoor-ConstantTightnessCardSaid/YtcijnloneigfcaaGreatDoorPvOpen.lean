/-
  Numbers and intervals handed in: what the row's words on an argument say of its cells. Condition: none beyond what is said.
-/
import Derived.Test.YtcijnloneigfcaaGreatDoorPvLift
import Derived.Lib.SmallJoins
import Derived.ChangeSlices
import Derived.Carry
set_option linter.unusedVariables false
set_option linter.unusedSimpArgs false
namespace Go.Proofs.YtcijnloneigfcaaGreatDoor
open Go.ChangeShapes Go.WideShapes Go.ChangeAt Go.RowKit
set_option maxRecDepth 100000
variable {H : Type} {enc : TypeId × Value → H} {W : World} {sp : Nat → Bool} {held : Bool}
theorem laidOut : laidOutB Tryz.prog = true := by kernel_rfl
theorem cellsU32 : Tryz.prog.cellsOf 85 = 1 := by kernel_rfl
theorem cellsSl : Tryz.prog.cellsOf 25 = 1 := by kernel_rfl
theorem cellsBool : Tryz.prog.cellsOf 4 = 1 := by kernel_rfl
theorem cellsInt : Tryz.prog.cellsOf 3 = 1 := by kernel_rfl
theorem cellsZ : Tryz.prog.cellsOf 27 = 2 := by kernel_rfl
theorem cellsY : Tryz.prog.cellsOf 29 = 3 := by kernel_rfl
theorem cellsW : Tryz.prog.cellsOf 31 = 6 := by kernel_rfl
theorem rdl_U (S : Nat → Prop) : ∀ l : List Nat, RdL W S (l.map fun (d : Nat) => Value.int .u32 (d : Int)) (U l)
  | [] => .nil
  | _ :: l => .cons .int (rdl_U S l)
theorem wf_u32 {n : Int} (h : (Lit.int .u32 n).wf = true) : 0 ≤ n ∧ n < 4294967296 := by
  simp only [Lit.wf, Bool.and_eq_true, decide_eq_true_eq] at h
  simp [IntKind.min, IntKind.max, IntKind.signed, IntKind.bits] at h
  omega
/-- a slice of digits -/
theorem open_slice32 {n : Nat} {c : Value} {x : DataW H × List MemPlace} {b0 : Nat} (h : DataW.trod enc Tryz.prog W 0 sp held n 25 [c] = some x) (hok : Cell.okWide Tryz.prog W .any b0 25 c) :
    ∃ l : List Nat, Dig l ∧ l.length ≤ maxLen ∧ Rd W (fun _ => True) c (.sl 1 (U l)) := by
  rcases open_ints Tryz.underlying25 Tryz.underlying85 cellsU32 h with ⟨hc, _⟩ | ⟨a, len, cap, zs, hc, _, hl, hm, hz, _, hcell, hwf⟩
  · obtain rfl : c = .slice none 0 0 := by simpa using hc
    exact ⟨[], (fun d hd => by cases hd), Nat.zero_le _, .nilsl⟩
  · obtain rfl : c = .slice (some a) len cap := by simpa using hc
    have hlen : len ≤ zs.length := by rw [hz]; split <;> omega
    simp only [Cell.okWide, Cell.ok, Tryz.underlying25, World.has] at hok
    obtain ⟨_, _, _, hs, row, cells, hsh, _⟩ := hok
    obtain ⟨ab, ao, spot⟩ := a
    simp only at hs hsh
    subst hs
    have hb : ab < W.heap.size := by
      unfold World.shape? at hsh
      split at hsh
      · rename_i q; exact (Array.getElem?_eq_some_iff.1 q).1
      · cases hsh
    refine ⟨(zs.take len).map Int.toNat, ?_, ?_, ?_⟩
    · intro d hd
      obtain ⟨z, hz', rfl⟩ := List.mem_map.1 hd
      have := wf_u32 (hwf z (List.mem_of_mem_take hz'))
      show z.toNat < 4294967296
      omega
    · simp; omega
    · refine .sl (vals := ((zs.take len).map Int.toNat).map fun (d : Nat) => Value.int .u32 (d : Int)) trivial hb hl (by simp [U]; omega) (rdl_U _ _) ?_
      intro i v hv
      simp only [List.getElem?_map, Option.map_eq_some_iff] at hv
      obtain ⟨d, ⟨z, hz', rfl⟩, rfl⟩ := hv
      have hi : i < len := by
        rcases Nat.lt_or_ge i len with q | q
        · exact q
        · rw [List.getElem?_eq_none (by simp; omega)] at hz'; cases hz'
      rw [List.getElem?_take, if_pos hi] at hz'
      have h1 := hcell i (by omega)
      rw [List.getD_eq_getElem?_getD, hz'] at h1
      have h2 := wf_u32 (hwf z (List.mem_of_getElem? hz'))
      have h3 : ((z.toNat : Nat) : Int) = z := Int.toNat_of_nonneg h2.1
      simp only [Option.getD_some] at h1
      rw [h3]
      have h4 : (Addr.mk ab ao none).add i = ⟨ab, ao + i, none⟩ := by
        unfold Addr.add; split
        · rename_i q; subst q; rfl
        · rfl
      rw [h4] at h1
      exact h1
/-- an integer -/
theorem open_Z {n : Nat} {c0 c1 : Value} {x : DataW H × List MemPlace} {b0 : Nat} (h : DataW.trod enc Tryz.prog W 0 sp held n 27 [c0, c1] = some x) (hok : Cell.okWide Tryz.prog W .any b0 25 c1) :
    ∃ (b : Bool) (l : List Nat), Dig l ∧ l.length ≤ maxLen ∧ RdL W (fun _ => True) [c0, c1] [.bool b, .sl 1 (U l)] := by
  obtain ⟨y0, y1, m, _, _, h0, h1⟩ := trod_struct2 Tryz.underlying27 h
  have k0 : DataW.trod enc Tryz.prog W 0 sp held m 4 [c0] = some y0 := by simpa [cellsBool] using h0
  have k1 : DataW.trod enc Tryz.prog W 0 sp held m 25 [c1] = some y1 := by simpa [cellsSl] using h1
  obtain ⟨b, hb, _⟩ := DataW.trod_bool Tryz.underlying4 k0
  obtain rfl : c0 = .bool b := by simpa using hb
  obtain ⟨l, d, e, r⟩ := open_slice32 k1 hok
  exact ⟨b, l, d, e, .cons .bool (.cons r .nil)⟩
/-- a dyadic -/
theorem open_Y {n : Nat} {c0 c1 c2 : Value} {x : DataW H × List MemPlace} {b0 : Nat} (h : DataW.trod enc Tryz.prog W 0 sp held n 29 [c0, c1, c2] = some x) (hok : Cell.okWide Tryz.prog W .any b0 25 c1) :
    ∃ (b : Bool) (l : List Nat) (e : Int), Dig l ∧ l.length ≤ maxLen ∧ ((-9223372036854775808 : Int) ≤ e ∧ e ≤ 9223372036854775807) ∧ RdL W (fun _ => True) [c0, c1, c2] [.bool b, .sl 1 (U l), .int .i64 e] := by
  obtain ⟨y0, y1, m, _, _, h0, h1⟩ := trod_struct2 Tryz.underlying29 h
  have k0 : DataW.trod enc Tryz.prog W 0 sp held m 27 [c0, c1] = some y0 := by simpa [cellsZ] using h0
  have k1 : DataW.trod enc Tryz.prog W 0 sp held m 3 [c2] = some y1 := by simpa [cellsInt] using h1
  obtain ⟨b, l, d, e, r⟩ := open_Z k0 hok
  obtain ⟨z, hz, _, hw⟩ := DataW.trod_int Tryz.underlying3 k1
  obtain rfl : c2 = .int .i64 z := by simpa using hz
  cases r with | cons r0 r => cases r with | cons r1 r => cases r with | nil =>
    exact ⟨b, l, z, d, e, int_wf hw, .cons r0 (.cons r1 (.cons .int .nil))⟩
theorem array6 {α : Type} {cs : Array α} (h : cs.size = 6) : ∃ c0 c1 c2 c3 c4 c5, cs = #[c0, c1, c2, c3, c4, c5] := by
  obtain ⟨l⟩ := cs
  match l, h with
  | [c0, c1, c2, c3, c4, c5], _ => exact ⟨c0, c1, c2, c3, c4, c5, rfl⟩
/-- an interval -/
theorem open_W {v : Value} {d : DataW H} {p : List MemPlace} {b0 : Nat} (hv : Value.okWide Tryz.prog W .any b0 31 v) (h : DataW.Trod enc Tryz.prog W 0 sp held 31 v d p) :
    ∃ (b : Bool) (l : List Nat) (e : Int) (c : Bool) (r : List Nat) (f : Int), (Dig l ∧ l.length ≤ maxLen ∧ ((-9223372036854775808 : Int) ≤ e ∧ e ≤ 9223372036854775807)) ∧ (Dig r ∧ r.length ≤ maxLen ∧ ((-9223372036854775808 : Int) ≤ f ∧ f ≤ 9223372036854775807)) ∧
      Rd W (fun _ => True) v (.agg [.bool b, .sl 1 (U l), .int .i64 e, .bool c, .sl 1 (U r), .int .i64 f]) := by
  simp only [Value.okWide, Tryz.underlying31] at hv
  obtain ⟨cs, rfl, hsz, ts, hts, _, hrow⟩ := hv
  have e0 : Tryz.prog.cellTypes Tryz.prog.depth 31 = some [4, 25, 3, 4, 25, 3] := by kernel_rfl
  rw [e0] at hts
  obtain rfl := Option.some.inj hts
  obtain ⟨c0, c1, c2, c3, c4, c5, rfl⟩ := array6 (hsz.trans cellsW)
  obtain ⟨u1, q1, ok1⟩ := hrow 1 c1 rfl
  obtain rfl : 25 = u1 := by simpa using q1
  obtain ⟨u4, q4, ok4⟩ := hrow 4 c4 rfl
  obtain rfl : 25 = u4 := by simpa using q4
  obtain ⟨n, hn⟩ := h
  obtain ⟨y0, y1, m, _, _, h0, h1⟩ := trod_struct2 Tryz.underlying31 hn
  have k0 : DataW.trod enc Tryz.prog W 0 sp held m 29 [c0, c1, c2] = some y0 := by simpa [cellsY, Value.cells] using h0
  have k1 : DataW.trod enc Tryz.prog W 0 sp held m 29 [c3, c4, c5] = some y1 := by simpa [cellsY, Value.cells] using h1
  obtain ⟨b, l, e, d1, d2, d3, r1⟩ := open_Y k0 ok1
  obtain ⟨c, r, f, f1, f2, f3, r2⟩ := open_Y k1 ok4
  refine ⟨b, l, e, c, r, f, ⟨d1, d2, d3⟩, ⟨f1, f2, f3⟩, ?_⟩
  cases r1 with | cons a0 r1 => cases r1 with | cons a1 r1 => cases r1 with | cons a2 r1 => cases r1 with | nil =>
  cases r2 with | cons b0 r2 => cases r2 with | cons b1 r2 => cases r2 with | cons b2 r2 => cases r2 with | nil =>
    exact .agg (.cons a0 (.cons a1 (.cons a2 (.cons b0 (.cons b1 (.cons b2 .nil))))))
end Go.Proofs.YtcijnloneigfcaaGreatDoor
