/-
  make, literal slices and append: what the model does, and that the evaluator's step is sound. Condition: none beyond the tree's.
-/
import Derived.Test.YtcijnloneigfcaaGreatDoorPvH
import Derived.Laws.Append
namespace Go.Proofs.YtcijnloneigfcaaGreatDoor
open Go.RowKit
variable {P : Program} {C : World → Prop} {Qr : V → Prop} {Qo : Ex → St → Prop}

theorem elemT_of {t e : TypeId} {sz : Nat} {zs : List V} (h : elemT P t = some (e, sz, zs)) : P.underlying t = some (.slice e) ∧ zeroV P e = some zs ∧ zs.length = sz ∧ sizeT P e = sz ∧ 0 < sz ∧ P.bytesOf e ≤ 1000 := by
  unfold elemT at h
  split at h
  · rename_i e' hu
    split at h
    · rename_i zs' hz
      obtain ⟨hb, h⟩ := cond_some h
      simp only [Bool.and_eq_true, Nat.beq_eq, Nat.ble_eq] at hb
      obtain ⟨⟨h1, h2⟩, h3⟩ := hb
      have h2 := blt_iff.1 h2
      simp only [Option.some.injEq, Prod.mk.injEq] at h
      obtain ⟨rfl, rfl, rfl⟩ := h
      exact ⟨hu, hz, h1, rfl, h2, h3⟩
    · cases h
  · cases h

theorem flat_get {α : Type} (zs : List α) : ∀ (n i : Nat), i < n * zs.length → (List.replicate n zs).flatten[i]? = zs[i % zs.length]?
  | 0, i, h => by simp at h
  | n + 1, i, h => by
    rw [List.replicate_succ, List.flatten_cons, List.getElem?_append]
    split
    · rename_i hi; rw [Nat.mod_eq_of_lt hi]
    · rename_i hi
      have hlen : zs.length ≤ i := Nat.le_of_not_lt hi
      rw [Nat.add_mul, Nat.one_mul] at h
      rw [flat_get zs n (i - zs.length) (by omega), Nat.mod_eq_sub_mod hlen]

theorem zrep_len (n : Nat) (zs : List V) : (zrep n zs).length = n * zs.length := by
  unfold zrep
  split
  · simp
  · simp

theorem zrep_get (n : Nat) (zs : List V) (i : Nat) (h : i < n * zs.length) : (zrep n zs)[i]? = zs[i % zs.length]? := by
  unfold zrep
  split
  · rename_i z
    simp at h
    simp [h, Nat.mod_one]
  · exact flat_get _ n i h

theorem rep_rd {w : World} {S : Nat → Prop} {sz : Nat} (z : Value) (n : Nat) (hz : z.cells.size = sz) (hpos : 0 < sz) :
    RdL w S ((Array.range (n * sz)).map (fun i => z.cells[i % z.cells.size]!)).toList (zrep n (z.cells.toList.map cellV)) := by
  refine RdL.mk (by simp [zrep_len, hz]) fun i v x hv hx => ?_
  have hi : i < n * sz := by have := lt_of_get hv; simpa using this
  rw [zrep_get _ _ _ (by simpa [hz] using hi)] at hx
  have hm : i % sz < sz := Nat.mod_lt _ hpos
  have hm' : i % sz < z.cells.size := by omega
  rw [List.length_map, Array.length_toList, hz, List.getElem?_map, Array.getElem?_toList, Array.getElem?_eq_getElem hm'] at hx
  cases hx
  rw [Array.getElem?_toList, Array.getElem?_map, Array.getElem?_range, if_pos hi, hz] at hv
  simp only [Option.map_some, Option.some.injEq] at hv
  rw [getElem!_pos z.cells (i % sz) hm'] at hv
  subst hv
  exact zero_rd _

theorem wrap_small {n : Int} (h0 : 0 ≤ n) (h1 : n ≤ 1073741824) : IntKind.i64.wrap n = n := by
  unfold IntKind.wrap
  simp [IntKind.bits, IntKind.signed]
  omega

theorem bytes_info {e : TypeId} (h : 0 < sizeT P e) : ∃ i, P.info? e = some i ∧ i.bytes = P.bytesOf e ∧ i.size = sizeT P e := by
  obtain ⟨i, hi, hs⟩ := size_of (P := P) (t := e) rfl h
  exact ⟨i, hi, by simp [Program.bytesOf, hi], hs⟩

theorem make_run {t e : TypeId} {sz : Nat} {zs : List V} (h : elemT P t = some (e, sz, zs)) {n : Int} {k k' : IntKind} (h0 : 0 ≤ n) (h1 : n ≤ 1073741824) (w : World) :
    ∃ z : Value, zs = z.cells.toList.map cellV ∧ z.cells.size = sz ∧
      (Instr.makeSlice t (.int k n) (.int k' n)).run P w = .ok (.slice (some ⟨w.heap.size, 0, none⟩) n.toNat n.toNat) (push w ((Array.range (n.toNat * sz)).map (fun i => z.cells[i % z.cells.size]!)) e) := by
  obtain ⟨hu, hz, hl, hs, hpos, hb⟩ := elemT_of h
  obtain ⟨z, hz1, rfl, i, hi, hiz⟩ := zeroV_run hz w
  refine ⟨z, rfl, by simpa using hl, ?_⟩
  have hbi : i.bytes = P.bytesOf e := by simp [Program.bytesOf, hi]
  have hw := wrap_small h0 h1
  have hprod : (i.bytes : Int) * n ≤ 1000 * 1073741824 := by
    rw [hbi]
    have this : (P.bytesOf e : Int) ≤ 1000 := by omega
    have h3 : (P.bytesOf e : Int) * n ≤ 1000 * n := Int.mul_le_mul_of_nonneg_right this h0
    omega
  unfold Instr.makeSlice
  simp only [Sem.run_bind, run_under hu, Result.andThen_ok, asInt, asIntOf, Sem.run_pure, typeInfo, run_program, hi, hw]
  have ht : ¬ ((decide (n < 0) || decide ((i.bytes : Int) * n > 2 ^ 48)) || decide (n < 0) || decide (n > n)) = true := by
    simp only [Bool.or_eq_true, decide_eq_true_eq, not_or]
    omega
  rw [if_neg ht]
  simp only [Sem.run_bind, run_askRoom, Result.andThen_ok, run_sizeOf hs hpos]
  by_cases hn : n.toNat * sz = 0
  · rw [if_pos hn]
    simp only [Sem.run_bind, Sem.run_pure, Result.andThen_ok, newRow, run_newObj]
    rw [hn]
    have h0 : ∀ f : Nat → Value, (Array.range 0).map f = #[] := fun f => by apply Array.ext'; simp
    rw [h0, h0]
    rfl
  · rw [if_neg hn]
    simp only [Sem.run_bind, hz1, Sem.run_pure, Result.andThen_ok, newRow, run_newObj]
    rfl

theorem buildSlice_run {t : TypeId} {len sz : Nat} {cells : List V} {parts : Array (Nat × Operand)} {g : Operand → D} (h : buildSliceV P t len (parts.toList.map fun p => (p.1, g p.2)) = some (sz, cells)) {w : World} {S : Nat → Prop}
    {ρ : List Nat} {ev : Operand → Value} (hx : ∀ x ∈ parts.toList, RdD w S ρ (ev x.2) (g x.2)) :
    ∃ (vals : Array Value) (e : TypeId), (Instr.buildSlice t len (parts.map fun (i, x) => (i, ev x))).run P w = .ok (.slice (some ⟨w.heap.size, 0, none⟩) len len) (push w vals e) ∧ RdL w S vals.toList cells ∧ cells.length = len * sz := by
  unfold buildSliceV at h
  split at h
  · rename_i e sz' zs ps he hp
    obtain ⟨hb, h⟩ := cond_some h
    rw [Nat.ble_eq] at hb
    split at h
    · rename_i l hf
      simp only [Option.some.injEq, Prod.mk.injEq] at h
      obtain ⟨rfl, rfl⟩ := h
      obtain ⟨hu, hz, hl, hs, hpos, _⟩ := elemT_of he
      obtain ⟨z, hz1, rfl, i, hi, hiz⟩ := zeroV_run hz w
      have hzs : z.cells.size = sz' := by simpa using hl
      have hps := vals_rd hx hp
      obtain ⟨cells', h1, h2⟩ := fill_run (fun i => some (i * sz', sz')) (cells := (Array.range (len * sz')).map (fun i => z.cells[i % z.cells.size]!)) (rep_rd z len hzs hpos) hps hf
      have ep : (parts.map fun (i, x) => (i, ev x)).toList = parts.toList.map fun p => (p.1, ev p.2) := by simp
      have hlen : l.length = len * sz' := by
        have : ∀ (place : Nat → Option (Nat × Nat)) (ps : List (Nat × V)) (zs l : List V), fillV place zs ps = some l → l.length = zs.length := by
          intro place ps
          induction ps with
          | nil => intro zs l h; cases h; rfl
          | cons p ps ih =>
            obtain ⟨i, v⟩ := p
            intro zs l h
            unfold fillV at h
            split at h
            · cases h
            · obtain ⟨_, h⟩ := cond_some h
              rw [ih _ _ h, splice_len]
        rw [this _ _ _ _ hf, zrep_len]
        simp [hzs]
      refine ⟨cells', e, ?_, h2, hlen⟩
      unfold Instr.buildSlice
      simp only [Sem.run_bind, run_under hu, Result.andThen_ok, run_sizeOf hs hpos]
      rw [if_neg (by omega)]
      by_cases hn : len * sz' = 0
      · rw [if_pos hn]
        simp only [Sem.run_bind, Sem.run_pure, Result.andThen_ok]
        have e0 : ((Array.range (len * sz')).map (fun i => z.cells[i % z.cells.size]!)) = (Array.range (len * sz')).map (fun i => (#[] : Array Value)[i % (#[] : Array Value).size]!) := by rw [hn]; simp
        rw [e0] at h1
        rw [ep, h1]
        simp only [Sem.run_bind, newRow, run_newObj, Sem.run_pure, Result.andThen_ok]
        rfl
      · rw [if_neg hn]
        simp only [Sem.run_bind, hz1, Sem.run_pure, Result.andThen_ok]
        rw [ep, h1]
        simp only [Sem.run_bind, newRow, run_newObj, Sem.run_pure, Result.andThen_ok]
        rfl
    · cases h
  · cases h

end Go.Proofs.YtcijnloneigfcaaGreatDoor
