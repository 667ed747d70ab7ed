/-
  What the model does at each operation, continued: parts of values, literals, slices, indexes. No condition.
-/
import Derived.Test.YtcijnloneigfcaaGreatDoorPvRuns
namespace Go.Proofs.YtcijnloneigfcaaGreatDoor
open Go.RowKit
variable {P : Program}

theorem part_run {t : TypeId} {l : List V} {off : Nat} {v : V} (hl : partV P t l off = some (true, v)) {w : World} {S : Nat → Prop} {arr : List Value} (hr : RdL w S arr l) :
    ∃ x, (part t arr.toArray off).run P w = .ok x w ∧ Rd w S x v := by
  unfold partV at hl
  split at hl
  · rename_i hk
    obtain ⟨d, hd, hrow⟩ := kind_true hk
    obtain ⟨i, hi, hs⟩ := info_of_under hd
    simp only [Option.some.injEq, Prod.mk.injEq, Nat.ble_eq] at hl
    obtain ⟨hle, rfl⟩ := hl
    have hagg : (isAgg t).run P w = .ok true w := by
      unfold isAgg
      rw [Sem.run_bind, run_under hd w]
      cases d <;> simp_all
    refine ⟨.agg ((arr.drop off).take (sizeT P t)).toArray, ?_, .agg ((hr.drop off).take _)⟩
    simp [part, hagg, sizeOf, typeInfo, hi, hs]
  · rename_i hk
    simp only [Option.some.injEq, Prod.mk.injEq] at hl
    obtain ⟨hlt, rfl⟩ := hl
    obtain ⟨u, hu, hru⟩ := hr.get (nth_lt .unk (blt_iff.1 hlt))
    refine ⟨u, ?_, hru⟩
    have hu' : arr.toArray[off]? = some u := by simpa using hu
    simp [part, kind_false hk, hu']
  · cases hl

theorem offF_run {s f o : Nat} {t : TypeId} (h : offF P s f = some (o, t)) : ∃ fs x, P.underlying s = some (.struct fs) ∧ fs[f]? = some x ∧ x.offset = o ∧ x.type = t ∧ 0 < sizeT P t := by
  unfold offF at h
  split at h
  · rename_i fs hu
    split at h
    · rename_i x hx
      obtain ⟨hb, h⟩ := cond_some h
      simp only [Option.some.injEq, Prod.mk.injEq] at h
      obtain ⟨rfl, rfl⟩ := h
      exact ⟨fs, x, hu, hx, rfl, rfl, blt_iff.1 hb⟩
    · cases h
  · cases h

theorem fieldAt_run {s f o : Nat} {t : TypeId} (h : offF P s f = some (o, t)) (w : World) (b off : Nat) :
    (Instr.fieldAt s (.pointer (some ⟨b, off, none⟩)) f).run P w = .ok (.pointer (some ⟨b, off + o, none⟩)) w := by
  obtain ⟨fs, x, hu, hx, rfl, rfl, hs⟩ := offF_run h
  have hz : (sizeOf x.type).run P w = .ok (sizeT P x.type) w := run_sizeOf rfl hs w
  simp [Instr.fieldAt, run_under hu, hx, Instr.sureAddr, fieldPlace, hz, Nat.ne_of_gt hs, Addr.add_mid]

theorem fieldAddr_run {s f : Nat} {dx d : D} (h : fieldAddrD P s f dx = some d) {w : World} {S : Nat → Prop} {ρ : List Nat} {x : Value} (hx : RdD w S ρ x dx) :
    ∃ u, (Instr.fieldAt s x f).run P w = .ok u w ∧ RdD w S ρ u d := by
  unfold fieldAddrD at h
  split at h
  · obtain ⟨β, hβ, rfl⟩ := hx.own_inv
    split at h
    · rename_i o t ho
      cases h
      exact ⟨_, fieldAt_run ho w _ _, .own hβ⟩
    · cases h
  · rename_i cells off
    have hx := hx.val_inv
    split at h
    · rename_i o t ho
      cases h
      cases hx with
      | pt h1 h2 h3 h4 =>
        refine ⟨_, fieldAt_run ho w _ _, .val ?_⟩
        rw [Nat.add_assoc]
        exact .pt h1 h2 h3 h4
    · cases h
  · cases h

theorem field_run {s f : Nat} {dx : D} {v : V} (h : fieldV P s f dx = some (true, v)) {w : World} {S : Nat → Prop} {ρ : List Nat} {x : Value} (hx : RdD w S ρ x dx) :
    ∃ u, (Instr.field s x f).run P w = .ok u w ∧ Rd w S u v := by
  unfold fieldV at h
  split at h
  · obtain ⟨arr, rfl, hr⟩ := hx.val_inv.agg_inv
    split at h
    · rename_i o t ho
      obtain ⟨fs, y, hu, hy, rfl, rfl, hs⟩ := offF_run ho
      obtain ⟨u, h1, h2⟩ := part_run h hr
      exact ⟨u, by simp [Instr.field, run_under hu, hy, asAgg, h1], h2⟩
    · cases h
  · cases h

/-! ### literals -/
theorem cells_rd {w : World} {S : Nat → Prop} {u : Value} {v : V} (h : Rd w S u v) (hc : okC v = true) : RdL w S u.cells.toList (cellsV v) := by
  cases h with
  | agg h => simpa [Value.cells, cellsV] using h
  | unk => simp [okC, isCell] at hc
  | tup h => simp [okC, isCell] at hc
  | bool => exact .cons .bool .nil
  | int => exact .cons .int .nil
  | nil => exact .cons .nil .nil
  | nilsl => exact .cons .nilsl .nil
  | sl h1 h2 h3 h4 h5 h6 => exact .cons (.sl h1 h2 h3 h4 h5 h6) .nil
  | pt h1 h2 h3 h4 => exact .cons (.pt h1 h2 h3 h4) .nil
  | clos h => exact .cons (.clos h) .nil

def spliceW (c : List Value) (off : Nat) : List Value → List Value
  | [] => c
  | v :: vs => spliceW (c.set off v) (off + 1) vs

theorem splice_rd {w : World} {S : Nat → Prop} : ∀ {vs : List Value} {xs : List V} {c : List Value} {d : List V} {off : Nat}, RdL w S c d → RdL w S vs xs → RdL w S (spliceW c off vs) (splice d off xs)
  | [], [], _, _, _, hc, _ => hc
  | [], _ :: _, _, _, _, _, h => nomatch h
  | _ :: _, [], _, _, _, _, h => nomatch h
  | _ :: _, _ :: _, _, _, off, hc, .cons h1 h2 => by
    unfold spliceW splice
    exact splice_rd (hc.set h1 off) h2

theorem fold_splice (off : Nat) : ∀ (l : List Value) (k : Nat) (cs : Array Value),
    ((l.zipIdx k).foldl (fun (cs : Array Value) (x : Value × Nat) => cs.setIfInBounds (off + x.2) x.1) cs).toList = spliceW cs.toList (off + k) l
  | [], _, _ => rfl
  | v :: l, k, cs => by
    simp only [List.zipIdx_cons, List.foldl_cons]
    rw [fold_splice off l (k + 1)]
    simp [spliceW, Nat.add_assoc]

/-- the parts of a literal, values beside what they read as -/
inductive RdP (w : World) (S : Nat → Prop) : List (Nat × Value) → List (Nat × V) → Prop
  | nil : RdP w S [] []
  | cons {i u v us vs} : Rd w S u v → RdP w S us vs → RdP w S ((i, u) :: us) ((i, v) :: vs)

theorem fill_run {w : World} {S : Nat → Prop} (place : Nat → Option (Nat × Nat)) : ∀ {us : List (Nat × Value)} {vs : List (Nat × V)} {cells : Array Value} {zs l : List V},
    RdL w S cells.toList zs → RdP w S us vs → fillV place zs vs = some l → ∃ cells', Instr.fill place cells us = some cells' ∧ RdL w S cells'.toList l
  | [], [], cells, zs, l, hc, _, h => by cases h; exact ⟨cells, rfl, hc⟩
  | [], _ :: _, _, _, _, _, h, _ => nomatch h
  | _ :: _, [], _, _, _, _, h, _ => nomatch h
  | (i, u) :: us, (_, v) :: vs, cells, zs, l, hc, .cons h1 h2, h => by
    unfold fillV at h
    cases hp : place i with
    | none => rw [hp] at h; cases h
    | some p =>
      obtain ⟨off, size⟩ := p
      rw [hp] at h
      obtain ⟨hb, h⟩ := cond_some h
      simp only [Bool.and_eq_true, Nat.beq_eq, Nat.ble_eq] at hb
      obtain ⟨⟨hb1, hb2⟩, hb3⟩ := hb
      have hu := cells_rd h1 hb1
      have hus : u.cells.size = size := by have := hu.length; simp at this; omega
      have hcs : cells.size = zs.length := by have := hc.length; simpa using this
      have e : (u.cells.zipIdx.foldl (fun (cs : Array Value) (x : Value × Nat) => cs.setIfInBounds (off + x.2) x.1) cells).toList = spliceW cells.toList off u.cells.toList := by
        rw [← Array.foldl_toList, Array.toList_zipIdx]
        exact fold_splice off _ 0 cells
      obtain ⟨cells', hf, hr⟩ := fill_run place (cells := u.cells.zipIdx.foldl (fun (cs : Array Value) (x : Value × Nat) => cs.setIfInBounds (off + x.2) x.1) cells) (by rw [e]; exact splice_rd hc hu) h2 h
      refine ⟨cells', ?_, hr⟩
      unfold Instr.fill
      rw [hp]
      simp only
      rw [if_neg (by simp [hus]; omega)]
      exact hf

theorem zero_rd {w : World} {S : Nat → Prop} (v : Value) : Rd w S v (cellV v) := by
  unfold cellV
  split <;> constructor
theorem zeros_rd {w : World} {S : Nat → Prop} (l : List Value) : RdL w S l (l.map cellV) := by
  induction l with
  | nil => exact .nil
  | cons v l ih => exact .cons (zero_rd v) ih

theorem const_rd {w : World} {S : Nat → Prop} (v : Value) : Rd w S v (constV v) := by
  unfold constV
  split
  · rename_i cs
    have := @Rd.agg w S cs.toList (cs.toList.map cellV) (zeros_rd _)
    simpa using this
  · exact zero_rd v

theorem zeroV_run {t : TypeId} {zs : List V} (h : zeroV P t = some zs) (w : World) : ∃ z, (zeroValue t).run P w = .ok z w ∧ zs = z.cells.toList.map cellV ∧
    ∃ i, P.info? t = some i ∧ i.zero = some z := by
  unfold zeroV at h
  split at h
  · rename_i i hi
    split at h
    · rename_i v hv
      cases h
      exact ⟨v, by simp [zeroValue, typeInfo, hi, hv], rfl, i, hi, hv⟩
    · cases h
  · cases h

theorem mapM_run {α β : Type} (w : World) (f : α → Sem β) (g : α → β) : ∀ (l : List α), (∀ x ∈ l, (f x).run P w = .ok (g x) w) → (l.mapM f).run P w = .ok (l.map g) w
  | [], _ => rfl
  | x :: l, h => by
    rw [List.mapM_cons, Sem.run_bind, h x (by simp), Result.andThen_ok, Sem.run_bind, mapM_run w f g l (fun y hy => h y (by simp [hy])), Result.andThen_ok]
    rfl

theorem vals_rd {w : World} {S : Nat → Prop} {ρ : List Nat} {ev : Operand → Value} {g : Operand → D} : ∀ {parts : List (Nat × Operand)} {ps : List (Nat × V)},
    (∀ x ∈ parts, RdD w S ρ (ev x.2) (g x.2)) → valsD (parts.map fun p => (p.1, g p.2)) = some ps → RdP w S (parts.map fun p => (p.1, ev p.2)) ps
  | [], ps, _, h => by cases h; exact .nil
  | (i, x) :: parts, ps, hx, h => by
    simp only [List.map_cons] at h ⊢
    have hx0 := hx (i, x) (by simp)
    generalize g x = gx at h hx0
    cases gx with
    | val v =>
      simp only [valsD] at h
      split at h
      · rename_i l hl
        cases h
        exact .cons hx0.val_inv (vals_rd (fun y hy => hx y (by simp [hy])) hl)
      · cases h
    | unk => cases h
    | own => cases h
    | osl => cases h
    | clo => cases h

theorem build_run {t : TypeId} {parts : Array (Nat × Operand)} {v : V} {g : Operand → D} (h : buildV P t (parts.toList.map fun p => (p.1, g p.2)) = some (true, v)) {w : World} {S : Nat → Prop}
    {ρ : List Nat} {ev : Operand → Value} (hx : ∀ x ∈ parts.toList, RdD w S ρ (ev x.2) (g x.2)) :
    ∃ u, (Instr.build t (parts.map fun (i, x) => (i, ev x))).run P w = .ok u w ∧ Rd w S u v := by
  unfold buildV at h
  split at h
  · rename_i zs ps pl hz hp hpl
    split at h
    · rename_i l hf
      simp only [Option.some.injEq, Prod.mk.injEq, true_and] at h
      subst h
      obtain ⟨z, hz1, rfl, _⟩ := zeroV_run hz w
      have hps := vals_rd hx hp
      obtain ⟨cells', h1, h2⟩ := fill_run pl (zeros_rd z.cells.toList) hps hf
      have e : (parts.map fun (i, x) => (i, ev x)).toList = parts.toList.map fun p => (p.1, ev p.2) := by simp
      refine ⟨.agg cells', ?_, by simpa using Rd.agg h2⟩
      unfold placeB at hpl
      unfold Instr.build
      simp only [Sem.run_bind, hz1, Result.andThen_ok]
      split at hpl
      · rename_i fs hu
        obtain ⟨hb, hpl⟩ := cond_some hpl
        cases hpl
        have hall : ∀ x ∈ fs.toList, 0 < sizeT P x.type := fun x hx => blt_iff.1 (List.all_eq_true.1 hb x hx)
        have hm : (fs.mapM (fun f => do pure (f.offset, ← sizeOf f.type) : Field → Sem (Nat × Nat))).run P w = .ok (fs.map fun f => (f.offset, sizeT P f.type)) w := by
          rw [Array.mapM_eq_mapM_toList, Sem.run_map, mapM_run w _ (fun f => (f.offset, sizeT P f.type))]
          · simp only [Result.andThen_ok]
            congr 1
            apply Array.ext'
            simp
          · intro x hx
            simp [run_sizeOf rfl (hall x hx)]
        simp only [run_under hu, Result.andThen_ok, Sem.run_bind, hm]
        have e2 : (fun i : Nat => (fs.map fun (f : Field) => (f.offset, sizeT P f.type))[i]?) = fun i : Nat => (fs[i]?).map fun (x : Field) => (x.offset, sizeT P x.type) := by
          funext i
          rw [Array.getElem?_map]
        rw [e, e2, h1]
        rfl
      · rename_i n el hu
        obtain ⟨hb, hpl⟩ := cond_some hpl
        cases hpl
        simp only [run_under hu, Result.andThen_ok, Sem.run_bind, run_sizeOf (P := P) (t := el) rfl (blt_iff.1 hb)]
        rw [e, h1]
        rfl
      · cases hpl
    · cases h
  · cases h

end Go.Proofs.YtcijnloneigfcaaGreatDoor
