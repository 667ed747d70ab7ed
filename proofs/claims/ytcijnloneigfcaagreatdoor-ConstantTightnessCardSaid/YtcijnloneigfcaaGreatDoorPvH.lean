/-
  The operations that make blocks or write into the call's own: the evaluator's step is sound. Condition: none beyond the tree's.
-/
import Derived.Test.YtcijnloneigfcaaGreatDoorPvA
import Derived.Laws.Append

namespace Go.Proofs.YtcijnloneigfcaaGreatDoor
open Go.RowKit
variable {P : Program} {C : World → Prop} {Qr : V → Prop} {Qo : Ex → St → Prop}

/-- what a step leaves -/
def Post (P : Program) (C : World → Prop) (Qr : V → Prop) (Qo : Ex → St → Prop) (w0 : World) (S0 : Nat → Prop) (o : Oper) (a : Act) (w : World) (ρ : List Nat) (h : List Box) (k : D → List Box → T)
    (a' : Act) (w' : World) : Prop :=
  ∃ v d h' ρ', a' = a.put o.dst v ∧ OkH w0 S0 w' ρ' h' ∧ RdD w' (stab S0 ρ' h') ρ' v d ∧ (∀ u e, RdD w (stab S0 ρ h) ρ u e → RdD w' (stab S0 ρ' h') ρ' u e) ∧ (k d h').wp P C Qr Qo

theorem post_value {o : Oper} {a : Act} {w w' : World} {v : Value} {next : Act → World → Prop} {Q : Exit → Act → World → Prop} (h : (execOp a.eval o).run P w = .ok (.value v) w') (hn : next (a.put o.dst v) w') :
    o.wp P a w next Q := by unfold Oper.wp; rw [h]; exact hn
theorem post_skip {o : Oper} {a : Act} {w w' : World} {next : Act → World → Prop} {Q : Exit → Act → World → Prop} (h : (execOp a.eval o).run P w = .ok .skip w') (hn : next (a.put o.dst undef) w') :
    o.wp P a w next Q := by unfold Oper.wp; rw [h]; exact hn

/-- the world with one block more -/
def push (w : World) (vals : Array Value) (ty : TypeId) : World := { w with heap := w.heap.push (.cells vals ty (0, 0)) }

theorem get_snoc {α : Type} {l : List α} {x y : α} {i : Nat} (h : (l ++ [x])[i]? = some y) : l[i]? = some y ∨ (i = l.length ∧ y = x) := by
  rw [List.getElem?_append] at h
  split at h
  · exact .inl h
  · rename_i hi
    cases hj : i - l.length with
    | zero => rw [hj] at h; simp at h; exact .inr ⟨by omega, h.symm⟩
    | succ j => rw [hj] at h; simp at h

theorem get_snoc_of {α : Type} {l : List α} {x y : α} {i : Nat} (h : l[i]? = some y) : (l ++ [x])[i]? = some y := by
  have : i < l.length := by
    rcases Nat.lt_or_ge i l.length with q | q
    · exact q
    · rw [List.getElem?_eq_none q] at h; cases h
  rw [List.getElem?_append_left this]; exact h

theorem lt_of_get {α : Type} {l : List α} {i : Nat} {x : α} (h : l[i]? = some x) : i < l.length := by
  rcases Nat.lt_or_ge i l.length with q | q
  · exact q
  · rw [List.getElem?_eq_none q] at h; cases h

theorem push_block (w : World) (vals : Array Value) (ty : TypeId) {b : Nat} (hb : b < w.heap.size) : (push w vals ty).heap[b]? = w.heap[b]? := by
  show (w.heap.push _)[b]? = _
  rw [Array.getElem?_push, if_neg (by omega)]
theorem push_new (w : World) (vals : Array Value) (ty : TypeId) : (push w vals ty).heap[w.heap.size]? = some (.cells vals ty (0, 0)) := by
  show (w.heap.push _)[_]? = _
  rw [Array.getElem?_push, if_pos rfl]
theorem push_size (w : World) (vals : Array Value) (ty : TypeId) : (push w vals ty).heap.size = w.heap.size + 1 := by
  show (w.heap.push _).size = _
  simp

theorem push_below (w : World) (vals : Array Value) (ty : TypeId) : Below w.heap.size w (push w vals ty) :=
  ⟨rfl, rfl, rfl, by rw [push_size]; omega, fun _ hb => push_block w vals ty hb⟩

theorem lasts_push {w0 S0 w ρ h} (ok : OkH w0 S0 w ρ h) (vals : Array Value) (ty : TypeId) (cells : List V) :
    Lasts w (push w vals ty) (stab S0 ρ h) (stab S0 (ρ ++ [w.heap.size]) (newB h cells)) :=
  ⟨by rw [push_size]; omega, fun b hb hs => ⟨⟨hs.1, fun i x hx xa xf hi => by
    rcases get_snoc hx with hx | ⟨rfl, rfl⟩
    · rcases get_snoc hi with hi | ⟨rfl, hbe⟩
      · exact hs.2 i x hx xa xf hi
      · have := lt_of_get hx; have := ok.heap.len; omega
    · rcases get_snoc hi with hi | ⟨_, hbe⟩
      · have := lt_of_get hi; have := ok.heap.len; omega
      · omega⟩, push_block w vals ty hb⟩⟩

theorem push_ok {w0 S0 w ρ h} (ok : OkH w0 S0 w ρ h) {vals : Array Value} (ty : TypeId) {cells : List V} (hle : cells.length ≤ vals.size)
    (hr : RdL w (stab S0 ρ h) (vals.toList.take cells.length) cells) : OkH w0 S0 (push w vals ty) (ρ ++ [w.heap.size]) (newB h cells) := by
  have hb := push_below w vals ty
  have hl := lasts_push ok vals ty cells
  refine ⟨ok.below.trans (hb.mono ok.below.size), ?_, ?_, ?_, ?_⟩
  · simp [newB, ok.heap.len]
  · intro i β hi
    rw [push_size]
    rcases get_snoc hi with hi | ⟨_, rfl⟩
    · have := ok.heap.low i β hi; omega
    · exact ⟨ok.below.size, by omega⟩
  · intro i j x y β hx hy xa ya hi hj
    have hlen := ok.heap.len
    rcases get_snoc hi with hi | ⟨rfl, rfl⟩ <;> rcases get_snoc hj with hj | ⟨rfl, hβ⟩
    · rcases get_snoc hx with hx | ⟨rfl, _⟩
      · rcases get_snoc hy with hy | ⟨rfl, _⟩
        · exact ok.heap.inj i j x y β hx hy xa ya hi hj
        · have := lt_of_get hj; omega
      · have := lt_of_get hi; omega
    · have := (ok.heap.low i β hi).2; omega
    · have := (ok.heap.low j _ hj).2; omega
    · rfl
  · intro i x β hx xa hi
    have hlen := ok.heap.len
    rcases get_snoc hi with hi | ⟨rfl, rfl⟩
    · rcases get_snoc hx with hx | ⟨rfl, _⟩
      · obtain ⟨vs, t, h1, h2, h3⟩ := ok.heap.box i x β hx xa hi
        exact ⟨vs, t, (push_block w vals ty (ok.heap.low i β hi).2).trans h1, h2, h3.lasts hl⟩
      · have := lt_of_get hi; omega
    · rcases get_snoc hx with hx | ⟨_, rfl⟩
      · have := lt_of_get hx; omega
      · exact ⟨vals, ty, push_new w vals ty, hle, hr.lasts hl⟩

theorem push_keeps {w0 S0 w ρ h} (ok : OkH w0 S0 w ρ h) (vals : Array Value) (ty : TypeId) (cells : List V) :
    ∀ u e, RdD w (stab S0 ρ h) ρ u e → RdD (push w vals ty) (stab S0 (ρ ++ [w.heap.size]) (newB h cells)) (ρ ++ [w.heap.size]) u e := fun _ _ hr =>
  hr.lasts (lasts_push ok vals ty cells) (Below.shapes (push_below w vals ty)) (fun _ _ hi => get_snoc_of hi)

theorem push_own {w0 S0 w ρ h} (ok : OkH w0 S0 w ρ h) : (ρ ++ [w.heap.size])[h.length]? = some w.heap.size := by
  rw [← ok.heap.len]; simp

theorem push_post {w0 S0 w ρ h} (ok : OkH w0 S0 w ρ h) {o : Oper} {a : Act} {k : D → List Box → T} {vals : Array Value} {ty : TypeId} {cells : List V} (hle : cells.length ≤ vals.size)
    (hr : RdL w (stab S0 ρ h) (vals.toList.take cells.length) cells) {v : Value} {d : D} (hv : RdD (push w vals ty) (stab S0 (ρ ++ [w.heap.size]) (newB h cells)) (ρ ++ [w.heap.size]) v d)
    (hw : (k d (newB h cells)).wp P C Qr Qo) : Post P C Qr Qo w0 S0 o a w ρ h k (a.put o.dst v) (push w vals ty) :=
  ⟨v, d, newB h cells, ρ ++ [w.heap.size], rfl, push_ok ok ty hle hr, hv, push_keeps ok vals ty cells, hw⟩

/-! ### stores -/
theorem setCells_heap (β : Nat) : ∀ (vs : List Value) (off : Nat) (w : World) (vals : Array Value) (ty : TypeId) (fr : Nat × Nat), w.heap[β]? = some (.cells vals ty fr) →
    ∃ vals', (w.setCells β off vs).heap[β]? = some (.cells vals' ty fr) ∧ vals'.toList = spliceW vals.toList off vs
  | [], off, w, vals, ty, fr, h => ⟨vals, h, rfl⟩
  | v :: vs, off, w, vals, ty, fr, h => by
    have h1 : (w.setCell ⟨β, off, none⟩ v).heap[β]? = some (.cells (vals.setIfInBounds off v) ty fr) := by
      show (w.heap.modify β _)[β]? = _
      rw [Array.getElem?_modify, if_pos rfl, h]
      rfl
    obtain ⟨vals', h2, h3⟩ := setCells_heap β vs (off + 1) _ _ ty fr h1
    exact ⟨vals', h2, by rw [h3]; simp [spliceW]⟩

theorem setCells_other (β : Nat) : ∀ (vs : List Value) (off : Nat) (w : World) (b : Nat), b ≠ β → (w.setCells β off vs).heap[b]? = w.heap[b]?
  | [], _, _, _, _ => rfl
  | v :: vs, off, w, b, h => by
    rw [World.setCells, setCells_other β vs _ _ b h]
    exact Below.heap_setCell w ⟨β, off, none⟩ v b h

theorem setCells_size (β : Nat) : ∀ (vs : List Value) (off : Nat) (w : World), (w.setCells β off vs).heap.size = w.heap.size
  | [], _, _ => rfl
  | v :: vs, off, w => by rw [World.setCells, setCells_size β vs]; simp [World.setCell]

theorem setCells_rest (β : Nat) : ∀ (vs : List Value) (off : Nat) (w : World), (w.setCells β off vs).os = w.os ∧ (w.setCells β off vs).tape = w.tape ∧ (w.setCells β off vs).output = w.output
  | [], _, _ => ⟨rfl, rfl, rfl⟩
  | v :: vs, off, w => by rw [World.setCells]; exact setCells_rest β vs _ _

theorem spliceW_len : ∀ (vs c : List Value) (off : Nat), (spliceW c off vs).length = c.length
  | [], _, _ => rfl
  | v :: vs, c, off => by rw [spliceW, spliceW_len vs]; simp
theorem splice_len : ∀ (vs c : List V) (off : Nat), (splice c off vs).length = c.length
  | [], _, _ => rfl
  | v :: vs, c, off => by rw [splice, splice_len vs]; simp
theorem spliceW_take : ∀ (vs c : List Value) (off n : Nat), (spliceW c off vs).take n = spliceW (c.take n) off vs
  | [], _, _, _ => rfl
  | v :: vs, c, off, n => by rw [spliceW, spliceW, spliceW_take vs, List.take_set]

theorem cell_one {w : World} {S : Nat → Prop} {u : Value} {v : V} (h : Rd w S u v) (hc : isCell v = true) : u.oneCell' = true := by
  cases h <;> first | rfl | (simp [isCell] at hc)

theorem cells_one {w : World} {S : Nat → Prop} {us : List Value} {vs : List V} (h : RdL w S us vs) (hc : vs.all isCell = true) : ∀ u ∈ us, u.oneCell' = true := by
  intro u hu
  obtain ⟨i, hi⟩ := List.mem_iff_getElem?.1 hu
  obtain ⟨x, hx, hr⟩ := h.get' hi
  exact cell_one hr (List.all_eq_true.1 hc x (List.mem_of_getElem? hx))

theorem cells_of {w : World} {S : Nat → Prop} {u : Value} {v : V} (h : Rd w S u v) (hc : (cellsV v).all isCell = true) : RdL w S u.cells.toList (cellsV v) := by
  refine cells_rd h ?_
  cases v <;> first | rfl | (simp [cellsV, isCell] at hc)

/-- a box's cells are changed: its block in memory, too -/
theorem store_ok {w0 S0 w w' ρ h} (ok : OkH w0 S0 w ρ h) {b β : Nat} (ha : (bx h b).alive = true) (hfz : (bx h b).frozen = false) (hβ : ρ[b]? = some β) {cells : List V}
    (hos : w'.os = w.os) (htape : w'.tape = w.tape) (hout : w'.output = w.output) (hsz : w'.heap.size = w.heap.size) (hoth : ∀ c, c ≠ β → w'.heap[c]? = w.heap[c]?)
    {vals' : Array Value} {ty : TypeId} (hnew : w'.heap[β]? = some (.cells vals' ty (0, 0))) (hle : cells.length ≤ vals'.size) (hr : RdL w (stab S0 ρ h) (vals'.toList.take cells.length) cells) :
    OkH w0 S0 w' ρ (setBox h b ⟨true, false, cells⟩) ∧ Lasts w w' (stab S0 ρ h) (stab S0 ρ (setBox h b ⟨true, false, cells⟩)) := by
  have hx := bx_get ha
  have hbl : b < h.length := lt_of_get hx
  have hst : ∀ c, stab S0 ρ h c → stab S0 ρ (setBox h b ⟨true, false, cells⟩) c := fun c hc => ⟨hc.1, fun i x hi xa xf hic => by
    simp only [setBox, List.getElem?_set] at hi
    split at hi
    · rename_i he
      subst he
      exact hc.2 b _ hx ha hfz hic
    · exact hc.2 i x hi xa xf hic⟩
  have hl : Lasts w w' (stab S0 ρ h) (stab S0 ρ (setBox h b ⟨true, false, cells⟩)) := ⟨by omega, fun c _ hs => ⟨hst c hs, hoth c (fun e => hs.2 b _ hx ha hfz (e ▸ hβ))⟩⟩
  have hlow := ok.heap.low b β hβ
  refine ⟨⟨⟨hos.trans ok.below.os, htape.trans ok.below.tape, hout.trans ok.below.output, by rw [hsz]; exact ok.below.size, fun c hc => (hoth c (by omega)).trans (ok.below.block c hc)⟩, ?_, ?_, ?_, ?_⟩, hl⟩
  · simp [setBox, ok.heap.len]
  · intro i γ hi; rw [hsz]; exact ok.heap.low i γ hi
  · intro i j x y γ hi hj xa ya gi gj
    have back : ∀ (i : Nat) (x : Box), (setBox h b ⟨true, false, cells⟩)[i]? = some x → x.alive = true → ∃ z : Box, h[i]? = some z ∧ z.alive = true := by
      intro i x hi xa
      simp only [setBox, List.getElem?_set] at hi
      split at hi
      · rename_i he; subst he; exact ⟨_, hx, ha⟩
      · exact ⟨x, hi, xa⟩
    obtain ⟨x', hx', xa'⟩ := back i x hi xa
    obtain ⟨y', hy', ya'⟩ := back j y hj ya
    exact ok.heap.inj i j x' y' γ hx' hy' xa' ya' gi gj
  · intro i x γ hi xa gi
    simp only [setBox, List.getElem?_set] at hi
    split at hi
    · rename_i he
      subst he
      try rw [if_pos hbl] at hi
      cases hi
      rw [hβ] at gi
      cases gi
      exact ⟨vals', ty, hnew, hle, hr.lasts hl⟩
    · rename_i hne
      obtain ⟨vs, t, h1, h2, h3⟩ := ok.heap.box i x γ hi xa gi
      refine ⟨vs, t, (hoth γ ?_).trans h1, h2, h3.lasts hl⟩
      intro e
      subst e
      exact hne (ok.heap.inj b i _ x γ hx hi ha xa hβ gi)

theorem shape_of_cells {w : World} {b : Nat} {vals : Array Value} {ty : TypeId} {fr : Nat × Nat} (h : w.heap[b]? = some (.cells vals ty fr)) : w.shape? b = some (ty, vals.size) := by
  simp [World.shape?, h]

theorem store_sound {w0 S0 w ρ h} (ok : OkH w0 S0 w ρ h) {t : TypeId} {da dx : D} {h' : List Box} (hs : storeH P t h da dx = some (true, h')) {va vx : Value}
    (ra : RdD w (stab S0 ρ h) ρ va da) (rx : RdD w (stab S0 ρ h) ρ vx dx) :
    ∃ w', (Instr.storeAt t va vx).run P w = .ok () w' ∧ OkH w0 S0 w' ρ h' ∧ (∀ u e, RdD w (stab S0 ρ h) ρ u e → RdD w' (stab S0 ρ h') ρ u e) ∧
      (∀ c, (∀ b off, da = .own b off → ρ[b]? ≠ some c) → w'.heap[c]? = w.heap[c]?) ∧ w'.heap.size = w.heap.size := by
  unfold storeH at hs
  split at hs
  · rename_i b off v
    obtain ⟨hc, hs⟩ := cond_some hs
    simp only [Bool.and_eq_true, Bool.not_eq_true', Nat.beq_eq] at hc
    obtain ⟨⟨⟨⟨ha, hfz⟩, hpos⟩, hlen⟩, hall⟩ := hc
    simp only [Option.some.injEq, Prod.mk.injEq, Nat.ble_eq] at hs
    obtain ⟨hle, rfl⟩ := hs
    obtain ⟨β, hβ, rfl⟩ := ra.own_inv
    have hus := cells_of rx.val_inv hall
    obtain ⟨vals, ty, hb1, hb2, hb3⟩ := ok.heap.box b _ β (bx_get ha) ha hβ
    have hul : vx.cells.toList.length = (cellsV v).length := hus.length
    have hrun : (Instr.storeAt t (.pointer (some ⟨β, off, none⟩)) vx).run P w = .ok () (w.setCells β off vx.cells.toList) := by
      have := run_storeCells_cells (P := P) β off vx.cells.toList 0 w
        (fun j hj => by
          have hlt : off + j < vals.size := by omega
          simp [World.cell?, hb1, Array.getElem?_eq_getElem hlt])
        (fun j hj => by simp [World.frozen?, hb1]) (cells_one hus hall)
      simp only [Nat.add_zero] at this
      simp only [Instr.storeAt, Instr.sureAddr, Sem.run_bind, Sem.run_pure, Result.andThen_ok, storeVar, run_sizeOf (P := P) (t := t) rfl (blt_iff.1 hpos)]
      have hsz : vx.cells.size = sizeT P t := by have := hul; simp at this; omega
      rw [if_neg (by omega)]
      exact this
    obtain ⟨vals', hv1, hv2⟩ := setCells_heap β vx.cells.toList off w vals ty (0, 0) hb1
    have hvs : vals'.size = vals.size := by
      have := spliceW_len vx.cells.toList vals.toList off
      rw [← hv2] at this
      simpa using this
    obtain ⟨q1, q2, q3⟩ := setCells_rest β vx.cells.toList off w
    obtain ⟨ok', hl⟩ := store_ok ok ha hfz hβ (w' := w.setCells β off vx.cells.toList) (cells := splice (bx h b).cells off (cellsV v)) q1 q2 q3 (setCells_size β _ _ _)
      (fun c hc => setCells_other β _ _ _ c hc) hv1 (by rw [splice_len, hvs]; exact hb2) (by rw [splice_len, hv2, spliceW_take]; exact splice_rd hb3 hus)
    refine ⟨_, hrun, ok', fun u e hr => hr.lasts hl ?_ (fun _ _ q => q), fun c hc => setCells_other β _ _ _ c (fun e => hc b off rfl (e ▸ hβ)), setCells_size β _ _ _⟩
    intro c e n hsh
    by_cases hc : c = β
    · subst hc
      rw [shape_of_cells hb1] at hsh
      rw [shape_of_cells hv1, hvs]
      exact hsh
    · simpa [World.shape?, setCells_other β _ _ _ c hc] using hsh
  · cases hs

end Go.Proofs.YtcijnloneigfcaaGreatDoor

namespace Go.Proofs.YtcijnloneigfcaaGreatDoor
open Go.RowKit
variable {P : Program} {C : World → Prop} {Qr : V → Prop} {Qo : Ex → St → Prop}

theorem elemT_of {t e : TypeId} {sz : Nat} {zs : List V} (h : elemT P t = some (e, sz, zs)) : P.underlying t = some (.slice e) ∧ zeroV P e = some zs ∧ zs.length = sz ∧ sizeT P e = sz ∧ 0 < sz ∧ P.bytesOf e ≤ 1000 := by
  unfold elemT at h
  split at h
  · rename_i e' hu
    split at h
    · rename_i zs' hz
      obtain ⟨hb, h⟩ := cond_some h
      simp only [Bool.and_eq_true, Nat.beq_eq, Nat.ble_eq] at hb
      obtain ⟨⟨h1, h2⟩, h3⟩ := hb
      have h2 := blt_iff.1 h2
      simp only [Option.some.injEq, Prod.mk.injEq] at h
      obtain ⟨rfl, rfl, rfl⟩ := h
      exact ⟨hu, hz, h1, rfl, h2, h3⟩
    · cases h
  · cases h

theorem flat_get {α : Type} (zs : List α) : ∀ (n i : Nat), i < n * zs.length → (List.replicate n zs).flatten[i]? = zs[i % zs.length]?
  | 0, i, h => by simp at h
  | n + 1, i, h => by
    rw [List.replicate_succ, List.flatten_cons, List.getElem?_append]
    split
    · rename_i hi; rw [Nat.mod_eq_of_lt hi]
    · rename_i hi
      have hlen : zs.length ≤ i := Nat.le_of_not_lt hi
      rw [Nat.add_mul, Nat.one_mul] at h
      rw [flat_get zs n (i - zs.length) (by omega), Nat.mod_eq_sub_mod hlen]

theorem zrep_len (n : Nat) (zs : List V) : (zrep n zs).length = n * zs.length := by
  unfold zrep
  split
  · simp
  · simp

theorem zrep_get (n : Nat) (zs : List V) (i : Nat) (h : i < n * zs.length) : (zrep n zs)[i]? = zs[i % zs.length]? := by
  unfold zrep
  split
  · rename_i z
    simp at h
    simp [h, Nat.mod_one]
  · exact flat_get _ n i h

theorem rep_rd {w : World} {S : Nat → Prop} {sz : Nat} (z : Value) (n : Nat) (hz : z.cells.size = sz) (hpos : 0 < sz) :
    RdL w S ((Array.range (n * sz)).map (fun i => z.cells[i % z.cells.size]!)).toList (zrep n (z.cells.toList.map cellV)) := by
  refine RdL.mk (by simp [zrep_len, hz]) fun i v x hv hx => ?_
  have hi : i < n * sz := by have := lt_of_get hv; simpa using this
  rw [zrep_get _ _ _ (by simpa [hz] using hi)] at hx
  have hm : i % sz < sz := Nat.mod_lt _ hpos
  have hm' : i % sz < z.cells.size := by omega
  rw [List.length_map, Array.length_toList, hz, List.getElem?_map, Array.getElem?_toList, Array.getElem?_eq_getElem hm'] at hx
  cases hx
  rw [Array.getElem?_toList, Array.getElem?_map, Array.getElem?_range, if_pos hi, hz] at hv
  simp only [Option.map_some, Option.some.injEq] at hv
  rw [getElem!_pos z.cells (i % sz) hm'] at hv
  subst hv
  exact zero_rd _

theorem wrap_small {n : Int} (h0 : 0 ≤ n) (h1 : n ≤ 1073741824) : IntKind.i64.wrap n = n := by
  unfold IntKind.wrap
  simp [IntKind.bits, IntKind.signed]
  omega

theorem bytes_info {e : TypeId} (h : 0 < sizeT P e) : ∃ i, P.info? e = some i ∧ i.bytes = P.bytesOf e ∧ i.size = sizeT P e := by
  obtain ⟨i, hi, hs⟩ := size_of (P := P) (t := e) rfl h
  exact ⟨i, hi, by simp [Program.bytesOf, hi], hs⟩

theorem make_run {t e : TypeId} {sz : Nat} {zs : List V} (h : elemT P t = some (e, sz, zs)) {n : Int} {k k' : IntKind} (h0 : 0 ≤ n) (h1 : n ≤ 1073741824) (w : World) :
    ∃ z : Value, zs = z.cells.toList.map cellV ∧ z.cells.size = sz ∧
      (Instr.makeSlice t (.int k n) (.int k' n)).run P w = .ok (.slice (some ⟨w.heap.size, 0, none⟩) n.toNat n.toNat) (push w ((Array.range (n.toNat * sz)).map (fun i => z.cells[i % z.cells.size]!)) e) := by
  obtain ⟨hu, hz, hl, hs, hpos, hb⟩ := elemT_of h
  obtain ⟨z, hz1, rfl, i, hi, hiz⟩ := zeroV_run hz w
  refine ⟨z, rfl, by simpa using hl, ?_⟩
  have hbi : i.bytes = P.bytesOf e := by simp [Program.bytesOf, hi]
  have hw := wrap_small h0 h1
  have hprod : (i.bytes : Int) * n ≤ 1000 * 1073741824 := by
    rw [hbi]
    have this : (P.bytesOf e : Int) ≤ 1000 := by omega
    have h3 : (P.bytesOf e : Int) * n ≤ 1000 * n := Int.mul_le_mul_of_nonneg_right this h0
    omega
  unfold Instr.makeSlice
  simp only [Sem.run_bind, run_under hu, Result.andThen_ok, asInt, asIntOf, Sem.run_pure, typeInfo, run_program, hi, hw]
  have ht : ¬ ((decide (n < 0) || decide ((i.bytes : Int) * n > 2 ^ 48)) || decide (n < 0) || decide (n > n)) = true := by
    simp only [Bool.or_eq_true, decide_eq_true_eq, not_or]
    omega
  rw [if_neg ht]
  simp only [Sem.run_bind, run_askRoom, Result.andThen_ok, run_sizeOf hs hpos]
  by_cases hn : n.toNat * sz = 0
  · rw [if_pos hn]
    simp only [Sem.run_bind, Sem.run_pure, Result.andThen_ok, newRow, run_newObj]
    rw [hn]
    have h0 : ∀ f : Nat → Value, (Array.range 0).map f = #[] := fun f => by apply Array.ext'; simp
    rw [h0, h0]
    rfl
  · rw [if_neg hn]
    simp only [Sem.run_bind, hz1, Sem.run_pure, Result.andThen_ok, newRow, run_newObj]
    rfl

theorem buildSlice_run {t : TypeId} {len sz : Nat} {cells : List V} {parts : Array (Nat × Operand)} {g : Operand → D} (h : buildSliceV P t len (parts.toList.map fun p => (p.1, g p.2)) = some (sz, cells)) {w : World} {S : Nat → Prop}
    {ρ : List Nat} {ev : Operand → Value} (hx : ∀ x ∈ parts.toList, RdD w S ρ (ev x.2) (g x.2)) :
    ∃ (vals : Array Value) (e : TypeId), (Instr.buildSlice t len (parts.map fun (i, x) => (i, ev x))).run P w = .ok (.slice (some ⟨w.heap.size, 0, none⟩) len len) (push w vals e) ∧ RdL w S vals.toList cells ∧ cells.length = len * sz := by
  unfold buildSliceV at h
  split at h
  · rename_i e sz' zs ps he hp
    obtain ⟨hb, h⟩ := cond_some h
    rw [Nat.ble_eq] at hb
    split at h
    · rename_i l hf
      simp only [Option.some.injEq, Prod.mk.injEq] at h
      obtain ⟨rfl, rfl⟩ := h
      obtain ⟨hu, hz, hl, hs, hpos, _⟩ := elemT_of he
      obtain ⟨z, hz1, rfl, i, hi, hiz⟩ := zeroV_run hz w
      have hzs : z.cells.size = sz' := by simpa using hl
      have hps := vals_rd hx hp
      obtain ⟨cells', h1, h2⟩ := fill_run (fun i => some (i * sz', sz')) (cells := (Array.range (len * sz')).map (fun i => z.cells[i % z.cells.size]!)) (rep_rd z len hzs hpos) hps hf
      have ep : (parts.map fun (i, x) => (i, ev x)).toList = parts.toList.map fun p => (p.1, ev p.2) := by simp
      have hlen : l.length = len * sz' := by
        have : ∀ (place : Nat → Option (Nat × Nat)) (ps : List (Nat × V)) (zs l : List V), fillV place zs ps = some l → l.length = zs.length := by
          intro place ps
          induction ps with
          | nil => intro zs l h; cases h; rfl
          | cons p ps ih =>
            obtain ⟨i, v⟩ := p
            intro zs l h
            unfold fillV at h
            split at h
            · cases h
            · obtain ⟨_, h⟩ := cond_some h
              rw [ih _ _ h, splice_len]
        rw [this _ _ _ _ hf, zrep_len]
        simp [hzs]
      refine ⟨cells', e, ?_, h2, hlen⟩
      unfold Instr.buildSlice
      simp only [Sem.run_bind, run_under hu, Result.andThen_ok, run_sizeOf hs hpos]
      rw [if_neg (by omega)]
      by_cases hn : len * sz' = 0
      · rw [if_pos hn]
        simp only [Sem.run_bind, Sem.run_pure, Result.andThen_ok]
        have e0 : ((Array.range (len * sz')).map (fun i => z.cells[i % z.cells.size]!)) = (Array.range (len * sz')).map (fun i => (#[] : Array Value)[i % (#[] : Array Value).size]!) := by rw [hn]; simp
        rw [e0] at h1
        rw [ep, h1]
        simp only [Sem.run_bind, newRow, run_newObj, Sem.run_pure, Result.andThen_ok]
        rfl
      · rw [if_neg hn]
        simp only [Sem.run_bind, hz1, Sem.run_pure, Result.andThen_ok]
        rw [ep, h1]
        simp only [Sem.run_bind, newRow, run_newObj, Sem.run_pure, Result.andThen_ok]
        rfl
    · cases h
  · cases h

end Go.Proofs.YtcijnloneigfcaaGreatDoor

namespace Go.Proofs.YtcijnloneigfcaaGreatDoor
open Go.RowKit
variable {P : Program} {C : World → Prop} {Qr : V → Prop} {Qo : Ex → St → Prop}

/-- the cells of what is appended -/
theorem src_run {w0 S0 w ρ h} (ok : OkH w0 S0 w ρ h) {dx : D} {c : List V} {n sz : Nat} (hc : srcV h dx = some c) (hn : lenD dx = some n) (hs : srcOk h sz dx = true) {x : Value} (hx : RdD w (stab S0 ρ h) ρ x dx) :
    ∃ (a : Option Addr) (cap : Nat) (us : List Value), x = .slice a n cap ∧ RdL w (stab S0 ρ h) us c ∧ c.length = n * sz ∧
      ∀ w1 : World, w1.heap = w.heap → (Builtin.firstCells sz n x).run P w1 = .ok us.toArray w1 := by
  unfold srcV at hc
  split at hc
  · cases hc
    cases hn
    have := hx.val_inv
    cases this
    exact ⟨none, 0, [], rfl, .nil, by simp, fun w1 _ => rfl⟩
  · rename_i s cells
    cases hc
    simp only [srcOk, Nat.beq_eq] at hs
    subst hs
    obtain ⟨hpos, rfl⟩ := lenD_sl hn
    have := hx.val_inv
    cases this with
    | nilsl =>
      have e0 : slen s ([] : List V) = 0 := slen_eq hpos (by simp)
      rw [e0]
      exact ⟨none, 0, [], rfl, .nil, by simp, fun w1 _ => rfl⟩
    | sl g1 g2 g3 g4 g5 g6 =>
      rename_i b o m cap vals
      rw [slen_eq hpos g4]
      refine ⟨_, cap, vals, rfl, g5, g4, fun w1 hw1 => ?_⟩
      have := run_loadCells_list (P := P) w1 ⟨b, o, none⟩ vals (fun j v hv => by
        rw [Addr.add_mid]
        have := g6 j v hv
        unfold World.cell? at this ⊢
        rw [hw1]; exact this)
      unfold Builtin.firstCells
      rw [← g4, ← g5.length]
      exact this
  · rename_i b off len s
    obtain ⟨ha, hc⟩ := cond_some hc
    cases hc
    cases hn
    simp only [srcOk, Bool.and_eq_true, Nat.beq_eq, Nat.ble_eq, mul_cond] at hs
    obtain ⟨rfl, hle⟩ := hs
    cases hx with
    | osl hβ hlc hsh hcap =>
      rename_i β cap e k
      obtain ⟨vals, h1, h2⟩ := ok.cells ha hβ
      have hlen := h1.length
      simp only [mul_cond]
      have hl2 : ((vals.drop off).take (n * s)).length = n * s := by rw [List.length_take, List.length_drop]; omega
      refine ⟨_, cap, (vals.drop off).take (n * s), rfl, (h1.drop off).take _, by rw [List.length_take, List.length_drop]; omega, fun w1 hw1 => ?_⟩
      have := run_loadCells_list (P := P) w1 ⟨β, off, none⟩ ((vals.drop off).take (n * s)) (fun j v hv => by
        rw [Addr.add_mid]
        rw [List.getElem?_take] at hv
        split at hv
        · rw [List.getElem?_drop] at hv
          have := (h2 _ _ hv).1
          unfold World.cell? at this ⊢
          rw [hw1]; exact this
        · cases hv)
      unfold Builtin.firstCells
      rw [hl2] at this
      exact this
  · cases hc

/-- append within the capacity -/
theorem append_fits {t e : TypeId} {sz : Nat} {zs : List V} (he : elemT P t = some (e, sz, zs)) {ty : TypeId} {β len cap n : Nat} {a : Option Addr} {xcap : Nat}
    {us : List Value} {w : World} (hf : (Builtin.firstCells sz n (.slice a n xcap)).run P w = .ok us.toArray w) (hfit : len + n ≤ cap)
    (hst : (storeCells ⟨β, len * sz, none⟩ us).run P w = .ok () (w.setCells β (len * sz) us)) :
    (Builtin.append_ #[t, t] ty #[.slice (some ⟨β, 0, none⟩) len cap, .slice a n xcap]).run P w = .ok (.slice (some ⟨β, 0, none⟩) (len + n) cap) (w.setCells β (len * sz) us) := by
  obtain ⟨hu, hz, hl, hs, hpos, hb⟩ := elemT_of he
  simp [Builtin.append_, run_under hu, run_sizeOf hs hpos, Builtin.lenOf, hfit, hf, Addr.add_mid, hst]

/-- append beyond the capacity: a new block -/
theorem append_grows {t e : TypeId} {sz : Nat} {zs : List V} (he : elemT P t = some (e, sz, zs)) {ty : TypeId} {base a : Option Addr} {len cap n xcap : Nat}
    {us os : List Value} {w : World} (hf : ∀ w1 : World, w1.heap = w.heap → (Builtin.firstCells sz n (.slice a n xcap)).run P w1 = .ok us.toArray w1)
    (ho : ∀ w1 : World, w1.heap = w.heap → (Builtin.firstCells sz len (.slice base len cap)).run P w1 = .ok os.toArray w1) (hg : cap < len + n) (hsm : len + n ≤ 1073741824) :
    ∃ (newCap : Nat) (rest : List Value), len + n ≤ newCap ∧ rest.length = (newCap - (len + n)) * sz ∧
      (Builtin.append_ #[t, t] ty #[.slice base len cap, .slice a n xcap]).run P w = .ok (.slice (some ⟨w.heap.size, 0, none⟩) (len + n) newCap) (push w.drew (os ++ us ++ rest).toArray e) := by
  obtain ⟨hu, hz, hl, hs, hpos, hb⟩ := elemT_of he
  obtain ⟨z, hz1, rfl, i, hi, hiz⟩ := zeroV_run hz w
  have hzs : z.cells.size = sz := by simpa using hl
  have hbi : i.bytes = P.bytesOf e := by simp [Program.bytesOf, hi]
  have hsi : i.size = sz := by rw [← hs]; simp [sizeT, Program.cellsOf, hi]
  refine ⟨grownCap w (len + n) cap e, (Builtin.zeroCells z.cells (grownCap w (len + n) cap e - (len + n))).toList, grownCap_ge _ _ _ _, by simp [size_zeroCells, hzs], ?_⟩
  have h1 : ¬ (len + n ≤ cap) := by omega
  have h2 : ¬ ((9223372036854775807 : Int) < (len : Int) + (n : Int)) := by omega
  have hfit : Builtin.nextslicecap (len + n) cap * i.bytes ≤ 281474976710656 := growslice_fits hg (by
    rw [hbi]
    have : (len + n) * P.bytesOf e ≤ 1073741824 * 1000 := Nat.mul_le_mul hsm hb
    omega)
  have h3 : ¬ (281474976710656 < Builtin.nextslicecap (len + n) cap * i.bytes) := by omega
  have hf' := hf w.drew rfl
  have ho' := ho w.drew rfl
  simp [Builtin.append_, run_under hu, sizeOf, typeInfo, zeroValue, hi, hiz, hsi, Builtin.lenOf, h1, h2, h3, Question.forced, hf', ho', newRow, grownCap]
  show push w.drew _ e = push w.drew _ e
  congr 1
  apply Array.ext'
  simp

theorem take_splice : ∀ (us vals : List Value) (off : Nat), off + us.length ≤ vals.length → (spliceW vals off us).take (off + us.length) = vals.take off ++ us
  | [], vals, off, _ => by simp [spliceW]
  | u :: us, vals, off, h => by
    simp only [List.length_cons] at h
    rw [spliceW, show off + (u :: us).length = (off + 1) + us.length by simp; omega, take_splice us (vals.set off u) (off + 1) (by simp; omega)]
    rw [List.take_succ_eq_append_getElem (by simp; omega)]
    simp [List.take_set_of_le]

/-- a box dies -/
theorem kill_ok {w0 S0 w ρ h} (ok : OkH w0 S0 w ρ h) (b : Nat) : OkH w0 S0 w ρ (setBox h b ⟨false, false, []⟩) ∧ (∀ c, stab S0 ρ h c → stab S0 ρ (setBox h b ⟨false, false, []⟩) c) := by
  have hst : ∀ c, stab S0 ρ h c → stab S0 ρ (setBox h b ⟨false, false, []⟩) c := fun c hc => ⟨hc.1, fun i x hi xa xf hic => by
    simp only [setBox, List.getElem?_set] at hi
    split at hi
    · split at hi
      · cases hi; cases xa
      · cases hi
    · exact hc.2 i x hi xa xf hic⟩
  have back : ∀ (i : Nat) (x : Box), (setBox h b ⟨false, false, []⟩)[i]? = some x → x.alive = true → h[i]? = some x := by
    intro i x hi xa
    simp only [setBox, List.getElem?_set] at hi
    split at hi
    · split at hi
      · cases hi; cases xa
      · cases hi
    · exact hi
  refine ⟨⟨ok.below, ?_, ok.heap.low, ?_, ?_⟩, hst⟩
  · simp [setBox, ok.heap.len]
  · intro i j x y β hi hj xa ya gi gj
    exact ok.heap.inj i j x y β (back i x hi xa) (back j y hj ya) xa ya gi gj
  · intro i x β hi xa gi
    obtain ⟨vs, t, h1, h2, h3⟩ := ok.heap.box i x β (back i x hi xa) xa gi
    exact ⟨vs, t, h1, h2, h3.lasts ⟨Nat.le_refl _, fun c _ hs => ⟨hst c hs, rfl⟩⟩⟩

end Go.Proofs.YtcijnloneigfcaaGreatDoor

namespace Go.Proofs.YtcijnloneigfcaaGreatDoor
open Go.RowKit
variable {P : Program} {C : World → Prop} {Qr : V → Prop} {Qo : Ex → St → Prop}

theorem readd_ok {w0 S0 w w' ρ h h1 β} (ok : OkH w0 S0 w ρ h1) (hno : ∀ (i : Nat) (x : Box), h1[i]? = some x → x.alive = true → ρ[i]? ≠ some β) (hlow : w0.heap.size ≤ β ∧ β < w.heap.size)
    (hos : w'.os = w.os) (htape : w'.tape = w.tape) (hout : w'.output = w.output) (hsz : w'.heap.size = w.heap.size) (hoth : ∀ c, c ≠ β → w'.heap[c]? = w.heap[c]?)
    {vals' : Array Value} {ty : TypeId} (hnew : w'.heap[β]? = some (.cells vals' ty (0, 0))) {cells : List V} (hle : cells.length ≤ vals'.size)
    (hl : Lasts w w' (stab S0 ρ h) (stab S0 (ρ ++ [β]) (newB h1 cells))) (hl1 : Lasts w w' (stab S0 ρ h1) (stab S0 (ρ ++ [β]) (newB h1 cells)) ∨ ∀ (i : Nat) (x : Box) γ, h1[i]? = some x → x.alive = true → ρ[i]? = some γ →
      ∃ vals ty, w.heap[γ]? = some (.cells vals ty (0, 0)) ∧ x.cells.length ≤ vals.size ∧ RdL w (stab S0 ρ h) (vals.toList.take x.cells.length) x.cells)
    (hr : RdL w (stab S0 ρ h) (vals'.toList.take cells.length) cells) : OkH w0 S0 w' (ρ ++ [β]) (newB h1 cells) := by
  refine ⟨⟨hos.trans ok.below.os, htape.trans ok.below.tape, hout.trans ok.below.output, by rw [hsz]; exact ok.below.size, fun c hc => (hoth c (by omega)).trans (ok.below.block c hc)⟩, ?_, ?_, ?_, ?_⟩
  · simp [newB, ok.heap.len]
  · intro i γ hi
    rw [hsz]
    rcases get_snoc hi with hi | ⟨_, rfl⟩
    · exact ok.heap.low i γ hi
    · exact hlow
  · intro i j x y γ hx hy xa ya hi hj
    have hlen := ok.heap.len
    rcases get_snoc hi with gi | ⟨ei, fi⟩ <;> rcases get_snoc hj with gj | ⟨ej, fj⟩
    · rcases get_snoc hx with gx | ⟨ex, _⟩
      · rcases get_snoc hy with gy | ⟨ey, _⟩
        · exact ok.heap.inj i j x y γ gx gy xa ya gi gj
        · have := lt_of_get gj; omega
      · have := lt_of_get gi; omega
    · rcases get_snoc hx with gx | ⟨ex, _⟩
      · exact (hno i x gx xa (fj ▸ gi)).elim
      · have := lt_of_get gi; omega
    · rcases get_snoc hy with gy | ⟨ey, _⟩
      · exact (hno j y gy ya (fi ▸ gj)).elim
      · have := lt_of_get gj; omega
    · rw [ei, ej]
  · intro i x γ hx xa hi
    have hlen := ok.heap.len
    rcases get_snoc hi with hi | ⟨rfl, rfl⟩
    · rcases get_snoc hx with hx | ⟨rfl, _⟩
      · have hne : γ ≠ β := fun e => hno i x hx xa (e ▸ hi)
        rcases hl1 with hl1 | hb
        · obtain ⟨vs, t, h1, h2, h3⟩ := ok.heap.box i x γ hx xa hi
          exact ⟨vs, t, (hoth γ hne).trans h1, h2, h3.lasts hl1⟩
        · obtain ⟨vs, t, h1, h2, h3⟩ := hb i x γ hx xa hi
          exact ⟨vs, t, (hoth γ hne).trans h1, h2, h3.lasts hl⟩
      · have := lt_of_get hi; omega
    · rcases get_snoc hx with hx | ⟨_, rfl⟩
      · have := lt_of_get hx; omega
      · exact ⟨vals', ty, hnew, hle, hr.lasts hl⟩

theorem prim_any {w w' : World} {S S' : Nat → Prop} : ∀ {vs : List Value} {xs : List V}, RdL w S vs xs → xs.all isPrim = true → RdL w' S' vs xs
  | [], _, h, _ => by cases h; exact .nil
  | v :: vs, _, h, hp => by
    cases h with
    | cons h1 h2 =>
      rename_i x xs
      rw [List.all_cons, Bool.and_eq_true] at hp
      refine .cons ?_ (prim_any h2 hp.2)
      have hp1 := hp.1
      cases h1 <;> first | exact .unk | exact .bool | exact .int | exact .nil | cases hp1

/-- a block that a call has made becomes a box -/
theorem adopt_ok {w0 S0 w w' ρ h β} (ok : OkH w0 S0 w ρ h) (hb : Below w.heap.size w w') (hge : w.heap.size ≤ β) {vals : Array Value} {ty : TypeId} (hnew : w'.heap[β]? = some (.cells vals ty (0, 0)))
    {cells : List V} (hle : cells.length ≤ vals.size) {S : Nat → Prop} (hr : RdL w' S (vals.toList.take cells.length) cells) (hp : cells.all isPrim = true) :
    OkH w0 S0 w' (ρ ++ [β]) (newB h cells) ∧ Lasts w w' (stab S0 ρ h) (stab S0 (ρ ++ [β]) (newB h cells)) := by
  have hlt : β < w'.heap.size := by
    rcases Nat.lt_or_ge β w'.heap.size with q | q
    · exact q
    · rw [Array.getElem?_eq_none q] at hnew; cases hnew
  have hlen := ok.heap.len
  have hl : Lasts w w' (stab S0 ρ h) (stab S0 (ρ ++ [β]) (newB h cells)) := by
    refine ⟨hb.size, fun b hbl hs => ⟨⟨hs.1, fun i x hx xa xf hi => ?_⟩, hb.block b hbl⟩⟩
    rcases get_snoc hi with hi | ⟨_, rfl⟩
    · rcases get_snoc hx with hx | ⟨rfl, _⟩
      · exact hs.2 i x hx xa xf hi
      · have := lt_of_get hi; omega
    · omega
  refine ⟨⟨ok.below.trans (hb.mono ok.below.size), ?_, ?_, ?_, ?_⟩, hl⟩
  · simp [newB, hlen]
  · intro i γ hi
    rcases get_snoc hi with hi | ⟨_, rfl⟩
    · have := ok.heap.low i γ hi; have := hb.size; omega
    · have := ok.below.size; omega
  · intro i j x y γ hx hy xa ya hi hj
    rcases get_snoc hi with gi | ⟨ei, fi⟩ <;> rcases get_snoc hj with gj | ⟨ej, fj⟩
    · rcases get_snoc hx with gx | ⟨ex, _⟩
      · rcases get_snoc hy with gy | ⟨ey, _⟩
        · exact ok.heap.inj i j x y γ gx gy xa ya gi gj
        · have := lt_of_get gj; omega
      · have := lt_of_get gi; omega
    · have := ok.heap.low i γ gi; omega
    · have := ok.heap.low j γ gj; omega
    · rw [ei, ej]
  · intro i x γ hx xa hi
    rcases get_snoc hi with hi | ⟨rfl, rfl⟩
    · rcases get_snoc hx with hx | ⟨rfl, _⟩
      · obtain ⟨vs, t, h1, h2, h3⟩ := ok.heap.box i x γ hx xa hi
        exact ⟨vs, t, (hb.block γ (ok.heap.low i γ hi).2).trans h1, h2, h3.lasts hl⟩
      · have := lt_of_get hi; omega
    · rcases get_snoc hx with hx | ⟨_, rfl⟩
      · have := lt_of_get hx; omega
      · exact ⟨vals, ty, hnew, hle, prim_any hr hp⟩

theorem kill_back {h : List Box} {b i : Nat} {x : Box} (hi : (setBox h b ⟨false, false, []⟩)[i]? = some x) (xa : x.alive = true) : h[i]? = some x ∧ i ≠ b := by
  simp only [setBox, List.getElem?_set] at hi
  split at hi
  · split at hi
    · cases hi; cases xa
    · cases hi
  · rename_i hne; exact ⟨hi, fun e => hne e.symm⟩

theorem append_sound {w0 S0 w ρ h} (ok : OkH w0 S0 w ρ h) {o : Oper} {a : Act} {t xt ty : TypeId} {ds dx : D} {k : D → List Box → T} (hw : (appendT P t xt h ds dx k).wp P C Qr Qo) {vs vx : Value}
    (rs : RdD w (stab S0 ρ h) ρ vs ds) (rx : RdD w (stab S0 ρ h) ρ vx dx) :
    ∃ v w', (Builtin.append_ #[t, xt] ty #[vs, vx]).run P w = .ok v w' ∧ Post P C Qr Qo w0 S0 o a w ρ h k (a.put o.dst v) w' := by
  unfold appendT at hw
  split at hw
  · rename_i e sz zs n c he hn hc
    obtain ⟨htx, hn2⟩ := cond_some hn
    clear hn
    rw [Nat.beq_eq] at htx
    subst htx
    obtain ⟨hu, hz, hzl, hsz, hpos, hb⟩ := elemT_of he
    split at hw
    · -- onto nil
      obtain ⟨hcheck, hw1⟩ := of_brk hw
      clear hw
      simp only [Bool.and_eq_true, Nat.ble_eq] at hcheck
      obtain ⟨hso, hsm⟩ := hcheck
      have hvs := rs.val_inv
      cases hvs
      obtain ⟨ad, cap, us, rfl, hus, hcl, hfc⟩ := src_run (P := P) ok hc hn2 hso rx
      rcases of_br hw1 with ⟨hn0, hw⟩ | ⟨hn0, hw⟩ <;> clear hw1
      · rw [Nat.beq_eq] at hn0
        subst hn0
        refine ⟨.slice none 0 0, w, ?_, .slice none 0 0, _, h, ρ, rfl, ok, .val .nil, fun _ _ q => q, hw⟩
        have hf := hfc w rfl
        simp [Builtin.append_, run_under hu, run_sizeOf hsz hpos, Builtin.lenOf, hf]
      · have hn0 : 0 < n := by
          rcases Nat.eq_zero_or_pos n with q | q
          · subst q; cases hn0
          · exact q
        obtain ⟨newCap, rest, h1, h2, h3⟩ := append_grows (P := P) he (ty := ty) (base := none) (len := 0) (cap := 0) (os := []) hfc (fun _ _ => rfl) (by omega) (by omega)
        refine ⟨_, _, h3, ?_⟩
        have okd : OkH w0 S0 w.drew ρ h := ok.grow ((Below.refl _ _).drew)
        have hul := hus.length
        have hvs : (([] : List Value) ++ us ++ rest).toArray.size = newCap * sz := by
          simp only [List.nil_append, List.size_toArray, List.length_append, h2, hul, hcl]
          rw [← Nat.add_mul]
          congr 1
          omega
        obtain ⟨v, d, h', ρ', e1, e2, e3, e4, e5⟩ := push_post (P := P) (C := C) (Qr := Qr) (Qo := Qo) okd (o := o) (a := a) (k := k) (vals := (([] : List Value) ++ us ++ rest).toArray) (ty := e) (cells := c)
          (v := .slice (some ⟨w.drew.heap.size, 0, none⟩) (0 + n) newCap) (d := .osl h.length 0 n sz)
          (by rw [hvs, hcl]; exact Nat.mul_le_mul_right sz (by omega)) (by simp [← hul]; exact (hus.lasts (Lasts.of_below ((Below.refl _ _).drew) _)))
          (by rw [Nat.zero_add]; exact .osl (push_own okd) (by omega) (shape_of_cells (push_new _ _ _)) (by rw [Nat.zero_add, hvs]; exact Nat.le_refl _)) hw
        exact ⟨v, d, h', ρ', e1, e2, e3, fun u x q => e4 u x (q.grow ((Below.refl _ _).drew)), e5⟩
    · -- onto a block of the call's own
      rename_i b off len s'
      obtain ⟨hcheck1, hw1⟩ := of_chk hw
      clear hw
      simp only [Bool.and_eq_true, Bool.not_eq_true', Nat.beq_eq] at hcheck1
      obtain ⟨⟨⟨e1, e2⟩, ha⟩, hfz⟩ := hcheck1
      subst e1 e2
      obtain ⟨hcheck2, hw2⟩ := of_brk hw1
      clear hw1
      simp only [Bool.and_eq_true, Nat.ble_eq, Nat.beq_eq, mul_cond] at hcheck2
      obtain ⟨⟨⟨hso, hall⟩, hsm⟩, hbl⟩ := hcheck2
      obtain ⟨ad, xcap, us, rfl, hus, hcl, hfc⟩ := src_run (P := P) ok hc hn2 hso rx
      have hul := hus.length
      cases rs with
      | osl hβ hlc hsh hcap =>
        rename_i β cap ety n'
        obtain ⟨vals, bty, hb1, hb2, hb3⟩ := ok.heap.box b _ β (bx_get ha) ha hβ
        have hshv := shape_of_cells hb1
        rw [hsh] at hshv
        simp only [Option.some.injEq, Prod.mk.injEq] at hshv
        obtain ⟨rfl, rfl⟩ := hshv
        rw [Nat.zero_add] at hcap
        obtain ⟨okk, hstk⟩ := kill_ok ok b
        have hbn : ¬ stab S0 ρ h β := fun q => q.2 b _ (bx_get ha) ha hfz hβ
        by_cases hfit : len + n ≤ cap
        · -- in place
          have hroom : (len + n) * s' ≤ vals.size := Nat.le_trans (Nat.mul_le_mul_right s' hfit) hcap
          rw [Nat.add_mul] at hroom
          have hst : (storeCells ⟨β, len * s', none⟩ us).run P w = .ok () (w.setCells β (len * s') us) := by
            have := run_storeCells_cells (P := P) β (len * s') us 0 w
              (fun j hj => by
                have hlt : len * s' + j < vals.size := by omega
                simp [World.cell?, hb1, Array.getElem?_eq_getElem hlt])
              (fun j hj => by simp [World.frozen?, hb1]) (cells_one hus hall)
            simpa using this
          refine ⟨_, _, append_fits he (hfc w rfl) hfit hst, ?_⟩
          obtain ⟨vals', hv1, hv2⟩ := setCells_heap β us (len * s') w vals ety (0, 0) hb1
          have hvs : vals'.size = vals.size := by
            have := spliceW_len us vals.toList (len * s')
            rw [← hv2] at this
            simpa using this
          obtain ⟨q1, q2, q3⟩ := setCells_rest β us (len * s') w
          have hl : Lasts w (w.setCells β (len * s') us) (stab S0 ρ h) (stab S0 (ρ ++ [β]) (newB (setBox h b ⟨false, false, []⟩) ((bx h b).cells ++ c))) :=
            ⟨by rw [setCells_size]; exact Nat.le_refl _, fun m _ hs => ⟨⟨hs.1, fun i x hx xa xf hi => by
              have hlen := ok.heap.len
              rcases get_snoc hx with hx | ⟨rfl, rfl⟩
              · obtain ⟨hx, hne⟩ := kill_back hx xa
                rcases get_snoc hi with hi | ⟨rfl, _⟩
                · exact hs.2 i x hx xa xf hi
                · have := lt_of_get hx; omega
              · rcases get_snoc hi with hi | ⟨_, rfl⟩
                · have := lt_of_get hi; simp [setBox] at this; omega
                · exact hbn hs⟩, setCells_other β us _ w m (fun e => hbn (e ▸ hs))⟩⟩
          refine ⟨_, _, _, ρ ++ [β], rfl, readd_ok (h := h) okk ?_ (ok.heap.low b β hβ) q1 q2 q3 (setCells_size β _ _ _) (fun m hm => setCells_other β us _ w m hm) hv1 ?_ hl (.inr ?_) ?_, ?_, ?_, hw2⟩
          · intro i x hx xa hi
            obtain ⟨hx, hne⟩ := kill_back hx xa
            exact hne (ok.heap.inj i b x _ β hx (bx_get ha) xa ha hi hβ)
          · rw [List.length_append, hbl, hvs, hcl]; omega
          · intro i x γ hx xa hi
            obtain ⟨hx, _⟩ := kill_back hx xa
            exact ok.heap.box i x γ hx xa hi
          · rw [List.length_append, hbl, hv2, show c.length = us.length from hul.symm, take_splice us vals.toList (len * s') (by simp; omega)]
            rw [hbl] at hb3
            exact hb3.append hus
          · have e1 : (setBox h b ⟨false, false, []⟩).length = h.length := by simp [setBox]
            refine .osl (β := β) (by rw [← ok.heap.len]; simp) hfit (shape_of_cells hv1) (by rw [hvs]; omega)
          · intro u x hr
            refine hr.lasts hl (fun m ty' n' hsh' => ?_) (fun _ _ hi => get_snoc_of hi)
            by_cases hm : m = β
            · subst hm
              rw [shape_of_cells hb1] at hsh'
              rw [shape_of_cells hv1, hvs]
              exact hsh'
            · simpa [World.shape?, setCells_other β us _ w m hm] using hsh'
        · -- a new block
          have hfo : ∀ w1 : World, w1.heap = w.heap → (Builtin.firstCells s' len (.slice (some ⟨β, 0, none⟩) len cap)).run P w1 = .ok (vals.toList.take (len * s')).toArray w1 := by
            intro w1 hw1
            have hlt : (vals.toList.take (len * s')).length = len * s' := by simp; omega
            have := run_loadCells_list (P := P) w1 ⟨β, 0, none⟩ (vals.toList.take (len * s')) (fun j v hv => by
              rw [Addr.add_mid, Nat.zero_add]
              rw [List.getElem?_take] at hv
              split at hv
              · unfold World.cell?
                rw [hw1]
                simp only [hb1]
                simpa using hv
              · cases hv)
            rw [hlt] at this
            exact this
          obtain ⟨newCap, rest, h1, h2, h3⟩ := append_grows (P := P) he (ty := ty) hfc hfo (by omega) hsm
          refine ⟨_, _, h3, ?_⟩
          have okd : OkH w0 S0 w.drew ρ (setBox h b ⟨false, false, []⟩) := okk.grow ((Below.refl _ _).drew)
          have hos : (vals.toList.take (len * s')).length = len * s' := by simp; omega
          have hvs : (vals.toList.take (len * s') ++ us ++ rest).toArray.size = newCap * s' := by
            simp only [List.size_toArray, List.length_append, h2, hul, hcl, hos]
            rw [← Nat.add_mul, ← Nat.add_mul]
            congr 1
            omega
          have hkill : Lasts w w (stab S0 ρ h) (stab S0 ρ (setBox h b ⟨false, false, []⟩)) := ⟨Nat.le_refl _, fun m _ hs => ⟨hstk m hs, rfl⟩⟩
          have hdrew : Lasts w w.drew (stab S0 ρ h) (stab S0 ρ (setBox h b ⟨false, false, []⟩)) := hkill.trans (Lasts.of_below ((Below.refl _ _).drew) _)
          obtain ⟨v, d, h', ρ', e1, e2, e3, e4, e5⟩ := push_post (P := P) (C := C) (Qr := Qr) (Qo := Qo) okd (o := o) (a := a) (k := fun d h' => k d h') (vals := (vals.toList.take (len * s') ++ us ++ rest).toArray) (ty := e)
            (cells := (bx h b).cells ++ c)
            (v := .slice (some ⟨w.drew.heap.size, 0, none⟩) (len + n) newCap) (d := .osl h.length 0 (len + n) s')
            (by rw [hvs, List.length_append, hbl, hcl, ← Nat.add_mul]; exact Nat.mul_le_mul_right s' (by omega))
            (by
              have e9 : (vals.toList.take (len * s') ++ us ++ rest).toArray.toList.take ((bx h b).cells ++ c).length = vals.toList.take (len * s') ++ us := by
                rw [List.length_append, hbl, ← hul]
                rw [List.toList_toArray]
                rw [List.take_append_of_le_length (by simp; omega)]
                exact List.take_of_length_le (by simp; omega)
              rw [e9]
              rw [hbl] at hb3
              exact (hb3.append hus).lasts hdrew)
            (by
              have e8 : (setBox h b ⟨false, false, []⟩).length = h.length := by simp [setBox]
              have := push_own okd
              rw [e8] at this
              exact .osl this (by omega) (shape_of_cells (push_new _ _ _)) (by rw [Nat.zero_add, hvs]; exact Nat.le_refl _)) hw2
          exact ⟨v, d, h', ρ', e1, e2, e3, fun u x q => e4 u x (q.lasts hdrew (Below.shapes ((Below.refl _ _).drew)) (fun _ _ q => q)), e5⟩
    · exact hw.elim
  · exact hw.elim

end Go.Proofs.YtcijnloneigfcaaGreatDoor
