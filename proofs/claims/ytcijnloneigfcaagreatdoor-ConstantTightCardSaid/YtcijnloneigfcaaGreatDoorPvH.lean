/-
  The operations that make blocks or write into the call's own: the evaluator's step is sound. Condition: none beyond the tree's.
-/
import Derived.Test.YtcijnloneigfcaaGreatDoorPvA2
namespace Go.Proofs.YtcijnloneigfcaaGreatDoor
open Go.RowKit
variable {P : Program} {C : World → Prop} {Qr : V → Prop} {Qo : Ex → St → Prop}

/-- what a step leaves -/
def Post (P : Program) (C : World → Prop) (Qr : V → Prop) (Qo : Ex → St → Prop) (w0 : World) (S0 : Nat → Prop) (o : Oper) (a : Act) (w : World) (ρ : List Nat) (h : List Box) (k : D → List Box → T)
    (a' : Act) (w' : World) : Prop :=
  ∃ v d h' ρ', a' = a.put o.dst v ∧ OkH w0 S0 w' ρ' h' ∧ RdD w' (stab S0 ρ' h') ρ' v d ∧ (∀ u e, RdD w (stab S0 ρ h) ρ u e → RdD w' (stab S0 ρ' h') ρ' u e) ∧ (k d h').wp P C Qr Qo

theorem post_value {o : Oper} {a : Act} {w w' : World} {v : Value} {next : Act → World → Prop} {Q : Exit → Act → World → Prop} (h : (execOp a.eval o).run P w = .ok (.value v) w') (hn : next (a.put o.dst v) w') :
    o.wp P a w next Q := by unfold Oper.wp; rw [h]; exact hn
theorem post_skip {o : Oper} {a : Act} {w w' : World} {next : Act → World → Prop} {Q : Exit → Act → World → Prop} (h : (execOp a.eval o).run P w = .ok .skip w') (hn : next (a.put o.dst undef) w') :
    o.wp P a w next Q := by unfold Oper.wp; rw [h]; exact hn

/-- the world with one block more -/
def push (w : World) (vals : Array Value) (ty : TypeId) : World := { w with heap := w.heap.push (.cells vals ty (0, 0)) }

theorem get_snoc {α : Type} {l : List α} {x y : α} {i : Nat} (h : (l ++ [x])[i]? = some y) : l[i]? = some y ∨ (i = l.length ∧ y = x) := by
  rw [List.getElem?_append] at h
  split at h
  · exact .inl h
  · rename_i hi
    cases hj : i - l.length with
    | zero => rw [hj] at h; simp at h; exact .inr ⟨by omega, h.symm⟩
    | succ j => rw [hj] at h; simp at h

theorem get_snoc_of {α : Type} {l : List α} {x y : α} {i : Nat} (h : l[i]? = some y) : (l ++ [x])[i]? = some y := by
  have : i < l.length := by
    rcases Nat.lt_or_ge i l.length with q | q
    · exact q
    · rw [List.getElem?_eq_none q] at h; cases h
  rw [List.getElem?_append_left this]; exact h

theorem lt_of_get {α : Type} {l : List α} {i : Nat} {x : α} (h : l[i]? = some x) : i < l.length := by
  rcases Nat.lt_or_ge i l.length with q | q
  · exact q
  · rw [List.getElem?_eq_none q] at h; cases h

theorem push_block (w : World) (vals : Array Value) (ty : TypeId) {b : Nat} (hb : b < w.heap.size) : (push w vals ty).heap[b]? = w.heap[b]? := by
  show (w.heap.push _)[b]? = _
  rw [Array.getElem?_push, if_neg (by omega)]
theorem push_new (w : World) (vals : Array Value) (ty : TypeId) : (push w vals ty).heap[w.heap.size]? = some (.cells vals ty (0, 0)) := by
  show (w.heap.push _)[_]? = _
  rw [Array.getElem?_push, if_pos rfl]
theorem push_size (w : World) (vals : Array Value) (ty : TypeId) : (push w vals ty).heap.size = w.heap.size + 1 := by
  show (w.heap.push _).size = _
  simp

theorem push_below (w : World) (vals : Array Value) (ty : TypeId) : Below w.heap.size w (push w vals ty) :=
  ⟨rfl, rfl, rfl, by rw [push_size]; omega, fun _ hb => push_block w vals ty hb⟩

theorem lasts_push {w0 S0 w ρ h} (ok : OkH w0 S0 w ρ h) (vals : Array Value) (ty : TypeId) (cells : List V) :
    Lasts w (push w vals ty) (stab S0 ρ h) (stab S0 (ρ ++ [w.heap.size]) (newB h cells)) :=
  ⟨by rw [push_size]; omega, fun b hb hs => ⟨⟨hs.1, fun i x hx xa xf hi => by
    rcases get_snoc hx with hx | ⟨rfl, rfl⟩
    · rcases get_snoc hi with hi | ⟨rfl, hbe⟩
      · exact hs.2 i x hx xa xf hi
      · have := lt_of_get hx; have := ok.heap.len; omega
    · rcases get_snoc hi with hi | ⟨_, hbe⟩
      · have := lt_of_get hi; have := ok.heap.len; omega
      · omega⟩, push_block w vals ty hb⟩⟩

theorem push_ok {w0 S0 w ρ h} (ok : OkH w0 S0 w ρ h) {vals : Array Value} (ty : TypeId) {cells : List V} (hle : cells.length ≤ vals.size)
    (hr : RdL w (stab S0 ρ h) (vals.toList.take cells.length) cells) : OkH w0 S0 (push w vals ty) (ρ ++ [w.heap.size]) (newB h cells) := by
  have hb := push_below w vals ty
  have hl := lasts_push ok vals ty cells
  refine ⟨ok.below.trans (hb.mono ok.below.size), ?_, ?_, ?_, ?_⟩
  · simp [newB, ok.heap.len]
  · intro i β hi
    rw [push_size]
    rcases get_snoc hi with hi | ⟨_, rfl⟩
    · have := ok.heap.low i β hi; omega
    · exact ⟨ok.below.size, by omega⟩
  · intro i j x y β hx hy xa ya hi hj
    have hlen := ok.heap.len
    rcases get_snoc hi with hi | ⟨rfl, rfl⟩ <;> rcases get_snoc hj with hj | ⟨rfl, hβ⟩
    · rcases get_snoc hx with hx | ⟨rfl, _⟩
      · rcases get_snoc hy with hy | ⟨rfl, _⟩
        · exact ok.heap.inj i j x y β hx hy xa ya hi hj
        · have := lt_of_get hj; omega
      · have := lt_of_get hi; omega
    · have := (ok.heap.low i β hi).2; omega
    · have := (ok.heap.low j _ hj).2; omega
    · rfl
  · intro i x β hx xa hi
    have hlen := ok.heap.len
    rcases get_snoc hi with hi | ⟨rfl, rfl⟩
    · rcases get_snoc hx with hx | ⟨rfl, _⟩
      · obtain ⟨vs, t, h1, h2, h3⟩ := ok.heap.box i x β hx xa hi
        exact ⟨vs, t, (push_block w vals ty (ok.heap.low i β hi).2).trans h1, h2, h3.lasts hl⟩
      · have := lt_of_get hi; omega
    · rcases get_snoc hx with hx | ⟨_, rfl⟩
      · have := lt_of_get hx; omega
      · exact ⟨vals, ty, push_new w vals ty, hle, hr.lasts hl⟩

theorem push_keeps {w0 S0 w ρ h} (ok : OkH w0 S0 w ρ h) (vals : Array Value) (ty : TypeId) (cells : List V) :
    ∀ u e, RdD w (stab S0 ρ h) ρ u e → RdD (push w vals ty) (stab S0 (ρ ++ [w.heap.size]) (newB h cells)) (ρ ++ [w.heap.size]) u e := fun _ _ hr =>
  hr.lasts (lasts_push ok vals ty cells) (Below.shapes (push_below w vals ty)) (fun _ _ hi => get_snoc_of hi)

theorem push_own {w0 S0 w ρ h} (ok : OkH w0 S0 w ρ h) : (ρ ++ [w.heap.size])[h.length]? = some w.heap.size := by
  rw [← ok.heap.len]; simp

theorem push_post {w0 S0 w ρ h} (ok : OkH w0 S0 w ρ h) {o : Oper} {a : Act} {k : D → List Box → T} {vals : Array Value} {ty : TypeId} {cells : List V} (hle : cells.length ≤ vals.size)
    (hr : RdL w (stab S0 ρ h) (vals.toList.take cells.length) cells) {v : Value} {d : D} (hv : RdD (push w vals ty) (stab S0 (ρ ++ [w.heap.size]) (newB h cells)) (ρ ++ [w.heap.size]) v d)
    (hw : (k d (newB h cells)).wp P C Qr Qo) : Post P C Qr Qo w0 S0 o a w ρ h k (a.put o.dst v) (push w vals ty) :=
  ⟨v, d, newB h cells, ρ ++ [w.heap.size], rfl, push_ok ok ty hle hr, hv, push_keeps ok vals ty cells, hw⟩

/-! ### stores -/
theorem setCells_heap (β : Nat) : ∀ (vs : List Value) (off : Nat) (w : World) (vals : Array Value) (ty : TypeId) (fr : Nat × Nat), w.heap[β]? = some (.cells vals ty fr) →
    ∃ vals', (w.setCells β off vs).heap[β]? = some (.cells vals' ty fr) ∧ vals'.toList = spliceW vals.toList off vs
  | [], off, w, vals, ty, fr, h => ⟨vals, h, rfl⟩
  | v :: vs, off, w, vals, ty, fr, h => by
    have h1 : (w.setCell ⟨β, off, none⟩ v).heap[β]? = some (.cells (vals.setIfInBounds off v) ty fr) := by
      show (w.heap.modify β _)[β]? = _
      rw [Array.getElem?_modify, if_pos rfl, h]
      rfl
    obtain ⟨vals', h2, h3⟩ := setCells_heap β vs (off + 1) _ _ ty fr h1
    exact ⟨vals', h2, by rw [h3]; simp [spliceW]⟩

theorem setCells_other (β : Nat) : ∀ (vs : List Value) (off : Nat) (w : World) (b : Nat), b ≠ β → (w.setCells β off vs).heap[b]? = w.heap[b]?
  | [], _, _, _, _ => rfl
  | v :: vs, off, w, b, h => by
    rw [World.setCells, setCells_other β vs _ _ b h]
    exact Below.heap_setCell w ⟨β, off, none⟩ v b h

theorem setCells_size (β : Nat) : ∀ (vs : List Value) (off : Nat) (w : World), (w.setCells β off vs).heap.size = w.heap.size
  | [], _, _ => rfl
  | v :: vs, off, w => by rw [World.setCells, setCells_size β vs]; simp [World.setCell]

theorem setCells_rest (β : Nat) : ∀ (vs : List Value) (off : Nat) (w : World), (w.setCells β off vs).os = w.os ∧ (w.setCells β off vs).tape = w.tape ∧ (w.setCells β off vs).output = w.output
  | [], _, _ => ⟨rfl, rfl, rfl⟩
  | v :: vs, off, w => by rw [World.setCells]; exact setCells_rest β vs _ _

theorem spliceW_len : ∀ (vs c : List Value) (off : Nat), (spliceW c off vs).length = c.length
  | [], _, _ => rfl
  | v :: vs, c, off => by rw [spliceW, spliceW_len vs]; simp
theorem splice_len : ∀ (vs c : List V) (off : Nat), (splice c off vs).length = c.length
  | [], _, _ => rfl
  | v :: vs, c, off => by rw [splice, splice_len vs]; simp
theorem spliceW_take : ∀ (vs c : List Value) (off n : Nat), (spliceW c off vs).take n = spliceW (c.take n) off vs
  | [], _, _, _ => rfl
  | v :: vs, c, off, n => by rw [spliceW, spliceW, spliceW_take vs, List.take_set]

theorem cell_one {w : World} {S : Nat → Prop} {u : Value} {v : V} (h : Rd w S u v) (hc : isCell v = true) : u.oneCell' = true := by
  cases h <;> first | rfl | (simp [isCell] at hc)

theorem cells_one {w : World} {S : Nat → Prop} {us : List Value} {vs : List V} (h : RdL w S us vs) (hc : vs.all isCell = true) : ∀ u ∈ us, u.oneCell' = true := by
  intro u hu
  obtain ⟨i, hi⟩ := List.mem_iff_getElem?.1 hu
  obtain ⟨x, hx, hr⟩ := h.get' hi
  exact cell_one hr (List.all_eq_true.1 hc x (List.mem_of_getElem? hx))

theorem cells_of {w : World} {S : Nat → Prop} {u : Value} {v : V} (h : Rd w S u v) (hc : (cellsV v).all isCell = true) : RdL w S u.cells.toList (cellsV v) := by
  refine cells_rd h ?_
  cases v <;> first | rfl | (simp [cellsV, isCell] at hc)

/-- a box's cells are changed: its block in memory, too -/
theorem store_ok {w0 S0 w w' ρ h} (ok : OkH w0 S0 w ρ h) {b β : Nat} (ha : (bx h b).alive = true) (hfz : (bx h b).frozen = false) (hβ : ρ[b]? = some β) {cells : List V}
    (hos : w'.os = w.os) (htape : w'.tape = w.tape) (hout : w'.output = w.output) (hsz : w'.heap.size = w.heap.size) (hoth : ∀ c, c ≠ β → w'.heap[c]? = w.heap[c]?)
    {vals' : Array Value} {ty : TypeId} (hnew : w'.heap[β]? = some (.cells vals' ty (0, 0))) (hle : cells.length ≤ vals'.size) (hr : RdL w (stab S0 ρ h) (vals'.toList.take cells.length) cells) :
    OkH w0 S0 w' ρ (setBox h b ⟨true, false, cells⟩) ∧ Lasts w w' (stab S0 ρ h) (stab S0 ρ (setBox h b ⟨true, false, cells⟩)) := by
  have hx := bx_get ha
  have hbl : b < h.length := lt_of_get hx
  have hst : ∀ c, stab S0 ρ h c → stab S0 ρ (setBox h b ⟨true, false, cells⟩) c := fun c hc => ⟨hc.1, fun i x hi xa xf hic => by
    simp only [setBox, List.getElem?_set] at hi
    split at hi
    · rename_i he
      subst he
      exact hc.2 b _ hx ha hfz hic
    · exact hc.2 i x hi xa xf hic⟩
  have hl : Lasts w w' (stab S0 ρ h) (stab S0 ρ (setBox h b ⟨true, false, cells⟩)) := ⟨by omega, fun c _ hs => ⟨hst c hs, hoth c (fun e => hs.2 b _ hx ha hfz (e ▸ hβ))⟩⟩
  have hlow := ok.heap.low b β hβ
  refine ⟨⟨⟨hos.trans ok.below.os, htape.trans ok.below.tape, hout.trans ok.below.output, by rw [hsz]; exact ok.below.size, fun c hc => (hoth c (by omega)).trans (ok.below.block c hc)⟩, ?_, ?_, ?_, ?_⟩, hl⟩
  · simp [setBox, ok.heap.len]
  · intro i γ hi; rw [hsz]; exact ok.heap.low i γ hi
  · intro i j x y γ hi hj xa ya gi gj
    have back : ∀ (i : Nat) (x : Box), (setBox h b ⟨true, false, cells⟩)[i]? = some x → x.alive = true → ∃ z : Box, h[i]? = some z ∧ z.alive = true := by
      intro i x hi xa
      simp only [setBox, List.getElem?_set] at hi
      split at hi
      · rename_i he; subst he; exact ⟨_, hx, ha⟩
      · exact ⟨x, hi, xa⟩
    obtain ⟨x', hx', xa'⟩ := back i x hi xa
    obtain ⟨y', hy', ya'⟩ := back j y hj ya
    exact ok.heap.inj i j x' y' γ hx' hy' xa' ya' gi gj
  · intro i x γ hi xa gi
    simp only [setBox, List.getElem?_set] at hi
    split at hi
    · rename_i he
      subst he
      try rw [if_pos hbl] at hi
      cases hi
      rw [hβ] at gi
      cases gi
      exact ⟨vals', ty, hnew, hle, hr.lasts hl⟩
    · rename_i hne
      obtain ⟨vs, t, h1, h2, h3⟩ := ok.heap.box i x γ hi xa gi
      refine ⟨vs, t, (hoth γ ?_).trans h1, h2, h3.lasts hl⟩
      intro e
      subst e
      exact hne (ok.heap.inj b i _ x γ hx hi ha xa hβ gi)

theorem shape_of_cells {w : World} {b : Nat} {vals : Array Value} {ty : TypeId} {fr : Nat × Nat} (h : w.heap[b]? = some (.cells vals ty fr)) : w.shape? b = some (ty, vals.size) := by
  simp [World.shape?, h]

theorem store_sound {w0 S0 w ρ h} (ok : OkH w0 S0 w ρ h) {t : TypeId} {da dx : D} {h' : List Box} (hs : storeH P t h da dx = some (true, h')) {va vx : Value}
    (ra : RdD w (stab S0 ρ h) ρ va da) (rx : RdD w (stab S0 ρ h) ρ vx dx) :
    ∃ w', (Instr.storeAt t va vx).run P w = .ok () w' ∧ OkH w0 S0 w' ρ h' ∧ (∀ u e, RdD w (stab S0 ρ h) ρ u e → RdD w' (stab S0 ρ h') ρ u e) ∧
      (∀ c, (∀ b off, da = .own b off → ρ[b]? ≠ some c) → w'.heap[c]? = w.heap[c]?) ∧ w'.heap.size = w.heap.size := by
  unfold storeH at hs
  split at hs
  · rename_i b off v
    obtain ⟨hc, hs⟩ := cond_some hs
    simp only [Bool.and_eq_true, Bool.not_eq_true', Nat.beq_eq] at hc
    obtain ⟨⟨⟨⟨ha, hfz⟩, hpos⟩, hlen⟩, hall⟩ := hc
    simp only [Option.some.injEq, Prod.mk.injEq, Nat.ble_eq] at hs
    obtain ⟨hle, rfl⟩ := hs
    obtain ⟨β, hβ, rfl⟩ := ra.own_inv
    have hus := cells_of rx.val_inv hall
    obtain ⟨vals, ty, hb1, hb2, hb3⟩ := ok.heap.box b _ β (bx_get ha) ha hβ
    have hul : vx.cells.toList.length = (cellsV v).length := hus.length
    have hrun : (Instr.storeAt t (.pointer (some ⟨β, off, none⟩)) vx).run P w = .ok () (w.setCells β off vx.cells.toList) := by
      have := run_storeCells_cells (P := P) β off vx.cells.toList 0 w
        (fun j hj => by
          have hlt : off + j < vals.size := by omega
          simp [World.cell?, hb1, Array.getElem?_eq_getElem hlt])
        (fun j hj => by simp [World.frozen?, hb1]) (cells_one hus hall)
      simp only [Nat.add_zero] at this
      simp only [Instr.storeAt, Instr.sureAddr, Sem.run_bind, Sem.run_pure, Result.andThen_ok, storeVar, run_sizeOf (P := P) (t := t) rfl (blt_iff.1 hpos)]
      have hsz : vx.cells.size = sizeT P t := by have := hul; simp at this; omega
      rw [if_neg (by omega)]
      exact this
    obtain ⟨vals', hv1, hv2⟩ := setCells_heap β vx.cells.toList off w vals ty (0, 0) hb1
    have hvs : vals'.size = vals.size := by
      have := spliceW_len vx.cells.toList vals.toList off
      rw [← hv2] at this
      simpa using this
    obtain ⟨q1, q2, q3⟩ := setCells_rest β vx.cells.toList off w
    obtain ⟨ok', hl⟩ := store_ok ok ha hfz hβ (w' := w.setCells β off vx.cells.toList) (cells := splice (bx h b).cells off (cellsV v)) q1 q2 q3 (setCells_size β _ _ _)
      (fun c hc => setCells_other β _ _ _ c hc) hv1 (by rw [splice_len, hvs]; exact hb2) (by rw [splice_len, hv2, spliceW_take]; exact splice_rd hb3 hus)
    refine ⟨_, hrun, ok', fun u e hr => hr.lasts hl ?_ (fun _ _ q => q), fun c hc => setCells_other β _ _ _ c (fun e => hc b off rfl (e ▸ hβ)), setCells_size β _ _ _⟩
    intro c e n hsh
    by_cases hc : c = β
    · subst hc
      rw [shape_of_cells hb1] at hsh
      rw [shape_of_cells hv1, hvs]
      exact hsh
    · simpa [World.shape?, setCells_other β _ _ _ c hc] using hsh
  · cases hs

end Go.Proofs.YtcijnloneigfcaaGreatDoor
