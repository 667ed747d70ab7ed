/-
  What a contract of the pure logic says (Impl), what a tree asks (T.wp), and how a state of the evaluator lies in memory (OkS). Definitions and small facts; no condition.
-/
import Derived.Test.YtcijnloneigfcaaGreatDoorPvEval
namespace Go.Proofs.YtcijnloneigfcaaGreatDoor
open Go.RowKit

def okFn (P : Program) (f : FuncId) : Bool :=
  match P.funcs[f]? with
  | some fn => fn.name != "runtime.NumGoroutine" && fn.body.isSome
  | none => false

/-- function f, called with arguments that read as ds, returns a value that reads as r; what was there is as it was -/
def Impl (P : Program) (C : World → Prop) (f : FuncId) (ds : List V) (r : V) : Prop :=
  okFn P f = true ∧ ∀ (w : World) (S : Nat → Prop) (args : List Value), C w → (∀ b, w.heap.size ≤ b → S b) → RdL w S args ds →
    Calls P f args.toArray w fun e w' => ∃ v, e = .returned v ∧ Rd w' S v r ∧ Below w.heap.size w w'

def isPrim : V → Bool
  | .unk | .bool _ | .int _ _ | .nil => true
  | _ => false
/-- function f returns a slice of a new block, whose cells read as given -/
def ImplO (P : Program) (C : World → Prop) (f : FuncId) (ds : List V) (sz n : Nat) (cells : List V) : Prop :=
  okFn P f = true ∧ cells.all isPrim = true ∧ ∀ (w : World) (S : Nat → Prop) (args : List Value), C w → (∀ b, w.heap.size ≤ b → S b) → RdL w S args ds →
    Calls P f args.toArray w fun e w' => ∃ β cap vals ty, e = .returned (.slice (some ⟨β, 0, none⟩) n cap) ∧ w.heap.size ≤ β ∧ w'.heap[β]? = some (.cells vals ty (0, 0)) ∧
      cells.length ≤ vals.size ∧ n ≤ cap ∧ cap * sz ≤ vals.size ∧ RdL w' S (vals.toList.take cells.length) cells ∧ Below w.heap.size w w'

def Stable (C : World → Prop) : Prop := ∀ w w', C w → Below w.heap.size w w' → C w'

/-- the boxes lie in memory, and below the call's first block all is as it was -/
structure OkH (w0 : World) (S0 : Nat → Prop) (w : World) (ρ : List Nat) (h : List Box) : Prop where
  below : Below w0.heap.size w0 w
  heap : HeapOk w w0.heap.size (stab S0 ρ h) ρ h

structure OkS (w0 : World) (S0 : Nat → Prop) (st : St) (a : Act) (w : World) (ρ : List Nat) : Prop where
  ok : OkH w0 S0 w ρ st.h
  size : a.tmps.size = st.s.length
  slots : ∀ t, RdD w (stab S0 ρ st.h) ρ (a.tmps.getD t undef) (nth st.s t .unk)
  defers : a.defers = []

def Ex.to : Ex → Exit
  | .normal => .normal
  | .exit id => .exit id
  | .ret => .ret

def LoopOk (P : Program) (C : World → Prop) (body : Code) (st : St) (R : Ex → St → Prop) : Prop :=
  ∀ (w0 : World) (S0 : Nat → Prop), C w0 → (∀ b, w0.heap.size ≤ b → S0 b) → ∀ a w ρ, OkS w0 S0 st a w ρ →
    (Code.loop body).wp P (fun e a' w' => ∃ ex st' ρ', e = ex.to ∧ R ex st' ∧ OkS w0 S0 st' a' w' ρ') a w

def T.wp (P : Program) (C : World → Prop) (Qr : V → Prop) (Qo : Ex → St → Prop) : T → Prop
  | .fail => False
  | .ret v => Qr v
  | .out e st => Qo e st
  | .call f ds k => ∃ r, Impl P C f ds r ∧ (k r).wp P C Qr Qo
  | .br b x y => (b = true ∧ x.wp P C Qr Qo) ∨ (b = false ∧ y.wp P C Qr Qo)
  | .alt b x y => (b = true ∧ x.wp P C Qr Qo) ∨ y.wp P C Qr Qo
  | .any x y => x.wp P C Qr Qo ∧ y.wp P C Qr Qo
  | .call2 f ds k kO => (∃ r, Impl P C f ds r ∧ (k r).wp P C Qr Qo) ∨ ∃ sz n c, ImplO P C f ds sz n c ∧ (kO sz n c).wp P C Qr Qo
  | .loop body st k => ∃ R, LoopOk P C body st R ∧ ∀ e st', R e st' → (k e st').wp P C Qr Qo

section
variable {P : Program} {C : World → Prop} {Qr : V → Prop} {Qo : Ex → St → Prop}
theorem wp_call {f : FuncId} {ds : List V} {r : V} {k : V → T} (h : Impl P C f ds r) (hk : (k r).wp P C Qr Qo) : (T.call f ds k).wp P C Qr Qo := ⟨r, h, hk⟩
theorem wp_ite {b : Bool} {x y : T} (h1 : b = true → x.wp P C Qr Qo) (h2 : b = false → y.wp P C Qr Qo) : (cond b x y).wp P C Qr Qo := by
  cases b
  · exact h2 rfl
  · exact h1 rfl
theorem wp_yes {b : Bool} {x y : T} (hb : b = true) (h : x.wp P C Qr Qo) : (cond b x y).wp P C Qr Qo := by subst hb; exact h
theorem wp_no {b : Bool} {x y : T} (hb : b = false) (h : y.wp P C Qr Qo) : (cond b x y).wp P C Qr Qo := by subst hb; exact h
theorem of_br {b : Bool} {x y : T} (h : (T.br b x y).wp P C Qr Qo) : (b = true ∧ x.wp P C Qr Qo) ∨ (b = false ∧ y.wp P C Qr Qo) := h
theorem of_brk {b : Bool} {x : T} (h : (T.br b x .fail).wp P C Qr Qo) : b = true ∧ x.wp P C Qr Qo := h.elim id fun q => q.2.elim
theorem wp_return {v : V} (h : Qr v) : (T.ret v).wp P C Qr Qo := h
theorem wp_out {e : Ex} {st : St} (h : Qo e st) : (T.out e st).wp P C Qr Qo := h
theorem wp_loop' {body : Code} {st : St} {k : Ex → St → T} (R : Ex → St → Prop) (h : LoopOk P C body st R) (hk : ∀ e st', R e st' → (k e st').wp P C Qr Qo) :
    (T.loop body st k).wp P C Qr Qo := ⟨R, h, hk⟩
theorem not_fail (h : T.fail.wp P C Qr Qo) : False := h
theorem of_cond {b : Bool} {x y : T} (h : (cond b x y).wp P C Qr Qo) : (b = true ∧ x.wp P C Qr Qo) ∨ (b = false ∧ y.wp P C Qr Qo) := by
  cases b
  · exact .inr ⟨rfl, h⟩
  · exact .inl ⟨rfl, h⟩
theorem of_chk {b : Bool} {x : T} (h : (cond b x .fail).wp P C Qr Qo) : b = true ∧ x.wp P C Qr Qo := by
  cases b
  · exact h.elim
  · exact ⟨rfl, h⟩
theorem of_chk' {b : Bool} {y : T} (h : (cond b .fail y).wp P C Qr Qo) : b = false ∧ y.wp P C Qr Qo := by
  cases b
  · exact ⟨rfl, h⟩
  · exact h.elim
end

/-! ### nth -/
theorem nth_eq {α : Type} (l : List α) (n : Nat) (d : α) : nth l n d = (l[n]?).getD d := by
  induction l generalizing n with
  | nil => simp [nth]
  | cons x l ih => cases n with
    | zero => simp [nth]
    | succ n => simp [nth, ih]

theorem nth_lt {α : Type} {l : List α} {n : Nat} (d : α) (h : n < l.length) : l[n]? = some (nth l n d) := by
  rw [nth_eq, List.getElem?_eq_getElem h]; rfl

theorem nth_set {α : Type} (l : List α) (n m : Nat) (x d : α) : nth (l.set n x) m d = if n = m ∧ n < l.length then x else nth l m d := by
  rw [nth_eq, nth_eq, List.getElem?_set]
  by_cases h : n = m
  · subst h
    by_cases hl : n < l.length
    · simp [hl]
    · simp [hl]
  · simp [h]

/-! ### freezing -/
structure Fr (h h' : List Box) : Prop where
  len : h'.length = h.length
  box : ∀ (i : Nat) (x : Box), h[i]? = some x → ∃ y : Box, h'[i]? = some y ∧ y.alive = x.alive ∧ y.cells = x.cells ∧ (x.frozen = true → y.frozen = true)

theorem Fr.refl (h : List Box) : Fr h h := ⟨rfl, fun _ x hx => ⟨x, hx, rfl, rfl, id⟩⟩
theorem Fr.trans {h1 h2 h3} (h : Fr h1 h2) (k : Fr h2 h3) : Fr h1 h3 := ⟨k.len.trans h.len, fun i x hx => by
  obtain ⟨y, hy, ya, yc, yf⟩ := h.box i x hx
  obtain ⟨z, hz, za, zc, zf⟩ := k.box i y hy
  exact ⟨z, hz, za.trans ya, zc.trans yc, fun q => zf (yf q)⟩⟩

theorem Fr.back {h h'} (f : Fr h h') {i : Nat} {y : Box} (hy : h'[i]? = some y) : ∃ x : Box, h[i]? = some x ∧ y.alive = x.alive ∧ y.cells = x.cells ∧ (x.frozen = true → y.frozen = true) := by
  have hi : i < h'.length := by
    rcases Nat.lt_or_ge i h'.length with q | q
    · exact q
    · rw [List.getElem?_eq_none q] at hy; cases hy
  have hi' : i < h.length := by rw [← f.len]; exact hi
  have hx : h[i]? = some h[i] := List.getElem?_eq_getElem hi'
  obtain ⟨y', hy', r⟩ := f.box i _ hx
  rw [hy] at hy'; cases hy'
  exact ⟨_, hx, r⟩

theorem stab_fr {S0 ρ h h'} (f : Fr h h') {b : Nat} (hs : stab S0 ρ h b) : stab S0 ρ h' b := ⟨hs.1, fun i y hy ya yf hb => by
  obtain ⟨x, hx, xa, _, xf⟩ := f.back hy
  exact hs.2 i x hx (xa ▸ ya) (by cases hxf : x.frozen with
    | false => rfl
    | true => rw [xf hxf] at yf; cases yf) hb⟩

theorem Lasts.fr {w S0 ρ h h'} (f : Fr h h') : Lasts w w (stab S0 ρ h) (stab S0 ρ h') := ⟨Nat.le_refl _, fun _ _ hs => ⟨stab_fr f hs, rfl⟩⟩

theorem OkH.fr {w0 S0 w ρ h h'} (k : OkH w0 S0 w ρ h) (f : Fr h h') : OkH w0 S0 w ρ h' := ⟨k.below, {
  len := k.heap.len.trans f.len.symm
  low := k.heap.low
  inj := fun i j x y β hx hy xa ya hi hj => by
    obtain ⟨x', hx', xa', _, _⟩ := f.back hx
    obtain ⟨y', hy', ya', _, _⟩ := f.back hy
    exact k.heap.inj i j x' y' β hx' hy' (xa' ▸ xa) (ya' ▸ ya) hi hj
  box := fun i y β hy ya hβ => by
    obtain ⟨x, hx, xa, xc, _⟩ := f.back hy
    obtain ⟨vals, ty, h1, h2, h3⟩ := k.heap.box i x β hx (xa ▸ ya) hβ
    rw [xc]
    exact ⟨vals, ty, h1, h2, h3.lasts (Lasts.fr f)⟩ }⟩

theorem RdD.fr {w S0 ρ h h' v d} (f : Fr h h') (hr : RdD w (stab S0 ρ h) ρ v d) : RdD w (stab S0 ρ h') ρ v d :=
  hr.lasts (Lasts.fr f) (fun _ _ _ h => h) (fun _ _ h => h)

theorem bx_get {h : List Box} {i : Nat} (hi : (bx h i).alive = true) : h[i]? = some (bx h i) := by
  unfold bx at *
  rw [nth_eq] at *
  cases hx : h[i]? with
  | none => rw [hx] at hi; cases hi
  | some x => rfl

theorem bx_of {h : List Box} {i : Nat} {x : Box} (hx : h[i]? = some x) : bx h i = x := by
  unfold bx; rw [nth_eq, hx]; rfl

theorem Fr.bx {h h'} (f : Fr h h') {i : Nat} (hi : (bx h i).alive = true) : (bx h' i).alive = true ∧ (bx h' i).cells = (bx h i).cells := by
  obtain ⟨y, hy, ya, yc, _⟩ := f.box i _ (bx_get hi)
  rw [bx_of hy]
  exact ⟨ya.trans hi, yc⟩

theorem Fr.frz1 (h : List Box) (b : Nat) : Fr h (setBox h b { Go.Proofs.YtcijnloneigfcaaGreatDoor.bx h b with frozen := true }) := ⟨by simp [setBox], fun i x hx => by
  simp only [setBox, List.getElem?_set]
  by_cases hb : b = i
  · subst hb
    have hl : b < h.length := by
      rcases Nat.lt_or_ge b h.length with q | q
      · exact q
      · rw [List.getElem?_eq_none q] at hx; cases hx
    rw [if_pos rfl, if_pos hl]
    exact ⟨_, rfl, by rw [bx_of hx], by rw [bx_of hx], fun _ => rfl⟩
  · rw [if_neg hb]; exact ⟨x, hx, rfl, rfl, id⟩⟩

theorem Fr.frz : ∀ (bs : List Nat) (h : List Box), Fr h (frz h bs)
  | [], h => Fr.refl h
  | b :: bs, h => (Fr.frz1 h b).trans (Fr.frz bs _)

theorem frz1_frozen (h : List Box) (b : Nat) {x : Box} (hx : (setBox h b { Go.Proofs.YtcijnloneigfcaaGreatDoor.bx h b with frozen := true })[b]? = some x) : x.frozen = true := by
  simp only [setBox, List.getElem?_set, if_true] at hx
  split at hx
  · cases hx; rfl
  · cases hx

theorem frz_frozen : ∀ (bs : List Nat) (h : List Box) (b : Nat) (x : Box), b ∈ bs → (frz h bs)[b]? = some x → x.frozen = true
  | c :: bs, h, b, x, hb, hx => by
    rcases List.mem_cons.1 hb with rfl | hb
    · obtain ⟨y, hy, _, _, yf⟩ := (Fr.frz bs (setBox h b { Go.Proofs.YtcijnloneigfcaaGreatDoor.bx h b with frozen := true })).back hx
      exact yf (frz1_frozen h b hy)
    · exact frz_frozen bs _ b x hb hx

/-! ### growth -/
theorem Below.shapes {w w' : World} (h : Below w.heap.size w w') : ∀ b e n, w.shape? b = some (e, n) → w'.shape? b = some (e, n) := by
  intro b e n hs
  have hb : b < w.heap.size := by
    rcases Nat.lt_or_ge b w.heap.size with q | q
    · exact q
    · simp [World.shape?, Array.getElem?_eq_none q] at hs
  simpa [World.shape?, h.block b hb] using hs

theorem OkH.grow {w0 S0 w w' ρ h} (k : OkH w0 S0 w ρ h) (hb : Below w.heap.size w w') : OkH w0 S0 w' ρ h := ⟨k.below.trans (hb.mono k.below.size), {
  len := k.heap.len
  low := fun i β hi => ⟨(k.heap.low i β hi).1, Nat.lt_of_lt_of_le (k.heap.low i β hi).2 hb.size⟩
  inj := k.heap.inj
  box := fun i x β hx xa hβ => by
    obtain ⟨vals, ty, h1, h2, h3⟩ := k.heap.box i x β hx xa hβ
    exact ⟨vals, ty, (hb.block β (k.heap.low i β hβ).2).trans h1, h2, h3.lasts (Lasts.of_below hb _)⟩ }⟩

theorem RdD.grow {w w' S ρ v d} (hb : Below w.heap.size w w') (h : RdD w S ρ v d) : RdD w' S ρ v d :=
  h.lasts (Lasts.of_below hb S) (Below.shapes hb) (fun _ _ h => h)

/-- what is new, and the call's own boxes, may be read -/
def AllS (w : World) (S0 : Nat → Prop) (ρ : List Nat) : Prop := (∀ b, w.heap.size ≤ b → S0 b) ∧ ∀ (i β : Nat), ρ[i]? = some β → S0 β
theorem allS_of {w0 S0 w ρ h} (k : OkH w0 S0 w ρ h) (hS : ∀ b, w0.heap.size ≤ b → S0 b) : AllS w S0 ρ :=
  ⟨fun b hb => hS b (Nat.le_trans k.below.size hb), fun i β hi => hS β (k.heap.low i β hi).1⟩

theorem stab_new {w0 S0 w ρ h} (k : OkH w0 S0 w ρ h) (hS : AllS w S0 ρ) : ∀ b, w.heap.size ≤ b → stab S0 ρ h b := fun b hb =>
  ⟨hS.1 b hb, fun i x _ _ _ hi => by have := (k.heap.low i b hi).2; omega⟩

/-- a box that is frozen lies in a block that may be read as data -/
theorem stab_frozen {w0 S0 w ρ h} (k : OkH w0 S0 w ρ h) (hS : AllS w S0 ρ) {i β : Nat} {x : Box} (hx : h[i]? = some x) (xa : x.alive = true) (xf : x.frozen = true)
    (hβ : ρ[i]? = some β) : stab S0 ρ h β :=
  ⟨hS.2 i β hβ, fun j y hy ya yf hj => by
    have := k.heap.inj i j x y β hx hy xa ya hβ hj
    subst this
    rw [hx] at hy; cases hy
    rw [xf] at yf; cases yf⟩

/-- what lies in a box, cell by cell -/
theorem OkH.cells {w0 S0 w ρ h} (k : OkH w0 S0 w ρ h) {i β : Nat} (hi : (bx h i).alive = true) (hβ : ρ[i]? = some β) :
    ∃ vals : List Value, RdL w (stab S0 ρ h) vals (bx h i).cells ∧ ∀ j v, vals[j]? = some v → w.cell? ⟨β, j, none⟩ = some v ∧ w.frozen? ⟨β, j, none⟩ = false := by
  obtain ⟨vals, ty, h1, h2, h3⟩ := k.heap.box i _ β (bx_get hi) hi hβ
  refine ⟨_, h3, fun j v hv => ?_⟩
  rw [List.getElem?_take] at hv
  split at hv
  · simp only [Array.getElem?_toList] at hv
    constructor
    · simp [World.cell?, h1, hv]
    · simp [World.frozen?, h1]
  · cases hv

end Go.Proofs.YtcijnloneigfcaaGreatDoor
