/-
  The abstract data V and D of the pure logic, how values of memory read as them (Rd, RdD), and that a reading lasts while memory grows. No condition.
-/
import Derived.Calls
import Derived.Orders
import Derived.Below
namespace Go.Proofs.YtcijnloneigfcaaGreatDoor
open Go.RowKit

/-- pure data: what a value reads as, whatever the memory it lies in -/
inductive V where
  | unk
  | bool (b : Bool)
  | int (k : IntKind) (n : Int)
  | nil
  | sl (sz : Nat) (cells : List V)
  | pt (cells : List V) (off : Nat)
  | agg (l : List V)
  | tup (l : List V)
  | clos (f : FuncId) (caps : List V)
  deriving Inhabited

/-- what a slot holds: pure data, or a place in a block of the call's own -/
inductive D where
  | unk
  | val (v : V)
  | own (b off : Nat)
  | osl (b off len sz : Nat)
  | clo (f : FuncId) (caps : List (Nat × Nat))
  deriving Inhabited

mutual
inductive Rd (w : World) (S : Nat → Prop) : Value → V → Prop
  | unk {v} : Rd w S v .unk
  | bool {b} : Rd w S (.bool b) (.bool b)
  | int {k n} : Rd w S (.int k n) (.int k n)
  | nil : Rd w S (.slice none 0 0) .nil
  | nilsl {sz} : Rd w S (.slice none 0 0) (.sl sz [])
  | sl {b o n cap sz cells vals} : S b → b < w.heap.size → n ≤ cap → cells.length = n * sz → RdL w S vals cells →
      (∀ i v, vals[i]? = some v → w.cell? ⟨b, o + i, none⟩ = some v) → Rd w S (.slice (some ⟨b, o, none⟩) n cap) (.sl sz cells)
  | pt {b o off cells vals} : S b → b < w.heap.size → RdL w S vals cells →
      (∀ i v, vals[i]? = some v → w.cell? ⟨b, o + i, none⟩ = some v) → Rd w S (.pointer (some ⟨b, o + off, none⟩)) (.pt cells off)
  | agg {arr l} : RdL w S arr l → Rd w S (.agg arr.toArray) (.agg l)
  | tup {arr l} : RdL w S arr l → Rd w S (.tuple arr.toArray) (.tup l)
  | clos {f arr l} : RdL w S arr l → Rd w S (.func (.func f) #[] arr.toArray) (.clos f l)
inductive RdL (w : World) (S : Nat → Prop) : List Value → List V → Prop
  | nil : RdL w S [] []
  | cons {v x vs xs} : Rd w S v x → RdL w S vs xs → RdL w S (v :: vs) (x :: xs)
end

theorem RdL.length {w S vs xs} (h : RdL w S vs xs) : vs.length = xs.length := by
  induction vs generalizing xs with
  | nil => cases h; rfl
  | cons v vs ih => cases h with | cons _ h => simp [ih h]

theorem RdL.get {w S vs xs} (h : RdL w S vs xs) : ∀ {i : Nat} {x : V}, xs[i]? = some x → ∃ v, vs[i]? = some v ∧ Rd w S v x := by
  induction vs generalizing xs with
  | nil => cases h; intro i x hx; simp at hx
  | cons v vs ih =>
    cases h with
    | cons h1 h2 =>
      intro i x hx
      cases i with
      | zero => simp at hx; subst hx; exact ⟨v, by simp, h1⟩
      | succ i => simp at hx; obtain ⟨u, hu, hr⟩ := ih h2 hx; exact ⟨u, by simpa using hu, hr⟩

theorem RdL.get' {w S vs xs} (h : RdL w S vs xs) : ∀ {i : Nat} {v : Value}, vs[i]? = some v → ∃ x, xs[i]? = some x ∧ Rd w S v x := by
  intro i v hv
  have hl := h.length
  have hi : i < vs.length := by
    rcases Nat.lt_or_ge i vs.length with h | h
    · exact h
    · rw [List.getElem?_eq_none h] at hv; cases hv
  have hx : xs[i]? = some xs[i] := List.getElem?_eq_getElem (by omega)
  obtain ⟨u, hu, hr⟩ := h.get hx
  rw [hv] at hu; cases hu
  exact ⟨_, hx, hr⟩

theorem RdL.mk {w S} : ∀ {vs : List Value} {xs : List V}, vs.length = xs.length → (∀ (i : Nat) (v : Value) (x : V), vs[i]? = some v → xs[i]? = some x → Rd w S v x) → RdL w S vs xs
  | [], [], _, _ => .nil
  | [], _ :: _, h, _ => by simp at h
  | _ :: _, [], h, _ => by simp at h
  | v :: vs, x :: xs, h, hr => .cons (hr 0 v x rfl rfl) (RdL.mk (by simpa using h) fun i v x hv hx => hr (i + 1) v x (by simpa using hv) (by simpa using hx))

theorem RdL.append {w S vs xs us ys} (h : RdL w S vs xs) (k : RdL w S us ys) : RdL w S (vs ++ us) (xs ++ ys) := by
  induction vs generalizing xs with
  | nil => cases h; exact k
  | cons v vs ih => cases h with | cons h1 h2 => exact .cons h1 (ih h2)

theorem RdL.drop {w S vs xs} (h : RdL w S vs xs) (n : Nat) : RdL w S (vs.drop n) (xs.drop n) :=
  RdL.mk (by simp [h.length]) fun i v x hv hx => by
    rw [List.getElem?_drop] at hv hx
    obtain ⟨u, hu, hr⟩ := h.get hx
    rw [hv] at hu; cases hu; exact hr

theorem RdL.take {w S vs xs} (h : RdL w S vs xs) (n : Nat) : RdL w S (vs.take n) (xs.take n) :=
  RdL.mk (by simp [h.length]) fun i v x hv hx => by
    rw [List.getElem?_take] at hv hx
    split at hv
    · rename_i hi
      rw [if_pos hi] at hx
      obtain ⟨u, hu, hr⟩ := h.get hx
      rw [hv] at hu; cases hu; exact hr
    · cases hv

theorem RdL.set {w S vs xs v x} (h : RdL w S vs xs) (hv : Rd w S v x) (n : Nat) : RdL w S (vs.set n v) (xs.set n x) :=
  RdL.mk (by simp [h.length]) fun i u y hu hy => by
    rw [List.getElem?_set] at hu hy
    by_cases hi : n = i
    · subst hi
      simp only [if_true] at hu hy
      split at hu
      · rw [if_pos (by have := h.length; omega)] at hy; cases hu; cases hy; exact hv
      · cases hu
    · simp only [hi, if_false] at hu hy
      obtain ⟨u', hu', hr⟩ := h.get hy
      rw [hu] at hu'; cases hu'; exact hr

/-- how a reading lasts: the blocks that it may lie in are as they were -/
structure Lasts (w w' : World) (S S' : Nat → Prop) : Prop where
  size : w.heap.size ≤ w'.heap.size
  block : ∀ b, b < w.heap.size → S b → S' b ∧ w'.heap[b]? = w.heap[b]?

theorem Lasts.refl (w : World) (S : Nat → Prop) : Lasts w w S S := ⟨Nat.le_refl _, fun _ _ h => ⟨h, rfl⟩⟩
theorem Lasts.trans {w1 w2 w3 S1 S2 S3} (h : Lasts w1 w2 S1 S2) (k : Lasts w2 w3 S2 S3) : Lasts w1 w3 S1 S3 :=
  ⟨Nat.le_trans h.size k.size, fun b hb hs => by
    obtain ⟨h1, h2⟩ := h.block b hb hs
    obtain ⟨k1, k2⟩ := k.block b (Nat.lt_of_lt_of_le hb h.size) h1
    exact ⟨k1, k2.trans h2⟩⟩

theorem Lasts.of_below {w w' : World} (h : Below w.heap.size w w') (S : Nat → Prop) : Lasts w w' S S :=
  ⟨h.size, fun b hb hs => ⟨hs, h.block b hb⟩⟩

theorem cell_of_block {w w' : World} {b o : Nat} (h : w'.heap[b]? = w.heap[b]?) : w'.cell? ⟨b, o, none⟩ = w.cell? ⟨b, o, none⟩ := by
  simp [World.cell?, h]

mutual
theorem Rd.lasts {w w' S S' v x} (hl : Lasts w w' S S') : Rd w S v x → Rd w' S' v x
  | .unk => .unk
  | .bool => .bool
  | .int => .int
  | .nil => .nil
  | .nilsl => .nilsl
  | .sl hs hb hn hc hr hv =>
    .sl (hl.block _ hb hs).1 (Nat.lt_of_lt_of_le hb hl.size) hn hc (hr.lasts hl) fun i v h => by
      rw [cell_of_block (hl.block _ hb hs).2]; exact hv i v h
  | .pt hs hb hr hv =>
    .pt (hl.block _ hb hs).1 (Nat.lt_of_lt_of_le hb hl.size) (hr.lasts hl) fun i v h => by
      rw [cell_of_block (hl.block _ hb hs).2]; exact hv i v h
  | .agg h => .agg (h.lasts hl)
  | .tup h => .tup (h.lasts hl)
  | .clos h => .clos (h.lasts hl)
theorem RdL.lasts {w w' S S' vs xs} (hl : Lasts w w' S S') : RdL w S vs xs → RdL w' S' vs xs
  | .nil => .nil
  | .cons h t => .cons (h.lasts hl) (t.lasts hl)
end

/-- a box: a block of the call's own -/
structure Box where
  alive : Bool
  frozen : Bool
  cells : List V
  deriving Inhabited

/-- what a slot's value reads as -/
inductive RdD (w : World) (S : Nat → Prop) (ρ : List Nat) : Value → D → Prop
  | unk {v} : RdD w S ρ v .unk
  | val {v x} : Rd w S v x → RdD w S ρ v (.val x)
  | own {b off β} : ρ[b]? = some β → RdD w S ρ (.pointer (some ⟨β, off, none⟩)) (.own b off)
  | osl {b off len sz β cap e n} : ρ[b]? = some β → len ≤ cap → w.shape? β = some (e, n) → off + cap * sz ≤ n →
      RdD w S ρ (.slice (some ⟨β, off, none⟩) len cap) (.osl b off len sz)
  | clo {f : FuncId} {caps : List (Nat × Nat)} {arr : List Value} : arr.length = caps.length → (∀ (i b off : Nat), caps[i]? = some (b, off) → ∃ β : Nat, ρ[b]? = some β ∧ arr[i]? = some (Value.pointer (some ⟨β, off, none⟩))) →
      RdD w S ρ (.func (.func f) #[] arr.toArray) (.clo f caps)

/-- readings of slots last, too: the numbers of blocks are kept, blocks keep their shapes -/
theorem RdD.lasts {w w' S S' ρ ρ' v d} (hl : Lasts w w' S S') (hsh : ∀ b e n, w.shape? b = some (e, n) → w'.shape? b = some (e, n))
    (hρ : ∀ (i β : Nat), ρ[i]? = some β → ρ'[i]? = some β) (h : RdD w S ρ v d) : RdD w' S' ρ' v d := by
  cases h with
  | unk => exact .unk
  | val h => exact .val (h.lasts hl)
  | own h => exact .own (hρ _ _ h)
  | osl h hc hs hn => exact .osl (hρ _ _ h) hc (hsh _ _ _ hs) hn
  | clo hlen h => exact .clo hlen fun i b off hc => let ⟨β, hb, ha⟩ := h i b off hc; ⟨β, hρ _ _ hb, ha⟩

theorem Rd.int_inv {w S v k n} (h : Rd w S v (.int k n)) : v = .int k n := by cases h; rfl
theorem Rd.bool_inv {w S v b} (h : Rd w S v (.bool b)) : v = .bool b := by cases h; rfl
theorem RdD.val_inv {w S ρ v x} (h : RdD w S ρ v (.val x)) : Rd w S v x := by cases h; assumption
theorem RdD.int_inv {w S ρ v k n} (h : RdD w S ρ v (.val (.int k n))) : v = .int k n := h.val_inv.int_inv
theorem RdD.bool_inv {w S ρ v b} (h : RdD w S ρ v (.val (.bool b))) : v = .bool b := h.val_inv.bool_inv
theorem Rd.agg_inv {w S v l} (h : Rd w S v (.agg l)) : ∃ arr : List Value, v = .agg arr.toArray ∧ RdL w S arr l := by
  cases h with | agg h => exact ⟨_, rfl, h⟩
theorem Rd.tup_inv {w S v l} (h : Rd w S v (.tup l)) : ∃ arr : List Value, v = .tuple arr.toArray ∧ RdL w S arr l := by
  cases h with | tup h => exact ⟨_, rfl, h⟩
theorem RdD.own_inv {w S ρ v b off} (h : RdD w S ρ v (.own b off)) : ∃ β, ρ[b]? = some β ∧ v = .pointer (some ⟨β, off, none⟩) := by
  cases h with | own h => exact ⟨_, h, rfl⟩

/-- the blocks that no store of the call's own can reach: allowed by the caller, and no box that may still be written -/
def stab (S0 : Nat → Prop) (ρ : List Nat) (h : List Box) (b : Nat) : Prop :=
  S0 b ∧ ∀ (i : Nat) (x : Box), h[i]? = some x → x.alive = true → x.frozen = false → ρ[i]? ≠ some b

/-- the boxes lie in memory as the state says -/
structure HeapOk (w : World) (B : Nat) (S : Nat → Prop) (ρ : List Nat) (h : List Box) : Prop where
  len : ρ.length = h.length
  low : ∀ (i : Nat) (β : Nat), ρ[i]? = some β → B ≤ β ∧ β < w.heap.size
  inj : ∀ (i j : Nat) (x y : Box) (β : Nat), h[i]? = some x → h[j]? = some y → x.alive = true → y.alive = true → ρ[i]? = some β → ρ[j]? = some β → i = j
  box : ∀ (i : Nat) (x : Box) (β : Nat), h[i]? = some x → x.alive = true → ρ[i]? = some β →
    ∃ vals ty, w.heap[β]? = some (.cells vals ty (0, 0)) ∧ x.cells.length ≤ vals.size ∧ RdL w S (vals.toList.take x.cells.length) x.cells

end Go.Proofs.YtcijnloneigfcaaGreatDoor
