/-
  Lower layers: what functions of the program compute, and plain facts. Conditions: as the theorems say.
-/
import Derived.Calls
import Derived.Orders
import Derived.Below
import Derived.Laws.Sem
import Derived.Laws.Cells
import Derived.Laws.IdiomCopy
import Derived.Laws.NewBlocks
import Derived.Deep.MidRow
import Derived.Laws.Slices
import Derived.Laws.Append
namespace Go.Proofs.YtmbpoibhamlkbaaGreatDoor
open Go.RowKit

/-- pure data: what a value reads as, whatever the memory it lies in -/
inductive V where
  | unk
  | bool (b : Bool)
  | int (k : IntKind) (n : Int)
  | nil
  | sl (sz : Nat) (cells : List V)
  | pt (cells : List V) (off : Nat)
  | agg (l : List V)
  | tup (l : List V)
  | clos (f : FuncId) (caps : List V)
  deriving Inhabited

/-- what a slot holds: pure data, or a place in a block of the call's own -/
inductive D where
  | unk
  | val (v : V)
  | own (b off : Nat)
  | osl (b off len sz : Nat)
  | clo (f : FuncId) (caps : List (Nat × Nat))
  /-- as osl, and the box lies in this block -/
  | oslp (b off len sz β : Nat)
  deriving Inhabited

mutual
inductive Rd (w : World) (S : Nat → Prop) : Value → V → Prop
  | unk {v} : Rd w S v .unk
  | bool {b} : Rd w S (.bool b) (.bool b)
  | int {k n} : Rd w S (.int k n) (.int k n)
  | nil : Rd w S (.slice none 0 0) .nil
  | nilsl {sz} : Rd w S (.slice none 0 0) (.sl sz [])
  | sl {b o n cap sz cells vals} : S b → b < w.heap.size → n ≤ cap → cells.length = n * sz → RdL w S vals cells →
      (∀ i v, vals[i]? = some v → w.cell? ⟨b, o + i, none⟩ = some v) → Rd w S (.slice (some ⟨b, o, none⟩) n cap) (.sl sz cells)
  | pt {b o off cells vals} : S b → b < w.heap.size → RdL w S vals cells →
      (∀ i v, vals[i]? = some v → w.cell? ⟨b, o + i, none⟩ = some v) → Rd w S (.pointer (some ⟨b, o + off, none⟩)) (.pt cells off)
  | agg {arr l} : RdL w S arr l → Rd w S (.agg arr.toArray) (.agg l)
  | tup {arr l} : RdL w S arr l → Rd w S (.tuple arr.toArray) (.tup l)
  | clos {f arr l} : RdL w S arr l → Rd w S (.func (.func f) #[] arr.toArray) (.clos f l)
inductive RdL (w : World) (S : Nat → Prop) : List Value → List V → Prop
  | nil : RdL w S [] []
  | cons {v x vs xs} : Rd w S v x → RdL w S vs xs → RdL w S (v :: vs) (x :: xs)
end

theorem RdL.length {w S vs xs} (h : RdL w S vs xs) : vs.length = xs.length := by
  induction vs generalizing xs with
  | nil => cases h; rfl
  | cons v vs ih => cases h with | cons _ h => simp [ih h]

theorem RdL.get {w S vs xs} (h : RdL w S vs xs) : ∀ {i : Nat} {x : V}, xs[i]? = some x → ∃ v, vs[i]? = some v ∧ Rd w S v x := by
  induction vs generalizing xs with
  | nil => cases h; intro i x hx; simp at hx
  | cons v vs ih =>
    cases h with
    | cons h1 h2 =>
      intro i x hx
      cases i with
      | zero => simp at hx; subst hx; exact ⟨v, by simp, h1⟩
      | succ i => simp at hx; obtain ⟨u, hu, hr⟩ := ih h2 hx; exact ⟨u, by simpa using hu, hr⟩

theorem RdL.get' {w S vs xs} (h : RdL w S vs xs) : ∀ {i : Nat} {v : Value}, vs[i]? = some v → ∃ x, xs[i]? = some x ∧ Rd w S v x := by
  intro i v hv
  have hl := h.length
  have hi : i < vs.length := by
    rcases Nat.lt_or_ge i vs.length with h | h
    · exact h
    · rw [List.getElem?_eq_none h] at hv; cases hv
  have hx : xs[i]? = some xs[i] := List.getElem?_eq_getElem (by omega)
  obtain ⟨u, hu, hr⟩ := h.get hx
  rw [hv] at hu; cases hu
  exact ⟨_, hx, hr⟩

theorem RdL.mk {w S} : ∀ {vs : List Value} {xs : List V}, vs.length = xs.length → (∀ (i : Nat) (v : Value) (x : V), vs[i]? = some v → xs[i]? = some x → Rd w S v x) → RdL w S vs xs
  | [], [], _, _ => .nil
  | [], _ :: _, h, _ => by simp at h
  | _ :: _, [], h, _ => by simp at h
  | v :: vs, x :: xs, h, hr => .cons (hr 0 v x rfl rfl) (RdL.mk (by simpa using h) fun i v x hv hx => hr (i + 1) v x (by simpa using hv) (by simpa using hx))

theorem RdL.append {w S vs xs us ys} (h : RdL w S vs xs) (k : RdL w S us ys) : RdL w S (vs ++ us) (xs ++ ys) := by
  induction vs generalizing xs with
  | nil => cases h; exact k
  | cons v vs ih => cases h with | cons h1 h2 => exact .cons h1 (ih h2)

theorem RdL.drop {w S vs xs} (h : RdL w S vs xs) (n : Nat) : RdL w S (vs.drop n) (xs.drop n) :=
  RdL.mk (by simp [h.length]) fun i v x hv hx => by
    rw [List.getElem?_drop] at hv hx
    obtain ⟨u, hu, hr⟩ := h.get hx
    rw [hv] at hu; cases hu; exact hr

theorem RdL.take {w S vs xs} (h : RdL w S vs xs) (n : Nat) : RdL w S (vs.take n) (xs.take n) :=
  RdL.mk (by simp [h.length]) fun i v x hv hx => by
    rw [List.getElem?_take] at hv hx
    split at hv
    · rename_i hi
      rw [if_pos hi] at hx
      obtain ⟨u, hu, hr⟩ := h.get hx
      rw [hv] at hu; cases hu; exact hr
    · cases hv

theorem RdL.set {w S vs xs v x} (h : RdL w S vs xs) (hv : Rd w S v x) (n : Nat) : RdL w S (vs.set n v) (xs.set n x) :=
  RdL.mk (by simp [h.length]) fun i u y hu hy => by
    rw [List.getElem?_set] at hu hy
    by_cases hi : n = i
    · subst hi
      simp only [if_true] at hu hy
      split at hu
      · rw [if_pos (by have := h.length; omega)] at hy; cases hu; cases hy; exact hv
      · cases hu
    · simp only [hi, if_false] at hu hy
      obtain ⟨u', hu', hr⟩ := h.get hy
      rw [hu] at hu'; cases hu'; exact hr

/-- how a reading lasts: the blocks that it may lie in are as they were -/
structure Lasts (w w' : World) (S S' : Nat → Prop) : Prop where
  size : w.heap.size ≤ w'.heap.size
  block : ∀ b, b < w.heap.size → S b → S' b ∧ w'.heap[b]? = w.heap[b]?

theorem Lasts.refl (w : World) (S : Nat → Prop) : Lasts w w S S := ⟨Nat.le_refl _, fun _ _ h => ⟨h, rfl⟩⟩
theorem Lasts.trans {w1 w2 w3 S1 S2 S3} (h : Lasts w1 w2 S1 S2) (k : Lasts w2 w3 S2 S3) : Lasts w1 w3 S1 S3 :=
  ⟨Nat.le_trans h.size k.size, fun b hb hs => by
    obtain ⟨h1, h2⟩ := h.block b hb hs
    obtain ⟨k1, k2⟩ := k.block b (Nat.lt_of_lt_of_le hb h.size) h1
    exact ⟨k1, k2.trans h2⟩⟩

theorem Lasts.of_below {w w' : World} (h : Below w.heap.size w w') (S : Nat → Prop) : Lasts w w' S S :=
  ⟨h.size, fun b hb hs => ⟨hs, h.block b hb⟩⟩

theorem cell_of_block {w w' : World} {b o : Nat} (h : w'.heap[b]? = w.heap[b]?) : w'.cell? ⟨b, o, none⟩ = w.cell? ⟨b, o, none⟩ := by
  simp [World.cell?, h]

mutual
theorem Rd.lasts {w w' S S' v x} (hl : Lasts w w' S S') : Rd w S v x → Rd w' S' v x
  | .unk => .unk
  | .bool => .bool
  | .int => .int
  | .nil => .nil
  | .nilsl => .nilsl
  | .sl hs hb hn hc hr hv =>
    .sl (hl.block _ hb hs).1 (Nat.lt_of_lt_of_le hb hl.size) hn hc (hr.lasts hl) fun i v h => by
      rw [cell_of_block (hl.block _ hb hs).2]; exact hv i v h
  | .pt hs hb hr hv =>
    .pt (hl.block _ hb hs).1 (Nat.lt_of_lt_of_le hb hl.size) (hr.lasts hl) fun i v h => by
      rw [cell_of_block (hl.block _ hb hs).2]; exact hv i v h
  | .agg h => .agg (h.lasts hl)
  | .tup h => .tup (h.lasts hl)
  | .clos h => .clos (h.lasts hl)
theorem RdL.lasts {w w' S S' vs xs} (hl : Lasts w w' S S') : RdL w S vs xs → RdL w' S' vs xs
  | .nil => .nil
  | .cons h t => .cons (h.lasts hl) (t.lasts hl)
end

/-- a box: a block of the call's own -/
structure Box where
  alive : Bool
  frozen : Bool
  cells : List V
  deriving Inhabited

/-- what a slot's value reads as -/
inductive RdD (w : World) (S : Nat → Prop) (ρ : List Nat) : Value → D → Prop
  | unk {v} : RdD w S ρ v .unk
  | val {v x} : Rd w S v x → RdD w S ρ v (.val x)
  | own {b off β} : ρ[b]? = some β → RdD w S ρ (.pointer (some ⟨β, off, none⟩)) (.own b off)
  | osl {b off len sz β cap e n} : ρ[b]? = some β → len ≤ cap → w.shape? β = some (e, n) → off + cap * sz ≤ n →
      RdD w S ρ (.slice (some ⟨β, off, none⟩) len cap) (.osl b off len sz)
  | clo {f : FuncId} {caps : List (Nat × Nat)} {arr : List Value} : arr.length = caps.length → (∀ (i b off : Nat), caps[i]? = some (b, off) → ∃ β : Nat, ρ[b]? = some β ∧ arr[i]? = some (Value.pointer (some ⟨β, off, none⟩))) →
      RdD w S ρ (.func (.func f) #[] arr.toArray) (.clo f caps)
  | oslp {b off len sz β cap e n} : ρ[b]? = some β → len ≤ cap → w.shape? β = some (e, n) → off + cap * sz ≤ n →
      RdD w S ρ (.slice (some ⟨β, off, none⟩) len cap) (.oslp b off len sz β)

/-- readings of slots last, too: the numbers of blocks are kept, blocks keep their shapes -/
theorem RdD.lasts {w w' S S' ρ ρ' v d} (hl : Lasts w w' S S') (hsh : ∀ b e n, w.shape? b = some (e, n) → w'.shape? b = some (e, n))
    (hρ : ∀ (i β : Nat), ρ[i]? = some β → ρ'[i]? = some β) (h : RdD w S ρ v d) : RdD w' S' ρ' v d := by
  cases h with
  | unk => exact .unk
  | val h => exact .val (h.lasts hl)
  | own h => exact .own (hρ _ _ h)
  | osl h hc hs hn => exact .osl (hρ _ _ h) hc (hsh _ _ _ hs) hn
  | clo hlen h => exact .clo hlen fun i b off hc => let ⟨β, hb, ha⟩ := h i b off hc; ⟨β, hρ _ _ hb, ha⟩
  | oslp h hc hs hn => exact .oslp (hρ _ _ h) hc (hsh _ _ _ hs) hn

theorem Rd.int_inv {w S v k n} (h : Rd w S v (.int k n)) : v = .int k n := by cases h; rfl
theorem Rd.bool_inv {w S v b} (h : Rd w S v (.bool b)) : v = .bool b := by cases h; rfl
theorem RdD.val_inv {w S ρ v x} (h : RdD w S ρ v (.val x)) : Rd w S v x := by cases h; assumption
theorem RdD.int_inv {w S ρ v k n} (h : RdD w S ρ v (.val (.int k n))) : v = .int k n := h.val_inv.int_inv
theorem RdD.bool_inv {w S ρ v b} (h : RdD w S ρ v (.val (.bool b))) : v = .bool b := h.val_inv.bool_inv
theorem Rd.agg_inv {w S v l} (h : Rd w S v (.agg l)) : ∃ arr : List Value, v = .agg arr.toArray ∧ RdL w S arr l := by
  cases h with | agg h => exact ⟨_, rfl, h⟩
theorem Rd.tup_inv {w S v l} (h : Rd w S v (.tup l)) : ∃ arr : List Value, v = .tuple arr.toArray ∧ RdL w S arr l := by
  cases h with | tup h => exact ⟨_, rfl, h⟩
theorem RdD.own_inv {w S ρ v b off} (h : RdD w S ρ v (.own b off)) : ∃ β, ρ[b]? = some β ∧ v = .pointer (some ⟨β, off, none⟩) := by
  cases h with | own h => exact ⟨_, h, rfl⟩

/-- the blocks that no store of the call's own can reach: allowed by the caller, and no box that may still be written -/
def stab (S0 : Nat → Prop) (ρ : List Nat) (h : List Box) (b : Nat) : Prop :=
  S0 b ∧ ∀ (i : Nat) (x : Box), h[i]? = some x → x.alive = true → x.frozen = false → ρ[i]? ≠ some b

/-- the world when the call began, and the blocks of it that the call may write into -/
structure Base extends World where
  ex : Nat → Prop
/-- the blocks that the call may write into -/
def Base.own (w0 : Base) (β : Nat) : Prop := w0.heap.size ≤ β ∨ w0.ex β
def base (w : World) : Base := ⟨w, fun _ => False⟩
/-- what was there is as it was, but for what the call may write into -/
structure Kept (w0 : Base) (w : World) : Prop where
  os : w.os = w0.os
  tape : w.tape = w0.tape
  output : w.output = w0.output
  size : w0.heap.size ≤ w.heap.size
  block : ∀ k, k < w0.heap.size → ¬ w0.ex k → w.heap[k]? = w0.heap[k]?
  shape : ∀ b e n, w0.shape? b = some (e, n) → w.shape? b = some (e, n)
theorem shape_lt {w : World} {b n : Nat} {e : TypeId} (hs : w.shape? b = some (e, n)) : b < w.heap.size := by
  rcases Nat.lt_or_ge b w.heap.size with q | q
  · exact q
  · simp [World.shape?, Array.getElem?_eq_none q] at hs
theorem below_shape {w w' : World} (h : Below w.heap.size w w') (b : Nat) (e : TypeId) (n : Nat) (hs : w.shape? b = some (e, n)) : w'.shape? b = some (e, n) := by
  simpa [World.shape?, h.block b (shape_lt hs)] using hs
theorem Kept.refl (w : World) (x : Nat → Prop) : Kept ⟨w, x⟩ w := ⟨rfl, rfl, rfl, Nat.le_refl _, fun _ _ _ => rfl, fun _ _ _ q => q⟩
theorem Kept.step {w0 : Base} {w w' : World} (h : Kept w0 w) (k : Below w.heap.size w w') : Kept w0 w' :=
  ⟨k.os.trans h.os, k.tape.trans h.tape, k.output.trans h.output, Nat.le_trans h.size k.size, fun b hb hx => (k.block b (Nat.lt_of_lt_of_le hb h.size)).trans (h.block b hb hx), fun b e n q => below_shape k b e n (h.shape b e n q)⟩
theorem Kept.then {w0 : Base} {w w' : World} {β : Nat} (h : Kept w0 w) (hβ : w0.own β) (k : Kept ⟨w, fun b => b = β⟩ w') : Kept w0 w' :=
  ⟨k.os.trans h.os, k.tape.trans h.tape, k.output.trans h.output, Nat.le_trans h.size k.size, fun b hb hx =>
    (k.block b (Nat.lt_of_lt_of_le hb h.size) (fun e => hβ.elim (fun q => absurd hb (by have e : b = β := e; omega)) (fun q => hx (by have e : b = β := e; rw [e]; exact q)))).trans (h.block b hb hx), fun b e n q => k.shape b e n (h.shape b e n q)⟩
theorem Kept.below {w w' : World} (h : Kept (base w) w') : Below w.heap.size w w' := ⟨h.os, h.tape, h.output, h.size, fun k hk => h.block k hk (fun q => q)⟩
/-- what holds wherever the call may lead -/
def Hold (C : World → Prop) (w0 : Base) : Prop := ∀ w, Kept w0 w → C w

/-- the boxes lie in memory as the state says -/
structure HeapOk (w : World) (O : Nat → Prop) (S : Nat → Prop) (ρ : List Nat) (h : List Box) : Prop where
  len : ρ.length = h.length
  low : ∀ (i : Nat) (β : Nat), ρ[i]? = some β → O β ∧ β < w.heap.size
  inj : ∀ (i j : Nat) (x y : Box) (β : Nat), h[i]? = some x → h[j]? = some y → x.alive = true → y.alive = true → ρ[i]? = some β → ρ[j]? = some β → i = j
  box : ∀ (i : Nat) (x : Box) (β : Nat), h[i]? = some x → x.alive = true → ρ[i]? = some β →
    ∃ vals ty, w.heap[β]? = some (.cells vals ty (0, 0)) ∧ x.cells.length ≤ vals.size ∧ RdL w S (vals.toList.take x.cells.length) x.cells

end Go.Proofs.YtmbpoibhamlkbaaGreatDoor

namespace Go.Proofs.YtmbpoibhamlkbaaGreatDoor

inductive Ex where
  | normal
  | exit (id : Nat)
  | ret
  deriving Inhabited

structure St where
  s : List D
  h : List Box
  deriving Inhabited

inductive T where
  | fail
  | ret (v : V)
  | out (e : Ex) (st : St)
  | call (f : FuncId) (ds : List V) (k : V → T)
  | br (b : Bool) (x y : T)
  | alt (b : Bool) (x y : T)
  | any (x y : T)
  | call2 (f : FuncId) (ds : List V) (k : V → T) (kO : Nat → Nat → List V → T) (m : Option (List V × Nat × Nat × List V)) (kM : List V → V → T)
  | loop (body : Code) (st : St) (k : Ex → St → T)
  deriving Inhabited

def nth {α : Type} : List α → Nat → α → α
  | [], _, d => d
  | x :: _, 0, _ => x
  | _ :: xs, n + 1, d => nth xs n d

def sizeT (P : Program) (t : TypeId) : Nat := P.cellsOf t
/-- is a value of this type a row of cells? -/
def kindT (P : Program) (t : TypeId) : Option Bool :=
  match P.underlying t with
  | some (.struct _) => some true
  | some (.array _ _) => some true
  | some _ => some false
  | none => none

def cellV : Value → V
  | .bool b => .bool b
  | .int k n => .int k n
  | .slice none 0 0 => .nil
  | _ => .unk
def constV : Value → V
  | .agg cs => .agg (cs.toList.map cellV)
  | v => cellV v
def zeroV (P : Program) (t : TypeId) : Option (List V) :=
  match P.info? t with
  | some i =>
    match i.zero with
    | some v => some (v.cells.toList.map cellV)
    | none => none
  | none => none

def unpin : D → D
  | .oslp b off len sz _ => .osl b off len sz
  | .unk => .unk
  | .val v => .val v
  | .own b off => .own b off
  | .osl b off len sz => .osl b off len sz
  | .clo f caps => .clo f caps
def getD (s : List D) : Operand → D
  | .tmp t => unpin (nth s t .unk)
  | .const v => .val (constV v)
  | .func f => .val (.clos f [])
  | .global _ => .unk

def wRem (a b : Int) : Int := a.tmod b
def wShr (k : IntKind) (a b : Int) : Int := a.fdiv (2 ^ (min b.toNat k.bits))
def wAnd (k : IntKind) (a b : Int) : Int := k.wrap (BitVec.ofInt k.bits a &&& BitVec.ofInt k.bits b).toNat
def wOr (k : IntKind) (a b : Int) : Int := k.wrap (BitVec.ofInt k.bits a ||| BitVec.ofInt k.bits b).toNat
def wXor (k : IntKind) (a b : Int) : Int := k.wrap (BitVec.ofInt k.bits a ^^^ BitVec.ofInt k.bits b).toNat
def wAndNot (k : IntKind) (a b : Int) : Int := k.wrap (BitVec.ofInt k.bits a &&& ~~~ BitVec.ofInt k.bits b).toNat
def iEq (a b : Int) : Bool := a == b
def iNe (a b : Int) : Bool := a != b
def iLt (a b : Int) : Bool := decide (a < b)
def iLe (a b : Int) : Bool := decide (a ≤ b)
def iGt (a b : Int) : Bool := decide (a > b)
def iGe (a b : Int) : Bool := decide (a ≥ b)
def bEq (a b : Bool) : Bool := a == b
def iMax (x y : Int) : Int := if y > x then y else x
def iMin (x y : Int) : Int := if y < x then y else x
/-- an index within bounds -/
def inB (i : Int) (n : Nat) : Bool := iLe 0 i && iLt i n

/-- does an integer fit its kind? -/
def fits (k : IntKind) (n : Int) : Bool := iLe k.min n && iLe n k.max
def binI (op : BinOp) (k : IntKind) (a b : Int) : Option (Bool × V) :=
  match op with
  | .rem => some (iNe b 0, .int k (wRem a b))
  | .and => some (true, .int k (wAnd k a b))
  | .or => some (true, .int k (wOr k a b))
  | .xor => some (true, .int k (wXor k a b))
  | .andNot => some (true, .int k (wAndNot k a b))
  | .eql => some (true, .bool (iEq a b))
  | .neq => some (true, .bool (iNe a b))
  | .lss => some (true, .bool (iLt a b))
  | .leq => some (true, .bool (iLe a b))
  | .gtr => some (true, .bool (iGt a b))
  | .geq => some (true, .bool (iGe a b))
  | _ => none

def kindEq : IntKind → IntKind → Bool
  | .i8, .i8 | .i16, .i16 | .i32, .i32 | .i64, .i64 | .u8, .u8 | .u16, .u16 | .u32, .u32 | .u64, .u64 => true
  | _, _ => false

def binV (P : Program) (op : BinOp) (xType : TypeId) : D → D → Option (Bool × V)
  | .val (.int k a), .val (.int k' b) =>
    match op with
    | .shr => some (iLe 0 b, .int k (wShr k a b))
    | op => cond (kindEq k k') (binI op k a b) none
  | .val (.bool a), .val (.bool b) =>
    match P.underlying xType with
    | some .bool =>
      match op with
      | .eql => some (true, .bool (bEq a b))
      | .neq => some (true, .bool (!bEq a b))
      | _ => none
    | _ => none
  | _, _ => none

/-- arithmetic whose result may have to be wrapped: a check, the kind, the number -/
def binW (op : BinOp) : D → D → Option (Bool × IntKind × Int)
  | .val (.int k a), .val (.int k' b) =>
    match op with
    | .add => some (kindEq k k', k, a + b)
    | .sub => some (kindEq k k', k, a - b)
    | .mul => some (kindEq k k', k, a * b)
    | .quo => some (kindEq k k' && iNe b 0, k, a.tdiv b)
    | .shl => some (iLe 0 b, k, a * 2 ^ (min b.toNat k.bits))
    | _ => none
  | _, _ => none

def unV (op : UnOp) : D → Option (Bool × V)
  | .val (.int k n) =>
    match op with
    | .xor => some (true, .int k (wXor k (cond k.signed (-1) k.max) n))
    | _ => none
  | .val (.bool b) =>
    match op with
    | .not => some (true, .bool (!b))
    | _ => none
  | _ => none

def unW (op : UnOp) : D → Option (Bool × IntKind × Int)
  | .val (.int k n) =>
    match op with
    | .neg => some (true, k, 0 - n)
    | _ => none
  | _ => none

def convW (P : Program) (src dst : TypeId) : D → Option (Bool × IntKind × Int)
  | .val (.int _ n) =>
    match P.underlying src, P.underlying dst with
    | some _, some (.int k) => some (true, k, n)
    | _, _ => none
  | _ => none

def slen (sz : Nat) (cells : List V) : Nat :=
  match sz with
  | 1 => cells.length
  | n => cells.length / n

def lenD : D → Option Nat
  | .val .nil => some 0
  | .val (.sl sz c) => cond (Nat.blt 0 sz) (some (slen sz c)) none
  | .osl _ _ n _ => some n
  | _ => none

def bx (h : List Box) (i : Nat) : Box := nth h i ⟨false, false, []⟩

def isIntK : IntKind → V → Bool
  | k, .int k' _ => kindEq k k'
  | _, _ => false
def intV : V → Int
  | .int _ n => n
  | _ => 0
def loadC (P : Program) (t : TypeId) (cells : List V) (off : Nat) : Option (Bool × V) :=
  match kindT P t with
  | some true => some (Nat.ble (off + sizeT P t) cells.length, .agg ((cells.drop off).take (sizeT P t)))
  | some false =>
    match P.underlying t with
    | some (.int k) => some (Nat.blt off cells.length && isIntK k (nth cells off .unk), .int k (intV (nth cells off .unk)))
    | _ => some (Nat.blt off cells.length, nth cells off .unk)
  | none => none
def loadV (P : Program) (t : TypeId) (h : List Box) : D → Option (Bool × V)
  | .own b off => cond (bx h b).alive (loadC P t (bx h b).cells off) none
  | .val (.pt cells off) => loadC P t cells off
  | _ => none

def isCell : V → Bool
  | .bool _ | .int _ _ | .nil | .sl _ _ | .pt _ _ | .clos _ _ => true
  | _ => false
def cellsV : V → List V
  | .agg l => l
  | v => [v]
def splice (c : List V) (off : Nat) : List V → List V
  | [] => c
  | v :: vs => splice (c.set off v) (off + 1) vs
def setBox (h : List Box) (b : Nat) (x : Box) : List Box := h.set b x

def storeH (P : Program) (t : TypeId) (h : List Box) : D → D → Option (Bool × List Box)
  | .own b off, .val v =>
    cond ((bx h b).alive && !(bx h b).frozen && Nat.blt 0 (sizeT P t) && Nat.beq (cellsV v).length (sizeT P t) && (cellsV v).all isCell)
      (some (Nat.ble (off + (cellsV v).length) (bx h b).cells.length, setBox h b ⟨true, false, splice (bx h b).cells off (cellsV v)⟩)) none
  | _, _ => none

/-- the place of a field whose type takes at least one cell -/
def offF (P : Program) (s : TypeId) (f : Nat) : Option (Nat × TypeId) :=
  match P.underlying s with
  | some (.struct fs) =>
    match fs[f]? with
    | some x => cond (Nat.blt 0 (sizeT P x.type)) (some (x.offset, x.type)) none
    | none => none
  | _ => none

def fieldAddrD (P : Program) (s : TypeId) (f : Nat) : D → Option D
  | .own b off =>
    match offF P s f with
    | some (o, _) => some (.own b (off + o))
    | none => none
  | .val (.pt cells off) =>
    match offF P s f with
    | some (o, _) => some (.val (.pt cells (off + o)))
    | none => none
  | _ => none

def partV (P : Program) (t : TypeId) (l : List V) (off : Nat) : Option (Bool × V) :=
  match kindT P t with
  | some true => some (Nat.ble (off + sizeT P t) l.length, .agg ((l.drop off).take (sizeT P t)))
  | some false => some (Nat.blt off l.length, nth l off .unk)
  | none => none

def fieldV (P : Program) (s : TypeId) (f : Nat) : D → Option (Bool × V)
  | .val (.agg l) =>
    match offF P s f with
    | some (o, t) => partV P t l o
    | none => none
  | _ => none

/-- the places of the parts of a literal -/
def placeB (P : Program) (t : TypeId) : Option (Nat → Option (Nat × Nat)) :=
  match P.underlying t with
  | some (.struct fs) => cond (fs.toList.all fun x => Nat.blt 0 (sizeT P x.type))
    (some fun i => (fs[i]?).map fun x => (x.offset, sizeT P x.type)) none
  | some (.array _ e) => cond (Nat.blt 0 (sizeT P e)) (some fun i => some (i * sizeT P e, sizeT P e)) none
  | _ => none
/-- a value of one cell, or a row of cells -/
def okC : V → Bool
  | .agg _ => true
  | v => isCell v
def fillV (place : Nat → Option (Nat × Nat)) (cells : List V) : List (Nat × V) → Option (List V)
  | [] => some cells
  | (i, v) :: rest =>
    match place i with
    | none => none
    | some (off, size) =>
      cond (okC v && Nat.beq (cellsV v).length size && Nat.ble (off + size) cells.length) (fillV place (splice cells off (cellsV v)) rest) none
def valsD : List (Nat × D) → Option (List (Nat × V))
  | [] => some []
  | (i, .val v) :: r =>
    match valsD r with
    | some l => some ((i, v) :: l)
    | none => none
  | _ :: _ => none
def buildV (P : Program) (t : TypeId) (parts : List (Nat × D)) : Option (Bool × V) :=
  match zeroV P t, valsD parts, placeB P t with
  | some zs, some ps, some pl =>
    match fillV pl zs ps with
    | some l => some (true, .agg l)
    | none => none
  | _, _, _ => none

def zrep (n : Nat) (zs : List V) : List V :=
  match zs with
  | [z] => List.replicate n z
  | zs => (List.replicate n zs).flatten
/-- the element type of a slice type, with its cells and its zero -/
def elemT (P : Program) (t : TypeId) : Option (TypeId × Nat × List V) :=
  match P.underlying t with
  | some (.slice e) =>
    match zeroV P e with
    | some zs => cond (Nat.beq zs.length (sizeT P e) && Nat.blt 0 (sizeT P e) && Nat.ble (P.bytesOf e) 1000) (some (e, sizeT P e, zs)) none
    | none => none
  | _ => none
def buildSliceV (P : Program) (t : TypeId) (len : Nat) (parts : List (Nat × D)) : Option (Nat × List V) :=
  match elemT P t, valsD parts with
  | some (_, sz, zs), some ps =>
    cond (Nat.ble (len * sz) 1000)
      (match fillV (fun i => some (i * sz, sz)) (zrep len zs) ps with
       | some l => some (sz, l)
       | none => none) none
  | _, _ => none

def indexV (P : Program) (t : TypeId) : D → D → Option (Bool × V)
  | .val (.agg l), .val (.int _ i) =>
    match P.underlying t with
    | some (.array n e) => cond (Nat.blt 0 (sizeT P e))
      (match partV P e l (i.toNat * sizeT P e) with
       | some (c, v) => some (inB i n && c, v)
       | none => none) none
    | _ => none
  | _, _ => none

def indexAddrD (P : Program) (t : TypeId) : D → D → Option (Bool × D)
  | .val (.sl sz cells), .val (.int _ i) =>
    match P.underlying t with
    | some (.slice e) => cond (Nat.beq sz (sizeT P e) && Nat.blt 0 sz) (some (inB i (slen sz cells), .val (.pt cells (cond (Nat.beq sz 1) i.toNat (i.toNat * sz))))) none
    | _ => none
  | .osl b off len sz, .val (.int _ i) =>
    match P.underlying t with
    | some (.slice e) => cond (Nat.beq sz (sizeT P e) && Nat.blt 0 sz) (some (inB i len, .own b (off + cond (Nat.beq sz 1) i.toNat (i.toNat * sz)))) none
    | _ => none
  | .own b off, .val (.int _ i) =>
    match P.underlying t with
    | some (.array n e) => cond (Nat.blt 0 (sizeT P e) && Nat.blt 1 n) (some (inB i n, .own b (off + i.toNat * sizeT P e))) none
    | _ => none
  | _, _ => none

def boundD (d : Option D) (dflt : Int) : Option Int :=
  match d with
  | none => some dflt
  | some (.val (.int _ n)) => some n
  | _ => none
/-- a slice of a slice, within its length -/
def sliceD (P : Program) (t : TypeId) (x : D) (lo hi : Option D) : Option (Bool × D) :=
  match P.underlying t with
  | some (.slice e) =>
    match lenD x with
    | some n =>
      match boundD lo 0, boundD hi n with
      | some l, some m =>
        cond (Nat.blt 0 (sizeT P e))
          (match x with
          | .val .nil => some (iLe 0 l && iLe l m && iLe m n, .val .nil)
          | .val (.sl sz cells) => cond (Nat.beq sz (sizeT P e)) (some (iLe 0 l && iLe l m && iLe m n, .val (.sl sz ((cells.drop (cond (Nat.beq sz 1) l.toNat (l.toNat * sz))).take (cond (Nat.beq sz 1) (m - l).toNat ((m - l).toNat * sz)))))) none
          | .osl b off _ sz => cond (Nat.beq sz (sizeT P e)) (some (iLe 0 l && iLe l m && iLe m n && (iEq l 0 || iLt l n), .osl b (off + cond (Nat.beq sz 1) l.toNat (l.toNat * sz)) (m - l).toNat sz)) none
          | _ => none) none
      | _, _ => none
    | none => none
  | _ => none

def toV (h : List Box) : D → V
  | .val v => v
  | .osl b off len sz => .sl sz (((bx h b).cells.drop off).take (cond (Nat.beq sz 1) len (len * sz)))
  | .own b off => .pt (bx h b).cells off
  | .clo f caps => .clos f (caps.map fun c => .pt (bx h c.1).cells c.2)
  | .unk => .unk
  | .oslp _ _ _ _ _ => .unk
def okV (h : List Box) : D → Bool
  | .osl b off len sz => (bx h b).alive && Nat.ble (off + cond (Nat.beq sz 1) len (len * sz)) (bx h b).cells.length
  | .own b _ => (bx h b).alive
  | .clo _ caps => caps.all fun c => (bx h c.1).alive
  | _ => true
def idsD : D → List Nat
  | .osl b _ _ _ => [b]
  | .own b _ => [b]
  | .clo _ caps => caps.map (·.1)
  | _ => []
def frz (h : List Box) : List Nat → List Box
  | [] => h
  | b :: bs => frz (setBox h b { bx h b with frozen := true }) bs

def foldI (f : Int → Int → Int) (k : IntKind) (acc : Int) : List D → Option (Bool × V)
  | [] => some (true, .int k acc)
  | .val (.int _ y) :: r => foldI f k (f acc y) r
  | _ => none
def ownCaps : List D → Option (List (Nat × Nat))
  | [] => some []
  | .own b off :: r =>
    match ownCaps r with
    | some l => some ((b, off) :: l)
    | none => none
  | _ => none
def valCaps : List D → Option (List V)
  | [] => some []
  | .val v :: r =>
    match valCaps r with
    | some l => some (v :: l)
    | none => none
  | _ => none
def makeFuncD (f : FuncId) (ds : List D) : Option D :=
  match valCaps ds with
  | some vs => some (.val (.clos f vs))
  | none =>
    match ownCaps ds with
    | some cs => some (.clo f cs)
    | none => none

def putO (s : List D) (dst : Option Tmp) (d : D) : List D :=
  match dst with
  | some t => s.set t d
  | none => s

/-- go on with a checked value -/
def go1 (h : List Box) (k : D → List Box → T) : Option (Bool × V) → T
  | some (c, v) => .br c (k (.val v) h) .fail
  | none => .fail
/-- go on with an arithmetic result, plain where it fits -/
def goW (h : List Box) (k : D → List Box → T) : Option (Bool × IntKind × Int) → T
  | some (c, kd, n) => .br c (.alt (fits kd n) (k (.val (.int kd n)) h) (k (.val (.int kd (kd.wrap n))) h)) .fail
  | none => .fail
def go2 (h : List Box) (k : D → List Box → T) : Option (Bool × D) → T
  | some (c, v) => .br c (k v h) .fail
  | none => .fail
def go3 (h : List Box) (k : D → List Box → T) : Option D → T
  | some v => k v h
  | none => .fail

def callT (h : List Box) (f : FuncId) (args : List D) (caps : List V) (k : D → List Box → T) : T :=
  .br (args.all (okV h)) (.call f (args.map (toV h) ++ caps) fun r => k (.val r) (frz h (args.flatMap idsD))) .fail

/-- operations that only read and compute, and calls -/
def evalA (P : Program) (o : Oper) (g : Operand → D) (h : List Box) (k : D → List Box → T) : T :=
  match o.op with
  | .move x => k (g x) h
  | .assign x => k (g x) h
  | .pick c a b =>
    match g c with
    | .val (.bool t) => .br t (k (g a) h) (k (g b) h)
    | _ => .fail
  | .build t parts => go1 h k (buildV P t (parts.toList.map fun p => (p.1, g p.2)))
  | .load t a => go1 h k (loadV P t h (g a))
  | .binOp op xt x y _ =>
    match binW op (g x) (g y) with
    | some r => goW h k (some r)
    | none => go1 h k (binV P op xt (g x) (g y))
  | .unOp op _ x =>
    match unW op (g x) with
    | some r => goW h k (some r)
    | none => go1 h k (unV op (g x))
  | .convert src dst x => goW h k (convW P src dst (g x))
  | .makeFunc (.func f) first captured => cond first.isEmpty (go3 h k (makeFuncD f (captured.toList.map g))) .fail
  | .slice t x lo hi none => go2 h k (sliceD P t (g x) (lo.map g) (hi.map g))
  | .fieldAddr s x f => go3 h k (fieldAddrD P s f (g x))
  | .field s x f => go1 h k (fieldV P s f (g x))
  | .indexAddr t x i => go2 h k (indexAddrD P t (g x) (g i))
  | .index t x i => go1 h k (indexV P t (g x) (g i))
  | .extract x i =>
    match g x with
    | .val (.tup l) => cond (Nat.blt i l.length) (k (.val (nth l i .unk)) h) .fail
    | _ => .fail
  | .call c =>
    match c.callee with
    | .value f =>
      match g f with
      | .val (.clos f caps) => callT h f (c.args.toList.map g) caps k
      | .clo f caps => cond (caps.all fun x => (bx h x.1).alive)
          (callT (frz h (caps.map (·.1))) f (c.args.toList.map g) (caps.map fun x => .pt (bx h x.1).cells x.2) k) .fail
      | _ => .fail
    | .builtin .len =>
      match c.args.toList, c.argTypes.toList with
      | [x], [t] =>
        match P.underlying t with
        | some (.slice _) =>
          match lenD (g x) with
          | some n => k (.val (.int .i64 n)) h
          | none => .fail
        | some (.array n _) => k (.val (.int .i64 n)) h
        | _ => .fail
      | _, _ => .fail
    | .builtin .max =>
      match c.args.toList.map g with
      | .val (.int kd x) :: r => go1 h k (foldI iMax kd x r)
      | _ => .fail
    | .builtin .min =>
      match c.args.toList.map g with
      | .val (.int kd x) :: r => go1 h k (foldI iMin kd x r)
      | _ => .fail
    | _ => .fail
  | _ => .fail

/-- a new box -/
def newB (h : List Box) (cells : List V) : List Box := h ++ [⟨true, false, cells⟩]

def srcV (h : List Box) : D → Option (List V)
  | .val .nil => some []
  | .val (.sl _ c) => some c
  | .osl b off len sz => cond (bx h b).alive (some (((bx h b).cells.drop off).take (cond (Nat.beq sz 1) len (len * sz)))) none
  | _ => none
def srcOk (h : List Box) (sz : Nat) : D → Bool
  | .val .nil => true
  | .val (.sl s _) => Nat.beq s sz
  | .osl b off len s => Nat.beq s sz && Nat.ble (off + cond (Nat.beq s 1) len (len * s)) (bx h b).cells.length
  | _ => false

def appendT (P : Program) (t xt : TypeId) (h : List Box) (s x : D) (k : D → List Box → T) : T :=
  match elemT P t, cond (Nat.beq t xt) (lenD x) none, srcV h x with
  | some (_, sz, _), some n, some c =>
    match s with
    | .val .nil =>
      .br (srcOk h sz x && Nat.ble n 1073741824)
        (.br (Nat.beq n 0) (k (.val .nil) h) (k (.osl h.length 0 n sz) (newB h c))) .fail
    | .osl b off len s' =>
      cond (Nat.beq s' sz && Nat.beq off 0 && (bx h b).alive && !(bx h b).frozen)
        (.br (srcOk h sz x && c.all isCell && Nat.ble (len + n) 1073741824 && Nat.beq (bx h b).cells.length (cond (Nat.beq sz 1) len (len * sz)))
          (k (.osl h.length 0 (len + n) sz) (newB (setBox h b ⟨false, false, []⟩) ((bx h b).cells ++ c))) .fail) .fail
    | _ => .fail
  | _, _, _ => .fail

/-- operations that make blocks or write -/
def evalH (P : Program) (o : Oper) (g : Operand → D) (h : List Box) (k : D → List Box → T) : T :=
  match o.op with
  | .alloc t =>
    match zeroV P t with
    | some zs => k (.own h.length 0) (newB h zs)
    | none => .fail
  | .box _ x =>
    match g x with
    | .val v => cond (okC v) (k (.own h.length 0) (newB h (cellsV v))) .fail
    | _ => .fail
  | .store t a x =>
    match storeH P t h (g a) (g x) with
    | some (c, h') => .br c (k .unk h') .fail
    | none => .fail
  | .makeSlice t l c =>
    match elemT P t, g l, g c with
    | some (_, sz, zs), .val (.int _ n), .val (.int _ m) =>
      .br (iEq n m && iLe 0 n && iLe n 1073741824) (k (.osl h.length 0 n.toNat sz) (newB h (zrep n.toNat zs))) .fail
    | _, _, _ => .fail
  | .buildSlice t len parts =>
    match buildSliceV P t len (parts.toList.map fun p => (p.1, g p.2)) with
    | some (sz, cells) => k (.osl h.length 0 len sz) (newB h cells)
    | none => .fail
  | .call { callee := .builtin .append, args, argTypes } =>
    match args.toList, argTypes.toList with
    | [s, x], [t, xt] => appendT P t xt h (g s) (g x) k
    | _, _ => .fail
  | .binOp .eql t x (.const (.slice none 0 0)) _ =>
    match P.underlying t with
    | some (.slice _) =>
      match g x with
      | .val .nil => k (.val (.bool true)) h
      | .val (.sl _ c) => .br (Nat.beq c.length 0) (.any (k (.val (.bool true)) h) (k (.val (.bool false)) h)) (k (.val (.bool false)) h)
      | .osl _ _ _ _ => k (.val (.bool false)) h
      | _ => .fail
    | _ => .fail
  | _ => .fail

def heapOp : Op → Bool
  | .binOp .eql _ _ (.const (.slice none 0 0)) _ => true
  | .alloc _ | .box _ _ | .store _ _ _ | .makeSlice _ _ _ | .buildSlice _ _ _ => true
  | .call { callee := .builtin .append, .. } => true
  | _ => false

/-- an operation of a drawn region that makes a block, or writes into one -/
def isAS (o : Oper) : Bool :=
  match o.op with
  | .alloc _ => true
  | .store _ (.tmp _) _ => o.dst.isNone
  | _ => false
def isAl (o : Oper) : Bool :=
  match o.op with
  | .alloc _ => true
  | _ => false

/-- in a region that draws its order: a literal slice is data at once; no other block is made -/
def evalDr (P : Program) (o : Oper) (g : Operand → D) (h : List Box) (k : D → List Box → T) : T :=
  match o.op with
  | .buildSlice t len parts =>
    match buildSliceV P t len (parts.toList.map fun p => (p.1, g p.2)) with
    | some (sz, cells) => cond (Nat.beq cells.length (len * sz)) (k (.val (.sl sz cells)) h) .fail
    | none => .fail
  | op => cond (isAS o) (k .unk h) (cond (heapOp op) .fail (evalA P o g h k))

/-- the first argument of a call, a slice of a box: what it is called with if the call may write into it -/
def mArg (h : List Box) : List D → Option (List V × Nat × Nat × List V)
  | .osl b off len 1 :: rest => some ((bx h b).cells, off, len, rest.map (toV h))
  | _ => none
def mTree (h : List Box) (args : List D) (caps : List V) (k : D → List Box → T) (cs : List V) (r : V) : T :=
  match args with
  | .osl b _ _ 1 :: rest => .br ((bx h b).alive && !(bx h b).frozen && !((rest.flatMap idsD).any (Nat.beq b)) && caps.isEmpty) (k (.val r) (setBox (frz h (rest.flatMap idsD)) b ⟨true, false, cs⟩)) .fail
  | _ => .fail
/-- a call whose result may be a slice of the call's own, in a block that nothing else reads; or that writes into its first argument -/
def call2T (h : List Box) (f : FuncId) (args : List D) (caps : List V) (k : D → List Box → T) : T :=
  .br (args.all (okV h)) (.call2 f (args.map (toV h) ++ caps) (fun r => k (.val r) (frz h (args.flatMap idsD)))
    (fun sz n c => k (.osl (frz h (args.flatMap idsD)).length 0 n sz) (newB (frz h (args.flatMap idsD)) c))
    (mArg h args) (mTree h args caps k)) .fail

def evalB (P : Program) (o : Oper) (g : Operand → D) (h : List Box) (k : D → List Box → T) : T :=
  match o.op with
  | .call c =>
    match c.callee with
    | .value fo =>
      match g fo with
      | .val (.clos f caps) => call2T h f (c.args.toList.map g) caps k
      | _ => evalA P o g h k
    | _ => evalA P o g h k
  | _ => evalA P o g h k

def evalOp (P : Program) (dr : Bool) (o : Oper) (g : Operand → D) (h : List Box) (k : D → List Box → T) : T :=
  cond dr (evalDr P o g h k) (cond (heapOp o.op) (evalH P o g h k) (evalB P o g h k))

/-- what a slot holds behind an operation that was passed over -/
def undD : D := .val (.tup [])
def gslot (ops : Array Oper) (j : Nat) : Option Tmp := (ops[j]?).bind (·.dst)

/-- the operations of a region, in the text's order -/
def evalOps (P : Program) (ops : Array Oper) (dr : Bool) : List Oper → St → (St → T) → T
  | [], st, k => k st
  | o :: rest, st, k =>
    match o.guard with
    | none => evalOp P dr o (getD st.s) st.h fun d h => evalOps P ops dr rest ⟨putO st.s o.dst d, h⟩ k
    | some (j, want) =>
      match gslot ops j with
      | some t =>
        match nth st.s t .unk with
        | .val (.bool b) =>
          .br b
            (cond want
              (evalOp P dr o (getD (st.s.set t (.val (.bool true)))) st.h fun d h => evalOps P ops dr rest ⟨putO (st.s.set t (.val (.bool true))) o.dst d, h⟩ k)
              (evalOps P ops dr rest ⟨putO (st.s.set t (.val (.bool true))) o.dst undD, st.h⟩ k))
            (cond want
              (evalOps P ops dr rest ⟨putO (st.s.set t (.val (.bool false))) o.dst undD, st.h⟩ k)
              (evalOp P dr o (getD (st.s.set t (.val (.bool false)))) st.h fun d h => evalOps P ops dr rest ⟨putO (st.s.set t (.val (.bool false))) o.dst d, h⟩ k))
        | .val (.tup []) => evalOps P ops dr rest ⟨putO st.s o.dst undD, st.h⟩ k
        | _ => .fail
      | none => .fail

/-- where the last part of a drawn region begins: the stores and assignments, each behind all that stands ahead of it -/
def isTail : Op → Bool
  | .store _ _ _ | .assign _ => true
  | _ => false
def hasEdge (o : Oper) (i : Nat) : Bool := o.after.any fun e => Nat.beq e.on i && Region.binds .any e
def namesT (o : Oper) : List Tmp := o.op.operands.toList.filterMap fun | .tmp t => some t | _ => none
/-- is i before j by at most f edges? -/
def reach (ops : Array Oper) : Nat → Nat → Nat → Bool
  | 0, _, _ => false
  | f + 1, j, i => match ops[j]? with
    | some o => hasEdge o i || o.after.any fun e => Region.binds .any e && reach ops f e.on i
    | none => false
def tailOk (ops : Array Oper) (m : Nat) : Bool :=
  (List.range ops.size).all fun j => Nat.blt j m || (List.range j).all fun i => reach ops 5 j i
def headOk (ops : Array Oper) (m : Nat) : Bool :=
  (List.range m).all fun i =>
    match ops[i]? with
    | none => false
    | some o =>
      (match o.dst with
       | none => false
       | some d => (List.range m).all fun j => Nat.beq i j || match ops[j]? with | some p => (match p.dst with | some e => !Nat.beq d e | none => false) | none => false) &&
      ((namesT o).all fun t => (List.range m).all fun j => match ops[j]? with | some p => (match p.dst with | some e => !Nat.beq t e || (Nat.blt j i && hasEdge o j) | none => false) | none => false) &&
      (match o.guard with
       | none => true
       | some (j, _) => Nat.blt j i && hasEdge o j)
def tailAt (ops : Array Oper) : Nat := cond (headOk ops ops.size) ops.size (ops.toList.takeWhile fun o => !isTail o.op).length
def backOk (ops : Array Oper) : Bool :=
  (List.range ops.size).all fun i => match ops[i]? with | some o => o.after.all fun e => !Region.binds .any e || Nat.blt e.on i | none => false
def drawOk (ops : Array Oper) : Bool := tailOk ops (tailAt ops) && headOk ops (tailAt ops) && backOk ops
/-- a move of the first part that may come later, too: nothing of the region writes what it reads, and who reads what it writes waits for it -/
def isFloat (ops : Array Oper) (m i : Nat) : Bool :=
  Nat.blt i m && match ops[i]? with
  | some o => o.guard.isNone && (match o.op, o.dst with
    | .move x, some d =>
      (match x with
      | .tmp u => (List.range ops.size).all fun j => match ops[j]? with | some p => (match p.dst with | some e => !Nat.beq u e | none => true) | none => true
      | .const _ => true
      | _ => false) &&
      (List.range ops.size).all fun j => Nat.blt j m || (match ops[j]? with | some p => (hasEdge p i || !((namesT p).any (Nat.beq d))) && (match p.dst with | some e => !Nat.beq d e | none => true) | none => true)
    | _, _ => false)
  | none => false
/-- the last part: stores and assignments alone -/
def tailPlain (ops : Array Oper) (m : Nat) : Bool :=
  (List.range ops.size).all fun j => Nat.blt j m || match ops[j]? with
  | some o => o.guard.isNone && (match o.op with | .store _ _ _ => o.dst.isNone | .assign _ => true | _ => false)
  | none => false
def tailOk3 (ops : Array Oper) (m : Nat) : Bool :=
  (List.range ops.size).all fun j => Nat.blt j m || (List.range j).all fun i => isFloat ops m i || reach ops 5 j i
def drawOk3 (ops : Array Oper) : Bool := tailPlain ops (tailAt ops) && tailOk3 ops (tailAt ops) && headOk ops (tailAt ops) && backOk ops

/-- what is stored into the block that slot d's alloc makes -/
def storeOf (d : Nat) : List Oper → Option Operand
  | [] => none
  | o :: rest =>
    match o.op with
    | .store _ (.tmp t) x => cond (Nat.beq t d) (some x) (storeOf d rest)
    | _ => storeOf d rest
/-- the check of a drawn region with allocs: all of it may run in any order that its edges allow -/
def drawOk2 (ops : Array Oper) : Bool :=
  ((List.range ops.size).all fun i =>
    match ops[i]? with
    | none => false
    | some o =>
      match o.op with
      | .alloc _ =>
        o.guard.isNone && (match o.dst with
        | none => false
        | some d => (List.range ops.size).all fun j => Nat.beq i j || match ops[j]? with | some p => (match p.dst with | some e => !Nat.beq d e | none => isAS p) | none => false)
      | .store t (.tmp a) x =>
        o.guard.isNone && o.dst.isNone &&
        ((List.range ops.size).any fun j => match ops[j]? with | some p => Nat.blt j i && hasEdge o j && (match p.op, p.dst with | .alloc u, some d => Nat.beq u t && Nat.beq d a | _, _ => false) | none => false) &&
        ((List.range ops.size).all fun j => Nat.beq i j || match ops[j]? with | some p => (match p.op with | .store _ (.tmp b) _ => !Nat.beq a b | _ => true) | none => false) &&
        (match x with
        | .tmp u => (List.range ops.size).all fun j => match ops[j]? with | some p => (match p.dst with | some e => !Nat.beq u e || (Nat.blt j i && hasEdge o j && !isAl p) | none => true) | none => false
        | _ => true)
      | _ =>
        (match o.dst with
        | none => false
        | some d => (List.range ops.size).all fun j => Nat.beq i j || match ops[j]? with | some p => (match p.dst with | some e => !Nat.beq d e | none => isAS p) | none => false) &&
        ((namesT o).all fun t => (List.range ops.size).all fun j => match ops[j]? with | some p => (match p.dst with | some e => !Nat.beq t e || (Nat.blt j i && hasEdge o j && !isAl p) | none => true) | none => false) &&
        (match o.guard with
        | none => true
        | some (j, _) => Nat.blt j i && hasEdge o j)) && backOk ops

/-- behind such a region: the blocks, in the text's order -/
def finA (P : Program) (ops : List Oper) : List Oper → St → (St → T) → T
  | [], st, k => k st
  | o :: rest, st, k =>
    match o.op, o.dst with
    | .alloc t, some d =>
      match zeroV P t with
      | some zs =>
        cond (Nat.blt d st.s.length)
        (match storeOf d ops with
        | some x =>
          match getD st.s x with
          | .val v => cond (okC v && Nat.blt 0 (sizeT P t) && Nat.beq (cellsV v).length (sizeT P t) && (cellsV v).all isCell && Nat.beq zs.length (sizeT P t)) (finA P ops rest ⟨st.s.set d (.own st.h.length 0), newB st.h (cellsV v)⟩ k) .fail
          | _ => .fail
        | none => finA P ops rest ⟨st.s.set d (.own st.h.length 0), newB st.h zs⟩ k) .fail
      | none => .fail
    | _, _ => finA P ops rest st k

def evalR (P : Program) (ops : Array Oper) (draw : Bool) (st : St) (k : St → T) : T :=
  cond draw
    (cond (ops.toList.any isAl) (cond (drawOk2 ops) (evalOps P ops true ops.toList st fun st' => finA P ops.toList ops.toList st' k) .fail) <| cond (drawOk ops || drawOk3 ops)
      (evalOps P ops true (ops.toList.take (tailAt ops)) st fun st' => evalOps P ops false (ops.toList.drop (tailAt ops)) st' k) .fail)
    (evalOps P ops false ops.toList st k)

def evalC (P : Program) : Code → St → (Ex → St → T) → T
  | .skip, st, k => k .normal st
  | .region _ ops draw, st, k => evalR P ops draw st (k .normal)
  | .seq a b, st, k => evalC P a st fun e st' => match e with
    | .normal => evalC P b st' k
    | e => k e st'
  | .cond c x y, st, k =>
    match getD st.s c with
    | .val (.bool t) => .br t (evalC P x st k) (evalC P y st k)
    | _ => .fail
  | .block id c, st, k => evalC P c st fun e st' => match e with
    | .exit i => cond (Nat.beq i id) (k .normal st') (k (.exit i) st')
    | e => k e st'
  | .exit id, st, k => k (.exit id) st
  | .ret, st, k => k .ret st
  | .loop body, st, k => .loop body st k
  | _, _, _ => .fail

def resD (P : Program) (st : St) : ResultVar → Option (Bool × V)
  | .tmp t => some (okV st.h (nth st.s t .unk), toV st.h (nth st.s t .unk))
  | .cell a t =>
    match nth st.s a .unk with
    | .own b off => cond (bx st.h b).alive (loadC P t (bx st.h b).cells off) none
    | _ => none
def resL (P : Program) (st : St) : List ResultVar → Option (Bool × List V)
  | [] => some (true, [])
  | r :: rs =>
    match resD P st r, resL P st rs with
    | some (c, v), some (d, vs) => some (c && d, v :: vs)
    | _, _ => none
def resT (P : Program) (rs : Array ResultVar) (st : St) : T :=
  match resL P st rs.toList with
  | some (c, [v]) => .br c (.ret v) .fail
  | some (c, vs) => .br c (.ret (.tup vs)) .fail
  | none => .fail

def initS (fn : Func) (ds : List V) : St := ⟨ds.map .val ++ List.replicate (fn.ntmps - ds.length) .unk, []⟩
/-- the tail of a function's run -/
def endK (P : Program) (fn : Func) : Ex → St → T
  | .normal, st => resT P fn.results st
  | .ret, st => resT P fn.results st
  | _, _ => .fail
def evalF (P : Program) (fn : Func) (ds : List V) : T :=
  match fn.body with
  | some c => evalC P c (initS fn ds) (endK P fn)
  | none => .fail

end Go.Proofs.YtmbpoibhamlkbaaGreatDoor

namespace Go.Proofs.YtmbpoibhamlkbaaGreatDoor
open Go.RowKit

def okFn (P : Program) (f : FuncId) : Bool :=
  match P.funcs[f]? with
  | some fn => fn.name != "runtime.NumGoroutine" && fn.body.isSome
  | none => false

/-- function f, called with arguments that read as ds, returns a value that reads as r; what was there is as it was -/
def Impl (P : Program) (C : World → Prop) (f : FuncId) (ds : List V) (r : V) : Prop :=
  okFn P f = true ∧ ∀ (w : World) (S : Nat → Prop) (args : List Value), C w → (∀ b, w.heap.size ≤ b → S b) → RdL w S args ds →
    Calls P f args.toArray w fun e w' => ∃ v, e = .returned v ∧ Rd w' S v r ∧ Below w.heap.size w w'

def isPrim : V → Bool
  | .unk | .bool _ | .int _ _ | .nil => true
  | _ => false
/-- function f returns a slice of a new block, whose cells read as given -/
def ImplO (P : Program) (C : World → Prop) (f : FuncId) (ds : List V) (sz n : Nat) (cells : List V) : Prop :=
  okFn P f = true ∧ cells.all isPrim = true ∧ ∀ (w : World) (S : Nat → Prop) (args : List Value), C w → (∀ b, w.heap.size ≤ b → S b) → RdL w S args ds →
    Calls P f args.toArray w fun e w' => ∃ β cap vals ty, e = .returned (.slice (some ⟨β, 0, none⟩) n cap) ∧ w.heap.size ≤ β ∧ w'.heap[β]? = some (.cells vals ty (0, 0)) ∧
      cells.length ≤ vals.size ∧ n ≤ cap ∧ cap * sz ≤ vals.size ∧ RdL w' S (vals.toList.take cells.length) cells ∧ Below w.heap.size w w'

/-- function f, called with a slice of a block of the caller's own, writes into that block and returns a number; else all is as it was -/
def ImplM (P : Program) (C : World → Prop) (f : FuncId) (cs : List V) (off len : Nat) (ds : List V) (cs' : List V) (r : V) : Prop :=
  okFn P f = true ∧ isPrim r = true ∧ cs'.all isPrim = true ∧ cs'.length = cs.length ∧ ∀ (w : World) (S : Nat → Prop) (β cap : Nat) (vals : Array Value) (ty : TypeId) (args : List Value),
    Hold C ⟨w, fun b => b = β⟩ → (∀ b, w.heap.size ≤ b → S b) → ¬ S β → w.heap[β]? = some (.cells vals ty (0, 0)) → cs.length ≤ vals.size → RdL w S (vals.toList.take cs.length) cs →
    len ≤ cap → off + cap ≤ vals.size → RdL w S args ds →
    Calls P f (.slice (some ⟨β, off, none⟩) len cap :: args).toArray w fun e w' => ∃ v vals', e = .returned v ∧ Rd w' S v r ∧ w'.heap[β]? = some (.cells vals' ty (0, 0)) ∧ vals'.size = vals.size ∧
      RdL w' S (vals'.toList.take cs.length) cs' ∧ Kept ⟨w, fun b => b = β⟩ w'

def Stable (C : World → Prop) : Prop := ∀ w w', C w → Below w.heap.size w w' → C w'

/-- the boxes lie in memory, and below the call's first block all is as it was -/
structure OkH (w0 : Base) (S0 : Nat → Prop) (w : World) (ρ : List Nat) (h : List Box) : Prop where
  below : Kept w0 w
  heap : HeapOk w w0.own (stab S0 ρ h) ρ h

structure OkS (w0 : Base) (S0 : Nat → Prop) (st : St) (a : Act) (w : World) (ρ : List Nat) : Prop where
  ok : OkH w0 S0 w ρ st.h
  size : a.tmps.size = st.s.length
  slots : ∀ t, RdD w (stab S0 ρ st.h) ρ (a.tmps.getD t undef) (nth st.s t .unk)
  defers : a.defers = []

def Ex.to : Ex → Exit
  | .normal => .normal
  | .exit id => .exit id
  | .ret => .ret

def LoopOk (P : Program) (C : World → Prop) (body : Code) (st : St) (R : Ex → St → Prop) : Prop :=
  ∀ (w0 : Base) (S0 : Nat → Prop), Hold C w0 → (∀ b, w0.own b → S0 b) → ∀ a w ρ, OkS w0 S0 st a w ρ →
    (Code.loop body).wp P (fun e a' w' => ∃ ex st' ρ', e = ex.to ∧ R ex st' ∧ OkS w0 S0 st' a' w' ρ') a w

def T.wp (P : Program) (C : World → Prop) (Qr : V → Prop) (Qo : Ex → St → Prop) : T → Prop
  | .fail => False
  | .ret v => Qr v
  | .out e st => Qo e st
  | .call f ds k => ∃ r, Impl P C f ds r ∧ (k r).wp P C Qr Qo
  | .br b x y => (b = true ∧ x.wp P C Qr Qo) ∨ (b = false ∧ y.wp P C Qr Qo)
  | .alt b x y => (b = true ∧ x.wp P C Qr Qo) ∨ y.wp P C Qr Qo
  | .any x y => x.wp P C Qr Qo ∧ y.wp P C Qr Qo
  | .call2 f ds k kO m kM => (∃ r, Impl P C f ds r ∧ (k r).wp P C Qr Qo) ∨ (∃ sz n c, ImplO P C f ds sz n c ∧ (kO sz n c).wp P C Qr Qo) ∨
      ∃ cs off len dm cs' r, m = some (cs, off, len, dm) ∧ ImplM P C f cs off len dm cs' r ∧ (kM cs' r).wp P C Qr Qo
  | .loop body st k => ∃ R, LoopOk P C body st R ∧ ∀ e st', R e st' → (k e st').wp P C Qr Qo

section
variable {P : Program} {C : World → Prop} {Qr : V → Prop} {Qo : Ex → St → Prop}
theorem of_br {b : Bool} {x y : T} (h : (T.br b x y).wp P C Qr Qo) : (b = true ∧ x.wp P C Qr Qo) ∨ (b = false ∧ y.wp P C Qr Qo) := h
theorem of_brk {b : Bool} {x : T} (h : (T.br b x .fail).wp P C Qr Qo) : b = true ∧ x.wp P C Qr Qo := h.elim id fun q => q.2.elim
theorem of_cond {b : Bool} {x y : T} (h : (cond b x y).wp P C Qr Qo) : (b = true ∧ x.wp P C Qr Qo) ∨ (b = false ∧ y.wp P C Qr Qo) := by
  cases b
  · exact .inr ⟨rfl, h⟩
  · exact .inl ⟨rfl, h⟩
theorem of_chk {b : Bool} {x : T} (h : (cond b x .fail).wp P C Qr Qo) : b = true ∧ x.wp P C Qr Qo := by
  cases b
  · exact h.elim
  · exact ⟨rfl, h⟩
theorem of_chk' {b : Bool} {y : T} (h : (cond b .fail y).wp P C Qr Qo) : b = false ∧ y.wp P C Qr Qo := by
  cases b
  · exact ⟨rfl, h⟩
  · exact h.elim
end

/-! ### nth -/
theorem nth_eq {α : Type} (l : List α) (n : Nat) (d : α) : nth l n d = (l[n]?).getD d := by
  induction l generalizing n with
  | nil => simp [nth]
  | cons x l ih => cases n with
    | zero => simp [nth]
    | succ n => simp [nth, ih]

theorem nth_lt {α : Type} {l : List α} {n : Nat} (d : α) (h : n < l.length) : l[n]? = some (nth l n d) := by
  rw [nth_eq, List.getElem?_eq_getElem h]; rfl

theorem nth_set {α : Type} (l : List α) (n m : Nat) (x d : α) : nth (l.set n x) m d = if n = m ∧ n < l.length then x else nth l m d := by
  rw [nth_eq, nth_eq, List.getElem?_set]
  by_cases h : n = m
  · subst h
    by_cases hl : n < l.length
    · simp [hl]
    · simp [hl]
  · simp [h]

/-! ### freezing -/
structure Fr (h h' : List Box) : Prop where
  len : h'.length = h.length
  box : ∀ (i : Nat) (x : Box), h[i]? = some x → ∃ y : Box, h'[i]? = some y ∧ y.alive = x.alive ∧ y.cells = x.cells ∧ (x.frozen = true → y.frozen = true)

theorem Fr.refl (h : List Box) : Fr h h := ⟨rfl, fun _ x hx => ⟨x, hx, rfl, rfl, id⟩⟩
theorem Fr.trans {h1 h2 h3} (h : Fr h1 h2) (k : Fr h2 h3) : Fr h1 h3 := ⟨k.len.trans h.len, fun i x hx => by
  obtain ⟨y, hy, ya, yc, yf⟩ := h.box i x hx
  obtain ⟨z, hz, za, zc, zf⟩ := k.box i y hy
  exact ⟨z, hz, za.trans ya, zc.trans yc, fun q => zf (yf q)⟩⟩

theorem Fr.back {h h'} (f : Fr h h') {i : Nat} {y : Box} (hy : h'[i]? = some y) : ∃ x : Box, h[i]? = some x ∧ y.alive = x.alive ∧ y.cells = x.cells ∧ (x.frozen = true → y.frozen = true) := by
  have hi : i < h'.length := by
    rcases Nat.lt_or_ge i h'.length with q | q
    · exact q
    · rw [List.getElem?_eq_none q] at hy; cases hy
  have hi' : i < h.length := by rw [← f.len]; exact hi
  have hx : h[i]? = some h[i] := List.getElem?_eq_getElem hi'
  obtain ⟨y', hy', r⟩ := f.box i _ hx
  rw [hy] at hy'; cases hy'
  exact ⟨_, hx, r⟩

theorem stab_fr {S0 ρ h h'} (f : Fr h h') {b : Nat} (hs : stab S0 ρ h b) : stab S0 ρ h' b := ⟨hs.1, fun i y hy ya yf hb => by
  obtain ⟨x, hx, xa, _, xf⟩ := f.back hy
  exact hs.2 i x hx (xa ▸ ya) (by cases hxf : x.frozen with
    | false => rfl
    | true => rw [xf hxf] at yf; cases yf) hb⟩

theorem Lasts.fr {w S0 ρ h h'} (f : Fr h h') : Lasts w w (stab S0 ρ h) (stab S0 ρ h') := ⟨Nat.le_refl _, fun _ _ hs => ⟨stab_fr f hs, rfl⟩⟩

theorem OkH.fr {w0 S0 w ρ h h'} (k : OkH w0 S0 w ρ h) (f : Fr h h') : OkH w0 S0 w ρ h' := ⟨k.below, {
  len := k.heap.len.trans f.len.symm
  low := k.heap.low
  inj := fun i j x y β hx hy xa ya hi hj => by
    obtain ⟨x', hx', xa', _, _⟩ := f.back hx
    obtain ⟨y', hy', ya', _, _⟩ := f.back hy
    exact k.heap.inj i j x' y' β hx' hy' (xa' ▸ xa) (ya' ▸ ya) hi hj
  box := fun i y β hy ya hβ => by
    obtain ⟨x, hx, xa, xc, _⟩ := f.back hy
    obtain ⟨vals, ty, h1, h2, h3⟩ := k.heap.box i x β hx (xa ▸ ya) hβ
    rw [xc]
    exact ⟨vals, ty, h1, h2, h3.lasts (Lasts.fr f)⟩ }⟩

theorem RdD.fr {w S0 ρ h h' v d} (f : Fr h h') (hr : RdD w (stab S0 ρ h) ρ v d) : RdD w (stab S0 ρ h') ρ v d :=
  hr.lasts (Lasts.fr f) (fun _ _ _ h => h) (fun _ _ h => h)

theorem bx_get {h : List Box} {i : Nat} (hi : (bx h i).alive = true) : h[i]? = some (bx h i) := by
  unfold bx at *
  rw [nth_eq] at *
  cases hx : h[i]? with
  | none => rw [hx] at hi; cases hi
  | some x => rfl

theorem bx_of {h : List Box} {i : Nat} {x : Box} (hx : h[i]? = some x) : bx h i = x := by
  unfold bx; rw [nth_eq, hx]; rfl

theorem Fr.bx {h h'} (f : Fr h h') {i : Nat} (hi : (bx h i).alive = true) : (bx h' i).alive = true ∧ (bx h' i).cells = (bx h i).cells := by
  obtain ⟨y, hy, ya, yc, _⟩ := f.box i _ (bx_get hi)
  rw [bx_of hy]
  exact ⟨ya.trans hi, yc⟩

theorem Fr.frz1 (h : List Box) (b : Nat) : Fr h (setBox h b { Go.Proofs.YtmbpoibhamlkbaaGreatDoor.bx h b with frozen := true }) := ⟨by simp [setBox], fun i x hx => by
  simp only [setBox, List.getElem?_set]
  by_cases hb : b = i
  · subst hb
    have hl : b < h.length := by
      rcases Nat.lt_or_ge b h.length with q | q
      · exact q
      · rw [List.getElem?_eq_none q] at hx; cases hx
    rw [if_pos rfl, if_pos hl]
    exact ⟨_, rfl, by rw [bx_of hx], by rw [bx_of hx], fun _ => rfl⟩
  · rw [if_neg hb]; exact ⟨x, hx, rfl, rfl, id⟩⟩

theorem Fr.frz : ∀ (bs : List Nat) (h : List Box), Fr h (frz h bs)
  | [], h => Fr.refl h
  | b :: bs, h => (Fr.frz1 h b).trans (Fr.frz bs _)

theorem frz1_frozen (h : List Box) (b : Nat) {x : Box} (hx : (setBox h b { Go.Proofs.YtmbpoibhamlkbaaGreatDoor.bx h b with frozen := true })[b]? = some x) : x.frozen = true := by
  simp only [setBox, List.getElem?_set, if_true] at hx
  split at hx
  · cases hx; rfl
  · cases hx

theorem frz_frozen : ∀ (bs : List Nat) (h : List Box) (b : Nat) (x : Box), b ∈ bs → (frz h bs)[b]? = some x → x.frozen = true
  | c :: bs, h, b, x, hb, hx => by
    rcases List.mem_cons.1 hb with rfl | hb
    · obtain ⟨y, hy, _, _, yf⟩ := (Fr.frz bs (setBox h b { Go.Proofs.YtmbpoibhamlkbaaGreatDoor.bx h b with frozen := true })).back hx
      exact yf (frz1_frozen h b hy)
    · exact frz_frozen bs _ b x hb hx

theorem frz_other : ∀ (bs : List Nat) (h : List Box) (b : Nat), b ∉ bs → (frz h bs)[b]? = h[b]?
  | [], _, _, _ => rfl
  | c :: bs, h, b, hb => by
    show (frz (setBox h c _) bs)[b]? = _
    rw [frz_other bs _ b (fun q => hb (List.mem_cons_of_mem _ q))]
    simp only [setBox, List.getElem?_set]
    rw [if_neg (fun e => hb (by rw [e]; exact List.mem_cons_self))]

/-! ### growth -/
theorem Below.shapes {w w' : World} (h : Below w.heap.size w w') : ∀ b e n, w.shape? b = some (e, n) → w'.shape? b = some (e, n) := by
  intro b e n hs
  have hb : b < w.heap.size := by
    rcases Nat.lt_or_ge b w.heap.size with q | q
    · exact q
    · simp [World.shape?, Array.getElem?_eq_none q] at hs
  simpa [World.shape?, h.block b hb] using hs

theorem OkH.grow {w0 S0 w w' ρ h} (k : OkH w0 S0 w ρ h) (hb : Below w.heap.size w w') : OkH w0 S0 w' ρ h := ⟨k.below.step hb, {
  len := k.heap.len
  low := fun i β hi => ⟨(k.heap.low i β hi).1, Nat.lt_of_lt_of_le (k.heap.low i β hi).2 hb.size⟩
  inj := k.heap.inj
  box := fun i x β hx xa hβ => by
    obtain ⟨vals, ty, h1, h2, h3⟩ := k.heap.box i x β hx xa hβ
    exact ⟨vals, ty, (hb.block β (k.heap.low i β hβ).2).trans h1, h2, h3.lasts (Lasts.of_below hb _)⟩ }⟩

theorem RdD.grow {w w' S ρ v d} (hb : Below w.heap.size w w') (h : RdD w S ρ v d) : RdD w' S ρ v d :=
  h.lasts (Lasts.of_below hb S) (Below.shapes hb) (fun _ _ h => h)

/-- what is new, and the call's own boxes, may be read -/
def AllS (w : World) (S0 : Nat → Prop) (ρ : List Nat) : Prop := (∀ b, w.heap.size ≤ b → S0 b) ∧ ∀ (i β : Nat), ρ[i]? = some β → S0 β
theorem allS_of {w0 S0 w ρ h} (k : OkH w0 S0 w ρ h) (hS : ∀ b, w0.own b → S0 b) : AllS w S0 ρ :=
  ⟨fun b hb => hS b (.inl (Nat.le_trans k.below.size hb)), fun i β hi => hS β (k.heap.low i β hi).1⟩

theorem stab_new {w0 S0 w ρ h} (k : OkH w0 S0 w ρ h) (hS : AllS w S0 ρ) : ∀ b, w.heap.size ≤ b → stab S0 ρ h b := fun b hb =>
  ⟨hS.1 b hb, fun i x _ _ _ hi => by have := (k.heap.low i b hi).2; omega⟩

/-- a box that is frozen lies in a block that may be read as data -/
theorem stab_frozen {w0 S0 w ρ h} (k : OkH w0 S0 w ρ h) (hS : AllS w S0 ρ) {i β : Nat} {x : Box} (hx : h[i]? = some x) (xa : x.alive = true) (xf : x.frozen = true)
    (hβ : ρ[i]? = some β) : stab S0 ρ h β :=
  ⟨hS.2 i β hβ, fun j y hy ya yf hj => by
    have := k.heap.inj i j x y β hx hy xa ya hβ hj
    subst this
    rw [hx] at hy; cases hy
    rw [xf] at yf; cases yf⟩

/-- what lies in a box, cell by cell -/
theorem OkH.cells {w0 S0 w ρ h} (k : OkH w0 S0 w ρ h) {i β : Nat} (hi : (bx h i).alive = true) (hβ : ρ[i]? = some β) :
    ∃ vals : List Value, RdL w (stab S0 ρ h) vals (bx h i).cells ∧ ∀ j v, vals[j]? = some v → w.cell? ⟨β, j, none⟩ = some v ∧ w.frozen? ⟨β, j, none⟩ = false := by
  obtain ⟨vals, ty, h1, h2, h3⟩ := k.heap.box i _ β (bx_get hi) hi hβ
  refine ⟨_, h3, fun j v hv => ?_⟩
  rw [List.getElem?_take] at hv
  split at hv
  · simp only [Array.getElem?_toList] at hv
    constructor
    · simp [World.cell?, h1, hv]
    · simp [World.frozen?, h1]
  · cases hv

end Go.Proofs.YtmbpoibhamlkbaaGreatDoor

namespace Go.Proofs.YtmbpoibhamlkbaaGreatDoor
open Go.RowKit
variable {P : Program}

theorem size_of {t : TypeId} {n : Nat} (h : sizeT P t = n) (hn : 0 < n) : ∃ i, P.info? t = some i ∧ i.size = n := by
  unfold sizeT Program.cellsOf at h
  cases hi : P.info? t with
  | none => rw [hi] at h; simp at h; omega
  | some i => rw [hi] at h; exact ⟨i, rfl, by simpa using h⟩

theorem info_of_under {t : TypeId} {d : TypeDesc} (h : P.underlying t = some d) : ∃ i, P.info? t = some i ∧ i.size = sizeT P t := by
  unfold Program.underlying at h
  unfold sizeT Program.cellsOf
  cases hi : P.info? t with
  | none => rw [hi] at h; cases h
  | some i => exact ⟨i, rfl, by simp⟩

theorem run_under {t : TypeId} {d : TypeDesc} (h : P.underlying t = some d) (w : World) : (underlying t).run P w = .ok d w := by
  simp [underlying, h]

theorem run_sizeOf {t : TypeId} {n : Nat} (h : sizeT P t = n) (hn : 0 < n) (w : World) : (sizeOf t).run P w = .ok n w := by
  obtain ⟨i, hi, hs⟩ := size_of h hn
  simp [sizeOf, typeInfo, hi, hs]

theorem kind_true {t : TypeId} (h : kindT P t = some true) : ∃ d, P.underlying t = some d ∧ d.isRow = true := by
  unfold kindT at h
  split at h
  · rename_i q; exact ⟨_, q, rfl⟩
  · rename_i q; exact ⟨_, q, rfl⟩
  · cases h
  · cases h

theorem kind_false {t : TypeId} (h : kindT P t = some false) (w : World) : (isAgg t).run P w = .ok false w := by
  unfold kindT at h
  split at h
  · cases h
  · cases h
  · rename_i d h1 h2 q
    unfold isAgg
    rw [Sem.run_bind, run_under q]
    cases d <;> first | rfl | (exact (h1 _ rfl).elim) | (exact (h2 _ _ rfl).elim)
  · cases h

theorem blt_iff {a b : Nat} : Nat.blt a b = true ↔ a < b := by
  unfold Nat.blt
  rw [Nat.ble_eq]
  omega

theorem kindEq_eq {k k' : IntKind} (h : kindEq k k' = true) : k = k' := by
  cases k <;> cases k' <;> first | rfl | (simp [kindEq] at h)

theorem isIntK_eq {k : IntKind} {v : V} (h : isIntK k v = true) : v = .int k (intV v) := by
  cases v <;> first | (rw [kindEq_eq (show kindEq k _ = true from h)]; rfl) | cases h

theorem load_run {t : TypeId} {cells : List V} {off : Nat} {v : V} (hl : loadC P t cells off = some (true, v)) {w : World} {S : Nat → Prop} {b o : Nat} {vals : List Value}
    (hr : RdL w S vals cells) (hv : ∀ j u, vals[j]? = some u → w.cell? ⟨b, o + j, none⟩ = some u) :
    ∃ x, (Instr.loadAt t (.pointer (some ⟨b, o + off, none⟩))).run P w = .ok x w ∧ Rd w S x v := by
  unfold loadC at hl
  split at hl
  · rename_i hk
    obtain ⟨d, hd, hrow⟩ := kind_true hk
    obtain ⟨i, hi, hs⟩ := info_of_under hd
    simp only [Option.some.injEq, Prod.mk.injEq, Nat.ble_eq] at hl
    obtain ⟨hle, rfl⟩ := hl
    have hlen : ((vals.drop off).take (sizeT P t)).length = sizeT P t := by
      have := hr.length
      simp; omega
    refine ⟨_, run_loadAt_mid w b (o + off) t ((vals.drop off).take (sizeT P t)) d ?_ hd hrow (by simp [hi, hs, hlen]), .agg ((hr.drop off).take _)⟩
    intro j u hu
    rw [List.getElem?_take] at hu
    split at hu
    · rw [List.getElem?_drop] at hu
      have := hv _ _ hu
      rwa [show o + (off + j) = o + off + j by omega] at this
    · cases hu
  · rename_i hk
    split at hl
    · simp only [Option.some.injEq, Prod.mk.injEq, Bool.and_eq_true] at hl
      obtain ⟨⟨hlt, hi⟩, rfl⟩ := hl
      have hlt := blt_iff.1 hlt
      obtain ⟨u, hu, hru⟩ := hr.get (nth_lt .unk hlt)
      rw [isIntK_eq hi] at hru
      refine ⟨u, ?_, hru⟩
      simp [Instr.loadAt, Instr.sureAddr, loadVar, kind_false hk, hv _ _ hu]
    · simp only [Option.some.injEq, Prod.mk.injEq] at hl
      obtain ⟨hlt, rfl⟩ := hl
      have hlt := blt_iff.1 hlt
      obtain ⟨u, hu, hru⟩ := hr.get (nth_lt .unk hlt)
      refine ⟨u, ?_, hru⟩
      simp [Instr.loadAt, Instr.sureAddr, loadVar, kind_false hk, hv _ _ hu]
  · cases hl

/-! ### arithmetic -/
theorem cond_some {α : Type} {b : Bool} {x : Option α} {y : α} (h : cond b x none = some y) : b = true ∧ x = some y := by
  cases b
  · cases h
  · exact ⟨rfl, h⟩

theorem eqGuard_int {op : BinOp} {t : TypeId} {x y : Operand} {k k' : IntKind} {a b : Int} (w : World) : (eqGuard op t x y (.int k a) (.int k' b)).run P w = .ok () w := by
  unfold eqGuard
  split <;> rfl
theorem eqGuard_bool {op : BinOp} {t : TypeId} {x y : Operand} {a b : Bool} (w : World) : (eqGuard op t x y (.bool a) (.bool b)).run P w = .ok () w := by
  unfold eqGuard
  split <;> rfl

theorem wrap_fits {k : IntKind} {n : Int} (h : fits k n = true) : k.wrap n = n := by
  simp only [fits, Bool.and_eq_true, iLe, decide_eq_true_eq] at h
  unfold IntKind.wrap
  cases k <;> simp [IntKind.bits, IntKind.signed, IntKind.min, IntKind.max] at h ⊢ <;> omega

theorem binW_run {op : BinOp} {xt : TypeId} {xo yo : Operand} {dx dy : D} {k : IntKind} {n : Int} (hb : binW op dx dy = some (true, k, n)) {w : World} {S : Nat → Prop} {ρ : List Nat} {x y : Value}
    (hx : RdD w S ρ x dx) (hy : RdD w S ρ y dy) : (do eqGuard op xt xo yo x y; binOp op xt x y : Sem Value).run P w = .ok (.int k (k.wrap n)) w := by
  unfold binW at hb
  split at hb
  · rename_i k a k' b
    obtain rfl := hx.int_inv
    obtain rfl := hy.int_inv
    rw [Sem.run_bind, eqGuard_int, Result.andThen_ok]
    cases op <;> simp only [Option.some.injEq, Prod.mk.injEq, Bool.and_eq_true, reduceCtorEq] at hb
    · obtain ⟨hk, rfl, rfl⟩ := hb
      obtain rfl := kindEq_eq hk
      simp [binOp, Op.intArith]
    · obtain ⟨hk, rfl, rfl⟩ := hb
      obtain rfl := kindEq_eq hk
      simp [binOp, Op.intArith]
    · obtain ⟨hk, rfl, rfl⟩ := hb
      obtain rfl := kindEq_eq hk
      simp [binOp, Op.intArith]
    · obtain ⟨⟨hk, hne⟩, rfl, rfl⟩ := hb
      obtain rfl := kindEq_eq hk
      simp only [binOp, Op.intDiv]
      rw [if_neg (by simp), if_neg (by simpa [iNe] using hne)]
      rfl
    · obtain ⟨hle, rfl, rfl⟩ := hb
      have hle : 0 ≤ b := by simpa [iLe] using hle
      simp only [binOp, Op.shift]
      rw [if_neg (by omega)]
      rfl
  · cases hb

theorem unW_run {op : UnOp} {dx : D} {k : IntKind} {n : Int} (hb : unW op dx = some (true, k, n)) {w : World} {S : Nat → Prop} {ρ : List Nat} {x : Value} (hx : RdD w S ρ x dx) :
    (Op.unary op x).run P w = .ok (.int k (k.wrap n)) w := by
  unfold unW at hb
  split at hb
  · obtain rfl := hx.int_inv
    cases op <;> simp only [Option.some.injEq, Prod.mk.injEq, reduceCtorEq] at hb
    obtain ⟨_, rfl, rfl⟩ := hb
    simp [Op.unary, Op.intArith]
  · cases hb

theorem convW_run {src dst : TypeId} {dx : D} {k : IntKind} {n : Int} (hb : convW P src dst dx = some (true, k, n)) {w : World} {S : Nat → Prop} {ρ : List Nat} {x : Value} (hx : RdD w S ρ x dx) :
    (convert src dst x).run P w = .ok (.int k (k.wrap n)) w := by
  unfold convW at hb
  split at hb
  · obtain rfl := hx.int_inv
    split at hb
    · rename_i h1 h2
      simp only [Option.some.injEq, Prod.mk.injEq] at hb
      obtain ⟨_, rfl, rfl⟩ := hb
      unfold convert
      rw [Sem.run_bind, run_under h1, Result.andThen_ok, Sem.run_bind, run_under h2, Result.andThen_ok]
      simp [Conv.intToInt]
    · cases hb
  · cases hb

theorem bin_run {op : BinOp} {xt : TypeId} {xo yo : Operand} {dx dy : D} {v : V} (hb : binV P op xt dx dy = some (true, v)) {w : World} {S : Nat → Prop} {ρ : List Nat} {x y : Value}
    (hx : RdD w S ρ x dx) (hy : RdD w S ρ y dy) :
    ∃ u, (do eqGuard op xt xo yo x y; binOp op xt x y : Sem Value).run P w = .ok u w ∧ Rd w S u v := by
  unfold binV at hb
  split at hb
  · rename_i k a k' b
    obtain rfl := hx.int_inv
    obtain rfl := hy.int_inv
    rw [Sem.run_bind, eqGuard_int, Result.andThen_ok]
    split at hb
    · simp only [Option.some.injEq, Prod.mk.injEq] at hb
      obtain ⟨hle, rfl⟩ := hb
      have hle : 0 ≤ b := by simpa [iLe] using hle
      refine ⟨_, ?_, .int⟩
      simp only [binOp, Op.shift]
      rw [if_neg (by omega)]
      rfl
    · rename_i h2
      obtain ⟨hk, hb2⟩ := cond_some hb
      have hk' := kindEq_eq hk
      subst hk'
      clear hb hk
      revert hb2
      intro hb
      cases op <;> first
        | exact (h2 rfl).elim
        | (simp only [binI, Option.some.injEq, Prod.mk.injEq] at hb
           obtain ⟨hc, rfl⟩ := hb
           first
             | (refine ⟨_, ?_, .int⟩; simp only [binOp, Op.intDiv, wRem]; rw [if_neg (by simp), if_neg (by simpa [iNe] using hc)]; rfl)
             | (refine ⟨_, ?_, .int⟩; simp [binOp, Op.intBits, wAnd, wOr, wXor, wAndNot]; done)
             | (refine ⟨_, ?_, .bool⟩; simp [binOp, Op.intCmp, iEq, iNe, iLt, iLe, iGt, iGe]; done))
        | (simp [binI] at hb)
        | (simp [binOp]; done)
  · rename_i a b
    obtain rfl := hx.bool_inv
    obtain rfl := hy.bool_inv
    rw [Sem.run_bind, eqGuard_bool, Result.andThen_ok]
    split at hb
    · rename_i hu
      have hq : (Op.equal xt (.bool a) (.bool b)).run P w = .ok (a == b) w := by
        unfold Op.equal Op.maxDepth Op.equalIn
        rw [Sem.run_bind, run_under hu, Result.andThen_ok]
        rfl
      cases op <;> first
        | (simp only [Option.some.injEq, Prod.mk.injEq] at hb
           obtain ⟨_, rfl⟩ := hb
           refine ⟨_, ?_, .bool⟩
           simp [binOp, hq, bEq])
        | cases hb
    · cases hb
  · cases hb

theorem un_run {op : UnOp} {dx : D} {v : V} (hb : unV op dx = some (true, v)) {w : World} {S : Nat → Prop} {ρ : List Nat} {x : Value} (hx : RdD w S ρ x dx) :
    ∃ u, (Op.unary op x).run P w = .ok u w ∧ Rd w S u v := by
  unfold unV at hb
  split at hb
  · rename_i k n
    obtain rfl := hx.int_inv
    cases op <;> first
      | (simp only [Option.some.injEq, Prod.mk.injEq] at hb
         obtain ⟨_, rfl⟩ := hb
         refine ⟨_, ?_, .int⟩
         simp only [Op.unary, Op.intBits, wXor]
         cases k.signed <;> rfl)
      | cases hb
  · rename_i b
    obtain rfl := hx.bool_inv
    cases op <;> first
      | (simp only [Option.some.injEq, Prod.mk.injEq] at hb
         obtain ⟨_, rfl⟩ := hb
         exact ⟨_, rfl, .bool⟩)
      | cases hb
  · cases hb

end Go.Proofs.YtmbpoibhamlkbaaGreatDoor

namespace Go.Proofs.YtmbpoibhamlkbaaGreatDoor
open Go.RowKit
variable {P : Program}

theorem part_run {t : TypeId} {l : List V} {off : Nat} {v : V} (hl : partV P t l off = some (true, v)) {w : World} {S : Nat → Prop} {arr : List Value} (hr : RdL w S arr l) :
    ∃ x, (part t arr.toArray off).run P w = .ok x w ∧ Rd w S x v := by
  unfold partV at hl
  split at hl
  · rename_i hk
    obtain ⟨d, hd, hrow⟩ := kind_true hk
    obtain ⟨i, hi, hs⟩ := info_of_under hd
    simp only [Option.some.injEq, Prod.mk.injEq, Nat.ble_eq] at hl
    obtain ⟨hle, rfl⟩ := hl
    have hagg : (isAgg t).run P w = .ok true w := by
      unfold isAgg
      rw [Sem.run_bind, run_under hd w]
      cases d <;> simp_all
    refine ⟨.agg ((arr.drop off).take (sizeT P t)).toArray, ?_, .agg ((hr.drop off).take _)⟩
    simp [part, hagg, sizeOf, typeInfo, hi, hs]
  · rename_i hk
    simp only [Option.some.injEq, Prod.mk.injEq] at hl
    obtain ⟨hlt, rfl⟩ := hl
    obtain ⟨u, hu, hru⟩ := hr.get (nth_lt .unk (blt_iff.1 hlt))
    refine ⟨u, ?_, hru⟩
    have hu' : arr.toArray[off]? = some u := by simpa using hu
    simp [part, kind_false hk, hu']
  · cases hl

theorem offF_run {s f o : Nat} {t : TypeId} (h : offF P s f = some (o, t)) : ∃ fs x, P.underlying s = some (.struct fs) ∧ fs[f]? = some x ∧ x.offset = o ∧ x.type = t ∧ 0 < sizeT P t := by
  unfold offF at h
  split at h
  · rename_i fs hu
    split at h
    · rename_i x hx
      obtain ⟨hb, h⟩ := cond_some h
      simp only [Option.some.injEq, Prod.mk.injEq] at h
      obtain ⟨rfl, rfl⟩ := h
      exact ⟨fs, x, hu, hx, rfl, rfl, blt_iff.1 hb⟩
    · cases h
  · cases h

theorem fieldAt_run {s f o : Nat} {t : TypeId} (h : offF P s f = some (o, t)) (w : World) (b off : Nat) :
    (Instr.fieldAt s (.pointer (some ⟨b, off, none⟩)) f).run P w = .ok (.pointer (some ⟨b, off + o, none⟩)) w := by
  obtain ⟨fs, x, hu, hx, rfl, rfl, hs⟩ := offF_run h
  have hz : (sizeOf x.type).run P w = .ok (sizeT P x.type) w := run_sizeOf rfl hs w
  simp [Instr.fieldAt, run_under hu, hx, Instr.sureAddr, fieldPlace, hz, Nat.ne_of_gt hs, Addr.add_mid]

theorem fieldAddr_run {s f : Nat} {dx d : D} (h : fieldAddrD P s f dx = some d) {w : World} {S : Nat → Prop} {ρ : List Nat} {x : Value} (hx : RdD w S ρ x dx) :
    ∃ u, (Instr.fieldAt s x f).run P w = .ok u w ∧ RdD w S ρ u d := by
  unfold fieldAddrD at h
  split at h
  · obtain ⟨β, hβ, rfl⟩ := hx.own_inv
    split at h
    · rename_i o t ho
      cases h
      exact ⟨_, fieldAt_run ho w _ _, .own hβ⟩
    · cases h
  · rename_i cells off
    have hx := hx.val_inv
    split at h
    · rename_i o t ho
      cases h
      cases hx with
      | pt h1 h2 h3 h4 =>
        refine ⟨_, fieldAt_run ho w _ _, .val ?_⟩
        rw [Nat.add_assoc]
        exact .pt h1 h2 h3 h4
    · cases h
  · cases h

theorem field_run {s f : Nat} {dx : D} {v : V} (h : fieldV P s f dx = some (true, v)) {w : World} {S : Nat → Prop} {ρ : List Nat} {x : Value} (hx : RdD w S ρ x dx) :
    ∃ u, (Instr.field s x f).run P w = .ok u w ∧ Rd w S u v := by
  unfold fieldV at h
  split at h
  · obtain ⟨arr, rfl, hr⟩ := hx.val_inv.agg_inv
    split at h
    · rename_i o t ho
      obtain ⟨fs, y, hu, hy, rfl, rfl, hs⟩ := offF_run ho
      obtain ⟨u, h1, h2⟩ := part_run h hr
      exact ⟨u, by simp [Instr.field, run_under hu, hy, asAgg, h1], h2⟩
    · cases h
  · cases h

/-! ### literals -/
theorem cells_rd {w : World} {S : Nat → Prop} {u : Value} {v : V} (h : Rd w S u v) (hc : okC v = true) : RdL w S u.cells.toList (cellsV v) := by
  cases h with
  | agg h => simpa [Value.cells, cellsV] using h
  | unk => simp [okC, isCell] at hc
  | tup h => simp [okC, isCell] at hc
  | bool => exact .cons .bool .nil
  | int => exact .cons .int .nil
  | nil => exact .cons .nil .nil
  | nilsl => exact .cons .nilsl .nil
  | sl h1 h2 h3 h4 h5 h6 => exact .cons (.sl h1 h2 h3 h4 h5 h6) .nil
  | pt h1 h2 h3 h4 => exact .cons (.pt h1 h2 h3 h4) .nil
  | clos h => exact .cons (.clos h) .nil

def spliceW (c : List Value) (off : Nat) : List Value → List Value
  | [] => c
  | v :: vs => spliceW (c.set off v) (off + 1) vs

theorem splice_rd {w : World} {S : Nat → Prop} : ∀ {vs : List Value} {xs : List V} {c : List Value} {d : List V} {off : Nat}, RdL w S c d → RdL w S vs xs → RdL w S (spliceW c off vs) (splice d off xs)
  | [], [], _, _, _, hc, _ => hc
  | [], _ :: _, _, _, _, _, h => nomatch h
  | _ :: _, [], _, _, _, _, h => nomatch h
  | _ :: _, _ :: _, _, _, off, hc, .cons h1 h2 => by
    unfold spliceW splice
    exact splice_rd (hc.set h1 off) h2

theorem fold_splice (off : Nat) : ∀ (l : List Value) (k : Nat) (cs : Array Value),
    ((l.zipIdx k).foldl (fun (cs : Array Value) (x : Value × Nat) => cs.setIfInBounds (off + x.2) x.1) cs).toList = spliceW cs.toList (off + k) l
  | [], _, _ => rfl
  | v :: l, k, cs => by
    simp only [List.zipIdx_cons, List.foldl_cons]
    rw [fold_splice off l (k + 1)]
    simp [spliceW, Nat.add_assoc]

/-- the parts of a literal, values beside what they read as -/
inductive RdP (w : World) (S : Nat → Prop) : List (Nat × Value) → List (Nat × V) → Prop
  | nil : RdP w S [] []
  | cons {i u v us vs} : Rd w S u v → RdP w S us vs → RdP w S ((i, u) :: us) ((i, v) :: vs)

theorem fill_run {w : World} {S : Nat → Prop} (place : Nat → Option (Nat × Nat)) : ∀ {us : List (Nat × Value)} {vs : List (Nat × V)} {cells : Array Value} {zs l : List V},
    RdL w S cells.toList zs → RdP w S us vs → fillV place zs vs = some l → ∃ cells', Instr.fill place cells us = some cells' ∧ RdL w S cells'.toList l
  | [], [], cells, zs, l, hc, _, h => by cases h; exact ⟨cells, rfl, hc⟩
  | [], _ :: _, _, _, _, _, h, _ => nomatch h
  | _ :: _, [], _, _, _, _, h, _ => nomatch h
  | (i, u) :: us, (_, v) :: vs, cells, zs, l, hc, .cons h1 h2, h => by
    unfold fillV at h
    cases hp : place i with
    | none => rw [hp] at h; cases h
    | some p =>
      obtain ⟨off, size⟩ := p
      rw [hp] at h
      obtain ⟨hb, h⟩ := cond_some h
      simp only [Bool.and_eq_true, Nat.beq_eq, Nat.ble_eq] at hb
      obtain ⟨⟨hb1, hb2⟩, hb3⟩ := hb
      have hu := cells_rd h1 hb1
      have hus : u.cells.size = size := by have := hu.length; simp at this; omega
      have hcs : cells.size = zs.length := by have := hc.length; simpa using this
      have e : (u.cells.zipIdx.foldl (fun (cs : Array Value) (x : Value × Nat) => cs.setIfInBounds (off + x.2) x.1) cells).toList = spliceW cells.toList off u.cells.toList := by
        rw [← Array.foldl_toList, Array.toList_zipIdx]
        exact fold_splice off _ 0 cells
      obtain ⟨cells', hf, hr⟩ := fill_run place (cells := u.cells.zipIdx.foldl (fun (cs : Array Value) (x : Value × Nat) => cs.setIfInBounds (off + x.2) x.1) cells) (by rw [e]; exact splice_rd hc hu) h2 h
      refine ⟨cells', ?_, hr⟩
      unfold Instr.fill
      rw [hp]
      simp only
      rw [if_neg (by simp [hus]; omega)]
      exact hf

theorem zero_rd {w : World} {S : Nat → Prop} (v : Value) : Rd w S v (cellV v) := by
  unfold cellV
  split <;> constructor
theorem zeros_rd {w : World} {S : Nat → Prop} (l : List Value) : RdL w S l (l.map cellV) := by
  induction l with
  | nil => exact .nil
  | cons v l ih => exact .cons (zero_rd v) ih

theorem const_rd {w : World} {S : Nat → Prop} (v : Value) : Rd w S v (constV v) := by
  unfold constV
  split
  · rename_i cs
    have := @Rd.agg w S cs.toList (cs.toList.map cellV) (zeros_rd _)
    simpa using this
  · exact zero_rd v

theorem zeroV_run {t : TypeId} {zs : List V} (h : zeroV P t = some zs) (w : World) : ∃ z, (zeroValue t).run P w = .ok z w ∧ zs = z.cells.toList.map cellV ∧
    ∃ i, P.info? t = some i ∧ i.zero = some z := by
  unfold zeroV at h
  split at h
  · rename_i i hi
    split at h
    · rename_i v hv
      cases h
      exact ⟨v, by simp [zeroValue, typeInfo, hi, hv], rfl, i, hi, hv⟩
    · cases h
  · cases h

theorem mapM_run {α β : Type} (w : World) (f : α → Sem β) (g : α → β) : ∀ (l : List α), (∀ x ∈ l, (f x).run P w = .ok (g x) w) → (l.mapM f).run P w = .ok (l.map g) w
  | [], _ => rfl
  | x :: l, h => by
    rw [List.mapM_cons, Sem.run_bind, h x (by simp), Result.andThen_ok, Sem.run_bind, mapM_run w f g l (fun y hy => h y (by simp [hy])), Result.andThen_ok]
    rfl

theorem vals_rd {w : World} {S : Nat → Prop} {ρ : List Nat} {ev : Operand → Value} {g : Operand → D} : ∀ {parts : List (Nat × Operand)} {ps : List (Nat × V)},
    (∀ x ∈ parts, RdD w S ρ (ev x.2) (g x.2)) → valsD (parts.map fun p => (p.1, g p.2)) = some ps → RdP w S (parts.map fun p => (p.1, ev p.2)) ps
  | [], ps, _, h => by cases h; exact .nil
  | (i, x) :: parts, ps, hx, h => by
    simp only [List.map_cons] at h ⊢
    have hx0 := hx (i, x) (by simp)
    generalize g x = gx at h hx0
    cases gx with
    | val v =>
      simp only [valsD] at h
      split at h
      · rename_i l hl
        cases h
        exact .cons hx0.val_inv (vals_rd (fun y hy => hx y (by simp [hy])) hl)
      · cases h
    | unk => cases h
    | own => cases h
    | osl => cases h
    | clo => cases h
    | oslp => cases h

theorem build_run {t : TypeId} {parts : Array (Nat × Operand)} {v : V} {g : Operand → D} (h : buildV P t (parts.toList.map fun p => (p.1, g p.2)) = some (true, v)) {w : World} {S : Nat → Prop}
    {ρ : List Nat} {ev : Operand → Value} (hx : ∀ x ∈ parts.toList, RdD w S ρ (ev x.2) (g x.2)) :
    ∃ u, (Instr.build t (parts.map fun (i, x) => (i, ev x))).run P w = .ok u w ∧ Rd w S u v := by
  unfold buildV at h
  split at h
  · rename_i zs ps pl hz hp hpl
    split at h
    · rename_i l hf
      simp only [Option.some.injEq, Prod.mk.injEq, true_and] at h
      subst h
      obtain ⟨z, hz1, rfl, _⟩ := zeroV_run hz w
      have hps := vals_rd hx hp
      obtain ⟨cells', h1, h2⟩ := fill_run pl (zeros_rd z.cells.toList) hps hf
      have e : (parts.map fun (i, x) => (i, ev x)).toList = parts.toList.map fun p => (p.1, ev p.2) := by simp
      refine ⟨.agg cells', ?_, by simpa using Rd.agg h2⟩
      unfold placeB at hpl
      unfold Instr.build
      simp only [Sem.run_bind, hz1, Result.andThen_ok]
      split at hpl
      · rename_i fs hu
        obtain ⟨hb, hpl⟩ := cond_some hpl
        cases hpl
        have hall : ∀ x ∈ fs.toList, 0 < sizeT P x.type := fun x hx => blt_iff.1 (List.all_eq_true.1 hb x hx)
        have hm : (fs.mapM (fun f => do pure (f.offset, ← sizeOf f.type) : Field → Sem (Nat × Nat))).run P w = .ok (fs.map fun f => (f.offset, sizeT P f.type)) w := by
          rw [Array.mapM_eq_mapM_toList, Sem.run_map, mapM_run w _ (fun f => (f.offset, sizeT P f.type))]
          · simp only [Result.andThen_ok]
            congr 1
            apply Array.ext'
            simp
          · intro x hx
            simp [run_sizeOf rfl (hall x hx)]
        simp only [run_under hu, Result.andThen_ok, Sem.run_bind, hm]
        have e2 : (fun i : Nat => (fs.map fun (f : Field) => (f.offset, sizeT P f.type))[i]?) = fun i : Nat => (fs[i]?).map fun (x : Field) => (x.offset, sizeT P x.type) := by
          funext i
          rw [Array.getElem?_map]
        rw [e, e2, h1]
        rfl
      · rename_i n el hu
        obtain ⟨hb, hpl⟩ := cond_some hpl
        cases hpl
        simp only [run_under hu, Result.andThen_ok, Sem.run_bind, run_sizeOf (P := P) (t := el) rfl (blt_iff.1 hb)]
        rw [e, h1]
        rfl
      · cases hpl
    · cases h
  · cases h

end Go.Proofs.YtmbpoibhamlkbaaGreatDoor

namespace Go.Proofs.YtmbpoibhamlkbaaGreatDoor
open Go.RowKit
variable {P : Program}

theorem inB_iff {i : Int} {n : Nat} : inB i n = true ↔ 0 ≤ i ∧ i < n := by
  simp [inB, iLe, iLt]

theorem mul_cond (n sz : Nat) : (cond (Nat.beq sz 1) n (n * sz)) = n * sz := by
  cases h : Nat.beq sz 1
  · rfl
  · rw [Nat.beq_eq] at h; subst h; simp

theorem index_run {t : TypeId} {dx di : D} {v : V} (h : indexV P t dx di = some (true, v)) {w : World} {S : Nat → Prop} {ρ : List Nat} {x i : Value} (hx : RdD w S ρ x dx) (hi : RdD w S ρ i di) :
    ∃ u, (Instr.index t x i).run P w = .ok u w ∧ Rd w S u v := by
  unfold indexV at h
  split at h
  · rename_i l k i
    obtain ⟨arr, rfl, hr⟩ := hx.val_inv.agg_inv
    obtain rfl := hi.int_inv
    split at h
    · rename_i n e hu
      obtain ⟨hb, h⟩ := cond_some h
      split at h
      · rename_i c v' hp
        simp only [Option.some.injEq, Prod.mk.injEq, Bool.and_eq_true] at h
        obtain ⟨⟨hin, rfl⟩, rfl⟩ := h
        obtain ⟨u, h1, h2⟩ := part_run hp hr
        refine ⟨u, ?_, h2⟩
        have hin := inB_iff.1 hin
        simp [Instr.index, asIntOf, run_under hu, hin, run_sizeOf (P := P) (t := e) rfl (blt_iff.1 hb), h1]
      · cases h
    · cases h
  · cases h

theorem slen_eq {sz : Nat} {cells : List V} {n : Nat} (hs : 0 < sz) (h : cells.length = n * sz) : slen sz cells = n := by
  unfold slen
  split
  · omega
  · rw [h]; exact Nat.mul_div_cancel n hs

theorem indexAt_run {t e : TypeId} {k : IntKind} {i : Int} {n cap sz b o : Nat} (hu : P.underlying t = some (.slice e)) (hs : sizeT P e = sz) (hpos : 0 < sz) (h0 : 0 ≤ i) (h1 : i < n) (w : World) :
    (Instr.indexAt t (.slice (some ⟨b, o, none⟩) n cap) (.int k i)).run P w = .ok (.pointer (some ⟨b, o + i.toNat * sz, none⟩)) w := by
  simp [Instr.indexAt, asIntOf, run_under hu, h0, h1, run_sizeOf hs hpos, Addr.add_mid]

theorem indexAddr_run {t : TypeId} {dx di d : D} (h : indexAddrD P t dx di = some (true, d)) {w : World} {S : Nat → Prop} {ρ : List Nat} {x i : Value} (hx : RdD w S ρ x dx) (hi : RdD w S ρ i di) :
    ∃ u, (Instr.indexAt t x i).run P w = .ok u w ∧ RdD w S ρ u d := by
  unfold indexAddrD at h
  split at h
  · rename_i sz cells k i
    obtain rfl := hi.int_inv
    split at h
    · rename_i e hu
      obtain ⟨hb, h⟩ := cond_some h
      simp only [Bool.and_eq_true, Nat.beq_eq] at hb
      simp only [Option.some.injEq, Prod.mk.injEq] at h
      obtain ⟨hin, rfl⟩ := h
      have hpos := blt_iff.1 hb.2
      have hin := inB_iff.1 hin
      have hx := hx.val_inv
      cases hx with
      | nilsl => simp only [slen_eq hpos (show ([] : List V).length = 0 * sz by simp)] at hin; omega
      | sl g1 g2 g3 g4 g5 g6 =>
        rename_i b o n cap vals
        rw [slen_eq hpos g4] at hin
        refine ⟨_, indexAt_run hu hb.1.symm hpos hin.1 hin.2 w, .val ?_⟩
        rw [mul_cond]
        exact .pt g1 g2 g5 g6
    · cases h
  · rename_i b off len sz k i
    obtain rfl := hi.int_inv
    split at h
    · rename_i e hu
      obtain ⟨hb, h⟩ := cond_some h
      simp only [Bool.and_eq_true, Nat.beq_eq] at hb
      simp only [Option.some.injEq, Prod.mk.injEq] at h
      obtain ⟨hin, rfl⟩ := h
      have hpos := blt_iff.1 hb.2
      have hin := inB_iff.1 hin
      cases hx with
      | osl g1 g2 g3 g4 =>
        refine ⟨_, indexAt_run hu hb.1.symm hpos hin.1 hin.2 w, ?_⟩
        rw [mul_cond]
        exact .own g1
    · cases h
  · rename_i b off k i
    obtain rfl := hi.int_inv
    obtain ⟨β, hβ, rfl⟩ := hx.own_inv
    split at h
    · rename_i n e hu
      obtain ⟨hb, h⟩ := cond_some h
      simp only [Bool.and_eq_true] at hb
      simp only [Option.some.injEq, Prod.mk.injEq] at h
      obtain ⟨hin, rfl⟩ := h
      have hin := inB_iff.1 hin
      have hpos := blt_iff.1 hb.1
      refine ⟨_, ?_, .own hβ⟩
      simp [Instr.indexAt, asIntOf, run_under hu, hin.1, hin.2, run_sizeOf (P := P) (t := e) rfl hpos, Addr.add_mid, Instr.sureAddr]
    · cases h
  · cases h

/-! ### slices of slices -/
theorem sliceBound_run (k : IntKind) (i : Int) (y : Nat) (code : BoundsCode) (h0 : 0 ≤ i) (h1 : i ≤ y) (w : World) : (Instr.sliceBound (.int k i) y code).run P w = .ok i.toNat w := by
  simp [Instr.sliceBound, asIntOf, h0, h1]

/-- an operand of a slice expression and its value -/
theorem bound_val {d : Option D} {dflt l : Int} {w : World} {S : Nat → Prop} {ρ : List Nat} {v : Option Value} (h : boundD d dflt = some l)
    (r : ∀ x, d = some x → ∃ u, v = some u ∧ RdD w S ρ u x) (n : d = none → v = none) : (v = none ∧ l = dflt) ∨ ∃ k, v = some (.int k l) := by
  unfold boundD at h
  split at h
  · cases h; exact .inl ⟨n rfl, rfl⟩
  · cases h
    obtain ⟨u, rfl, hu⟩ := r _ rfl
    obtain rfl := hu.int_inv
    exact .inr ⟨_, rfl⟩
  · cases h

theorem bounds_run {l m : Int} {len cap : Nat} (w : World) {vl vh : Option Value} (hcap : len ≤ cap)
    (hl : (vl = none ∧ l = 0) ∨ ∃ k, vl = some (.int k l)) (hm : (vh = none ∧ m = len) ∨ ∃ k, vh = some (.int k m)) (h0 : 0 ≤ l) (h1 : l ≤ m) (h2 : m ≤ len) :
    (Instr.sliceBounds true len cap vl vh none).run P w = .ok (l.toNat, m.toNat, cap) w := by
  unfold Instr.sliceBounds
  rcases hl with ⟨rfl, rfl⟩ | ⟨kl, rfl⟩ <;> rcases hm with ⟨rfl, rfl⟩ | ⟨km, rfl⟩
  · simp
  · simp [sliceBound_run (P := P) km m cap _ (by omega) (by omega) w]
  · simp [sliceBound_run (P := P) kl l len _ h0 (by omega) w]
  · simp [sliceBound_run (P := P) km m cap _ (by omega) (by omega) w, sliceBound_run (P := P) kl l m.toNat _ h0 (by omega) w]

theorem lenD_sl {sz : Nat} {cells : List V} {n : Nat} (h : lenD (.val (.sl sz cells)) = some n) : 0 < sz ∧ n = slen sz cells := by
  obtain ⟨hb, h⟩ := cond_some h
  exact ⟨blt_iff.1 hb, by cases h; rfl⟩

theorem slice_run {t : TypeId} {dx d : D} {lo hi : Option D} (h : sliceD P t dx lo hi = some (true, d)) {w : World} {S : Nat → Prop} {ρ : List Nat} {x : Value} {vl vh : Option Value} (hx : RdD w S ρ x dx)
    (rl : ∀ d, lo = some d → ∃ v, vl = some v ∧ RdD w S ρ v d) (nl : lo = none → vl = none)
    (rh : ∀ d, hi = some d → ∃ v, vh = some v ∧ RdD w S ρ v d) (nh : hi = none → vh = none) :
    ∃ u, (Instr.sliceAt t x vl vh none).run P w = .ok u w ∧ RdD w S ρ u d := by
  unfold sliceD at h
  split at h
  · rename_i e hu
    split at h
    · rename_i n hn
      split at h
      · rename_i l m hl hm
        have h' := cond_some h
        clear h
        obtain ⟨hpe', h⟩ := h'
        have hpe := blt_iff.1 hpe'
        clear hpe'
        have bl := bound_val hl rl nl
        have bh := bound_val hm rh nh
        have base : ∀ (a : Option Addr) (len cap : Nat), n = len → len ≤ cap → 0 ≤ l → l ≤ m → m ≤ n →
            (Instr.sliceAt t (.slice a len cap) vl vh none).run P w = .ok (.slice (if cap = l.toNat then a else a.map (·.add (l.toNat * sizeT P e))) (m.toNat - l.toNat) (cap - l.toNat)) w := by
          intro a len cap h1 h2 h3 h4 h5
          subst h1
          unfold Instr.sliceAt
          rw [Sem.run_bind, run_under hu, Result.andThen_ok]
          simp only [Instr.slice, Sem.run_bind, run_under hu, Result.andThen_ok, bounds_run w h2 bl bh h3 h4 h5, run_sizeOf (P := P) (t := e) rfl hpe, Sem.run_pure]
        split at h
        · -- nil
          simp only [Option.some.injEq, Prod.mk.injEq, Bool.and_eq_true, iLe, decide_eq_true_eq] at h
          obtain ⟨⟨⟨h3, h4⟩, h5⟩, rfl⟩ := h
          cases hn
          have hx := hx.val_inv
          cases hx
          refine ⟨_, base none 0 0 rfl (Nat.le_refl _) h3 h4 h5, ?_⟩
          have e1 : l = 0 := by omega
          have e2 : m = 0 := by omega
          rw [e1, e2]
          simp
          exact .val .nil
        · rename_i sz cells
          obtain ⟨hb, h⟩ := cond_some h
          rw [Nat.beq_eq] at hb
          simp only [Option.some.injEq, Prod.mk.injEq, Bool.and_eq_true, iLe, decide_eq_true_eq] at h
          obtain ⟨⟨⟨h3, h4⟩, h5⟩, rfl⟩ := h
          obtain ⟨hpos, rfl⟩ := lenD_sl hn
          have hx := hx.val_inv
          simp only [mul_cond]
          cases hx with
          | nilsl =>
            have e0 : slen sz ([] : List V) = 0 := slen_eq hpos (by simp)
            refine ⟨_, base none 0 0 e0 (Nat.le_refl _) h3 h4 h5, ?_⟩
            rw [e0] at h5
            have e1 : l = 0 := by omega
            have e2 : m = 0 := by omega
            rw [e1, e2]
            simp
            exact .val .nilsl
          | sl g1 g2 g3 g4 g5 g6 =>
            rename_i b o n cap vals
            have e0 := slen_eq hpos g4
            refine ⟨_, base _ n cap e0 g3 h3 h4 h5, ?_⟩
            rw [e0] at h5
            have hlen : ((cells.drop (l.toNat * sz)).take ((m - l).toNat * sz)).length = (m.toNat - l.toNat) * sz := by
              have hle : (l.toNat + (m - l).toNat) * sz ≤ n * sz := Nat.mul_le_mul_right sz (by omega)
              rw [Nat.add_mul] at hle
              rw [List.length_take, List.length_drop, g4, show (m.toNat - l.toNat) = (m - l).toNat by omega]
              omega
            by_cases hc : cap = l.toNat
            · rw [if_pos hc]
              have hz : m.toNat - l.toNat = 0 := by omega
              rw [hz, Nat.zero_mul] at hlen
              have hnil := List.eq_nil_of_length_eq_zero hlen
              rw [hz, hnil]
              exact .val (.sl g1 g2 (Nat.zero_le _) (by simp) .nil (fun i v hv => by simp at hv))
            · rw [if_neg hc]
              simp only [Option.map_some, Addr.add_mid]
              refine .val (.sl g1 g2 (by omega) hlen ((g5.drop (l.toNat * sz)).take ((m - l).toNat * sz)) ?_)
              intro i v hv
              rw [List.getElem?_take] at hv
              split at hv
              · rw [List.getElem?_drop] at hv
                have := g6 _ _ hv
                rw [← hb]
                rwa [Nat.add_assoc]
              · cases hv
        · rename_i b off len sz
          obtain ⟨hb, h⟩ := cond_some h
          rw [Nat.beq_eq] at hb
          simp only [Option.some.injEq, Prod.mk.injEq, Bool.and_eq_true, iLe, decide_eq_true_eq] at h
          obtain ⟨⟨⟨⟨h3, h4⟩, h5⟩, h6⟩, rfl⟩ := h
          cases hn
          have h6 : l = 0 ∨ l < n := by simpa [iEq, iLt] using h6
          simp only [mul_cond]
          cases hx with
          | osl g1 g2 g3 g4 =>
            rename_i β cap ty k
            refine ⟨_, base _ n cap rfl g2 h3 h4 h5, ?_⟩
            have hk : off + l.toNat * sz + (cap - l.toNat) * sz = off + cap * sz := by
              rw [Nat.add_assoc, ← Nat.add_mul, show l.toNat + (cap - l.toNat) = cap by omega]
            by_cases hc : cap = l.toNat
            · have e1 : l = 0 := by omega
              have e2 : m = 0 := by omega
              rw [if_pos hc, e1, e2]
              simp only [Int.toNat_zero, Nat.zero_mul, Nat.add_zero, Nat.sub_zero, Int.sub_self]
              exact .osl g1 (Nat.zero_le _) g3 g4
            · rw [if_neg hc]
              simp only [Option.map_some, Addr.add_mid]
              rw [show m.toNat - l.toNat = (m - l).toNat by omega, ← hb]
              exact .osl g1 (by omega) g3 (by omega)
        · cases h
      · cases h
    · cases h
  · cases h

end Go.Proofs.YtmbpoibhamlkbaaGreatDoor

namespace Go.Proofs.YtmbpoibhamlkbaaGreatDoor
open Go.RowKit
variable {P : Program} {C : World → Prop} {Qr : V → Prop} {Qo : Ex → St → Prop}

def Reads (w : World) (S : Nat → Prop) (ρ : List Nat) (a : Act) (o : Oper) (g : Operand → D) : Prop :=
  ∀ x, x ∈ o.op.operands.toList → RdD w S ρ (a.eval x) (g x)

/-- operation o yields a value that reads as d, in every state that holds at least what h' says -/
def YA (P : Program) (C : World → Prop) (o : Oper) (g : Operand → D) (d : D) (h' : List Box) : Prop :=
  ∀ h'', Fr h' h'' → ∀ (w0 : Base) (S0 : Nat → Prop) (a : Act) (w : World) (ρ : List Nat) (Q : Exit → Act → World → Prop), C w → AllS w S0 ρ →
    OkH w0 S0 w ρ h'' → Reads w (stab S0 ρ h'') ρ a o g →
    o.wp P a w (fun a' w' => ∃ v, a' = a.put o.dst v ∧ RdD w' (stab S0 ρ h'') ρ v d ∧ Below w.heap.size w w') Q

theorem ya_pure {o : Oper} {g : Operand → D} {d : D} {h' : List Box}
    (h : ∀ h'', Fr h' h'' → ∀ (w0 : Base) (S0 : Nat → Prop) (a : Act) (w : World) (ρ : List Nat), OkH w0 S0 w ρ h'' → Reads w (stab S0 ρ h'') ρ a o g →
      ∃ v, (execOp a.eval o).run P w = .ok (.value v) w ∧ RdD w (stab S0 ρ h'') ρ v d) : YA P C o g d h' := by
  intro h'' hf w0 S0 a w ρ Q _ _ ok hr
  obtain ⟨v, h1, h2⟩ := h h'' hf w0 S0 a w ρ ok hr
  unfold Oper.wp
  rw [h1]
  exact ⟨v, rfl, h2, Below.refl _ _⟩

theorem go1_wp {h : List Box} {k : D → List Box → T} {r : Option (Bool × V)} (hw : (go1 h k r).wp P C Qr Qo) : ∃ v, r = some (true, v) ∧ (k (.val v) h).wp P C Qr Qo := by
  unfold go1 at hw
  split at hw
  · obtain ⟨h1, h2⟩ := of_brk hw; subst h1; exact ⟨_, rfl, h2⟩
  · exact hw.elim
theorem go2_wp {h : List Box} {k : D → List Box → T} {r : Option (Bool × D)} (hw : (go2 h k r).wp P C Qr Qo) : ∃ v, r = some (true, v) ∧ (k v h).wp P C Qr Qo := by
  unfold go2 at hw
  split at hw
  · obtain ⟨h1, h2⟩ := of_brk hw; subst h1; exact ⟨_, rfl, h2⟩
  · exact hw.elim
theorem go3_wp {h : List Box} {k : D → List Box → T} {r : Option D} (hw : (go3 h k r).wp P C Qr Qo) : ∃ v, r = some v ∧ (k v h).wp P C Qr Qo := by
  unfold go3 at hw
  split at hw
  · exact ⟨_, rfl, hw⟩
  · exact hw.elim

theorem goW_wp {h : List Box} {k : D → List Box → T} {r : Option (Bool × IntKind × Int)} (hw : (goW h k r).wp P C Qr Qo) : ∃ kd n m, r = some (true, kd, n) ∧ kd.wrap n = m ∧ (k (.val (.int kd m)) h).wp P C Qr Qo := by
  unfold goW at hw
  split at hw
  · rename_i c kd n
    obtain ⟨h1, h2⟩ := of_brk hw
    subst h1
    rcases h2 with ⟨h3, h4⟩ | h4
    · exact ⟨kd, n, n, rfl, wrap_fits h3, h4⟩
    · exact ⟨kd, n, _, rfl, rfl, h4⟩
  · exact hw.elim

theorem load_any {t : TypeId} {h h'' : List Box} (hf : Fr h h'') {dx : D} {v : V} (hl : loadV P t h dx = some (true, v)) {w0 : Base} {w : World} {S0 : Nat → Prop} {ρ : List Nat} (ok : OkH w0 S0 w ρ h'') {x : Value}
    (hx : RdD w (stab S0 ρ h'') ρ x dx) : ∃ u, (Instr.loadAt t x).run P w = .ok u w ∧ Rd w (stab S0 ρ h'') u v := by
  unfold loadV at hl
  split at hl
  · obtain ⟨hb, hl⟩ := cond_some hl
    obtain ⟨β, hβ, rfl⟩ := hx.own_inv
    obtain ⟨ha, hc⟩ := hf.bx hb
    obtain ⟨vals, h1, h2⟩ := ok.cells ha hβ
    rw [hc] at h1
    have := load_run (b := β) (o := 0) hl h1 (fun j u hu => by rw [Nat.zero_add]; exact (h2 j u hu).1)
    rwa [Nat.zero_add] at this
  · have hx := hx.val_inv
    cases hx with
    | pt g1 g2 g3 g4 => exact load_run hl g3 g4
  · cases hl

theorem caps_rd {w : World} {S : Nat → Prop} {ρ : List Nat} {ev : Operand → Value} {g : Operand → D} : ∀ {l : List Operand} {vs : List V},
    (∀ x ∈ l, RdD w S ρ (ev x) (g x)) → valCaps (l.map g) = some vs → RdL w S (l.map ev) vs
  | [], vs, _, h => by cases h; exact .nil
  | x :: l, vs, hx, h => by
    simp only [List.map_cons] at h ⊢
    have hx0 := hx x (by simp)
    generalize g x = gx at h hx0
    cases gx with
    | val v =>
      simp only [valCaps] at h
      split at h
      · rename_i l' hl
        cases h
        exact .cons hx0.val_inv (caps_rd (fun y hy => hx y (by simp [hy])) hl)
      · cases h
    | unk => cases h
    | own => cases h
    | osl => cases h
    | clo => cases h
    | oslp => cases h

theorem owns_rd {w : World} {S : Nat → Prop} {ρ : List Nat} {ev : Operand → Value} {g : Operand → D} : ∀ {l : List Operand} {cs : List (Nat × Nat)},
    (∀ x ∈ l, RdD w S ρ (ev x) (g x)) → ownCaps (l.map g) = some cs → (l.map ev).length = cs.length ∧
      ∀ (i b off : Nat), cs[i]? = some (b, off) → ∃ β : Nat, ρ[b]? = some β ∧ (l.map ev)[i]? = some (Value.pointer (some ⟨β, off, none⟩))
  | [], cs, _, h => by cases h; exact ⟨rfl, fun i b off hi => by simp at hi⟩
  | x :: l, cs, hx, h => by
    simp only [List.map_cons] at h ⊢
    have hx0 := hx x (by simp)
    generalize g x = gx at h hx0
    cases gx with
    | own b off =>
      simp only [ownCaps] at h
      split at h
      · rename_i l' hl
        cases h
        obtain ⟨h1, h2⟩ := owns_rd (fun y hy => hx y (by simp [hy])) hl
        obtain ⟨β, hβ, he⟩ := hx0.own_inv
        refine ⟨by simpa using h1, fun i b' off' hi => ?_⟩
        cases i with
        | zero => simp at hi; obtain ⟨rfl, rfl⟩ := hi; exact ⟨β, hβ, by simp [he]⟩
        | succ i => simp at hi; obtain ⟨γ, g1, g2⟩ := h2 i b' off' hi; exact ⟨γ, g1, by simpa using g2⟩
      · cases h
    | unk => cases h
    | val => cases h
    | osl => cases h
    | clo => cases h
    | oslp => cases h

/-- an argument that is handed to a callee reads as data: the boxes that it leads to are frozen -/
theorem toV_rd {h h'' : List Box} (hf : Fr h h'') {d : D} (hd : okV h d = true) {w0 : Base} {w : World} {S0 : Nat → Prop} {ρ : List Nat} (hS : AllS w S0 ρ) (ok : OkH w0 S0 w ρ h'')
    (hz : ∀ (b : Nat) (x : Box), b ∈ idsD d → h''[b]? = some x → x.frozen = true) {v : Value} (hv : RdD w (stab S0 ρ h'') ρ v d) : Rd w (stab S0 ρ h'') v (toV h d) := by
  cases hv with
  | unk => exact .unk
  | val hv => exact hv
  | own hβ =>
    rename_i b off β
    simp only [okV] at hd
    obtain ⟨ha, hc⟩ := hf.bx hd
    obtain ⟨vals, h1, h2⟩ := ok.cells ha hβ
    have hst := stab_frozen ok hS (bx_get ha) ha (hz b _ (by simp [idsD]) (bx_get ha)) hβ
    rw [hc] at h1
    have := @Rd.pt w (stab S0 ρ h'') β 0 off _ _ hst (ok.heap.low _ _ hβ).2 h1 (fun i v hv => by rw [Nat.zero_add]; exact (h2 i v hv).1)
    rw [Nat.zero_add] at this
    exact this
  | osl hβ hlc hs hn =>
    rename_i b off len sz β cap e n
    simp only [okV, Bool.and_eq_true, Nat.ble_eq, mul_cond] at hd
    obtain ⟨ha, hc⟩ := hf.bx hd.1
    obtain ⟨vals, h1, h2⟩ := ok.cells ha hβ
    have hst := stab_frozen ok hS (bx_get ha) ha (hz b _ (by simp [idsD]) (bx_get ha)) hβ
    rw [hc] at h1
    simp only [toV, mul_cond]
    refine .sl hst (ok.heap.low _ _ hβ).2 hlc (by simp; omega) ((h1.drop off).take (len * sz)) ?_
    intro i v hv
    rw [List.getElem?_take] at hv
    split at hv
    · rw [List.getElem?_drop] at hv
      exact (h2 _ _ hv).1
    · cases hv
  | oslp => exact .unk
  | clo hlen hcs =>
    rename_i f caps arr
    simp only [okV, List.all_eq_true] at hd
    refine .clos (RdL.mk (by simpa using hlen) fun i u x hu hx => ?_)
    rw [List.getElem?_map] at hx
    cases hci : caps[i]? with
    | none => rw [hci] at hx; cases hx
    | some c =>
      obtain ⟨b, off⟩ := c
      rw [hci] at hx
      cases hx
      obtain ⟨β, hβ, hu'⟩ := hcs i b off hci
      rw [hu] at hu'
      cases hu'
      have hmem : (b, off) ∈ caps := List.mem_of_getElem? hci
      obtain ⟨ha, hc⟩ := hf.bx (hd _ hmem)
      obtain ⟨vals, h1, h2⟩ := ok.cells ha hβ
      have hst := stab_frozen ok hS (bx_get ha) ha (hz b _ (by simp only [idsD, List.mem_map]; exact ⟨_, hmem, rfl⟩) (bx_get ha)) hβ
      rw [hc] at h1
      have := @Rd.pt w (stab S0 ρ h'') β 0 off _ _ hst (ok.heap.low _ _ hβ).2 h1 (fun i v hv => by rw [Nat.zero_add]; exact (h2 i v hv).1)
      rw [Nat.zero_add] at this
      exact this

theorem callFunc_run {f : FuncId} (h : okFn P f = true) (args : Array Value) (w : World) : (callFunc f args).run P w = .ok (.enter f args) w := by
  unfold okFn at h
  split at h
  · rename_i fn hfn
    simp only [Bool.and_eq_true, bne_iff_ne, ne_eq] at h
    unfold callFunc
    simp only [Sem.run_bind, run_program, Result.andThen_ok, hfn]
    rw [if_neg (by simpa using h.1)]
    cases hb : fn.body with
    | none => rw [hb] at h; simp at h
    | some c => simp
  · cases h

theorem args_rd {w : World} {S : Nat → Prop} {ev : Operand → Value} {g : Operand → D} {F : D → V} : ∀ {l : List Operand},
    (∀ x ∈ l, Rd w S (ev x) (F (g x))) → RdL w S (l.map ev) ((l.map g).map F)
  | [], _ => .nil
  | x :: _, h => .cons (h x (by simp)) (args_rd fun y hy => h y (by simp [hy]))

theorem call_ya {o : Oper} {c : Call} {fo : Operand} {g : Operand → D} {h h1 : List Box} {f : FuncId} {caps : List V} {k : D → List Box → T} (ho : o.op = .call c) (hc : c.callee = .value fo) (hf1 : Fr h h1)
    (hval : ∀ h'', Fr h1 h'' → ∀ (w0 : Base) (w : World) (S0 : Nat → Prop) (ρ : List Nat) (v : Value), AllS w S0 ρ → OkH w0 S0 w ρ h'' → RdD w (stab S0 ρ h'') ρ v (g fo) →
      ∃ cs : List Value, v = .func (.func f) #[] cs.toArray ∧ RdL w (stab S0 ρ h'') cs caps)
    (hw : (callT h1 f (c.args.toList.map g) caps k).wp P C Qr Qo) : ∃ d h', Fr h h' ∧ YA P C o g d h' ∧ (k d h').wp P C Qr Qo := by
  unfold callT at hw
  obtain ⟨hall, r, hi, hw2⟩ := of_brk hw
  clear hw
  refine ⟨_, _, hf1.trans (Fr.frz _ _), ?_, hw2⟩
  intro h'' hf w0 S0 a w ρ Q hC hS ok hr
  have hf1' : Fr h1 h'' := (Fr.frz _ _).trans hf
  have hops : o.op.operands.toList = fo :: c.args.toList := by simp [ho, Op.operands, Call.operands, hc]
  have hfo := hr fo (by simp [hops])
  have hargs : ∀ x ∈ c.args.toList, RdD w (stab S0 ρ h'') ρ (a.eval x) (g x) := fun x hx => hr x (by simp [hops]; exact .inr (by simpa using hx))
  obtain ⟨cs, hv, hcs⟩ := hval h'' hf1' w0 w S0 ρ _ hS ok hfo
  have hA : RdL w (stab S0 ρ h'') (c.args.toList.map a.eval) ((c.args.toList.map g).map (toV h1)) := args_rd fun x hx => by
    refine toV_rd hf1' (List.all_eq_true.1 hall _ (List.mem_map_of_mem hx)) hS ok ?_ (hargs x hx)
    intro b y hb hy
    obtain ⟨z, hz, _, _, zf⟩ := hf.back hy
    exact zf (frz_frozen _ h1 b z (List.mem_flatMap.2 ⟨_, List.mem_map_of_mem hx, hb⟩) hz)
  have hcall := hi.2 w (stab S0 ρ h'') _ hC (stab_new ok hS) (hA.append hcs)
  have hrun : (execOp a.eval o).run P w = .ok (.enter f (c.args.toList.map a.eval ++ cs).toArray) w := by
    simp only [execOp, ho, resolve, hc, hv, Deferred.ofValue, Sem.run_bind, Sem.run_pure, Result.andThen_ok, invoke]
    rw [callFunc_run hi.1]
    congr 2
    apply Array.ext'
    simp
  unfold Oper.wp
  rw [hrun]
  show Calls P f _ w _
  refine hcall.mono ?_
  rintro e w' ⟨v, rfl, h2, h3⟩
  exact ⟨v, rfl, .val h2, h3⟩

end Go.Proofs.YtmbpoibhamlkbaaGreatDoor

namespace Go.Proofs.YtmbpoibhamlkbaaGreatDoor
open Go.RowKit
variable {P : Program} {C : World → Prop} {Qr : V → Prop} {Qo : Ex → St → Prop}

theorem fold_max {w : World} {S : Nat → Prop} {ρ : List Nat} {ev : Operand → Value} {g : Operand → D} {k : IntKind} : ∀ {l : List Operand} {acc : Int} {v : V},
    (∀ x ∈ l, RdD w S ρ (ev x) (g x)) → foldI iMax k acc (l.map g) = some (true, v) → ∃ n, v = .int k n ∧ ((l.map ev).foldlM Builtin.max2 (.int k acc)).run P w = .ok (.int k n) w
  | [], acc, v, _, h => by cases h; exact ⟨acc, rfl, rfl⟩
  | x :: l, acc, v, hx, h => by
    simp only [List.map_cons] at h ⊢
    have hx0 := hx x (by simp)
    unfold foldI at h
    split at h
    · cases ‹_ = []›
    · rename_i k' y r he
      simp only [List.cons.injEq] at he
      obtain ⟨he, rfl⟩ := he
      rw [he] at hx0
      have hv := hx0.int_inv
      obtain ⟨n, h1, h2⟩ := fold_max (acc := iMax acc y) (fun z hz => hx z (by simp [hz])) h
      refine ⟨n, h1, ?_⟩
      rw [List.foldlM_cons, Sem.run_bind, hv]
      show (Result.ok _ _).andThen _ = _
      exact h2
    · cases h

theorem fold_min {w : World} {S : Nat → Prop} {ρ : List Nat} {ev : Operand → Value} {g : Operand → D} {k : IntKind} : ∀ {l : List Operand} {acc : Int} {v : V},
    (∀ x ∈ l, RdD w S ρ (ev x) (g x)) → foldI iMin k acc (l.map g) = some (true, v) → ∃ n, v = .int k n ∧ ((l.map ev).foldlM Builtin.min2 (.int k acc)).run P w = .ok (.int k n) w
  | [], acc, v, _, h => by cases h; exact ⟨acc, rfl, rfl⟩
  | x :: l, acc, v, hx, h => by
    simp only [List.map_cons] at h ⊢
    have hx0 := hx x (by simp)
    unfold foldI at h
    split at h
    · cases ‹_ = []›
    · rename_i k' y r he
      simp only [List.cons.injEq] at he
      obtain ⟨he, rfl⟩ := he
      rw [he] at hx0
      have hv := hx0.int_inv
      obtain ⟨n, h1, h2⟩ := fold_min (acc := iMin acc y) (fun z hz => hx z (by simp [hz])) h
      refine ⟨n, h1, ?_⟩
      rw [List.foldlM_cons, Sem.run_bind, hv]
      show (Result.ok _ _).andThen _ = _
      exact h2
    · cases h

theorem len_rd {dx : D} {n : Nat} (h : lenD dx = some n) {w : World} {S : Nat → Prop} {ρ : List Nat} {x : Value} (hx : RdD w S ρ x dx) : ∃ a cap, x = .slice a n cap := by
  unfold lenD at h
  split at h
  · cases h
    have := hx.val_inv
    cases this
    exact ⟨_, _, rfl⟩
  · rename_i sz c
    obtain ⟨hb, h⟩ := cond_some h
    cases h
    have hpos := blt_iff.1 hb
    have := hx.val_inv
    cases this with
    | nilsl => rw [slen_eq hpos (show ([] : List V).length = 0 * sz by simp)]; exact ⟨_, _, rfl⟩
    | sl g1 g2 g3 g4 g5 g6 => rw [slen_eq hpos g4]; exact ⟨_, _, rfl⟩
  · cases h
    cases hx
    exact ⟨_, _, rfl⟩
  · cases h

theorem opt_rd {w : World} {S : Nat → Prop} {ρ : List Nat} {ev : Operand → Value} {g : Operand → D} {lo : Option Operand} (h : ∀ x, lo = some x → RdD w S ρ (ev x) (g x)) :
    (∀ d, lo.map g = some d → ∃ v, lo.map ev = some v ∧ RdD w S ρ v d) ∧ (lo.map g = none → lo.map ev = none) := by
  cases lo with
  | none => exact ⟨(fun d hd => by cases hd), fun _ => rfl⟩
  | some x => exact ⟨(fun d hd => by cases hd; exact ⟨_, rfl, h x rfl⟩), (fun hd => by cases hd)⟩

theorem evalA_yields {o : Oper} {g : Operand → D} {h : List Box} {k : D → List Box → T} (hw : (evalA P o g h k).wp P C Qr Qo) :
    ∃ d h', Fr h h' ∧ YA P C o g d h' ∧ (k d h').wp P C Qr Qo := by
  unfold evalA at hw
  split at hw
  · rename_i x ho
    exact ⟨_, _, Fr.refl _, ya_pure fun h'' hf w0 S0 a w ρ ok hr => ⟨a.eval x, by simp [execOp, ho], hr x (by simp [ho, Op.operands])⟩, hw⟩
  · rename_i x ho
    exact ⟨_, _, Fr.refl _, ya_pure fun h'' hf w0 S0 a w ρ ok hr => ⟨a.eval x, by simp [execOp, ho], hr x (by simp [ho, Op.operands])⟩, hw⟩
  · rename_i c x y ho
    split at hw
    · rename_i t hg
      rcases of_br hw with ⟨e1, hw2⟩ | ⟨e1, hw2⟩ <;> subst e1 <;> clear hw
      · refine ⟨_, _, Fr.refl _, ya_pure fun h'' hf w0 S0 a w ρ ok hr => ⟨a.eval x, ?_, hr x (by simp [ho, Op.operands])⟩, hw2⟩
        have hc := hr c (by simp [ho, Op.operands])
        rw [hg] at hc
        simp [execOp, ho, hc.bool_inv, asBool]
      · refine ⟨_, _, Fr.refl _, ya_pure fun h'' hf w0 S0 a w ρ ok hr => ⟨a.eval y, ?_, hr y (by simp [ho, Op.operands])⟩, hw2⟩
        have hc := hr c (by simp [ho, Op.operands])
        rw [hg] at hc
        simp [execOp, ho, hc.bool_inv, asBool]
    · exact hw.elim
  · rename_i t parts ho
    obtain ⟨v, hv, hw⟩ := go1_wp hw
    refine ⟨_, _, Fr.refl _, ya_pure fun h'' hf w0 S0 a w ρ ok hr => ?_, hw⟩
    obtain ⟨u, h1, h2⟩ := build_run hv (w := w) (S := stab S0 ρ h'') (ρ := ρ) (ev := a.eval) (fun x hx => hr x.2 (by simp [ho, Op.operands]; exact ⟨x.1, by simpa using hx⟩))
    exact ⟨u, by simp only [execOp, ho, Sem.run_bind, h1, Result.andThen_ok, Sem.run_pure], .val h2⟩
  · rename_i t x ho
    obtain ⟨v, hv, hw⟩ := go1_wp hw
    refine ⟨_, _, Fr.refl _, ya_pure fun h'' hf w0 S0 a w ρ ok hr => ?_, hw⟩
    obtain ⟨u, h1, h2⟩ := load_any hf hv ok (hr x (by simp [ho, Op.operands]))
    exact ⟨u, by simp only [execOp, ho, Sem.run_bind, h1, Result.andThen_ok, Sem.run_pure], .val h2⟩
  · rename_i op xt x y yt ho
    split at hw
    · rename_i r hb
      obtain ⟨kd, n, m, hr', hm, hw2⟩ := goW_wp hw
      clear hw
      cases hr'
      refine ⟨_, _, Fr.refl _, ya_pure fun h'' hf w0 S0 a w ρ ok hr => ⟨.int kd m, ?_, .val .int⟩, hw2⟩
      have h1 := binW_run (P := P) (xt := xt) (xo := x) (yo := y) hb (hr x (by simp [ho, Op.operands])) (hr y (by simp [ho, Op.operands]))
      simp only [execOp, ho]
      rw [Sem.run_bind, h1, hm]
      rfl
    · obtain ⟨v, hv, hw⟩ := go1_wp hw
      refine ⟨_, _, Fr.refl _, ya_pure fun h'' hf w0 S0 a w ρ ok hr => ?_, hw⟩
      obtain ⟨u, h1, h2⟩ := bin_run (xo := x) (yo := y) hv (hr x (by simp [ho, Op.operands])) (hr y (by simp [ho, Op.operands]))
      refine ⟨u, ?_, .val h2⟩
      simp only [execOp, ho]
      rw [Sem.run_bind, h1]
      rfl
  · rename_i op t x ho
    split at hw
    · rename_i r hb
      obtain ⟨kd, n, m, hr', hm, hw2⟩ := goW_wp hw
      clear hw
      cases hr'
      refine ⟨_, _, Fr.refl _, ya_pure fun h'' hf w0 S0 a w ρ ok hr => ⟨.int kd m, ?_, .val .int⟩, hw2⟩
      have h1 := unW_run (P := P) hb (hr x (by simp [ho, Op.operands]))
      simp only [execOp, ho, Sem.run_bind, h1, hm, Result.andThen_ok, Sem.run_pure]
    · obtain ⟨v, hv, hw⟩ := go1_wp hw
      refine ⟨_, _, Fr.refl _, ya_pure fun h'' hf w0 S0 a w ρ ok hr => ?_, hw⟩
      obtain ⟨u, h1, h2⟩ := un_run (P := P) hv (hr x (by simp [ho, Op.operands]))
      exact ⟨u, by simp only [execOp, ho, Sem.run_bind, h1, Result.andThen_ok, Sem.run_pure], .val h2⟩
  · rename_i src dst x ho
    obtain ⟨kd, n, m, hr', hm, hw⟩ := goW_wp hw
    refine ⟨_, _, Fr.refl _, ya_pure fun h'' hf w0 S0 a w ρ ok hr => ⟨.int kd m, ?_, .val .int⟩, hw⟩
    have h1 := convW_run hr' (hr x (by simp [ho, Op.operands]))
    simp only [execOp, ho, Sem.run_bind, h1, hm, Result.andThen_ok, Sem.run_pure]
  · rename_i f first captured ho
    obtain ⟨he, hw⟩ := of_chk hw
    obtain ⟨v, hv, hw⟩ := go3_wp hw
    refine ⟨_, _, Fr.refl _, ya_pure fun h'' hf w0 S0 a w ρ ok hr => ?_, hw⟩
    have hfirst : first = #[] := by simpa using he
    have hcap : ∀ x ∈ captured.toList, RdD w (stab S0 ρ h'') ρ (a.eval x) (g x) := fun x hx => hr x (by simp [ho, Op.operands, hfirst]; simpa using hx)
    refine ⟨.func (.func f) #[] (captured.map a.eval), by simp [execOp, ho, Instr.makeFunc, hfirst], ?_⟩
    have e : captured.map a.eval = (captured.toList.map a.eval).toArray := by apply Array.ext'; simp
    rw [e]
    unfold makeFuncD at hv
    split at hv
    · rename_i vs hvs
      cases hv
      exact .val (.clos (caps_rd hcap hvs))
    · split at hv
      · rename_i cs hcs
        cases hv
        obtain ⟨h1, h2⟩ := owns_rd hcap hcs
        exact .clo h1 h2
      · cases hv
  · rename_i t x lo hi ho
    obtain ⟨v, hv, hw⟩ := go2_wp hw
    refine ⟨_, _, Fr.refl _, ya_pure fun h'' hf w0 S0 a w ρ ok hr => ?_, hw⟩
    obtain ⟨r1, r2⟩ := opt_rd (w := w) (S := stab S0 ρ h'') (ρ := ρ) (ev := a.eval) (g := g) (lo := lo) (fun y hy => hr y (by simp [ho, Op.operands, hy]))
    obtain ⟨r3, r4⟩ := opt_rd (w := w) (S := stab S0 ρ h'') (ρ := ρ) (ev := a.eval) (g := g) (lo := hi) (fun y hy => hr y (by simp [ho, Op.operands, hy]))
    obtain ⟨u, h1, h2⟩ := slice_run hv (hr x (by simp [ho, Op.operands])) r1 r2 r3 r4
    exact ⟨u, by simp only [execOp, ho, Sem.run_bind, Option.map_none, h1, Result.andThen_ok, Sem.run_pure], h2⟩
  · rename_i s x f ho
    obtain ⟨v, hv, hw⟩ := go3_wp hw
    refine ⟨_, _, Fr.refl _, ya_pure fun h'' hf w0 S0 a w ρ ok hr => ?_, hw⟩
    obtain ⟨u, h1, h2⟩ := fieldAddr_run hv (hr x (by simp [ho, Op.operands]))
    exact ⟨u, by simp only [execOp, ho, Sem.run_bind, h1, Result.andThen_ok, Sem.run_pure], h2⟩
  · rename_i s x f ho
    obtain ⟨v, hv, hw⟩ := go1_wp hw
    refine ⟨_, _, Fr.refl _, ya_pure fun h'' hf w0 S0 a w ρ ok hr => ?_, hw⟩
    obtain ⟨u, h1, h2⟩ := field_run hv (hr x (by simp [ho, Op.operands]))
    exact ⟨u, by simp only [execOp, ho, Sem.run_bind, h1, Result.andThen_ok, Sem.run_pure], .val h2⟩
  · rename_i t x i ho
    obtain ⟨v, hv, hw⟩ := go2_wp hw
    refine ⟨_, _, Fr.refl _, ya_pure fun h'' hf w0 S0 a w ρ ok hr => ?_, hw⟩
    obtain ⟨u, h1, h2⟩ := indexAddr_run hv (hr x (by simp [ho, Op.operands])) (hr i (by simp [ho, Op.operands]))
    exact ⟨u, by simp only [execOp, ho, Sem.run_bind, h1, Result.andThen_ok, Sem.run_pure], h2⟩
  · rename_i t x i ho
    obtain ⟨v, hv, hw⟩ := go1_wp hw
    refine ⟨_, _, Fr.refl _, ya_pure fun h'' hf w0 S0 a w ρ ok hr => ?_, hw⟩
    obtain ⟨u, h1, h2⟩ := index_run hv (hr x (by simp [ho, Op.operands])) (hr i (by simp [ho, Op.operands]))
    exact ⟨u, by simp only [execOp, ho, Sem.run_bind, h1, Result.andThen_ok, Sem.run_pure], .val h2⟩
  · rename_i x i ho
    split at hw
    · rename_i l hg
      obtain ⟨hb, hw⟩ := of_chk hw
      refine ⟨_, _, Fr.refl _, ya_pure fun h'' hf w0 S0 a w ρ ok hr => ?_, hw⟩
      have hx := hr x (by simp [ho, Op.operands])
      rw [hg] at hx
      obtain ⟨arr, ha, hl⟩ := hx.val_inv.tup_inv
      obtain ⟨u, hu, hru⟩ := hl.get (nth_lt .unk (blt_iff.1 hb))
      refine ⟨u, ?_, .val hru⟩
      have hu' : arr.toArray[i]? = some u := by simpa using hu
      simp [execOp, ho, ha, Instr.extract, hu']
    · exact hw.elim
  · rename_i c ho
    split at hw
    · rename_i fo hc
      split at hw
      · rename_i f caps hg
        refine call_ya ho hc (Fr.refl h) ?_ hw
        intro h'' hf w0 w S0 ρ v hS ok hv
        rw [hg] at hv
        have hv := hv.val_inv
        cases hv with
        | clos hl => exact ⟨_, rfl, hl⟩
      · rename_i f caps hg
        obtain ⟨hb, hw⟩ := of_chk hw
        refine call_ya ho hc (Fr.frz _ h) ?_ hw
        intro h'' hf w0 w S0 ρ v hS ok hv
        rw [hg] at hv
        have := toV_rd ((Fr.frz (caps.map (·.1)) h).trans hf) (d := .clo f caps) hb hS ok (fun b y hbm hy => by
          obtain ⟨z, hz, _, _, zf⟩ := hf.back hy
          exact zf (frz_frozen _ h b z hbm hz)) hv
        simp only [toV] at this
        cases this with
        | clos hl => exact ⟨_, rfl, hl⟩
      · exact hw.elim
    · rename_i hc
      split at hw
      · rename_i x t hargs hts
        split at hw
        · rename_i e hu
          split at hw
          · rename_i n hn
            refine ⟨_, _, Fr.refl _, ya_pure fun h'' hf w0 S0 a w ρ ok hr => ?_, hw⟩
            have ha : c.args = #[x] := by apply Array.ext'; simpa using hargs
            have ht : c.argTypes = #[t] := by apply Array.ext'; simpa using hts
            obtain ⟨ad, cap, hx⟩ := len_rd hn (hr x (by simp [ho, Op.operands, Call.operands, ha, hc]))
            refine ⟨.int .i64 n, ?_, .val .int⟩
            simp [execOp, ho, resolve, hc, ha, ht, invoke, builtin, Builtin.len_, run_under hu, hx, goInt]
          · exact hw.elim
        · rename_i n e hu
          refine ⟨_, _, Fr.refl _, ya_pure fun h'' hf w0 S0 a w ρ ok hr => ?_, hw⟩
          have ha : c.args = #[x] := by apply Array.ext'; simpa using hargs
          have ht : c.argTypes = #[t] := by apply Array.ext'; simpa using hts
          refine ⟨.int .i64 n, ?_, .val .int⟩
          simp [execOp, ho, resolve, hc, ha, ht, invoke, builtin, Builtin.len_, run_under hu, goInt]
        · exact hw.elim
      · exact hw.elim
    · rename_i hc
      split at hw
      · rename_i kd x r hargs
        obtain ⟨v, hv, hw⟩ := go1_wp hw
        refine ⟨_, _, Fr.refl _, ya_pure fun h'' hf w0 S0 a w ρ ok hr => ?_, hw⟩
        cases hl : c.args.toList with
        | nil => rw [hl] at hargs; cases hargs
        | cons y l =>
          rw [hl] at hargs
          simp only [List.map_cons, List.cons.injEq] at hargs
          obtain ⟨hy, rfl⟩ := hargs
          have hall : ∀ z ∈ c.args.toList, RdD w (stab S0 ρ h'') ρ (a.eval z) (g z) := fun z hz => hr z (by simp [ho, Op.operands, Call.operands, hc]; simpa using hz)
          have hy0 := hall y (by simp [hl])
          rw [hy] at hy0
          obtain ⟨n, rfl, hn⟩ := fold_max (P := P) (fun z hz => hall z (by simp [hl, hz])) hv
          refine ⟨.int kd n, ?_, .val .int⟩
          have e : (c.args.map a.eval).toList = a.eval y :: l.map a.eval := by simp [hl]
          simp only [execOp, ho, resolve, hc, Sem.run_bind, Sem.run_pure, Result.andThen_ok, invoke, builtin, Builtin.max_, e, hy0.int_inv, hn]
      · exact hw.elim
    · rename_i hc
      split at hw
      · rename_i kd x r hargs
        obtain ⟨v, hv, hw⟩ := go1_wp hw
        refine ⟨_, _, Fr.refl _, ya_pure fun h'' hf w0 S0 a w ρ ok hr => ?_, hw⟩
        cases hl : c.args.toList with
        | nil => rw [hl] at hargs; cases hargs
        | cons y l =>
          rw [hl] at hargs
          simp only [List.map_cons, List.cons.injEq] at hargs
          obtain ⟨hy, rfl⟩ := hargs
          have hall : ∀ z ∈ c.args.toList, RdD w (stab S0 ρ h'') ρ (a.eval z) (g z) := fun z hz => hr z (by simp [ho, Op.operands, Call.operands, hc]; simpa using hz)
          have hy0 := hall y (by simp [hl])
          rw [hy] at hy0
          obtain ⟨n, rfl, hn⟩ := fold_min (P := P) (fun z hz => hall z (by simp [hl, hz])) hv
          refine ⟨.int kd n, ?_, .val .int⟩
          have e : (c.args.map a.eval).toList = a.eval y :: l.map a.eval := by simp [hl]
          simp only [execOp, ho, resolve, hc, Sem.run_bind, Sem.run_pure, Result.andThen_ok, invoke, builtin, Builtin.min_, e, hy0.int_inv, hn]
      · exact hw.elim
    · exact hw.elim
  · exact hw.elim

end Go.Proofs.YtmbpoibhamlkbaaGreatDoor

namespace Go.Proofs.YtmbpoibhamlkbaaGreatDoor
open Go.RowKit
variable {P : Program} {C : World → Prop} {Qr : V → Prop} {Qo : Ex → St → Prop}

/-- what a step leaves -/
def Post (P : Program) (C : World → Prop) (Qr : V → Prop) (Qo : Ex → St → Prop) (w0 : Base) (S0 : Nat → Prop) (o : Oper) (a : Act) (w : World) (ρ : List Nat) (h : List Box) (k : D → List Box → T)
    (a' : Act) (w' : World) : Prop :=
  ∃ v d h' ρ', a' = a.put o.dst v ∧ OkH w0 S0 w' ρ' h' ∧ RdD w' (stab S0 ρ' h') ρ' v d ∧ (∀ u e, RdD w (stab S0 ρ h) ρ u e → RdD w' (stab S0 ρ' h') ρ' u e) ∧ (k d h').wp P C Qr Qo

theorem post_value {o : Oper} {a : Act} {w w' : World} {v : Value} {next : Act → World → Prop} {Q : Exit → Act → World → Prop} (h : (execOp a.eval o).run P w = .ok (.value v) w') (hn : next (a.put o.dst v) w') :
    o.wp P a w next Q := by unfold Oper.wp; rw [h]; exact hn
theorem post_skip {o : Oper} {a : Act} {w w' : World} {next : Act → World → Prop} {Q : Exit → Act → World → Prop} (h : (execOp a.eval o).run P w = .ok .skip w') (hn : next (a.put o.dst undef) w') :
    o.wp P a w next Q := by unfold Oper.wp; rw [h]; exact hn

/-- the world with one block more -/
def push (w : World) (vals : Array Value) (ty : TypeId) : World := { w with heap := w.heap.push (.cells vals ty (0, 0)) }

theorem get_snoc {α : Type} {l : List α} {x y : α} {i : Nat} (h : (l ++ [x])[i]? = some y) : l[i]? = some y ∨ (i = l.length ∧ y = x) := by
  rw [List.getElem?_append] at h
  split at h
  · exact .inl h
  · rename_i hi
    cases hj : i - l.length with
    | zero => rw [hj] at h; simp at h; exact .inr ⟨by omega, h.symm⟩
    | succ j => rw [hj] at h; simp at h

theorem get_snoc_of {α : Type} {l : List α} {x y : α} {i : Nat} (h : l[i]? = some y) : (l ++ [x])[i]? = some y := by
  have : i < l.length := by
    rcases Nat.lt_or_ge i l.length with q | q
    · exact q
    · rw [List.getElem?_eq_none q] at h; cases h
  rw [List.getElem?_append_left this]; exact h

theorem lt_of_get {α : Type} {l : List α} {i : Nat} {x : α} (h : l[i]? = some x) : i < l.length := by
  rcases Nat.lt_or_ge i l.length with q | q
  · exact q
  · rw [List.getElem?_eq_none q] at h; cases h

theorem push_block (w : World) (vals : Array Value) (ty : TypeId) {b : Nat} (hb : b < w.heap.size) : (push w vals ty).heap[b]? = w.heap[b]? := by
  show (w.heap.push _)[b]? = _
  rw [Array.getElem?_push, if_neg (by omega)]
theorem push_new (w : World) (vals : Array Value) (ty : TypeId) : (push w vals ty).heap[w.heap.size]? = some (.cells vals ty (0, 0)) := by
  show (w.heap.push _)[_]? = _
  rw [Array.getElem?_push, if_pos rfl]
theorem push_size (w : World) (vals : Array Value) (ty : TypeId) : (push w vals ty).heap.size = w.heap.size + 1 := by
  show (w.heap.push _).size = _
  simp

theorem push_below (w : World) (vals : Array Value) (ty : TypeId) : Below w.heap.size w (push w vals ty) :=
  ⟨rfl, rfl, rfl, by rw [push_size]; omega, fun _ hb => push_block w vals ty hb⟩

theorem lasts_push {w0 S0 w ρ h} (ok : OkH w0 S0 w ρ h) (vals : Array Value) (ty : TypeId) (cells : List V) :
    Lasts w (push w vals ty) (stab S0 ρ h) (stab S0 (ρ ++ [w.heap.size]) (newB h cells)) :=
  ⟨by rw [push_size]; omega, fun b hb hs => ⟨⟨hs.1, fun i x hx xa xf hi => by
    rcases get_snoc hx with hx | ⟨rfl, rfl⟩
    · rcases get_snoc hi with hi | ⟨rfl, hbe⟩
      · exact hs.2 i x hx xa xf hi
      · have := lt_of_get hx; have := ok.heap.len; omega
    · rcases get_snoc hi with hi | ⟨_, hbe⟩
      · have := lt_of_get hi; have := ok.heap.len; omega
      · omega⟩, push_block w vals ty hb⟩⟩

theorem push_ok {w0 S0 w ρ h} (ok : OkH w0 S0 w ρ h) {vals : Array Value} (ty : TypeId) {cells : List V} (hle : cells.length ≤ vals.size)
    (hr : RdL w (stab S0 ρ h) (vals.toList.take cells.length) cells) : OkH w0 S0 (push w vals ty) (ρ ++ [w.heap.size]) (newB h cells) := by
  have hb := push_below w vals ty
  have hl := lasts_push ok vals ty cells
  refine ⟨ok.below.step hb, ?_, ?_, ?_, ?_⟩
  · simp [newB, ok.heap.len]
  · intro i β hi
    rw [push_size]
    rcases get_snoc hi with hi | ⟨_, rfl⟩
    · exact ⟨(ok.heap.low i β hi).1, by have := (ok.heap.low i β hi).2; omega⟩
    · exact ⟨.inl ok.below.size, by omega⟩
  · intro i j x y β hx hy xa ya hi hj
    have hlen := ok.heap.len
    rcases get_snoc hi with hi | ⟨rfl, rfl⟩ <;> rcases get_snoc hj with hj | ⟨rfl, hβ⟩
    · rcases get_snoc hx with hx | ⟨rfl, _⟩
      · rcases get_snoc hy with hy | ⟨rfl, _⟩
        · exact ok.heap.inj i j x y β hx hy xa ya hi hj
        · have := lt_of_get hj; omega
      · have := lt_of_get hi; omega
    · have := (ok.heap.low i β hi).2; omega
    · have := (ok.heap.low j _ hj).2; omega
    · rfl
  · intro i x β hx xa hi
    have hlen := ok.heap.len
    rcases get_snoc hi with hi | ⟨rfl, rfl⟩
    · rcases get_snoc hx with hx | ⟨rfl, _⟩
      · obtain ⟨vs, t, h1, h2, h3⟩ := ok.heap.box i x β hx xa hi
        exact ⟨vs, t, (push_block w vals ty (ok.heap.low i β hi).2).trans h1, h2, h3.lasts hl⟩
      · have := lt_of_get hi; omega
    · rcases get_snoc hx with hx | ⟨_, rfl⟩
      · have := lt_of_get hx; omega
      · exact ⟨vals, ty, push_new w vals ty, hle, hr.lasts hl⟩

theorem push_keeps {w0 S0 w ρ h} (ok : OkH w0 S0 w ρ h) (vals : Array Value) (ty : TypeId) (cells : List V) :
    ∀ u e, RdD w (stab S0 ρ h) ρ u e → RdD (push w vals ty) (stab S0 (ρ ++ [w.heap.size]) (newB h cells)) (ρ ++ [w.heap.size]) u e := fun _ _ hr =>
  hr.lasts (lasts_push ok vals ty cells) (Below.shapes (push_below w vals ty)) (fun _ _ hi => get_snoc_of hi)

theorem push_own {w0 S0 w ρ h} (ok : OkH w0 S0 w ρ h) : (ρ ++ [w.heap.size])[h.length]? = some w.heap.size := by
  rw [← ok.heap.len]; simp

theorem push_post {w0 S0 w ρ h} (ok : OkH w0 S0 w ρ h) {o : Oper} {a : Act} {k : D → List Box → T} {vals : Array Value} {ty : TypeId} {cells : List V} (hle : cells.length ≤ vals.size)
    (hr : RdL w (stab S0 ρ h) (vals.toList.take cells.length) cells) {v : Value} {d : D} (hv : RdD (push w vals ty) (stab S0 (ρ ++ [w.heap.size]) (newB h cells)) (ρ ++ [w.heap.size]) v d)
    (hw : (k d (newB h cells)).wp P C Qr Qo) : Post P C Qr Qo w0 S0 o a w ρ h k (a.put o.dst v) (push w vals ty) :=
  ⟨v, d, newB h cells, ρ ++ [w.heap.size], rfl, push_ok ok ty hle hr, hv, push_keeps ok vals ty cells, hw⟩

/-! ### stores -/
theorem setCells_heap (β : Nat) : ∀ (vs : List Value) (off : Nat) (w : World) (vals : Array Value) (ty : TypeId) (fr : Nat × Nat), w.heap[β]? = some (.cells vals ty fr) →
    ∃ vals', (w.setCells β off vs).heap[β]? = some (.cells vals' ty fr) ∧ vals'.toList = spliceW vals.toList off vs
  | [], off, w, vals, ty, fr, h => ⟨vals, h, rfl⟩
  | v :: vs, off, w, vals, ty, fr, h => by
    have h1 : (w.setCell ⟨β, off, none⟩ v).heap[β]? = some (.cells (vals.setIfInBounds off v) ty fr) := by
      show (w.heap.modify β _)[β]? = _
      rw [Array.getElem?_modify, if_pos rfl, h]
      rfl
    obtain ⟨vals', h2, h3⟩ := setCells_heap β vs (off + 1) _ _ ty fr h1
    exact ⟨vals', h2, by rw [h3]; simp [spliceW]⟩

theorem setCells_other (β : Nat) : ∀ (vs : List Value) (off : Nat) (w : World) (b : Nat), b ≠ β → (w.setCells β off vs).heap[b]? = w.heap[b]?
  | [], _, _, _, _ => rfl
  | v :: vs, off, w, b, h => by
    rw [World.setCells, setCells_other β vs _ _ b h]
    exact Below.heap_setCell w ⟨β, off, none⟩ v b h

theorem setCells_size (β : Nat) : ∀ (vs : List Value) (off : Nat) (w : World), (w.setCells β off vs).heap.size = w.heap.size
  | [], _, _ => rfl
  | v :: vs, off, w => by rw [World.setCells, setCells_size β vs]; simp [World.setCell]

theorem setCells_rest (β : Nat) : ∀ (vs : List Value) (off : Nat) (w : World), (w.setCells β off vs).os = w.os ∧ (w.setCells β off vs).tape = w.tape ∧ (w.setCells β off vs).output = w.output
  | [], _, _ => ⟨rfl, rfl, rfl⟩
  | v :: vs, off, w => by rw [World.setCells]; exact setCells_rest β vs _ _

theorem spliceW_len : ∀ (vs c : List Value) (off : Nat), (spliceW c off vs).length = c.length
  | [], _, _ => rfl
  | v :: vs, c, off => by rw [spliceW, spliceW_len vs]; simp
theorem splice_len : ∀ (vs c : List V) (off : Nat), (splice c off vs).length = c.length
  | [], _, _ => rfl
  | v :: vs, c, off => by rw [splice, splice_len vs]; simp
theorem spliceW_take : ∀ (vs c : List Value) (off n : Nat), (spliceW c off vs).take n = spliceW (c.take n) off vs
  | [], _, _, _ => rfl
  | v :: vs, c, off, n => by rw [spliceW, spliceW, spliceW_take vs, List.take_set]

theorem cell_one {w : World} {S : Nat → Prop} {u : Value} {v : V} (h : Rd w S u v) (hc : isCell v = true) : u.oneCell' = true := by
  cases h <;> first | rfl | (simp [isCell] at hc)

theorem cells_one {w : World} {S : Nat → Prop} {us : List Value} {vs : List V} (h : RdL w S us vs) (hc : vs.all isCell = true) : ∀ u ∈ us, u.oneCell' = true := by
  intro u hu
  obtain ⟨i, hi⟩ := List.mem_iff_getElem?.1 hu
  obtain ⟨x, hx, hr⟩ := h.get' hi
  exact cell_one hr (List.all_eq_true.1 hc x (List.mem_of_getElem? hx))

theorem cells_of {w : World} {S : Nat → Prop} {u : Value} {v : V} (h : Rd w S u v) (hc : (cellsV v).all isCell = true) : RdL w S u.cells.toList (cellsV v) := by
  refine cells_rd h ?_
  cases v <;> first | rfl | (simp [cellsV, isCell] at hc)

/-- a box's cells are changed: its block in memory, too -/
theorem store_ok {w0 S0 w w' ρ h} (ok : OkH w0 S0 w ρ h) {b β : Nat} (ha : (bx h b).alive = true) (hfz : (bx h b).frozen = false) (hβ : ρ[b]? = some β) {cells : List V}
    (hos : w'.os = w.os) (htape : w'.tape = w.tape) (hout : w'.output = w.output) (hsz : w'.heap.size = w.heap.size) (hoth : ∀ c, c ≠ β → w'.heap[c]? = w.heap[c]?)
    (hshp : ∀ c e n, w.shape? c = some (e, n) → w'.shape? c = some (e, n))
    {vals' : Array Value} {ty : TypeId} (hnew : w'.heap[β]? = some (.cells vals' ty (0, 0))) (hle : cells.length ≤ vals'.size) (hr : RdL w (stab S0 ρ h) (vals'.toList.take cells.length) cells) :
    OkH w0 S0 w' ρ (setBox h b ⟨true, false, cells⟩) ∧ Lasts w w' (stab S0 ρ h) (stab S0 ρ (setBox h b ⟨true, false, cells⟩)) := by
  have hx := bx_get ha
  have hbl : b < h.length := lt_of_get hx
  have hst : ∀ c, stab S0 ρ h c → stab S0 ρ (setBox h b ⟨true, false, cells⟩) c := fun c hc => ⟨hc.1, fun i x hi xa xf hic => by
    simp only [setBox, List.getElem?_set] at hi
    split at hi
    · rename_i he
      subst he
      exact hc.2 b _ hx ha hfz hic
    · exact hc.2 i x hi xa xf hic⟩
  have hl : Lasts w w' (stab S0 ρ h) (stab S0 ρ (setBox h b ⟨true, false, cells⟩)) := ⟨by omega, fun c _ hs => ⟨hst c hs, hoth c (fun e => hs.2 b _ hx ha hfz (e ▸ hβ))⟩⟩
  have hlow := ok.heap.low b β hβ
  refine ⟨⟨⟨hos.trans ok.below.os, htape.trans ok.below.tape, hout.trans ok.below.output, by rw [hsz]; exact ok.below.size, fun c hc hx => (hoth c (fun e => hlow.1.elim (fun q => by omega) (fun q => hx (e ▸ q)))).trans (ok.below.block c hc hx), fun c e n q => hshp c e n (ok.below.shape c e n q)⟩, ?_, ?_, ?_, ?_⟩, hl⟩
  · simp [setBox, ok.heap.len]
  · intro i γ hi; rw [hsz]; exact ok.heap.low i γ hi
  · intro i j x y γ hi hj xa ya gi gj
    have back : ∀ (i : Nat) (x : Box), (setBox h b ⟨true, false, cells⟩)[i]? = some x → x.alive = true → ∃ z : Box, h[i]? = some z ∧ z.alive = true := by
      intro i x hi xa
      simp only [setBox, List.getElem?_set] at hi
      split at hi
      · rename_i he; subst he; exact ⟨_, hx, ha⟩
      · exact ⟨x, hi, xa⟩
    obtain ⟨x', hx', xa'⟩ := back i x hi xa
    obtain ⟨y', hy', ya'⟩ := back j y hj ya
    exact ok.heap.inj i j x' y' γ hx' hy' xa' ya' gi gj
  · intro i x γ hi xa gi
    simp only [setBox, List.getElem?_set] at hi
    split at hi
    · rename_i he
      subst he
      try rw [if_pos hbl] at hi
      cases hi
      rw [hβ] at gi
      cases gi
      exact ⟨vals', ty, hnew, hle, hr.lasts hl⟩
    · rename_i hne
      obtain ⟨vs, t, h1, h2, h3⟩ := ok.heap.box i x γ hi xa gi
      refine ⟨vs, t, (hoth γ ?_).trans h1, h2, h3.lasts hl⟩
      intro e
      subst e
      exact hne (ok.heap.inj b i _ x γ hx hi ha xa hβ gi)

theorem shape_of_cells {w : World} {b : Nat} {vals : Array Value} {ty : TypeId} {fr : Nat × Nat} (h : w.heap[b]? = some (.cells vals ty fr)) : w.shape? b = some (ty, vals.size) := by
  simp [World.shape?, h]

theorem store_sound {w0 S0 w ρ h} (ok : OkH w0 S0 w ρ h) {t : TypeId} {da dx : D} {h' : List Box} (hs : storeH P t h da dx = some (true, h')) {va vx : Value}
    (ra : RdD w (stab S0 ρ h) ρ va da) (rx : RdD w (stab S0 ρ h) ρ vx dx) :
    ∃ w', (Instr.storeAt t va vx).run P w = .ok () w' ∧ OkH w0 S0 w' ρ h' ∧ (∀ u e, RdD w (stab S0 ρ h) ρ u e → RdD w' (stab S0 ρ h') ρ u e) ∧
      (∀ c, (∀ b off, da = .own b off → ρ[b]? ≠ some c) → w'.heap[c]? = w.heap[c]?) ∧ w'.heap.size = w.heap.size := by
  unfold storeH at hs
  split at hs
  · rename_i b off v
    obtain ⟨hc, hs⟩ := cond_some hs
    simp only [Bool.and_eq_true, Bool.not_eq_true', Nat.beq_eq] at hc
    obtain ⟨⟨⟨⟨ha, hfz⟩, hpos⟩, hlen⟩, hall⟩ := hc
    simp only [Option.some.injEq, Prod.mk.injEq, Nat.ble_eq] at hs
    obtain ⟨hle, rfl⟩ := hs
    obtain ⟨β, hβ, rfl⟩ := ra.own_inv
    have hus := cells_of rx.val_inv hall
    obtain ⟨vals, ty, hb1, hb2, hb3⟩ := ok.heap.box b _ β (bx_get ha) ha hβ
    have hul : vx.cells.toList.length = (cellsV v).length := hus.length
    have hrun : (Instr.storeAt t (.pointer (some ⟨β, off, none⟩)) vx).run P w = .ok () (w.setCells β off vx.cells.toList) := by
      have := run_storeCells_cells (P := P) β off vx.cells.toList 0 w
        (fun j hj => by
          have hlt : off + j < vals.size := by omega
          simp [World.cell?, hb1, Array.getElem?_eq_getElem hlt])
        (fun j hj => by simp [World.frozen?, hb1]) (cells_one hus hall)
      simp only [Nat.add_zero] at this
      simp only [Instr.storeAt, Instr.sureAddr, Sem.run_bind, Sem.run_pure, Result.andThen_ok, storeVar, run_sizeOf (P := P) (t := t) rfl (blt_iff.1 hpos)]
      have hsz : vx.cells.size = sizeT P t := by have := hul; simp at this; omega
      rw [if_neg (by omega)]
      exact this
    obtain ⟨vals', hv1, hv2⟩ := setCells_heap β vx.cells.toList off w vals ty (0, 0) hb1
    have hvs : vals'.size = vals.size := by
      have := spliceW_len vx.cells.toList vals.toList off
      rw [← hv2] at this
      simpa using this
    obtain ⟨q1, q2, q3⟩ := setCells_rest β vx.cells.toList off w
    have hshp : ∀ c e n, w.shape? c = some (e, n) → (w.setCells β off vx.cells.toList).shape? c = some (e, n) := by
      intro c e n hsh
      by_cases hc : c = β
      · subst hc
        rw [shape_of_cells hb1] at hsh
        rw [shape_of_cells hv1, hvs]
        exact hsh
      · simpa [World.shape?, setCells_other β _ _ _ c hc] using hsh
    obtain ⟨ok', hl⟩ := store_ok ok ha hfz hβ (w' := w.setCells β off vx.cells.toList) (cells := splice (bx h b).cells off (cellsV v)) q1 q2 q3 (setCells_size β _ _ _)
      (fun c hc => setCells_other β _ _ _ c hc) hshp hv1 (by rw [splice_len, hvs]; exact hb2) (by rw [splice_len, hv2, spliceW_take]; exact splice_rd hb3 hus)
    refine ⟨_, hrun, ok', fun u e hr => hr.lasts hl hshp (fun _ _ q => q), fun c hc => setCells_other β _ _ _ c (fun e => hc b off rfl (e ▸ hβ)), setCells_size β _ _ _⟩
  · cases hs

end Go.Proofs.YtmbpoibhamlkbaaGreatDoor

namespace Go.Proofs.YtmbpoibhamlkbaaGreatDoor
open Go.RowKit
variable {P : Program} {C : World → Prop} {Qr : V → Prop} {Qo : Ex → St → Prop}

theorem elemT_of {t e : TypeId} {sz : Nat} {zs : List V} (h : elemT P t = some (e, sz, zs)) : P.underlying t = some (.slice e) ∧ zeroV P e = some zs ∧ zs.length = sz ∧ sizeT P e = sz ∧ 0 < sz ∧ P.bytesOf e ≤ 1000 := by
  unfold elemT at h
  split at h
  · rename_i e' hu
    split at h
    · rename_i zs' hz
      obtain ⟨hb, h⟩ := cond_some h
      simp only [Bool.and_eq_true, Nat.beq_eq, Nat.ble_eq] at hb
      obtain ⟨⟨h1, h2⟩, h3⟩ := hb
      have h2 := blt_iff.1 h2
      simp only [Option.some.injEq, Prod.mk.injEq] at h
      obtain ⟨rfl, rfl, rfl⟩ := h
      exact ⟨hu, hz, h1, rfl, h2, h3⟩
    · cases h
  · cases h

theorem flat_get {α : Type} (zs : List α) : ∀ (n i : Nat), i < n * zs.length → (List.replicate n zs).flatten[i]? = zs[i % zs.length]?
  | 0, i, h => by simp at h
  | n + 1, i, h => by
    rw [List.replicate_succ, List.flatten_cons, List.getElem?_append]
    split
    · rename_i hi; rw [Nat.mod_eq_of_lt hi]
    · rename_i hi
      have hlen : zs.length ≤ i := Nat.le_of_not_lt hi
      rw [Nat.add_mul, Nat.one_mul] at h
      rw [flat_get zs n (i - zs.length) (by omega), Nat.mod_eq_sub_mod hlen]

theorem zrep_len (n : Nat) (zs : List V) : (zrep n zs).length = n * zs.length := by
  unfold zrep
  split
  · simp
  · simp

theorem zrep_get (n : Nat) (zs : List V) (i : Nat) (h : i < n * zs.length) : (zrep n zs)[i]? = zs[i % zs.length]? := by
  unfold zrep
  split
  · rename_i z
    simp at h
    simp [h, Nat.mod_one]
  · exact flat_get _ n i h

theorem rep_rd {w : World} {S : Nat → Prop} {sz : Nat} (z : Value) (n : Nat) (hz : z.cells.size = sz) (hpos : 0 < sz) :
    RdL w S ((Array.range (n * sz)).map (fun i => z.cells[i % z.cells.size]!)).toList (zrep n (z.cells.toList.map cellV)) := by
  refine RdL.mk (by simp [zrep_len, hz]) fun i v x hv hx => ?_
  have hi : i < n * sz := by have := lt_of_get hv; simpa using this
  rw [zrep_get _ _ _ (by simpa [hz] using hi)] at hx
  have hm : i % sz < sz := Nat.mod_lt _ hpos
  have hm' : i % sz < z.cells.size := by omega
  rw [List.length_map, Array.length_toList, hz, List.getElem?_map, Array.getElem?_toList, Array.getElem?_eq_getElem hm'] at hx
  cases hx
  rw [Array.getElem?_toList, Array.getElem?_map, Array.getElem?_range, if_pos hi, hz] at hv
  simp only [Option.map_some, Option.some.injEq] at hv
  rw [getElem!_pos z.cells (i % sz) hm'] at hv
  subst hv
  exact zero_rd _

theorem wrap_small {n : Int} (h0 : 0 ≤ n) (h1 : n ≤ 1073741824) : IntKind.i64.wrap n = n := by
  unfold IntKind.wrap
  simp [IntKind.bits, IntKind.signed]
  omega

theorem make_run {t e : TypeId} {sz : Nat} {zs : List V} (h : elemT P t = some (e, sz, zs)) {n : Int} {k k' : IntKind} (h0 : 0 ≤ n) (h1 : n ≤ 1073741824) (w : World) :
    ∃ z : Value, zs = z.cells.toList.map cellV ∧ z.cells.size = sz ∧
      (Instr.makeSlice t (.int k n) (.int k' n)).run P w = .ok (.slice (some ⟨w.heap.size, 0, none⟩) n.toNat n.toNat) (push w ((Array.range (n.toNat * sz)).map (fun i => z.cells[i % z.cells.size]!)) e) := by
  obtain ⟨hu, hz, hl, hs, hpos, hb⟩ := elemT_of h
  obtain ⟨z, hz1, rfl, i, hi, hiz⟩ := zeroV_run hz w
  refine ⟨z, rfl, by simpa using hl, ?_⟩
  have hbi : i.bytes = P.bytesOf e := by simp [Program.bytesOf, hi]
  have hw := wrap_small h0 h1
  have hprod : (i.bytes : Int) * n ≤ 1000 * 1073741824 := by
    rw [hbi]
    have this : (P.bytesOf e : Int) ≤ 1000 := by omega
    have h3 : (P.bytesOf e : Int) * n ≤ 1000 * n := Int.mul_le_mul_of_nonneg_right this h0
    omega
  unfold Instr.makeSlice
  simp only [Sem.run_bind, run_under hu, Result.andThen_ok, asInt, asIntOf, Sem.run_pure, typeInfo, run_program, hi, hw]
  have ht : ¬ ((decide (n < 0) || decide ((i.bytes : Int) * n > 2 ^ 48)) || decide (n < 0) || decide (n > n)) = true := by
    simp only [Bool.or_eq_true, decide_eq_true_eq, not_or]
    omega
  rw [if_neg ht]
  simp only [Sem.run_bind, run_askRoom, Result.andThen_ok, run_sizeOf hs hpos]
  by_cases hn : n.toNat * sz = 0
  · rw [if_pos hn]
    simp only [Sem.run_bind, Sem.run_pure, Result.andThen_ok, newRow, run_newObj]
    rw [hn]
    have h0 : ∀ f : Nat → Value, (Array.range 0).map f = #[] := fun f => by apply Array.ext'; simp
    rw [h0, h0]
    rfl
  · rw [if_neg hn]
    simp only [Sem.run_bind, hz1, Sem.run_pure, Result.andThen_ok, newRow, run_newObj]
    rfl

theorem buildSlice_run {t : TypeId} {len sz : Nat} {cells : List V} {parts : Array (Nat × Operand)} {g : Operand → D} (h : buildSliceV P t len (parts.toList.map fun p => (p.1, g p.2)) = some (sz, cells)) {w : World} {S : Nat → Prop}
    {ρ : List Nat} {ev : Operand → Value} (hx : ∀ x ∈ parts.toList, RdD w S ρ (ev x.2) (g x.2)) :
    ∃ (vals : Array Value) (e : TypeId), (Instr.buildSlice t len (parts.map fun (i, x) => (i, ev x))).run P w = .ok (.slice (some ⟨w.heap.size, 0, none⟩) len len) (push w vals e) ∧ RdL w S vals.toList cells ∧ cells.length = len * sz := by
  unfold buildSliceV at h
  split at h
  · rename_i e sz' zs ps he hp
    obtain ⟨hb, h⟩ := cond_some h
    rw [Nat.ble_eq] at hb
    split at h
    · rename_i l hf
      simp only [Option.some.injEq, Prod.mk.injEq] at h
      obtain ⟨rfl, rfl⟩ := h
      obtain ⟨hu, hz, hl, hs, hpos, _⟩ := elemT_of he
      obtain ⟨z, hz1, rfl, i, hi, hiz⟩ := zeroV_run hz w
      have hzs : z.cells.size = sz' := by simpa using hl
      have hps := vals_rd hx hp
      obtain ⟨cells', h1, h2⟩ := fill_run (fun i => some (i * sz', sz')) (cells := (Array.range (len * sz')).map (fun i => z.cells[i % z.cells.size]!)) (rep_rd z len hzs hpos) hps hf
      have ep : (parts.map fun (i, x) => (i, ev x)).toList = parts.toList.map fun p => (p.1, ev p.2) := by simp
      have hlen : l.length = len * sz' := by
        have : ∀ (place : Nat → Option (Nat × Nat)) (ps : List (Nat × V)) (zs l : List V), fillV place zs ps = some l → l.length = zs.length := by
          intro place ps
          induction ps with
          | nil => intro zs l h; cases h; rfl
          | cons p ps ih =>
            obtain ⟨i, v⟩ := p
            intro zs l h
            unfold fillV at h
            split at h
            · cases h
            · obtain ⟨_, h⟩ := cond_some h
              rw [ih _ _ h, splice_len]
        rw [this _ _ _ _ hf, zrep_len]
        simp [hzs]
      refine ⟨cells', e, ?_, h2, hlen⟩
      unfold Instr.buildSlice
      simp only [Sem.run_bind, run_under hu, Result.andThen_ok, run_sizeOf hs hpos]
      rw [if_neg (by omega)]
      by_cases hn : len * sz' = 0
      · rw [if_pos hn]
        simp only [Sem.run_bind, Sem.run_pure, Result.andThen_ok]
        have e0 : ((Array.range (len * sz')).map (fun i => z.cells[i % z.cells.size]!)) = (Array.range (len * sz')).map (fun i => (#[] : Array Value)[i % (#[] : Array Value).size]!) := by rw [hn]; simp
        rw [e0] at h1
        rw [ep, h1]
        simp only [Sem.run_bind, newRow, run_newObj, Sem.run_pure, Result.andThen_ok]
        rfl
      · rw [if_neg hn]
        simp only [Sem.run_bind, hz1, Sem.run_pure, Result.andThen_ok]
        rw [ep, h1]
        simp only [Sem.run_bind, newRow, run_newObj, Sem.run_pure, Result.andThen_ok]
        rfl
    · cases h
  · cases h

end Go.Proofs.YtmbpoibhamlkbaaGreatDoor

namespace Go.Proofs.YtmbpoibhamlkbaaGreatDoor
open Go.RowKit
variable {P : Program} {C : World → Prop} {Qr : V → Prop} {Qo : Ex → St → Prop}

/-- the cells of what is appended -/
theorem src_run {w0 S0 w ρ h} (ok : OkH w0 S0 w ρ h) {dx : D} {c : List V} {n sz : Nat} (hc : srcV h dx = some c) (hn : lenD dx = some n) (hs : srcOk h sz dx = true) {x : Value} (hx : RdD w (stab S0 ρ h) ρ x dx) :
    ∃ (a : Option Addr) (cap : Nat) (us : List Value), x = .slice a n cap ∧ RdL w (stab S0 ρ h) us c ∧ c.length = n * sz ∧
      ∀ w1 : World, w1.heap = w.heap → (Builtin.firstCells sz n x).run P w1 = .ok us.toArray w1 := by
  unfold srcV at hc
  split at hc
  · cases hc
    cases hn
    have := hx.val_inv
    cases this
    exact ⟨none, 0, [], rfl, .nil, by simp, fun w1 _ => rfl⟩
  · rename_i s cells
    cases hc
    simp only [srcOk, Nat.beq_eq] at hs
    subst hs
    obtain ⟨hpos, rfl⟩ := lenD_sl hn
    have := hx.val_inv
    cases this with
    | nilsl =>
      have e0 : slen s ([] : List V) = 0 := slen_eq hpos (by simp)
      rw [e0]
      exact ⟨none, 0, [], rfl, .nil, by simp, fun w1 _ => rfl⟩
    | sl g1 g2 g3 g4 g5 g6 =>
      rename_i b o m cap vals
      rw [slen_eq hpos g4]
      refine ⟨_, cap, vals, rfl, g5, g4, fun w1 hw1 => ?_⟩
      have := run_loadCells_list (P := P) w1 ⟨b, o, none⟩ vals (fun j v hv => by
        rw [Addr.add_mid]
        have := g6 j v hv
        unfold World.cell? at this ⊢
        rw [hw1]; exact this)
      unfold Builtin.firstCells
      rw [← g4, ← g5.length]
      exact this
  · rename_i b off len s
    obtain ⟨ha, hc⟩ := cond_some hc
    cases hc
    cases hn
    simp only [srcOk, Bool.and_eq_true, Nat.beq_eq, Nat.ble_eq, mul_cond] at hs
    obtain ⟨rfl, hle⟩ := hs
    cases hx with
    | osl hβ hlc hsh hcap =>
      rename_i β cap e k
      obtain ⟨vals, h1, h2⟩ := ok.cells ha hβ
      have hlen := h1.length
      simp only [mul_cond]
      have hl2 : ((vals.drop off).take (n * s)).length = n * s := by rw [List.length_take, List.length_drop]; omega
      refine ⟨_, cap, (vals.drop off).take (n * s), rfl, (h1.drop off).take _, by rw [List.length_take, List.length_drop]; omega, fun w1 hw1 => ?_⟩
      have := run_loadCells_list (P := P) w1 ⟨β, off, none⟩ ((vals.drop off).take (n * s)) (fun j v hv => by
        rw [Addr.add_mid]
        rw [List.getElem?_take] at hv
        split at hv
        · rw [List.getElem?_drop] at hv
          have := (h2 _ _ hv).1
          unfold World.cell? at this ⊢
          rw [hw1]; exact this
        · cases hv)
      unfold Builtin.firstCells
      rw [hl2] at this
      exact this
  · cases hc

/-- append within the capacity -/
theorem append_fits {t e : TypeId} {sz : Nat} {zs : List V} (he : elemT P t = some (e, sz, zs)) {ty : TypeId} {β len cap n : Nat} {a : Option Addr} {xcap : Nat}
    {us : List Value} {w : World} (hf : (Builtin.firstCells sz n (.slice a n xcap)).run P w = .ok us.toArray w) (hfit : len + n ≤ cap)
    (hst : (storeCells ⟨β, len * sz, none⟩ us).run P w = .ok () (w.setCells β (len * sz) us)) :
    (Builtin.append_ #[t, t] ty #[.slice (some ⟨β, 0, none⟩) len cap, .slice a n xcap]).run P w = .ok (.slice (some ⟨β, 0, none⟩) (len + n) cap) (w.setCells β (len * sz) us) := by
  obtain ⟨hu, hz, hl, hs, hpos, hb⟩ := elemT_of he
  simp [Builtin.append_, run_under hu, run_sizeOf hs hpos, Builtin.lenOf, hfit, hf, Addr.add_mid, hst]

/-- append beyond the capacity: a new block -/
theorem append_grows {t e : TypeId} {sz : Nat} {zs : List V} (he : elemT P t = some (e, sz, zs)) {ty : TypeId} {base a : Option Addr} {len cap n xcap : Nat}
    {us os : List Value} {w : World} (hf : ∀ w1 : World, w1.heap = w.heap → (Builtin.firstCells sz n (.slice a n xcap)).run P w1 = .ok us.toArray w1)
    (ho : ∀ w1 : World, w1.heap = w.heap → (Builtin.firstCells sz len (.slice base len cap)).run P w1 = .ok os.toArray w1) (hg : cap < len + n) (hsm : len + n ≤ 1073741824) :
    ∃ (newCap : Nat) (rest : List Value), len + n ≤ newCap ∧ rest.length = (newCap - (len + n)) * sz ∧
      (Builtin.append_ #[t, t] ty #[.slice base len cap, .slice a n xcap]).run P w = .ok (.slice (some ⟨w.heap.size, 0, none⟩) (len + n) newCap) (push w.drew (os ++ us ++ rest).toArray e) := by
  obtain ⟨hu, hz, hl, hs, hpos, hb⟩ := elemT_of he
  obtain ⟨z, hz1, rfl, i, hi, hiz⟩ := zeroV_run hz w
  have hzs : z.cells.size = sz := by simpa using hl
  have hbi : i.bytes = P.bytesOf e := by simp [Program.bytesOf, hi]
  have hsi : i.size = sz := by rw [← hs]; simp [sizeT, Program.cellsOf, hi]
  refine ⟨grownCap w (len + n) cap e, (Builtin.zeroCells z.cells (grownCap w (len + n) cap e - (len + n))).toList, grownCap_ge _ _ _ _, by simp [size_zeroCells, hzs], ?_⟩
  have h1 : ¬ (len + n ≤ cap) := by omega
  have h2 : ¬ ((9223372036854775807 : Int) < (len : Int) + (n : Int)) := by omega
  have hfit : Builtin.nextslicecap (len + n) cap * i.bytes ≤ 281474976710656 := growslice_fits hg (by
    rw [hbi]
    have : (len + n) * P.bytesOf e ≤ 1073741824 * 1000 := Nat.mul_le_mul hsm hb
    omega)
  have h3 : ¬ (281474976710656 < Builtin.nextslicecap (len + n) cap * i.bytes) := by omega
  have hf' := hf w.drew rfl
  have ho' := ho w.drew rfl
  simp [Builtin.append_, run_under hu, sizeOf, typeInfo, zeroValue, hi, hiz, hsi, Builtin.lenOf, h1, h2, h3, Question.forced, hf', ho', newRow, grownCap]
  show push w.drew _ e = push w.drew _ e
  congr 1
  apply Array.ext'
  simp

theorem take_splice : ∀ (us vals : List Value) (off : Nat), off + us.length ≤ vals.length → (spliceW vals off us).take (off + us.length) = vals.take off ++ us
  | [], vals, off, _ => by simp [spliceW]
  | u :: us, vals, off, h => by
    simp only [List.length_cons] at h
    rw [spliceW, show off + (u :: us).length = (off + 1) + us.length by simp; omega, take_splice us (vals.set off u) (off + 1) (by simp; omega)]
    rw [List.take_succ_eq_append_getElem (by simp; omega)]
    simp [List.take_set_of_le]

/-- a box dies -/
theorem kill_ok {w0 S0 w ρ h} (ok : OkH w0 S0 w ρ h) (b : Nat) : OkH w0 S0 w ρ (setBox h b ⟨false, false, []⟩) ∧ (∀ c, stab S0 ρ h c → stab S0 ρ (setBox h b ⟨false, false, []⟩) c) := by
  have hst : ∀ c, stab S0 ρ h c → stab S0 ρ (setBox h b ⟨false, false, []⟩) c := fun c hc => ⟨hc.1, fun i x hi xa xf hic => by
    simp only [setBox, List.getElem?_set] at hi
    split at hi
    · split at hi
      · cases hi; cases xa
      · cases hi
    · exact hc.2 i x hi xa xf hic⟩
  have back : ∀ (i : Nat) (x : Box), (setBox h b ⟨false, false, []⟩)[i]? = some x → x.alive = true → h[i]? = some x := by
    intro i x hi xa
    simp only [setBox, List.getElem?_set] at hi
    split at hi
    · split at hi
      · cases hi; cases xa
      · cases hi
    · exact hi
  refine ⟨⟨ok.below, ?_, ok.heap.low, ?_, ?_⟩, hst⟩
  · simp [setBox, ok.heap.len]
  · intro i j x y β hi hj xa ya gi gj
    exact ok.heap.inj i j x y β (back i x hi xa) (back j y hj ya) xa ya gi gj
  · intro i x β hi xa gi
    obtain ⟨vs, t, h1, h2, h3⟩ := ok.heap.box i x β (back i x hi xa) xa gi
    exact ⟨vs, t, h1, h2, h3.lasts ⟨Nat.le_refl _, fun c _ hs => ⟨hst c hs, rfl⟩⟩⟩

end Go.Proofs.YtmbpoibhamlkbaaGreatDoor

namespace Go.Proofs.YtmbpoibhamlkbaaGreatDoor
open Go.RowKit
variable {P : Program} {C : World → Prop} {Qr : V → Prop} {Qo : Ex → St → Prop}

theorem readd_ok {w0 S0 w w' ρ h h1 β} (ok : OkH w0 S0 w ρ h1) (hno : ∀ (i : Nat) (x : Box), h1[i]? = some x → x.alive = true → ρ[i]? ≠ some β) (hlow : w0.own β ∧ β < w.heap.size)
    (hos : w'.os = w.os) (htape : w'.tape = w.tape) (hout : w'.output = w.output) (hsz : w'.heap.size = w.heap.size) (hoth : ∀ c, c ≠ β → w'.heap[c]? = w.heap[c]?)
    (hshp : ∀ c e n, w.shape? c = some (e, n) → w'.shape? c = some (e, n))
    {vals' : Array Value} {ty : TypeId} (hnew : w'.heap[β]? = some (.cells vals' ty (0, 0))) {cells : List V} (hle : cells.length ≤ vals'.size)
    (hl : Lasts w w' (stab S0 ρ h) (stab S0 (ρ ++ [β]) (newB h1 cells))) (hl1 : Lasts w w' (stab S0 ρ h1) (stab S0 (ρ ++ [β]) (newB h1 cells)) ∨ ∀ (i : Nat) (x : Box) γ, h1[i]? = some x → x.alive = true → ρ[i]? = some γ →
      ∃ vals ty, w.heap[γ]? = some (.cells vals ty (0, 0)) ∧ x.cells.length ≤ vals.size ∧ RdL w (stab S0 ρ h) (vals.toList.take x.cells.length) x.cells)
    (hr : RdL w (stab S0 ρ h) (vals'.toList.take cells.length) cells) : OkH w0 S0 w' (ρ ++ [β]) (newB h1 cells) := by
  refine ⟨⟨hos.trans ok.below.os, htape.trans ok.below.tape, hout.trans ok.below.output, by rw [hsz]; exact ok.below.size, fun c hc hx => (hoth c (fun e => hlow.1.elim (fun q => by omega) (fun q => hx (e ▸ q)))).trans (ok.below.block c hc hx), fun c e n q => hshp c e n (ok.below.shape c e n q)⟩, ?_, ?_, ?_, ?_⟩
  · simp [newB, ok.heap.len]
  · intro i γ hi
    rw [hsz]
    rcases get_snoc hi with hi | ⟨_, rfl⟩
    · exact ok.heap.low i γ hi
    · exact hlow
  · intro i j x y γ hx hy xa ya hi hj
    have hlen := ok.heap.len
    rcases get_snoc hi with gi | ⟨ei, fi⟩ <;> rcases get_snoc hj with gj | ⟨ej, fj⟩
    · rcases get_snoc hx with gx | ⟨ex, _⟩
      · rcases get_snoc hy with gy | ⟨ey, _⟩
        · exact ok.heap.inj i j x y γ gx gy xa ya gi gj
        · have := lt_of_get gj; omega
      · have := lt_of_get gi; omega
    · rcases get_snoc hx with gx | ⟨ex, _⟩
      · exact (hno i x gx xa (fj ▸ gi)).elim
      · have := lt_of_get gi; omega
    · rcases get_snoc hy with gy | ⟨ey, _⟩
      · exact (hno j y gy ya (fi ▸ gj)).elim
      · have := lt_of_get gj; omega
    · rw [ei, ej]
  · intro i x γ hx xa hi
    have hlen := ok.heap.len
    rcases get_snoc hi with hi | ⟨rfl, rfl⟩
    · rcases get_snoc hx with hx | ⟨rfl, _⟩
      · have hne : γ ≠ β := fun e => hno i x hx xa (e ▸ hi)
        rcases hl1 with hl1 | hb
        · obtain ⟨vs, t, h1, h2, h3⟩ := ok.heap.box i x γ hx xa hi
          exact ⟨vs, t, (hoth γ hne).trans h1, h2, h3.lasts hl1⟩
        · obtain ⟨vs, t, h1, h2, h3⟩ := hb i x γ hx xa hi
          exact ⟨vs, t, (hoth γ hne).trans h1, h2, h3.lasts hl⟩
      · have := lt_of_get hi; omega
    · rcases get_snoc hx with hx | ⟨_, rfl⟩
      · have := lt_of_get hx; omega
      · exact ⟨vals', ty, hnew, hle, hr.lasts hl⟩

theorem prim_any {w w' : World} {S S' : Nat → Prop} : ∀ {vs : List Value} {xs : List V}, RdL w S vs xs → xs.all isPrim = true → RdL w' S' vs xs
  | [], _, h, _ => by cases h; exact .nil
  | v :: vs, _, h, hp => by
    cases h with
    | cons h1 h2 =>
      rename_i x xs
      rw [List.all_cons, Bool.and_eq_true] at hp
      refine .cons ?_ (prim_any h2 hp.2)
      have hp1 := hp.1
      cases h1 <;> first | exact .unk | exact .bool | exact .int | exact .nil | cases hp1

/-- a block that a call has made becomes a box -/
theorem adopt_ok {w0 S0 w w' ρ h β} (ok : OkH w0 S0 w ρ h) (hb : Below w.heap.size w w') (hge : w.heap.size ≤ β) {vals : Array Value} {ty : TypeId} (hnew : w'.heap[β]? = some (.cells vals ty (0, 0)))
    {cells : List V} (hle : cells.length ≤ vals.size) {S : Nat → Prop} (hr : RdL w' S (vals.toList.take cells.length) cells) (hp : cells.all isPrim = true) :
    OkH w0 S0 w' (ρ ++ [β]) (newB h cells) ∧ Lasts w w' (stab S0 ρ h) (stab S0 (ρ ++ [β]) (newB h cells)) := by
  have hlt : β < w'.heap.size := by
    rcases Nat.lt_or_ge β w'.heap.size with q | q
    · exact q
    · rw [Array.getElem?_eq_none q] at hnew; cases hnew
  have hlen := ok.heap.len
  have hl : Lasts w w' (stab S0 ρ h) (stab S0 (ρ ++ [β]) (newB h cells)) := by
    refine ⟨hb.size, fun b hbl hs => ⟨⟨hs.1, fun i x hx xa xf hi => ?_⟩, hb.block b hbl⟩⟩
    rcases get_snoc hi with hi | ⟨_, rfl⟩
    · rcases get_snoc hx with hx | ⟨rfl, _⟩
      · exact hs.2 i x hx xa xf hi
      · have := lt_of_get hi; omega
    · omega
  refine ⟨⟨ok.below.step hb, ?_, ?_, ?_, ?_⟩, hl⟩
  · simp [newB, hlen]
  · intro i γ hi
    rcases get_snoc hi with hi | ⟨_, rfl⟩
    · exact ⟨(ok.heap.low i γ hi).1, by have := (ok.heap.low i γ hi).2; have := hb.size; omega⟩
    · exact ⟨.inl (by have := ok.below.size; omega), hlt⟩
  · intro i j x y γ hx hy xa ya hi hj
    rcases get_snoc hi with gi | ⟨ei, fi⟩ <;> rcases get_snoc hj with gj | ⟨ej, fj⟩
    · rcases get_snoc hx with gx | ⟨ex, _⟩
      · rcases get_snoc hy with gy | ⟨ey, _⟩
        · exact ok.heap.inj i j x y γ gx gy xa ya gi gj
        · have := lt_of_get gj; omega
      · have := lt_of_get gi; omega
    · have := (ok.heap.low i γ gi).2; omega
    · have := (ok.heap.low j γ gj).2; omega
    · rw [ei, ej]
  · intro i x γ hx xa hi
    rcases get_snoc hi with hi | ⟨rfl, rfl⟩
    · rcases get_snoc hx with hx | ⟨rfl, _⟩
      · obtain ⟨vs, t, h1, h2, h3⟩ := ok.heap.box i x γ hx xa hi
        exact ⟨vs, t, (hb.block γ (ok.heap.low i γ hi).2).trans h1, h2, h3.lasts hl⟩
      · have := lt_of_get hi; omega
    · rcases get_snoc hx with hx | ⟨_, rfl⟩
      · have := lt_of_get hx; omega
      · exact ⟨vals, ty, hnew, hle, prim_any hr hp⟩

/-- a block of a box is written into by a call -/
theorem mut_ok {w0 S0 w w' ρ h} (ok : OkH w0 S0 w ρ h) {b β : Nat} (ha : (bx h b).alive = true) (hfz : (bx h b).frozen = false) (hβ : ρ[b]? = some β) {cells : List V}
    (hk : Kept ⟨w, fun c => c = β⟩ w') {vals' : Array Value} {ty : TypeId} (hnew : w'.heap[β]? = some (.cells vals' ty (0, 0))) (hle : cells.length ≤ vals'.size)
    {S : Nat → Prop} (hr : RdL w' S (vals'.toList.take cells.length) cells) (hp : cells.all isPrim = true) :
    OkH w0 S0 w' ρ (setBox h b ⟨true, false, cells⟩) ∧ Lasts w w' (stab S0 ρ h) (stab S0 ρ (setBox h b ⟨true, false, cells⟩)) := by
  have hx := bx_get ha
  have hbl : b < h.length := lt_of_get hx
  have hst : ∀ c, stab S0 ρ h c → stab S0 ρ (setBox h b ⟨true, false, cells⟩) c := fun c hc => ⟨hc.1, fun i x hi xa xf hic => by
    simp only [setBox, List.getElem?_set] at hi
    split at hi
    · rename_i he
      subst he
      exact hc.2 b _ hx ha hfz hic
    · exact hc.2 i x hi xa xf hic⟩
  have hsz : w.heap.size ≤ w'.heap.size := hk.size
  have hoth : ∀ c, c < w.heap.size → c ≠ β → w'.heap[c]? = w.heap[c]? := fun c hc hn => hk.block c hc hn
  have hl : Lasts w w' (stab S0 ρ h) (stab S0 ρ (setBox h b ⟨true, false, cells⟩)) := ⟨hsz, fun c hc hs => ⟨hst c hs, hoth c hc (fun e => hs.2 b _ hx ha hfz (e ▸ hβ))⟩⟩
  have hlow := ok.heap.low b β hβ
  refine ⟨⟨ok.below.then hlow.1 hk, ?_, ?_, ?_, ?_⟩, hl⟩
  · simp [setBox, ok.heap.len]
  · intro i γ hi; exact ⟨(ok.heap.low i γ hi).1, Nat.lt_of_lt_of_le (ok.heap.low i γ hi).2 hsz⟩
  · intro i j x y γ hi hj xa ya gi gj
    have back : ∀ (i : Nat) (x : Box), (setBox h b ⟨true, false, cells⟩)[i]? = some x → x.alive = true → ∃ z : Box, h[i]? = some z ∧ z.alive = true := by
      intro i x hi xa
      simp only [setBox, List.getElem?_set] at hi
      split at hi
      · rename_i he; subst he; exact ⟨_, hx, ha⟩
      · exact ⟨x, hi, xa⟩
    obtain ⟨x', hx', xa'⟩ := back i x hi xa
    obtain ⟨y', hy', ya'⟩ := back j y hj ya
    exact ok.heap.inj i j x' y' γ hx' hy' xa' ya' gi gj
  · intro i x γ hi xa gi
    simp only [setBox, List.getElem?_set] at hi
    split at hi
    · rename_i he
      subst he
      try rw [if_pos hbl] at hi
      cases hi
      rw [hβ] at gi
      cases gi
      exact ⟨vals', ty, hnew, hle, prim_any hr hp⟩
    · rename_i hne
      obtain ⟨vs, t, h1, h2, h3⟩ := ok.heap.box i x γ hi xa gi
      exact ⟨vs, t, (hoth γ (ok.heap.low i γ gi).2 (fun e => hne (ok.heap.inj b i _ x β hx hi ha xa hβ (e ▸ gi)))).trans h1, h2, h3.lasts hl⟩

theorem kill_back {h : List Box} {b i : Nat} {x : Box} (hi : (setBox h b ⟨false, false, []⟩)[i]? = some x) (xa : x.alive = true) : h[i]? = some x ∧ i ≠ b := by
  simp only [setBox, List.getElem?_set] at hi
  split at hi
  · split at hi
    · cases hi; cases xa
    · cases hi
  · rename_i hne; exact ⟨hi, fun e => hne e.symm⟩

theorem append_sound {w0 S0 w ρ h} (ok : OkH w0 S0 w ρ h) {o : Oper} {a : Act} {t xt ty : TypeId} {ds dx : D} {k : D → List Box → T} (hw : (appendT P t xt h ds dx k).wp P C Qr Qo) {vs vx : Value}
    (rs : RdD w (stab S0 ρ h) ρ vs ds) (rx : RdD w (stab S0 ρ h) ρ vx dx) :
    ∃ v w', (Builtin.append_ #[t, xt] ty #[vs, vx]).run P w = .ok v w' ∧ Post P C Qr Qo w0 S0 o a w ρ h k (a.put o.dst v) w' := by
  unfold appendT at hw
  split at hw
  · rename_i e sz zs n c he hn hc
    obtain ⟨htx, hn2⟩ := cond_some hn
    clear hn
    rw [Nat.beq_eq] at htx
    subst htx
    obtain ⟨hu, hz, hzl, hsz, hpos, hb⟩ := elemT_of he
    split at hw
    · -- onto nil
      obtain ⟨hcheck, hw1⟩ := of_brk hw
      clear hw
      simp only [Bool.and_eq_true, Nat.ble_eq] at hcheck
      obtain ⟨hso, hsm⟩ := hcheck
      have hvs := rs.val_inv
      cases hvs
      obtain ⟨ad, cap, us, rfl, hus, hcl, hfc⟩ := src_run (P := P) ok hc hn2 hso rx
      rcases of_br hw1 with ⟨hn0, hw⟩ | ⟨hn0, hw⟩ <;> clear hw1
      · rw [Nat.beq_eq] at hn0
        subst hn0
        refine ⟨.slice none 0 0, w, ?_, .slice none 0 0, _, h, ρ, rfl, ok, .val .nil, fun _ _ q => q, hw⟩
        have hf := hfc w rfl
        simp [Builtin.append_, run_under hu, run_sizeOf hsz hpos, Builtin.lenOf, hf]
      · have hn0 : 0 < n := by
          rcases Nat.eq_zero_or_pos n with q | q
          · subst q; cases hn0
          · exact q
        obtain ⟨newCap, rest, h1, h2, h3⟩ := append_grows (P := P) he (ty := ty) (base := none) (len := 0) (cap := 0) (os := []) hfc (fun _ _ => rfl) (by omega) (by omega)
        refine ⟨_, _, h3, ?_⟩
        have okd : OkH w0 S0 w.drew ρ h := ok.grow ((Below.refl _ _).drew)
        have hul := hus.length
        have hvs : (([] : List Value) ++ us ++ rest).toArray.size = newCap * sz := by
          simp only [List.nil_append, List.size_toArray, List.length_append, h2, hul, hcl]
          rw [← Nat.add_mul]
          congr 1
          omega
        obtain ⟨v, d, h', ρ', e1, e2, e3, e4, e5⟩ := push_post (P := P) (C := C) (Qr := Qr) (Qo := Qo) okd (o := o) (a := a) (k := k) (vals := (([] : List Value) ++ us ++ rest).toArray) (ty := e) (cells := c)
          (v := .slice (some ⟨w.drew.heap.size, 0, none⟩) (0 + n) newCap) (d := .osl h.length 0 n sz)
          (by rw [hvs, hcl]; exact Nat.mul_le_mul_right sz (by omega)) (by simp [← hul]; exact (hus.lasts (Lasts.of_below ((Below.refl _ _).drew) _)))
          (by rw [Nat.zero_add]; exact .osl (push_own okd) (by omega) (shape_of_cells (push_new _ _ _)) (by rw [Nat.zero_add, hvs]; exact Nat.le_refl _)) hw
        exact ⟨v, d, h', ρ', e1, e2, e3, fun u x q => e4 u x (q.grow ((Below.refl _ _).drew)), e5⟩
    · -- onto a block of the call's own
      rename_i b off len s'
      obtain ⟨hcheck1, hw1⟩ := of_chk hw
      clear hw
      simp only [Bool.and_eq_true, Bool.not_eq_true', Nat.beq_eq] at hcheck1
      obtain ⟨⟨⟨e1, e2⟩, ha⟩, hfz⟩ := hcheck1
      subst e1 e2
      obtain ⟨hcheck2, hw2⟩ := of_brk hw1
      clear hw1
      simp only [Bool.and_eq_true, Nat.ble_eq, Nat.beq_eq, mul_cond] at hcheck2
      obtain ⟨⟨⟨hso, hall⟩, hsm⟩, hbl⟩ := hcheck2
      obtain ⟨ad, xcap, us, rfl, hus, hcl, hfc⟩ := src_run (P := P) ok hc hn2 hso rx
      have hul := hus.length
      cases rs with
      | osl hβ hlc hsh hcap =>
        rename_i β cap ety n'
        obtain ⟨vals, bty, hb1, hb2, hb3⟩ := ok.heap.box b _ β (bx_get ha) ha hβ
        have hshv := shape_of_cells hb1
        rw [hsh] at hshv
        simp only [Option.some.injEq, Prod.mk.injEq] at hshv
        obtain ⟨rfl, rfl⟩ := hshv
        rw [Nat.zero_add] at hcap
        obtain ⟨okk, hstk⟩ := kill_ok ok b
        have hbn : ¬ stab S0 ρ h β := fun q => q.2 b _ (bx_get ha) ha hfz hβ
        by_cases hfit : len + n ≤ cap
        · -- in place
          have hroom : (len + n) * s' ≤ vals.size := Nat.le_trans (Nat.mul_le_mul_right s' hfit) hcap
          rw [Nat.add_mul] at hroom
          have hst : (storeCells ⟨β, len * s', none⟩ us).run P w = .ok () (w.setCells β (len * s') us) := by
            have := run_storeCells_cells (P := P) β (len * s') us 0 w
              (fun j hj => by
                have hlt : len * s' + j < vals.size := by omega
                simp [World.cell?, hb1, Array.getElem?_eq_getElem hlt])
              (fun j hj => by simp [World.frozen?, hb1]) (cells_one hus hall)
            simpa using this
          refine ⟨_, _, append_fits he (hfc w rfl) hfit hst, ?_⟩
          obtain ⟨vals', hv1, hv2⟩ := setCells_heap β us (len * s') w vals ety (0, 0) hb1
          have hvs : vals'.size = vals.size := by
            have := spliceW_len us vals.toList (len * s')
            rw [← hv2] at this
            simpa using this
          obtain ⟨q1, q2, q3⟩ := setCells_rest β us (len * s') w
          have hl : Lasts w (w.setCells β (len * s') us) (stab S0 ρ h) (stab S0 (ρ ++ [β]) (newB (setBox h b ⟨false, false, []⟩) ((bx h b).cells ++ c))) :=
            ⟨by rw [setCells_size]; exact Nat.le_refl _, fun m _ hs => ⟨⟨hs.1, fun i x hx xa xf hi => by
              have hlen := ok.heap.len
              rcases get_snoc hx with hx | ⟨rfl, rfl⟩
              · obtain ⟨hx, hne⟩ := kill_back hx xa
                rcases get_snoc hi with hi | ⟨rfl, _⟩
                · exact hs.2 i x hx xa xf hi
                · have := lt_of_get hx; omega
              · rcases get_snoc hi with hi | ⟨_, rfl⟩
                · have := lt_of_get hi; simp [setBox] at this; omega
                · exact hbn hs⟩, setCells_other β us _ w m (fun e => hbn (e ▸ hs))⟩⟩
          have hshp : ∀ c e n, w.shape? c = some (e, n) → (w.setCells β (len * s') us).shape? c = some (e, n) := by
            intro m ty' n' hsh'
            by_cases hm : m = β
            · subst hm
              rw [shape_of_cells hb1] at hsh'
              rw [shape_of_cells hv1, hvs]
              exact hsh'
            · simpa [World.shape?, setCells_other β us _ w m hm] using hsh'
          refine ⟨_, _, _, ρ ++ [β], rfl, readd_ok (h := h) okk ?_ (ok.heap.low b β hβ) q1 q2 q3 (setCells_size β _ _ _) (fun m hm => setCells_other β us _ w m hm) hshp hv1 ?_ hl (.inr ?_) ?_, ?_, ?_, hw2⟩
          · intro i x hx xa hi
            obtain ⟨hx, hne⟩ := kill_back hx xa
            exact hne (ok.heap.inj i b x _ β hx (bx_get ha) xa ha hi hβ)
          · rw [List.length_append, hbl, hvs, hcl]; omega
          · intro i x γ hx xa hi
            obtain ⟨hx, _⟩ := kill_back hx xa
            exact ok.heap.box i x γ hx xa hi
          · rw [List.length_append, hbl, hv2, show c.length = us.length from hul.symm, take_splice us vals.toList (len * s') (by simp; omega)]
            rw [hbl] at hb3
            exact hb3.append hus
          · have e1 : (setBox h b ⟨false, false, []⟩).length = h.length := by simp [setBox]
            refine .osl (β := β) (by rw [← ok.heap.len]; simp) hfit (shape_of_cells hv1) (by rw [hvs]; omega)
          · intro u x hr
            exact hr.lasts hl hshp (fun _ _ hi => get_snoc_of hi)
        · -- a new block
          have hfo : ∀ w1 : World, w1.heap = w.heap → (Builtin.firstCells s' len (.slice (some ⟨β, 0, none⟩) len cap)).run P w1 = .ok (vals.toList.take (len * s')).toArray w1 := by
            intro w1 hw1
            have hlt : (vals.toList.take (len * s')).length = len * s' := by simp; omega
            have := run_loadCells_list (P := P) w1 ⟨β, 0, none⟩ (vals.toList.take (len * s')) (fun j v hv => by
              rw [Addr.add_mid, Nat.zero_add]
              rw [List.getElem?_take] at hv
              split at hv
              · unfold World.cell?
                rw [hw1]
                simp only [hb1]
                simpa using hv
              · cases hv)
            rw [hlt] at this
            exact this
          obtain ⟨newCap, rest, h1, h2, h3⟩ := append_grows (P := P) he (ty := ty) hfc hfo (by omega) hsm
          refine ⟨_, _, h3, ?_⟩
          have okd : OkH w0 S0 w.drew ρ (setBox h b ⟨false, false, []⟩) := okk.grow ((Below.refl _ _).drew)
          have hos : (vals.toList.take (len * s')).length = len * s' := by simp; omega
          have hvs : (vals.toList.take (len * s') ++ us ++ rest).toArray.size = newCap * s' := by
            simp only [List.size_toArray, List.length_append, h2, hul, hcl, hos]
            rw [← Nat.add_mul, ← Nat.add_mul]
            congr 1
            omega
          have hkill : Lasts w w (stab S0 ρ h) (stab S0 ρ (setBox h b ⟨false, false, []⟩)) := ⟨Nat.le_refl _, fun m _ hs => ⟨hstk m hs, rfl⟩⟩
          have hdrew : Lasts w w.drew (stab S0 ρ h) (stab S0 ρ (setBox h b ⟨false, false, []⟩)) := hkill.trans (Lasts.of_below ((Below.refl _ _).drew) _)
          obtain ⟨v, d, h', ρ', e1, e2, e3, e4, e5⟩ := push_post (P := P) (C := C) (Qr := Qr) (Qo := Qo) okd (o := o) (a := a) (k := fun d h' => k d h') (vals := (vals.toList.take (len * s') ++ us ++ rest).toArray) (ty := e)
            (cells := (bx h b).cells ++ c)
            (v := .slice (some ⟨w.drew.heap.size, 0, none⟩) (len + n) newCap) (d := .osl h.length 0 (len + n) s')
            (by rw [hvs, List.length_append, hbl, hcl, ← Nat.add_mul]; exact Nat.mul_le_mul_right s' (by omega))
            (by
              have e9 : (vals.toList.take (len * s') ++ us ++ rest).toArray.toList.take ((bx h b).cells ++ c).length = vals.toList.take (len * s') ++ us := by
                rw [List.length_append, hbl, ← hul]
                rw [List.toList_toArray]
                rw [List.take_append_of_le_length (by simp; omega)]
                exact List.take_of_length_le (by simp; omega)
              rw [e9]
              rw [hbl] at hb3
              exact (hb3.append hus).lasts hdrew)
            (by
              have e8 : (setBox h b ⟨false, false, []⟩).length = h.length := by simp [setBox]
              have := push_own okd
              rw [e8] at this
              exact .osl this (by omega) (shape_of_cells (push_new _ _ _)) (by rw [Nat.zero_add, hvs]; exact Nat.le_refl _)) hw2
          exact ⟨v, d, h', ρ', e1, e2, e3, fun u x q => e4 u x (q.lasts hdrew (Below.shapes ((Below.refl _ _).drew)) (fun _ _ q => q)), e5⟩
    · exact hw.elim
  · exact hw.elim

end Go.Proofs.YtmbpoibhamlkbaaGreatDoor

namespace Go.Proofs.YtmbpoibhamlkbaaGreatDoor
open Go.RowKit
variable {P : Program} {C : World → Prop} {Qr : V → Prop} {Qo : Ex → St → Prop}

theorem nil_run {t e : TypeId} (hu : P.underlying t = some (.slice e)) (xo : Operand) (a : Option Addr) (n c : Nat) (w : World) :
    (do eqGuard .eql t xo (.const (.slice none 0 0)) (.slice a n c) (.slice none 0 0); binOp .eql t (.slice a n c) (.slice none 0 0) : Sem Value).run P w = .ok (.bool a.isNone) w := by
  have h1 : (eqGuard .eql t xo (.const (.slice none 0 0)) (.slice a n c) (.slice none 0 0)).run P w = .ok () w := rfl
  rw [Sem.run_bind, h1, Result.andThen_ok]
  have hq : (Op.equal t (.slice a n c) (.slice none 0 0)).run P w = .ok a.isNone w := by
    unfold Op.equal Op.maxDepth Op.equalIn
    rw [Sem.run_bind, run_under hu, Result.andThen_ok]
    cases a <;> rfl
  show (do pure (.bool (← Op.equal t (.slice a n c) (.slice none 0 0))) : Sem Value).run P w = _
  rw [Sem.run_bind, hq]
  rfl

theorem post_same {w0 S0 w ρ h} (ok : OkH w0 S0 w ρ h) {o : Oper} {a : Act} {k : D → List Box → T} {v : Value} {d : D} (hv : RdD w (stab S0 ρ h) ρ v d) (hw : (k d h).wp P C Qr Qo) :
    Post P C Qr Qo w0 S0 o a w ρ h k (a.put o.dst v) w := ⟨v, d, h, ρ, rfl, ok, hv, fun _ _ q => q, hw⟩

theorem evalH_sound {w0 S0 w ρ h} (ok : OkH w0 S0 w ρ h) {o : Oper} {a : Act} {g : Operand → D} {k : D → List Box → T} {Q : Exit → Act → World → Prop} (hw : (evalH P o g h k).wp P C Qr Qo)
    (hr : Reads w (stab S0 ρ h) ρ a o g) : o.wp P a w (Post P C Qr Qo w0 S0 o a w ρ h k) Q := by
  unfold evalH at hw
  split at hw
  · rename_i t ho
    split at hw
    · rename_i zs hz
      obtain ⟨z, hz1, rfl, i, hi, hiz⟩ := zeroV_run hz w
      refine post_value (v := .pointer (some ⟨w.heap.size, 0, none⟩)) (w' := push w z.cells t) ?_ (push_post ok (by simp) (by rw [List.take_of_length_le (by simp)]; exact zeros_rd _) (.own (push_own ok)) hw)
      simp only [execOp, ho, Instr.alloc, Sem.run_bind, hz1, Result.andThen_ok, newVar, newRow, run_newObj, Sem.run_pure]
      rfl
    · exact hw.elim
  · rename_i t x ho
    split at hw
    · rename_i v hg
      obtain ⟨hc, hw⟩ := of_chk hw
      have hx := hr x (by simp [ho, Op.operands])
      rw [hg] at hx
      have hcs := cells_rd hx.val_inv hc
      refine post_value (v := .pointer (some ⟨w.heap.size, 0, none⟩)) (w' := push w (a.eval x).cells t) ?_
        (push_post ok (by have := hcs.length; simp at this; omega) (by rw [List.take_of_length_le (by have := hcs.length; omega)]; exact hcs) (.own (push_own ok)) hw)
      simp only [execOp, ho, Instr.box, Sem.run_bind, Result.andThen_ok, newVar, newRow, run_newObj, Sem.run_pure]
      rfl
    · exact hw.elim
  · rename_i t ad x ho
    split at hw
    · rename_i c h' hs
      obtain ⟨ec, hw2⟩ := of_brk hw
      subst ec
      clear hw
      obtain ⟨w', h1, h2, h3, _⟩ := store_sound (P := P) ok hs (hr ad (by simp [ho, Op.operands])) (hr x (by simp [ho, Op.operands]))
      refine post_skip (w' := w') ?_ ⟨undef, .unk, h', ρ, rfl, h2, .unk, h3, hw2⟩
      simp only [execOp, ho, Sem.run_bind, h1, Result.andThen_ok, Sem.run_pure]
    · exact hw.elim
  · rename_i t l c ho
    split at hw
    · rename_i e sz zs k1 n k2 m he hl hc
      obtain ⟨hchk, hw2⟩ := of_brk hw
      clear hw
      simp only [Bool.and_eq_true, iEq, iLe, beq_iff_eq, decide_eq_true_eq] at hchk
      obtain ⟨⟨hnm, h0⟩, h1⟩ := hchk
      subst hnm
      have hl' := hr l (by simp [ho, Op.operands])
      have hc' := hr c (by simp [ho, Op.operands])
      rw [hl] at hl'
      rw [hc] at hc'
      obtain ⟨hu, hz, hzl, hsz, hpos, hb⟩ := elemT_of he
      obtain ⟨z, rfl, hzs, hrun⟩ := make_run (P := P) he (k := k1) (k' := k2) h0 h1 w
      have hrd := rep_rd (w := w) (S := stab S0 ρ h) z n.toNat hzs hpos
      have hlen := hrd.length
      refine post_value ?_ (push_post ok (vals := (Array.range (n.toNat * sz)).map (fun i => z.cells[i % z.cells.size]!)) (ty := e) (v := .slice (some ⟨w.heap.size, 0, none⟩) n.toNat n.toNat)
        (by rw [← hlen]; simp) (by rw [List.take_of_length_le (by omega)]; exact hrd) (.osl (push_own ok) (Nat.le_refl _) (shape_of_cells (push_new _ _ _)) (by simp)) hw2)
      simp only [execOp, ho, Sem.run_bind, hl'.int_inv, hc'.int_inv, hrun, Result.andThen_ok, Sem.run_pure]
    · exact hw.elim
  · rename_i t len parts ho
    split at hw
    · rename_i sz cells hb
      obtain ⟨vals, e, h1, h2, h3⟩ := buildSlice_run hb (w := w) (S := stab S0 ρ h) (ρ := ρ) (ev := a.eval) (fun x hx => hr x.2 (by simp [ho, Op.operands]; exact ⟨x.1, by simpa using hx⟩))
      have hlen := h2.length
      refine post_value ?_ (push_post ok (vals := vals) (ty := e) (v := .slice (some ⟨w.heap.size, 0, none⟩) len len) (by rw [← hlen]; simp) (by rw [List.take_of_length_le (by omega)]; exact h2)
        (.osl (push_own ok) (Nat.le_refl _) (shape_of_cells (push_new _ _ _)) (by simp at hlen; omega)) hw)
      simp only [execOp, ho, Sem.run_bind, h1, Result.andThen_ok, Sem.run_pure]
    · exact hw.elim
  · rename_i args argTypes ho
    split at hw
    · rename_i s x t xt hargs hts
      have ha : args = #[s, x] := by apply Array.ext'; simpa using hargs
      have ht : argTypes = #[t, xt] := by apply Array.ext'; simpa using hts
      have hops : o.op.operands.toList = [s, x] := by simp [ho, Op.operands, Call.operands, ha]
      obtain ⟨v, w', h1, h2⟩ := append_sound (P := P) (C := C) (Qr := Qr) (Qo := Qo) ok (o := o) (a := a) (ty := o.type) hw (hr s (by simp [hops])) (hr x (by simp [hops]))
      refine post_value ?_ h2
      simp only [execOp, ho, resolve, ha, ht, Sem.run_bind, Sem.run_pure, Result.andThen_ok, invoke, builtin]
      have e : (#[s, x] : Array Operand).map a.eval = #[a.eval s, a.eval x] := by apply Array.ext'; simp
      rw [e, h1]
      rfl
    · exact hw.elim
  · rename_i t x yt ho
    split at hw
    · rename_i e hu
      have hx := hr x (by simp [ho, Op.operands])
      have key : ∀ (a0 : Option Addr) (n c : Nat), a.eval x = .slice a0 n c → (k (.val (.bool a0.isNone)) h).wp P C Qr Qo → o.wp P a w (Post P C Qr Qo w0 S0 o a w ρ h k) Q := by
        intro a0 n c e1 hk
        refine post_value (v := .bool a0.isNone) ?_ (post_same ok (.val .bool) hk)
        simp only [execOp, ho, e1]
        rw [Sem.run_bind, show a.eval (.const (.slice none 0 0)) = .slice none 0 0 from rfl, nil_run hu]
        rfl
      generalize a.eval x = vx at hx key
      split at hw
      · rename_i hg
        rw [hg] at hx
        cases hx with | val hx => cases hx; exact key _ _ _ rfl hw
      · rename_i sz cs hg
        rw [hg] at hx
        cases hx with
        | val hx =>
          cases hx with
          | nilsl =>
            rcases of_br hw with ⟨_, h2⟩ | ⟨h1, _⟩
            · exact key _ _ _ rfl h2.1
            · cases h1
          | sl =>
            rcases of_br hw with ⟨_, h2⟩ | ⟨_, h2⟩
            · exact key _ _ _ rfl h2.2
            · exact key _ _ _ rfl h2
      · rename_i hg
        rw [hg] at hx
        cases hx; exact key _ _ _ rfl hw
      · exact hw.elim
    · exact hw.elim
  · exact hw.elim

theorem evalA_sound {w0 S0 w ρ h} (ok : OkH w0 S0 w ρ h) (hC : C w) (hS : ∀ b, w0.own b → S0 b) {o : Oper} {a : Act} {g : Operand → D} {k : D → List Box → T} {Q : Exit → Act → World → Prop}
    (hw : (evalA P o g h k).wp P C Qr Qo) (hr : Reads w (stab S0 ρ h) ρ a o g) : o.wp P a w (Post P C Qr Qo w0 S0 o a w ρ h k) Q := by
  obtain ⟨d, h', hf, hy, hw⟩ := evalA_yields hw
  refine Oper.wp_mono ?_ (hy h' (Fr.refl _) w0 S0 a w ρ Q hC (allS_of ok hS) (ok.fr hf) (fun x hx => (hr x hx).fr hf))
  rintro a' w' ⟨v, rfl, h1, h2⟩
  exact ⟨v, d, h', ρ, rfl, (ok.fr hf).grow h2, h1, fun u e q => (q.fr hf).grow h2, hw⟩

theorem evalB_sound {w0 S0 w ρ h} (ok : OkH w0 S0 w ρ h) (hH : Hold C w0) (hS : ∀ b, w0.own b → S0 b) {o : Oper} {a : Act} {g : Operand → D} {k : D → List Box → T} {Q : Exit → Act → World → Prop}
    (hw : (evalB P o g h k).wp P C Qr Qo) (hr : Reads w (stab S0 ρ h) ρ a o g) : o.wp P a w (Post P C Qr Qo w0 S0 o a w ρ h k) Q := by
  have hC : C w := hH w ok.below
  unfold evalB at hw
  split at hw
  · rename_i c ho
    split at hw
    · rename_i fo hc
      split at hw
      · rename_i f caps hg
        unfold call2T at hw
        obtain ⟨hall, hw⟩ := of_brk hw
        rcases hw with ⟨r, hi, hw2⟩ | ⟨sz, n, cs, hi, hw2⟩ | ⟨cs, off, len, dm, cs', r, hm, hi, hw2⟩
        · refine evalA_sound (C := C) (Qr := Qr) (Qo := Qo) ok hC hS ?_ hr
          simp only [evalA, ho, hc, hg]
          exact .inl ⟨hall, r, hi, hw2⟩
        · have hf := Fr.frz (h := h) ((c.args.toList.map g).flatMap idsD)
          have okf := ok.fr hf
          have hops : o.op.operands.toList = fo :: c.args.toList := by simp [ho, Op.operands, Call.operands, hc]
          have hfo := (hr fo (by simp [hops])).fr hf
          have hargs : ∀ x ∈ c.args.toList, RdD w (stab S0 ρ (frz h ((c.args.toList.map g).flatMap idsD))) ρ (a.eval x) (g x) := fun x hx => (hr x (by simp [hops]; exact .inr (by simpa using hx))).fr hf
          rw [hg] at hfo
          obtain ⟨csv, hv, hcs⟩ : ∃ cs : List Value, a.eval fo = .func (.func f) #[] cs.toArray ∧ RdL w (stab S0 ρ (frz h ((c.args.toList.map g).flatMap idsD))) cs caps := by
            have h1 := hfo.val_inv
            generalize a.eval fo = v at h1
            cases h1 with | clos h1 => exact ⟨_, rfl, h1⟩
          have hA : RdL w (stab S0 ρ (frz h ((c.args.toList.map g).flatMap idsD))) (c.args.toList.map a.eval) ((c.args.toList.map g).map (toV h)) := args_rd fun x hx => by
            refine toV_rd hf (List.all_eq_true.1 hall _ (List.mem_map_of_mem hx)) (allS_of okf hS) okf ?_ (hargs x hx)
            intro b y hb hy
            exact frz_frozen _ h b y (List.mem_flatMap.2 ⟨_, List.mem_map_of_mem hx, hb⟩) hy
          have hcall := hi.2.2 w (stab S0 ρ (frz h ((c.args.toList.map g).flatMap idsD))) _ hC (stab_new okf (allS_of okf hS)) (hA.append hcs)
          have hrun : (execOp a.eval o).run P w = .ok (.enter f (c.args.toList.map a.eval ++ csv).toArray) w := by
            simp only [execOp, ho, resolve, hc, hv, Deferred.ofValue, Sem.run_bind, Sem.run_pure, Result.andThen_ok, invoke]
            rw [callFunc_run hi.1]
            congr 2
            apply Array.ext'
            simp
          unfold Oper.wp
          rw [hrun]
          show Calls P f _ w _
          refine hcall.mono ?_
          rintro e w' ⟨β, cap, vals, ty, rfl, hge, hnew, hle, hcap, hfit, hrd, hb⟩
          obtain ⟨ok', hl⟩ := adopt_ok okf hb hge hnew hle hrd hi.2.1
          have hβ : (ρ ++ [β])[(frz h ((c.args.toList.map g).flatMap idsD)).length]? = some β := by rw [← okf.heap.len]; simp
          exact ⟨_, _, _, _, rfl, ok', .osl hβ hcap (shape_of_cells hnew) (by omega), fun u e q => (q.fr hf).lasts hl (Below.shapes hb) (fun _ _ hi => get_snoc_of hi), hw2⟩
        · cases hal : c.args.toList with
          | nil => rw [hal] at hm; cases hm
          | cons x0 xs =>
            rw [hal] at hm hw2 hall
            rw [List.map_cons] at hm hw2 hall
            cases hx0 : g x0 with
            | osl b off1 len1 sz =>
              rw [hx0] at hm hw2 hall
              by_cases hsz : sz = 1
              · subst hsz
                cases hm
                obtain ⟨hck, hw3⟩ := of_brk hw2
                rw [Bool.and_eq_true, Bool.and_eq_true, Bool.and_eq_true] at hck
                obtain ⟨⟨⟨ha, hfz⟩, hno⟩, hce⟩ := hck
                have hfz : (bx h b).frozen = false := by simpa using hfz
                have hno : b ∉ (xs.map g).flatMap idsD := by
                  intro hin
                  have : ((xs.map g).flatMap idsD).any (Nat.beq b) = true := List.any_eq_true.2 ⟨b, hin, by simp⟩
                  rw [this] at hno; cases hno
                have hcaps : caps = [] := by cases caps with | nil => rfl | cons => cases hce
                subst hcaps
                have hf := Fr.frz (h := h) ((xs.map g).flatMap idsD)
                have okf := ok.fr hf
                have hops : o.op.operands.toList = fo :: c.args.toList := by simp [ho, Op.operands, Call.operands, hc]
                have hfo := hr fo (by simp [hops])
                have hv0 := hr x0 (by simp [hops]; exact .inr (by rw [← Array.mem_toList_iff, hal]; simp))
                have hargs : ∀ x ∈ xs, RdD w (stab S0 ρ (frz h ((xs.map g).flatMap idsD))) ρ (a.eval x) (g x) := fun x hx => (hr x (by simp [hops]; exact .inr (by rw [← Array.mem_toList_iff, hal]; simp [hx]))).fr hf
                rw [hg] at hfo
                rw [hx0] at hv0
                obtain ⟨csv, hv, hcs⟩ : ∃ cs : List Value, a.eval fo = .func (.func f) #[] cs.toArray ∧ RdL w (stab S0 ρ h) cs [] := by
                  have h1 := hfo.val_inv
                  generalize a.eval fo = v at h1
                  cases h1 with | clos h1 => exact ⟨_, rfl, h1⟩
                cases hcs
                generalize hev : a.eval x0 = v0 at hv0
                cases hv0 with
                | osl hβ hcap hsh hfit =>
                  rename_i β cap e nn
                  have hbx : bx (frz h ((xs.map g).flatMap idsD)) b = bx h b := by
                    unfold bx; rw [nth_eq, nth_eq, frz_other _ _ _ hno]
                  obtain ⟨vals, ty, g1, g2, g3⟩ := okf.heap.box b _ β (by rw [← hbx] at ha; exact bx_get ha) (by rw [hbx]; exact ha) hβ
                  rw [hbx] at g2 g3
                  have hs2 := shape_of_cells g1
                  rw [hs2] at hsh
                  have hnn : nn = vals.size := by
                    have := Option.some.inj hsh
                    exact (congrArg Prod.snd this).symm
                  have hA : RdL w (stab S0 ρ (frz h ((xs.map g).flatMap idsD))) (xs.map a.eval) ((xs.map g).map (toV h)) := args_rd fun x hx => by
                    refine toV_rd hf (List.all_eq_true.1 hall _ (List.mem_cons_of_mem _ (List.mem_map_of_mem hx))) (allS_of okf hS) okf ?_ (hargs x hx)
                    intro b y hb hy
                    exact frz_frozen _ h b y (List.mem_flatMap.2 ⟨_, List.mem_map_of_mem hx, hb⟩) hy
                  have hown := (okf.heap.low b β hβ).1
                  have hcall := hi.2.2.2.2 w (stab S0 ρ (frz h ((xs.map g).flatMap idsD))) β cap vals ty _ (fun w' hk => hH w' (ok.below.then hown hk)) (stab_new okf (allS_of okf hS))
                    (fun hs => hs.2 b (bx (frz h ((xs.map g).flatMap idsD)) b) (bx_get (by rw [hbx]; exact ha)) (by rw [hbx]; exact ha) (by rw [hbx]; exact hfz) hβ) g1 g2 g3 hcap (by omega) hA
                  have hrun : (execOp a.eval o).run P w = .ok (.enter f (.slice (some ⟨β, off, none⟩) len cap :: xs.map a.eval).toArray) w := by
                    simp only [execOp, ho, resolve, hc, hv, Deferred.ofValue, Sem.run_bind, Sem.run_pure, Result.andThen_ok, invoke]
                    rw [callFunc_run hi.1]
                    congr 2
                    apply Array.ext'
                    simp [hal, hev]
                  unfold Oper.wp
                  rw [hrun]
                  show Calls P f _ w _
                  refine hcall.mono ?_
                  rintro e w' ⟨v, vals', rfl, hrd, hnew, hvs, hcl, hk⟩
                  obtain ⟨ok', hl⟩ := mut_ok okf (cells := cs') (by rw [hbx]; exact ha) (by rw [hbx]; exact hfz) hβ hk hnew (by rw [hvs, hi.2.2.2.1]; exact g2) (by rw [hi.2.2.2.1]; exact hcl) hi.2.2.1
                  refine ⟨_, _, _, _, rfl, ok', .val ?_, fun u e q => (q.fr hf).lasts hl (fun c e n hsh => ?_) (fun _ _ hi => hi), hw3⟩
                  · have hp := hi.2.1
                    cases hrd <;> first | exact .unk | exact .bool | exact .int | exact .nil | cases hp
                  · by_cases hcβ : c = β
                    · subst hcβ
                      rw [shape_of_cells g1] at hsh
                      rw [shape_of_cells hnew, hvs]
                      exact hsh
                    · have hcw : c < w.heap.size := by
                        rcases Nat.lt_or_ge c w.heap.size with q | q
                        · exact q
                        · simp [World.shape?, Array.getElem?_eq_none q] at hsh
                      simpa [World.shape?, hk.block c hcw hcβ] using hsh
              · exfalso
                have : mArg h (D.osl b off1 len1 sz :: xs.map g) = none := by
                  unfold mArg
                  split
                  · rename_i heq; cases heq; exact absurd rfl hsz
                  · rfl
                rw [this] at hm; cases hm
            | _ => rw [hx0] at hm; cases hm
      · exact evalA_sound ok hC hS hw hr
    · exact evalA_sound ok hC hS hw hr
  · exact evalA_sound ok hC hS hw hr

theorem evalOp_sound {w0 S0 w ρ h} (ok : OkH w0 S0 w ρ h) (hC : Hold C w0) (hS : ∀ b, w0.own b → S0 b) {o : Oper} {a : Act} {g : Operand → D} {k : D → List Box → T} {Q : Exit → Act → World → Prop}
    (hw : (evalOp P false o g h k).wp P C Qr Qo) (hr : Reads w (stab S0 ρ h) ρ a o g) : o.wp P a w (Post P C Qr Qo w0 S0 o a w ρ h k) Q := by
  unfold evalOp at hw
  rcases of_cond hw with ⟨h1, _⟩ | ⟨_, hw⟩
  · cases h1
  · rcases of_cond hw with ⟨_, hw⟩ | ⟨_, hw⟩
    · exact evalH_sound ok hw hr
    · exact evalB_sound ok hC hS hw hr

theorem unpin_rd {w : World} {S : Nat → Prop} {ρ : List Nat} {v : Value} {d : D} (h : RdD w S ρ v d) : RdD w S ρ v (unpin d) := by
  cases h with
  | unk => exact .unk
  | val h => exact .val h
  | own h => exact .own h
  | osl h1 h2 h3 h4 => exact .osl h1 h2 h3 h4
  | clo h1 h2 => exact .clo h1 h2
  | oslp h1 h2 h3 h4 => exact .osl h1 h2 h3 h4
theorem eval_get {w0 S0 st a w ρ} (ok : OkS w0 S0 st a w ρ) (x : Operand) : RdD w (stab S0 ρ st.h) ρ (a.eval x) (getD st.s x) := by
  cases x with
  | tmp t => exact unpin_rd (ok.slots t)
  | const v => exact .val (const_rd v)
  | global g => exact .unk
  | func f => exact .val (@Rd.clos w _ f [] [] .nil)

theorem putO_len (s : List D) (dst : Option Tmp) (d : D) : (putO s dst d).length = s.length := by
  cases dst <;> simp [putO]

/-- the state behind an operation -/
theorem put_ok {w0 S0 st a w ρ w' ρ' h'} (ok : OkS w0 S0 st a w ρ) {dst : Option Tmp} {v : Value} {d : D} (hok : OkH w0 S0 w' ρ' h') (hv : RdD w' (stab S0 ρ' h') ρ' v d)
    (hk : ∀ u e, RdD w (stab S0 ρ st.h) ρ u e → RdD w' (stab S0 ρ' h') ρ' u e) : OkS w0 S0 ⟨putO st.s dst d, h'⟩ (a.put dst v) w' ρ' := by
  cases dst with
  | none => exact ⟨hok, ok.size, fun t => hk _ _ (ok.slots t), ok.defers⟩
  | some t =>
    refine ⟨hok, by simp [Act.put, putO, ok.size], fun m => ?_, ok.defers⟩
    have hsz := ok.size
    simp only [Act.put, putO, Array.getD_eq_getD_getElem?]
    rw [nth_set]
    by_cases hm : t = m ∧ t < st.s.length
    · rw [if_pos hm]
      obtain ⟨rfl, hlt⟩ := hm
      rw [Array.getElem?_setIfInBounds_self_of_lt (by rw [hsz]; exact hlt)]
      exact hv
    · rw [if_neg hm]
      have := hk _ _ (ok.slots m)
      rw [Array.getD_eq_getD_getElem?] at this
      by_cases ht : t = m
      · subst ht
        have hge : ¬ t < a.tmps.size := fun q => hm ⟨rfl, hsz ▸ q⟩
        rw [Array.getElem?_setIfInBounds, if_pos rfl, if_neg hge]
        rw [Array.getElem?_eq_none (Nat.le_of_not_lt hge)] at this
        exact this
      · rw [Array.getElem?_setIfInBounds, if_neg ht]
        exact this

/-- a slot whose bool is known -/
theorem lit_ok {w0 S0 st a w ρ} (ok : OkS w0 S0 st a w ρ) {t : Nat} {b c : Bool} (ht : nth st.s t .unk = .val (.bool b)) (hb : b = c) : OkS w0 S0 ⟨st.s.set t (.val (.bool c)), st.h⟩ a w ρ := by
  subst hb
  refine ⟨ok.ok, by simp [ok.size], fun m => ?_, ok.defers⟩
  have hm := ok.slots m
  simp only
  rw [nth_set]
  by_cases h : t = m ∧ t < st.s.length
  · rw [if_pos h]
    obtain ⟨rfl, _⟩ := h
    rw [ht] at hm
    exact hm
  · rw [if_neg h]; exact hm

theorem yielded_ok {w0 S0 st a w ρ} (ok : OkS w0 S0 st a w ρ) {ops : Array Oper} {j t : Nat} {b : Bool} (hj : gslot ops j = some t) (ht : nth st.s t .unk = .val (.bool b)) : yielded ops a.tmps j = some b := by
  have hlt : t < st.s.length := by
    rcases Nat.lt_or_ge t st.s.length with q | q
    · exact q
    · rw [nth_eq, List.getElem?_eq_none q] at ht; cases ht
  have hs := ok.slots t
  rw [ht] at hs
  have hs := hs.bool_inv
  rw [Array.getD_eq_getD_getElem?, Array.getElem?_eq_getElem (by rw [ok.size]; exact hlt)] at hs
  simp only [Option.getD_some] at hs
  unfold yielded
  unfold gslot at hj
  rw [hj]
  simp only [Option.bind_some]
  rw [Array.getElem?_eq_getElem (by rw [ok.size]; exact hlt), hs]

theorem undD_rd {w : World} {S : Nat → Prop} {ρ : List Nat} : RdD w S ρ undef undD := .val (@Rd.tup w S [] [] .nil)
theorem yielded_no {w0 S0 st a w ρ} (ok : OkS w0 S0 st a w ρ) {ops : Array Oper} {j t : Nat} (hj : gslot ops j = some t) (ht : nth st.s t .unk = undD) : yielded ops a.tmps j = none := by
  have hlt : t < st.s.length := by
    rcases Nat.lt_or_ge t st.s.length with q | q
    · exact q
    · rw [nth_eq, List.getElem?_eq_none q] at ht; cases ht
  have hs := ok.slots t
  rw [ht] at hs
  obtain ⟨arr, hs, _⟩ := hs.val_inv.tup_inv
  rw [Array.getD_eq_getD_getElem?, Array.getElem?_eq_getElem (by rw [ok.size]; exact hlt)] at hs
  simp only [Option.getD_some] at hs
  unfold yielded
  unfold gslot at hj
  rw [hj]
  simp only [Option.bind_some]
  rw [Array.getElem?_eq_getElem (by rw [ok.size]; exact hlt), hs]

theorem below_C {w0 : Base} {w : World} (_hst : Stable C) (hC : Hold C w0) (h : Kept w0 w) : C w := hC w h
theorem hold_base {w : World} (hst : Stable C) (hC : C w) : Hold C (base w) := fun w' h => hst w w' hC h.below

/-- a row of operations in the text's order -/
theorem evalOps_sound (hst : Stable C) {ops : Array Oper} {w0 : Base} {S0 : Nat → Prop} (hC : Hold C w0) (hS : ∀ b, w0.own b → S0 b) {Q : Exit → Act → World → Prop} {k : St → T}
    (hQ : ∀ st a w ρ, OkS w0 S0 st a w ρ → (k st).wp P C Qr Qo → Q .normal a w) : ∀ (l : List Oper) (i : Nat) (st : St) (a : Act) (w : World) (ρ : List Nat), ops.toList.drop i = l → OkS w0 S0 st a w ρ →
    (evalOps P ops false l st k).wp P C Qr Qo → wpOps P ops Q (List.range' i l.length) a w
  | [], i, st, a, w, ρ, _, ok, hw => by
    simp only [List.length_nil, List.range'_zero, wpOps]
    exact hQ st a w ρ ok hw
  | o :: rest, i, st, a, w, ρ, hl, ok, hw => by
    have hi : ops[i]? = some o := by
      have : (ops.toList.drop i)[0]? = some o := by rw [hl]; rfl
      rw [List.getElem?_drop] at this
      simpa using this
    have hrest : ops.toList.drop (i + 1) = rest := by
      have : (ops.toList.drop i).drop 1 = rest := by rw [hl]; rfl
      rwa [List.drop_drop] at this
    have hCw := below_C hst hC ok.ok.below
    simp only [List.length_cons, List.range'_succ, wpOps, hi]
    unfold evalOps at hw
    cases hg : o.guard with
    | none =>
      rw [hg] at hw
      simp only at hw
      rw [if_pos (by simp [Region.wanted, hg])]
      refine .inl (Oper.wp_mono ?_ (evalOp_sound ok.ok hC hS hw (fun x _ => eval_get ok x)))
      rintro a' w' ⟨v, d, h', ρ', rfl, h1, h2, h3, h4⟩
      exact evalOps_sound hst hC hS hQ rest (i + 1) _ _ _ _ hrest (put_ok ok h1 h2 h3) h4
    | some jw =>
      obtain ⟨j, want⟩ := jw
      rw [hg] at hw
      simp only at hw
      split at hw
      · rename_i t hj
        split at hw
        · rename_i b ht
          have hy := yielded_ok ok hj ht
          have hwanted : Region.wanted o (yielded ops a.tmps) = (b == want) := by
            simp only [Region.wanted, hg, hy]
            cases b <;> cases want <;> rfl
          have run : ∀ c : Bool, b = c → (evalOp P false o (getD (st.s.set t (.val (.bool c)))) st.h fun d h => evalOps P ops false rest ⟨putO (st.s.set t (.val (.bool c))) o.dst d, h⟩ k).wp P C Qr Qo →
              o.wp P a w (wpOps P ops Q (List.range' (i + 1) rest.length)) Q := by
            intro c hc hw
            have ok' := lit_ok ok ht hc
            refine Oper.wp_mono ?_ (evalOp_sound ok'.ok hC hS hw (fun x _ => eval_get ok' x))
            rintro a' w' ⟨v, d, h', ρ', rfl, h1, h2, h3, h4⟩
            exact evalOps_sound hst hC hS hQ rest (i + 1) _ _ _ _ hrest (put_ok ok' h1 h2 h3) h4
          have skip : ∀ c : Bool, b = c → (evalOps P ops false rest ⟨putO (st.s.set t (.val (.bool c))) o.dst undD, st.h⟩ k).wp P C Qr Qo →
              wpOps P ops Q (List.range' (i + 1) rest.length) (a.put o.dst undef) w := by
            intro c hc hw
            have ok' := lit_ok ok ht hc
            exact evalOps_sound hst hC hS hQ rest (i + 1) _ _ _ _ hrest (put_ok ok' ok'.ok undD_rd (fun _ _ q => q)) hw
          rw [hwanted]
          rcases of_br hw with ⟨hb, hw2⟩ | ⟨hb, hw2⟩ <;> clear hw <;> rcases of_cond hw2 with ⟨hwt, hw⟩ | ⟨hwt, hw⟩
          · rw [if_pos (by simp [hb, hwt])]; exact .inl (run _ hb hw)
          · rw [if_neg (by simp [hb, hwt])]; exact skip _ hb hw
          · rw [if_neg (by simp [hb, hwt])]; exact skip _ hb hw
          · rw [if_pos (by simp [hb, hwt])]; exact .inl (run _ hb hw)
        · rename_i ht
          rw [if_neg (by simp [Region.wanted, hg, yielded_no ok hj ht])]
          exact evalOps_sound hst hC hS hQ rest (i + 1) _ _ _ _ hrest (put_ok ok ok.ok undD_rd (fun _ _ q => q)) hw
        · exact hw.elim
      · exact hw.elim

end Go.Proofs.YtmbpoibhamlkbaaGreatDoor
