/-
  What the model does at each operation whose operands read as the evaluator says: one fact an operation. No condition.
-/
import Derived.Test.YtcijnloneigfcaaGreatDoorPvSem
import Derived.Laws.Sem
import Derived.Laws.Cells
import Derived.Laws.IdiomCopy
import Derived.Laws.NewBlocks
import Derived.Deep.MidRow
import Derived.Laws.Slices

namespace Go.Proofs.YtcijnloneigfcaaGreatDoor
open Go.RowKit
variable {P : Program}

theorem size_of {t : TypeId} {n : Nat} (h : sizeT P t = n) (hn : 0 < n) : ∃ i, P.info? t = some i ∧ i.size = n := by
  unfold sizeT Program.cellsOf at h
  cases hi : P.info? t with
  | none => rw [hi] at h; simp at h; omega
  | some i => rw [hi] at h; exact ⟨i, rfl, by simpa using h⟩

theorem info_of_under {t : TypeId} {d : TypeDesc} (h : P.underlying t = some d) : ∃ i, P.info? t = some i ∧ i.size = sizeT P t := by
  unfold Program.underlying at h
  unfold sizeT Program.cellsOf
  cases hi : P.info? t with
  | none => rw [hi] at h; cases h
  | some i => exact ⟨i, rfl, by simp⟩

theorem run_under {t : TypeId} {d : TypeDesc} (h : P.underlying t = some d) (w : World) : (underlying t).run P w = .ok d w := by
  simp [underlying, h]

theorem run_sizeOf {t : TypeId} {n : Nat} (h : sizeT P t = n) (hn : 0 < n) (w : World) : (sizeOf t).run P w = .ok n w := by
  obtain ⟨i, hi, hs⟩ := size_of h hn
  simp [sizeOf, typeInfo, hi, hs]

theorem kind_true {t : TypeId} (h : kindT P t = some true) : ∃ d, P.underlying t = some d ∧ d.isRow = true := by
  unfold kindT at h
  split at h
  · rename_i q; exact ⟨_, q, rfl⟩
  · rename_i q; exact ⟨_, q, rfl⟩
  · cases h
  · cases h

theorem kind_false {t : TypeId} (h : kindT P t = some false) (w : World) : (isAgg t).run P w = .ok false w := by
  unfold kindT at h
  split at h
  · cases h
  · cases h
  · rename_i d h1 h2 q
    unfold isAgg
    rw [Sem.run_bind, run_under q]
    cases d <;> first | rfl | (exact (h1 _ rfl).elim) | (exact (h2 _ _ rfl).elim)
  · cases h

theorem blt_iff {a b : Nat} : Nat.blt a b = true ↔ a < b := by
  unfold Nat.blt
  rw [Nat.ble_eq]
  omega

theorem kindEq_eq {k k' : IntKind} (h : kindEq k k' = true) : k = k' := by
  cases k <;> cases k' <;> first | rfl | (simp [kindEq] at h)

theorem isIntK_eq {k : IntKind} {v : V} (h : isIntK k v = true) : v = .int k (intV v) := by
  cases v <;> first | (rw [kindEq_eq (show kindEq k _ = true from h)]; rfl) | cases h

theorem load_run {t : TypeId} {cells : List V} {off : Nat} {v : V} (hl : loadC P t cells off = some (true, v)) {w : World} {S : Nat → Prop} {b o : Nat} {vals : List Value}
    (hr : RdL w S vals cells) (hv : ∀ j u, vals[j]? = some u → w.cell? ⟨b, o + j, none⟩ = some u) :
    ∃ x, (Instr.loadAt t (.pointer (some ⟨b, o + off, none⟩))).run P w = .ok x w ∧ Rd w S x v := by
  unfold loadC at hl
  split at hl
  · rename_i hk
    obtain ⟨d, hd, hrow⟩ := kind_true hk
    obtain ⟨i, hi, hs⟩ := info_of_under hd
    simp only [Option.some.injEq, Prod.mk.injEq, Nat.ble_eq] at hl
    obtain ⟨hle, rfl⟩ := hl
    have hlen : ((vals.drop off).take (sizeT P t)).length = sizeT P t := by
      have := hr.length
      simp; omega
    refine ⟨_, run_loadAt_mid w b (o + off) t ((vals.drop off).take (sizeT P t)) d ?_ hd hrow (by simp [hi, hs, hlen]), .agg ((hr.drop off).take _)⟩
    intro j u hu
    rw [List.getElem?_take] at hu
    split at hu
    · rw [List.getElem?_drop] at hu
      have := hv _ _ hu
      rwa [show o + (off + j) = o + off + j by omega] at this
    · cases hu
  · rename_i hk
    split at hl
    · simp only [Option.some.injEq, Prod.mk.injEq, Bool.and_eq_true] at hl
      obtain ⟨⟨hlt, hi⟩, rfl⟩ := hl
      have hlt := blt_iff.1 hlt
      obtain ⟨u, hu, hru⟩ := hr.get (nth_lt .unk hlt)
      rw [isIntK_eq hi] at hru
      refine ⟨u, ?_, hru⟩
      simp [Instr.loadAt, Instr.sureAddr, loadVar, kind_false hk, hv _ _ hu]
    · simp only [Option.some.injEq, Prod.mk.injEq] at hl
      obtain ⟨hlt, rfl⟩ := hl
      have hlt := blt_iff.1 hlt
      obtain ⟨u, hu, hru⟩ := hr.get (nth_lt .unk hlt)
      refine ⟨u, ?_, hru⟩
      simp [Instr.loadAt, Instr.sureAddr, loadVar, kind_false hk, hv _ _ hu]
  · cases hl

/-! ### arithmetic -/
theorem cond_some {α : Type} {b : Bool} {x : Option α} {y : α} (h : cond b x none = some y) : b = true ∧ x = some y := by
  cases b
  · cases h
  · exact ⟨rfl, h⟩

theorem eqGuard_int {op : BinOp} {t : TypeId} {x y : Operand} {k k' : IntKind} {a b : Int} (w : World) : (eqGuard op t x y (.int k a) (.int k' b)).run P w = .ok () w := by
  unfold eqGuard
  split <;> rfl
theorem eqGuard_bool {op : BinOp} {t : TypeId} {x y : Operand} {a b : Bool} (w : World) : (eqGuard op t x y (.bool a) (.bool b)).run P w = .ok () w := by
  unfold eqGuard
  split <;> rfl

theorem wrap_fits {k : IntKind} {n : Int} (h : fits k n = true) : k.wrap n = n := by
  simp only [fits, Bool.and_eq_true, iLe, decide_eq_true_eq] at h
  unfold IntKind.wrap
  cases k <;> simp [IntKind.bits, IntKind.signed, IntKind.min, IntKind.max] at h ⊢ <;> omega

theorem binW_run {op : BinOp} {xt : TypeId} {xo yo : Operand} {dx dy : D} {k : IntKind} {n : Int} (hb : binW op dx dy = some (true, k, n)) {w : World} {S : Nat → Prop} {ρ : List Nat} {x y : Value}
    (hx : RdD w S ρ x dx) (hy : RdD w S ρ y dy) : (do eqGuard op xt xo yo x y; binOp op xt x y : Sem Value).run P w = .ok (.int k (k.wrap n)) w := by
  unfold binW at hb
  split at hb
  · rename_i k a k' b
    obtain rfl := hx.int_inv
    obtain rfl := hy.int_inv
    rw [Sem.run_bind, eqGuard_int, Result.andThen_ok]
    cases op <;> simp only [Option.some.injEq, Prod.mk.injEq, Bool.and_eq_true, reduceCtorEq] at hb
    · obtain ⟨hk, rfl, rfl⟩ := hb
      obtain rfl := kindEq_eq hk
      simp [binOp, Op.intArith]
    · obtain ⟨hk, rfl, rfl⟩ := hb
      obtain rfl := kindEq_eq hk
      simp [binOp, Op.intArith]
    · obtain ⟨hk, rfl, rfl⟩ := hb
      obtain rfl := kindEq_eq hk
      simp [binOp, Op.intArith]
    · obtain ⟨⟨hk, hne⟩, rfl, rfl⟩ := hb
      obtain rfl := kindEq_eq hk
      simp only [binOp, Op.intDiv]
      rw [if_neg (by simp), if_neg (by simpa [iNe] using hne)]
      rfl
    · obtain ⟨hle, rfl, rfl⟩ := hb
      have hle : 0 ≤ b := by simpa [iLe] using hle
      simp only [binOp, Op.shift]
      rw [if_neg (by omega)]
      rfl
  · cases hb

theorem unW_run {op : UnOp} {dx : D} {k : IntKind} {n : Int} (hb : unW op dx = some (true, k, n)) {w : World} {S : Nat → Prop} {ρ : List Nat} {x : Value} (hx : RdD w S ρ x dx) :
    (Op.unary op x).run P w = .ok (.int k (k.wrap n)) w := by
  unfold unW at hb
  split at hb
  · obtain rfl := hx.int_inv
    cases op <;> simp only [Option.some.injEq, Prod.mk.injEq, reduceCtorEq] at hb
    obtain ⟨_, rfl, rfl⟩ := hb
    simp [Op.unary, Op.intArith]
  · cases hb

theorem convW_run {src dst : TypeId} {dx : D} {k : IntKind} {n : Int} (hb : convW P src dst dx = some (true, k, n)) {w : World} {S : Nat → Prop} {ρ : List Nat} {x : Value} (hx : RdD w S ρ x dx) :
    (convert src dst x).run P w = .ok (.int k (k.wrap n)) w := by
  unfold convW at hb
  split at hb
  · obtain rfl := hx.int_inv
    split at hb
    · rename_i h1 h2
      simp only [Option.some.injEq, Prod.mk.injEq] at hb
      obtain ⟨_, rfl, rfl⟩ := hb
      unfold convert
      rw [Sem.run_bind, run_under h1, Result.andThen_ok, Sem.run_bind, run_under h2, Result.andThen_ok]
      simp [Conv.intToInt]
    · cases hb
  · cases hb

theorem bin_run {op : BinOp} {xt : TypeId} {xo yo : Operand} {dx dy : D} {v : V} (hb : binV P op xt dx dy = some (true, v)) {w : World} {S : Nat → Prop} {ρ : List Nat} {x y : Value}
    (hx : RdD w S ρ x dx) (hy : RdD w S ρ y dy) :
    ∃ u, (do eqGuard op xt xo yo x y; binOp op xt x y : Sem Value).run P w = .ok u w ∧ Rd w S u v := by
  unfold binV at hb
  split at hb
  · rename_i k a k' b
    obtain rfl := hx.int_inv
    obtain rfl := hy.int_inv
    rw [Sem.run_bind, eqGuard_int, Result.andThen_ok]
    split at hb
    · simp only [Option.some.injEq, Prod.mk.injEq] at hb
      obtain ⟨hle, rfl⟩ := hb
      have hle : 0 ≤ b := by simpa [iLe] using hle
      refine ⟨_, ?_, .int⟩
      simp only [binOp, Op.shift]
      rw [if_neg (by omega)]
      rfl
    · rename_i h2
      obtain ⟨hk, hb2⟩ := cond_some hb
      have hk' := kindEq_eq hk
      subst hk'
      clear hb hk
      revert hb2
      intro hb
      cases op <;> first
        | exact (h2 rfl).elim
        | (simp only [binI, Option.some.injEq, Prod.mk.injEq] at hb
           obtain ⟨hc, rfl⟩ := hb
           first
             | (refine ⟨_, ?_, .int⟩; simp only [binOp, Op.intDiv, wRem]; rw [if_neg (by simp), if_neg (by simpa [iNe] using hc)]; rfl)
             | (refine ⟨_, ?_, .int⟩; simp [binOp, Op.intBits, wAnd, wOr, wXor, wAndNot]; done)
             | (refine ⟨_, ?_, .bool⟩; simp [binOp, Op.intCmp, iEq, iNe, iLt, iLe, iGt, iGe]; done))
        | (simp [binI] at hb)
        | (simp [binOp]; done)
  · rename_i a b
    obtain rfl := hx.bool_inv
    obtain rfl := hy.bool_inv
    rw [Sem.run_bind, eqGuard_bool, Result.andThen_ok]
    split at hb
    · rename_i hu
      have hq : (Op.equal xt (.bool a) (.bool b)).run P w = .ok (a == b) w := by
        unfold Op.equal Op.maxDepth Op.equalIn
        rw [Sem.run_bind, run_under hu, Result.andThen_ok]
        rfl
      cases op <;> first
        | (simp only [Option.some.injEq, Prod.mk.injEq] at hb
           obtain ⟨_, rfl⟩ := hb
           refine ⟨_, ?_, .bool⟩
           simp [binOp, hq, bEq])
        | cases hb
    · cases hb
  · cases hb

theorem un_run {op : UnOp} {dx : D} {v : V} (hb : unV op dx = some (true, v)) {w : World} {S : Nat → Prop} {ρ : List Nat} {x : Value} (hx : RdD w S ρ x dx) :
    ∃ u, (Op.unary op x).run P w = .ok u w ∧ Rd w S u v := by
  unfold unV at hb
  split at hb
  · rename_i k n
    obtain rfl := hx.int_inv
    cases op <;> first
      | (simp only [Option.some.injEq, Prod.mk.injEq] at hb
         obtain ⟨_, rfl⟩ := hb
         refine ⟨_, ?_, .int⟩
         simp only [Op.unary, Op.intBits, wXor]
         cases k.signed <;> rfl)
      | cases hb
  · rename_i b
    obtain rfl := hx.bool_inv
    cases op <;> first
      | (simp only [Option.some.injEq, Prod.mk.injEq] at hb
         obtain ⟨_, rfl⟩ := hb
         exact ⟨_, rfl, .bool⟩)
      | cases hb
  · cases hb

end Go.Proofs.YtcijnloneigfcaaGreatDoor

namespace Go.Proofs.YtcijnloneigfcaaGreatDoor
open Go.RowKit
variable {P : Program}

theorem part_run {t : TypeId} {l : List V} {off : Nat} {v : V} (hl : partV P t l off = some (true, v)) {w : World} {S : Nat → Prop} {arr : List Value} (hr : RdL w S arr l) :
    ∃ x, (part t arr.toArray off).run P w = .ok x w ∧ Rd w S x v := by
  unfold partV at hl
  split at hl
  · rename_i hk
    obtain ⟨d, hd, hrow⟩ := kind_true hk
    obtain ⟨i, hi, hs⟩ := info_of_under hd
    simp only [Option.some.injEq, Prod.mk.injEq, Nat.ble_eq] at hl
    obtain ⟨hle, rfl⟩ := hl
    have hagg : (isAgg t).run P w = .ok true w := by
      unfold isAgg
      rw [Sem.run_bind, run_under hd w]
      cases d <;> simp_all
    refine ⟨.agg ((arr.drop off).take (sizeT P t)).toArray, ?_, .agg ((hr.drop off).take _)⟩
    simp [part, hagg, sizeOf, typeInfo, hi, hs]
  · rename_i hk
    simp only [Option.some.injEq, Prod.mk.injEq] at hl
    obtain ⟨hlt, rfl⟩ := hl
    obtain ⟨u, hu, hru⟩ := hr.get (nth_lt .unk (blt_iff.1 hlt))
    refine ⟨u, ?_, hru⟩
    have hu' : arr.toArray[off]? = some u := by simpa using hu
    simp [part, kind_false hk, hu']
  · cases hl

theorem offF_run {s f o : Nat} {t : TypeId} (h : offF P s f = some (o, t)) : ∃ fs x, P.underlying s = some (.struct fs) ∧ fs[f]? = some x ∧ x.offset = o ∧ x.type = t ∧ 0 < sizeT P t := by
  unfold offF at h
  split at h
  · rename_i fs hu
    split at h
    · rename_i x hx
      obtain ⟨hb, h⟩ := cond_some h
      simp only [Option.some.injEq, Prod.mk.injEq] at h
      obtain ⟨rfl, rfl⟩ := h
      exact ⟨fs, x, hu, hx, rfl, rfl, blt_iff.1 hb⟩
    · cases h
  · cases h

theorem fieldAt_run {s f o : Nat} {t : TypeId} (h : offF P s f = some (o, t)) (w : World) (b off : Nat) :
    (Instr.fieldAt s (.pointer (some ⟨b, off, none⟩)) f).run P w = .ok (.pointer (some ⟨b, off + o, none⟩)) w := by
  obtain ⟨fs, x, hu, hx, rfl, rfl, hs⟩ := offF_run h
  have hz : (sizeOf x.type).run P w = .ok (sizeT P x.type) w := run_sizeOf rfl hs w
  simp [Instr.fieldAt, run_under hu, hx, Instr.sureAddr, fieldPlace, hz, Nat.ne_of_gt hs, Addr.add_mid]

theorem fieldAddr_run {s f : Nat} {dx d : D} (h : fieldAddrD P s f dx = some d) {w : World} {S : Nat → Prop} {ρ : List Nat} {x : Value} (hx : RdD w S ρ x dx) :
    ∃ u, (Instr.fieldAt s x f).run P w = .ok u w ∧ RdD w S ρ u d := by
  unfold fieldAddrD at h
  split at h
  · obtain ⟨β, hβ, rfl⟩ := hx.own_inv
    split at h
    · rename_i o t ho
      cases h
      exact ⟨_, fieldAt_run ho w _ _, .own hβ⟩
    · cases h
  · rename_i cells off
    have hx := hx.val_inv
    split at h
    · rename_i o t ho
      cases h
      cases hx with
      | pt h1 h2 h3 h4 =>
        refine ⟨_, fieldAt_run ho w _ _, .val ?_⟩
        rw [Nat.add_assoc]
        exact .pt h1 h2 h3 h4
    · cases h
  · cases h

theorem field_run {s f : Nat} {dx : D} {v : V} (h : fieldV P s f dx = some (true, v)) {w : World} {S : Nat → Prop} {ρ : List Nat} {x : Value} (hx : RdD w S ρ x dx) :
    ∃ u, (Instr.field s x f).run P w = .ok u w ∧ Rd w S u v := by
  unfold fieldV at h
  split at h
  · obtain ⟨arr, rfl, hr⟩ := hx.val_inv.agg_inv
    split at h
    · rename_i o t ho
      obtain ⟨fs, y, hu, hy, rfl, rfl, hs⟩ := offF_run ho
      obtain ⟨u, h1, h2⟩ := part_run h hr
      exact ⟨u, by simp [Instr.field, run_under hu, hy, asAgg, h1], h2⟩
    · cases h
  · cases h

/-! ### literals -/
theorem cells_rd {w : World} {S : Nat → Prop} {u : Value} {v : V} (h : Rd w S u v) (hc : okC v = true) : RdL w S u.cells.toList (cellsV v) := by
  cases h with
  | agg h => simpa [Value.cells, cellsV] using h
  | unk => simp [okC, isCell] at hc
  | tup h => simp [okC, isCell] at hc
  | bool => exact .cons .bool .nil
  | int => exact .cons .int .nil
  | nil => exact .cons .nil .nil
  | nilsl => exact .cons .nilsl .nil
  | sl h1 h2 h3 h4 h5 h6 => exact .cons (.sl h1 h2 h3 h4 h5 h6) .nil
  | pt h1 h2 h3 h4 => exact .cons (.pt h1 h2 h3 h4) .nil
  | clos h => exact .cons (.clos h) .nil

def spliceW (c : List Value) (off : Nat) : List Value → List Value
  | [] => c
  | v :: vs => spliceW (c.set off v) (off + 1) vs

theorem splice_rd {w : World} {S : Nat → Prop} : ∀ {vs : List Value} {xs : List V} {c : List Value} {d : List V} {off : Nat}, RdL w S c d → RdL w S vs xs → RdL w S (spliceW c off vs) (splice d off xs)
  | [], [], _, _, _, hc, _ => hc
  | [], _ :: _, _, _, _, _, h => nomatch h
  | _ :: _, [], _, _, _, _, h => nomatch h
  | _ :: _, _ :: _, _, _, off, hc, .cons h1 h2 => by
    unfold spliceW splice
    exact splice_rd (hc.set h1 off) h2

theorem fold_splice (off : Nat) : ∀ (l : List Value) (k : Nat) (cs : Array Value),
    ((l.zipIdx k).foldl (fun (cs : Array Value) (x : Value × Nat) => cs.setIfInBounds (off + x.2) x.1) cs).toList = spliceW cs.toList (off + k) l
  | [], _, _ => rfl
  | v :: l, k, cs => by
    simp only [List.zipIdx_cons, List.foldl_cons]
    rw [fold_splice off l (k + 1)]
    simp [spliceW, Nat.add_assoc]

/-- the parts of a literal, values beside what they read as -/
inductive RdP (w : World) (S : Nat → Prop) : List (Nat × Value) → List (Nat × V) → Prop
  | nil : RdP w S [] []
  | cons {i u v us vs} : Rd w S u v → RdP w S us vs → RdP w S ((i, u) :: us) ((i, v) :: vs)

theorem fill_run {w : World} {S : Nat → Prop} (place : Nat → Option (Nat × Nat)) : ∀ {us : List (Nat × Value)} {vs : List (Nat × V)} {cells : Array Value} {zs l : List V},
    RdL w S cells.toList zs → RdP w S us vs → fillV place zs vs = some l → ∃ cells', Instr.fill place cells us = some cells' ∧ RdL w S cells'.toList l
  | [], [], cells, zs, l, hc, _, h => by cases h; exact ⟨cells, rfl, hc⟩
  | [], _ :: _, _, _, _, _, h, _ => nomatch h
  | _ :: _, [], _, _, _, _, h, _ => nomatch h
  | (i, u) :: us, (_, v) :: vs, cells, zs, l, hc, .cons h1 h2, h => by
    unfold fillV at h
    cases hp : place i with
    | none => rw [hp] at h; cases h
    | some p =>
      obtain ⟨off, size⟩ := p
      rw [hp] at h
      obtain ⟨hb, h⟩ := cond_some h
      simp only [Bool.and_eq_true, Nat.beq_eq, Nat.ble_eq] at hb
      obtain ⟨⟨hb1, hb2⟩, hb3⟩ := hb
      have hu := cells_rd h1 hb1
      have hus : u.cells.size = size := by have := hu.length; simp at this; omega
      have hcs : cells.size = zs.length := by have := hc.length; simpa using this
      have e : (u.cells.zipIdx.foldl (fun (cs : Array Value) (x : Value × Nat) => cs.setIfInBounds (off + x.2) x.1) cells).toList = spliceW cells.toList off u.cells.toList := by
        rw [← Array.foldl_toList, Array.toList_zipIdx]
        exact fold_splice off _ 0 cells
      obtain ⟨cells', hf, hr⟩ := fill_run place (cells := u.cells.zipIdx.foldl (fun (cs : Array Value) (x : Value × Nat) => cs.setIfInBounds (off + x.2) x.1) cells) (by rw [e]; exact splice_rd hc hu) h2 h
      refine ⟨cells', ?_, hr⟩
      unfold Instr.fill
      rw [hp]
      simp only
      rw [if_neg (by simp [hus]; omega)]
      exact hf

theorem zero_rd {w : World} {S : Nat → Prop} (v : Value) : Rd w S v (cellV v) := by
  unfold cellV
  split <;> constructor
theorem zeros_rd {w : World} {S : Nat → Prop} (l : List Value) : RdL w S l (l.map cellV) := by
  induction l with
  | nil => exact .nil
  | cons v l ih => exact .cons (zero_rd v) ih

theorem const_rd {w : World} {S : Nat → Prop} (v : Value) : Rd w S v (constV v) := by
  unfold constV
  split
  · rename_i cs
    have := @Rd.agg w S cs.toList (cs.toList.map cellV) (zeros_rd _)
    simpa using this
  · exact zero_rd v

theorem zeroV_run {t : TypeId} {zs : List V} (h : zeroV P t = some zs) (w : World) : ∃ z, (zeroValue t).run P w = .ok z w ∧ zs = z.cells.toList.map cellV ∧
    ∃ i, P.info? t = some i ∧ i.zero = some z := by
  unfold zeroV at h
  split at h
  · rename_i i hi
    split at h
    · rename_i v hv
      cases h
      exact ⟨v, by simp [zeroValue, typeInfo, hi, hv], rfl, i, hi, hv⟩
    · cases h
  · cases h

theorem mapM_run {α β : Type} (w : World) (f : α → Sem β) (g : α → β) : ∀ (l : List α), (∀ x ∈ l, (f x).run P w = .ok (g x) w) → (l.mapM f).run P w = .ok (l.map g) w
  | [], _ => rfl
  | x :: l, h => by
    rw [List.mapM_cons, Sem.run_bind, h x (by simp), Result.andThen_ok, Sem.run_bind, mapM_run w f g l (fun y hy => h y (by simp [hy])), Result.andThen_ok]
    rfl

theorem vals_rd {w : World} {S : Nat → Prop} {ρ : List Nat} {ev : Operand → Value} {g : Operand → D} : ∀ {parts : List (Nat × Operand)} {ps : List (Nat × V)},
    (∀ x ∈ parts, RdD w S ρ (ev x.2) (g x.2)) → valsD (parts.map fun p => (p.1, g p.2)) = some ps → RdP w S (parts.map fun p => (p.1, ev p.2)) ps
  | [], ps, _, h => by cases h; exact .nil
  | (i, x) :: parts, ps, hx, h => by
    simp only [List.map_cons] at h ⊢
    have hx0 := hx (i, x) (by simp)
    generalize g x = gx at h hx0
    cases gx with
    | val v =>
      simp only [valsD] at h
      split at h
      · rename_i l hl
        cases h
        exact .cons hx0.val_inv (vals_rd (fun y hy => hx y (by simp [hy])) hl)
      · cases h
    | unk => cases h
    | own => cases h
    | osl => cases h
    | clo => cases h

theorem build_run {t : TypeId} {parts : Array (Nat × Operand)} {v : V} {g : Operand → D} (h : buildV P t (parts.toList.map fun p => (p.1, g p.2)) = some (true, v)) {w : World} {S : Nat → Prop}
    {ρ : List Nat} {ev : Operand → Value} (hx : ∀ x ∈ parts.toList, RdD w S ρ (ev x.2) (g x.2)) :
    ∃ u, (Instr.build t (parts.map fun (i, x) => (i, ev x))).run P w = .ok u w ∧ Rd w S u v := by
  unfold buildV at h
  split at h
  · rename_i zs ps pl hz hp hpl
    split at h
    · rename_i l hf
      simp only [Option.some.injEq, Prod.mk.injEq, true_and] at h
      subst h
      obtain ⟨z, hz1, rfl, _⟩ := zeroV_run hz w
      have hps := vals_rd hx hp
      obtain ⟨cells', h1, h2⟩ := fill_run pl (zeros_rd z.cells.toList) hps hf
      have e : (parts.map fun (i, x) => (i, ev x)).toList = parts.toList.map fun p => (p.1, ev p.2) := by simp
      refine ⟨.agg cells', ?_, by simpa using Rd.agg h2⟩
      unfold placeB at hpl
      unfold Instr.build
      simp only [Sem.run_bind, hz1, Result.andThen_ok]
      split at hpl
      · rename_i fs hu
        obtain ⟨hb, hpl⟩ := cond_some hpl
        cases hpl
        have hall : ∀ x ∈ fs.toList, 0 < sizeT P x.type := fun x hx => blt_iff.1 (List.all_eq_true.1 hb x hx)
        have hm : (fs.mapM (fun f => do pure (f.offset, ← sizeOf f.type) : Field → Sem (Nat × Nat))).run P w = .ok (fs.map fun f => (f.offset, sizeT P f.type)) w := by
          rw [Array.mapM_eq_mapM_toList, Sem.run_map, mapM_run w _ (fun f => (f.offset, sizeT P f.type))]
          · simp only [Result.andThen_ok]
            congr 1
            apply Array.ext'
            simp
          · intro x hx
            simp [run_sizeOf rfl (hall x hx)]
        simp only [run_under hu, Result.andThen_ok, Sem.run_bind, hm]
        have e2 : (fun i : Nat => (fs.map fun (f : Field) => (f.offset, sizeT P f.type))[i]?) = fun i : Nat => (fs[i]?).map fun (x : Field) => (x.offset, sizeT P x.type) := by
          funext i
          rw [Array.getElem?_map]
        rw [e, e2, h1]
        rfl
      · rename_i n el hu
        obtain ⟨hb, hpl⟩ := cond_some hpl
        cases hpl
        simp only [run_under hu, Result.andThen_ok, Sem.run_bind, run_sizeOf (P := P) (t := el) rfl (blt_iff.1 hb)]
        rw [e, h1]
        rfl
      · cases hpl
    · cases h
  · cases h

end Go.Proofs.YtcijnloneigfcaaGreatDoor

namespace Go.Proofs.YtcijnloneigfcaaGreatDoor
open Go.RowKit
variable {P : Program}

theorem inB_iff {i : Int} {n : Nat} : inB i n = true ↔ 0 ≤ i ∧ i < n := by
  simp [inB, iLe, iLt]

theorem mul_cond (n sz : Nat) : (cond (Nat.beq sz 1) n (n * sz)) = n * sz := by
  cases h : Nat.beq sz 1
  · rfl
  · rw [Nat.beq_eq] at h; subst h; simp

theorem index_run {t : TypeId} {dx di : D} {v : V} (h : indexV P t dx di = some (true, v)) {w : World} {S : Nat → Prop} {ρ : List Nat} {x i : Value} (hx : RdD w S ρ x dx) (hi : RdD w S ρ i di) :
    ∃ u, (Instr.index t x i).run P w = .ok u w ∧ Rd w S u v := by
  unfold indexV at h
  split at h
  · rename_i l k i
    obtain ⟨arr, rfl, hr⟩ := hx.val_inv.agg_inv
    obtain rfl := hi.int_inv
    split at h
    · rename_i n e hu
      obtain ⟨hb, h⟩ := cond_some h
      split at h
      · rename_i c v' hp
        simp only [Option.some.injEq, Prod.mk.injEq, Bool.and_eq_true] at h
        obtain ⟨⟨hin, rfl⟩, rfl⟩ := h
        obtain ⟨u, h1, h2⟩ := part_run hp hr
        refine ⟨u, ?_, h2⟩
        have hin := inB_iff.1 hin
        simp [Instr.index, asIntOf, run_under hu, hin, run_sizeOf (P := P) (t := e) rfl (blt_iff.1 hb), h1]
      · cases h
    · cases h
  · cases h

theorem slen_eq {sz : Nat} {cells : List V} {n : Nat} (hs : 0 < sz) (h : cells.length = n * sz) : slen sz cells = n := by
  unfold slen
  split
  · omega
  · rw [h]; exact Nat.mul_div_cancel n hs

theorem indexAt_run {t e : TypeId} {k : IntKind} {i : Int} {n cap sz b o : Nat} (hu : P.underlying t = some (.slice e)) (hs : sizeT P e = sz) (hpos : 0 < sz) (h0 : 0 ≤ i) (h1 : i < n) (w : World) :
    (Instr.indexAt t (.slice (some ⟨b, o, none⟩) n cap) (.int k i)).run P w = .ok (.pointer (some ⟨b, o + i.toNat * sz, none⟩)) w := by
  simp [Instr.indexAt, asIntOf, run_under hu, h0, h1, run_sizeOf hs hpos, Addr.add_mid]

theorem indexAddr_run {t : TypeId} {dx di d : D} (h : indexAddrD P t dx di = some (true, d)) {w : World} {S : Nat → Prop} {ρ : List Nat} {x i : Value} (hx : RdD w S ρ x dx) (hi : RdD w S ρ i di) :
    ∃ u, (Instr.indexAt t x i).run P w = .ok u w ∧ RdD w S ρ u d := by
  unfold indexAddrD at h
  split at h
  · rename_i sz cells k i
    obtain rfl := hi.int_inv
    split at h
    · rename_i e hu
      obtain ⟨hb, h⟩ := cond_some h
      simp only [Bool.and_eq_true, Nat.beq_eq] at hb
      simp only [Option.some.injEq, Prod.mk.injEq] at h
      obtain ⟨hin, rfl⟩ := h
      have hpos := blt_iff.1 hb.2
      have hin := inB_iff.1 hin
      have hx := hx.val_inv
      cases hx with
      | nilsl => simp only [slen_eq hpos (show ([] : List V).length = 0 * sz by simp)] at hin; omega
      | sl g1 g2 g3 g4 g5 g6 =>
        rename_i b o n cap vals
        rw [slen_eq hpos g4] at hin
        refine ⟨_, indexAt_run hu hb.1.symm hpos hin.1 hin.2 w, .val ?_⟩
        rw [mul_cond]
        exact .pt g1 g2 g5 g6
    · cases h
  · rename_i b off len sz k i
    obtain rfl := hi.int_inv
    split at h
    · rename_i e hu
      obtain ⟨hb, h⟩ := cond_some h
      simp only [Bool.and_eq_true, Nat.beq_eq] at hb
      simp only [Option.some.injEq, Prod.mk.injEq] at h
      obtain ⟨hin, rfl⟩ := h
      have hpos := blt_iff.1 hb.2
      have hin := inB_iff.1 hin
      cases hx with
      | osl g1 g2 g3 g4 =>
        refine ⟨_, indexAt_run hu hb.1.symm hpos hin.1 hin.2 w, ?_⟩
        rw [mul_cond]
        exact .own g1
    · cases h
  · rename_i b off k i
    obtain rfl := hi.int_inv
    obtain ⟨β, hβ, rfl⟩ := hx.own_inv
    split at h
    · rename_i n e hu
      obtain ⟨hb, h⟩ := cond_some h
      simp only [Bool.and_eq_true] at hb
      simp only [Option.some.injEq, Prod.mk.injEq] at h
      obtain ⟨hin, rfl⟩ := h
      have hin := inB_iff.1 hin
      have hpos := blt_iff.1 hb.1
      refine ⟨_, ?_, .own hβ⟩
      simp [Instr.indexAt, asIntOf, run_under hu, hin.1, hin.2, run_sizeOf (P := P) (t := e) rfl hpos, Addr.add_mid, Instr.sureAddr]
    · cases h
  · cases h

/-! ### slices of slices -/
theorem sliceBound_run (k : IntKind) (i : Int) (y : Nat) (code : BoundsCode) (h0 : 0 ≤ i) (h1 : i ≤ y) (w : World) : (Instr.sliceBound (.int k i) y code).run P w = .ok i.toNat w := by
  simp [Instr.sliceBound, asIntOf, h0, h1]

/-- an operand of a slice expression and its value -/
theorem bound_val {d : Option D} {dflt l : Int} {w : World} {S : Nat → Prop} {ρ : List Nat} {v : Option Value} (h : boundD d dflt = some l)
    (r : ∀ x, d = some x → ∃ u, v = some u ∧ RdD w S ρ u x) (n : d = none → v = none) : (v = none ∧ l = dflt) ∨ ∃ k, v = some (.int k l) := by
  unfold boundD at h
  split at h
  · cases h; exact .inl ⟨n rfl, rfl⟩
  · cases h
    obtain ⟨u, rfl, hu⟩ := r _ rfl
    obtain rfl := hu.int_inv
    exact .inr ⟨_, rfl⟩
  · cases h

theorem bounds_run {l m : Int} {len cap : Nat} (w : World) {vl vh : Option Value} (hcap : len ≤ cap)
    (hl : (vl = none ∧ l = 0) ∨ ∃ k, vl = some (.int k l)) (hm : (vh = none ∧ m = len) ∨ ∃ k, vh = some (.int k m)) (h0 : 0 ≤ l) (h1 : l ≤ m) (h2 : m ≤ len) :
    (Instr.sliceBounds true len cap vl vh none).run P w = .ok (l.toNat, m.toNat, cap) w := by
  unfold Instr.sliceBounds
  rcases hl with ⟨rfl, rfl⟩ | ⟨kl, rfl⟩ <;> rcases hm with ⟨rfl, rfl⟩ | ⟨km, rfl⟩
  · simp
  · simp [sliceBound_run (P := P) km m cap _ (by omega) (by omega) w]
  · simp [sliceBound_run (P := P) kl l len _ h0 (by omega) w]
  · simp [sliceBound_run (P := P) km m cap _ (by omega) (by omega) w, sliceBound_run (P := P) kl l m.toNat _ h0 (by omega) w]

theorem lenD_sl {sz : Nat} {cells : List V} {n : Nat} (h : lenD (.val (.sl sz cells)) = some n) : 0 < sz ∧ n = slen sz cells := by
  obtain ⟨hb, h⟩ := cond_some h
  exact ⟨blt_iff.1 hb, by cases h; rfl⟩

theorem slice_run {t : TypeId} {dx d : D} {lo hi : Option D} (h : sliceD P t dx lo hi = some (true, d)) {w : World} {S : Nat → Prop} {ρ : List Nat} {x : Value} {vl vh : Option Value} (hx : RdD w S ρ x dx)
    (rl : ∀ d, lo = some d → ∃ v, vl = some v ∧ RdD w S ρ v d) (nl : lo = none → vl = none)
    (rh : ∀ d, hi = some d → ∃ v, vh = some v ∧ RdD w S ρ v d) (nh : hi = none → vh = none) :
    ∃ u, (Instr.sliceAt t x vl vh none).run P w = .ok u w ∧ RdD w S ρ u d := by
  unfold sliceD at h
  split at h
  · rename_i e hu
    split at h
    · rename_i n hn
      split at h
      · rename_i l m hl hm
        have h' := cond_some h
        clear h
        obtain ⟨hpe', h⟩ := h'
        have hpe := blt_iff.1 hpe'
        clear hpe'
        have bl := bound_val hl rl nl
        have bh := bound_val hm rh nh
        have base : ∀ (a : Option Addr) (len cap : Nat), n = len → len ≤ cap → 0 ≤ l → l ≤ m → m ≤ n →
            (Instr.sliceAt t (.slice a len cap) vl vh none).run P w = .ok (.slice (if cap = l.toNat then a else a.map (·.add (l.toNat * sizeT P e))) (m.toNat - l.toNat) (cap - l.toNat)) w := by
          intro a len cap h1 h2 h3 h4 h5
          subst h1
          unfold Instr.sliceAt
          rw [Sem.run_bind, run_under hu, Result.andThen_ok]
          simp only [Instr.slice, Sem.run_bind, run_under hu, Result.andThen_ok, bounds_run w h2 bl bh h3 h4 h5, run_sizeOf (P := P) (t := e) rfl hpe, Sem.run_pure]
        split at h
        · -- nil
          simp only [Option.some.injEq, Prod.mk.injEq, Bool.and_eq_true, iLe, decide_eq_true_eq] at h
          obtain ⟨⟨⟨h3, h4⟩, h5⟩, rfl⟩ := h
          cases hn
          have hx := hx.val_inv
          cases hx
          refine ⟨_, base none 0 0 rfl (Nat.le_refl _) h3 h4 h5, ?_⟩
          have e1 : l = 0 := by omega
          have e2 : m = 0 := by omega
          rw [e1, e2]
          simp
          exact .val .nil
        · rename_i sz cells
          obtain ⟨hb, h⟩ := cond_some h
          rw [Nat.beq_eq] at hb
          simp only [Option.some.injEq, Prod.mk.injEq, Bool.and_eq_true, iLe, decide_eq_true_eq] at h
          obtain ⟨⟨⟨h3, h4⟩, h5⟩, rfl⟩ := h
          obtain ⟨hpos, rfl⟩ := lenD_sl hn
          have hx := hx.val_inv
          simp only [mul_cond]
          cases hx with
          | nilsl =>
            have e0 : slen sz ([] : List V) = 0 := slen_eq hpos (by simp)
            refine ⟨_, base none 0 0 e0 (Nat.le_refl _) h3 h4 h5, ?_⟩
            rw [e0] at h5
            have e1 : l = 0 := by omega
            have e2 : m = 0 := by omega
            rw [e1, e2]
            simp
            exact .val .nilsl
          | sl g1 g2 g3 g4 g5 g6 =>
            rename_i b o n cap vals
            have e0 := slen_eq hpos g4
            refine ⟨_, base _ n cap e0 g3 h3 h4 h5, ?_⟩
            rw [e0] at h5
            have hlen : ((cells.drop (l.toNat * sz)).take ((m - l).toNat * sz)).length = (m.toNat - l.toNat) * sz := by
              have hle : (l.toNat + (m - l).toNat) * sz ≤ n * sz := Nat.mul_le_mul_right sz (by omega)
              rw [Nat.add_mul] at hle
              rw [List.length_take, List.length_drop, g4, show (m.toNat - l.toNat) = (m - l).toNat by omega]
              omega
            by_cases hc : cap = l.toNat
            · rw [if_pos hc]
              have hz : m.toNat - l.toNat = 0 := by omega
              rw [hz, Nat.zero_mul] at hlen
              have hnil := List.eq_nil_of_length_eq_zero hlen
              rw [hz, hnil]
              exact .val (.sl g1 g2 (Nat.zero_le _) (by simp) .nil (fun i v hv => by simp at hv))
            · rw [if_neg hc]
              simp only [Option.map_some, Addr.add_mid]
              refine .val (.sl g1 g2 (by omega) hlen ((g5.drop (l.toNat * sz)).take ((m - l).toNat * sz)) ?_)
              intro i v hv
              rw [List.getElem?_take] at hv
              split at hv
              · rw [List.getElem?_drop] at hv
                have := g6 _ _ hv
                rw [← hb]
                rwa [Nat.add_assoc]
              · cases hv
        · rename_i b off len sz
          obtain ⟨hb, h⟩ := cond_some h
          rw [Nat.beq_eq] at hb
          simp only [Option.some.injEq, Prod.mk.injEq, Bool.and_eq_true, iLe, decide_eq_true_eq] at h
          obtain ⟨⟨⟨⟨h3, h4⟩, h5⟩, h6⟩, rfl⟩ := h
          cases hn
          have h6 : l = 0 ∨ l < n := by simpa [iEq, iLt] using h6
          simp only [mul_cond]
          cases hx with
          | osl g1 g2 g3 g4 =>
            rename_i β cap ty k
            refine ⟨_, base _ n cap rfl g2 h3 h4 h5, ?_⟩
            have hk : off + l.toNat * sz + (cap - l.toNat) * sz = off + cap * sz := by
              rw [Nat.add_assoc, ← Nat.add_mul, show l.toNat + (cap - l.toNat) = cap by omega]
            by_cases hc : cap = l.toNat
            · have e1 : l = 0 := by omega
              have e2 : m = 0 := by omega
              rw [if_pos hc, e1, e2]
              simp only [Int.toNat_zero, Nat.zero_mul, Nat.add_zero, Nat.sub_zero, Int.sub_self]
              exact .osl g1 (Nat.zero_le _) g3 g4
            · rw [if_neg hc]
              simp only [Option.map_some, Addr.add_mid]
              rw [show m.toNat - l.toNat = (m - l).toNat by omega, ← hb]
              exact .osl g1 (by omega) g3 (by omega)
        · cases h
      · cases h
    · cases h
  · cases h

end Go.Proofs.YtcijnloneigfcaaGreatDoor
