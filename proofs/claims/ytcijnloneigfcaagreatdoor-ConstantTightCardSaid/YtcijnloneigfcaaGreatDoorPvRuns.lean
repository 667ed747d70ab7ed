/-
  What the model does at each operation whose operands read as the evaluator says: one fact an operation. No condition.
-/
import Derived.Test.YtcijnloneigfcaaGreatDoorPvSem
import Derived.Laws.Sem
import Derived.Laws.Cells
import Derived.Laws.IdiomCopy
import Derived.Laws.NewBlocks
import Derived.Deep.MidRow
import Derived.Laws.Slices
namespace Go.Proofs.YtcijnloneigfcaaGreatDoor
open Go.RowKit
variable {P : Program}

theorem size_of {t : TypeId} {n : Nat} (h : sizeT P t = n) (hn : 0 < n) : ∃ i, P.info? t = some i ∧ i.size = n := by
  unfold sizeT Program.cellsOf at h
  cases hi : P.info? t with
  | none => rw [hi] at h; simp at h; omega
  | some i => rw [hi] at h; exact ⟨i, rfl, by simpa using h⟩

theorem info_of_under {t : TypeId} {d : TypeDesc} (h : P.underlying t = some d) : ∃ i, P.info? t = some i ∧ i.size = sizeT P t := by
  unfold Program.underlying at h
  unfold sizeT Program.cellsOf
  cases hi : P.info? t with
  | none => rw [hi] at h; cases h
  | some i => exact ⟨i, rfl, by simp⟩

theorem run_under {t : TypeId} {d : TypeDesc} (h : P.underlying t = some d) (w : World) : (underlying t).run P w = .ok d w := by
  simp [underlying, h]

theorem run_sizeOf {t : TypeId} {n : Nat} (h : sizeT P t = n) (hn : 0 < n) (w : World) : (sizeOf t).run P w = .ok n w := by
  obtain ⟨i, hi, hs⟩ := size_of h hn
  simp [sizeOf, typeInfo, hi, hs]

theorem kind_true {t : TypeId} (h : kindT P t = some true) : ∃ d, P.underlying t = some d ∧ d.isRow = true := by
  unfold kindT at h
  split at h
  · rename_i q; exact ⟨_, q, rfl⟩
  · rename_i q; exact ⟨_, q, rfl⟩
  · cases h
  · cases h

theorem kind_false {t : TypeId} (h : kindT P t = some false) (w : World) : (isAgg t).run P w = .ok false w := by
  unfold kindT at h
  split at h
  · cases h
  · cases h
  · rename_i d h1 h2 q
    unfold isAgg
    rw [Sem.run_bind, run_under q]
    cases d <;> first | rfl | (exact (h1 _ rfl).elim) | (exact (h2 _ _ rfl).elim)
  · cases h

theorem blt_iff {a b : Nat} : Nat.blt a b = true ↔ a < b := by
  unfold Nat.blt
  rw [Nat.ble_eq]
  omega

theorem kindEq_eq {k k' : IntKind} (h : kindEq k k' = true) : k = k' := by
  cases k <;> cases k' <;> first | rfl | (simp [kindEq] at h)

theorem isIntK_eq {k : IntKind} {v : V} (h : isIntK k v = true) : v = .int k (intV v) := by
  cases v <;> first | (rw [kindEq_eq (show kindEq k _ = true from h)]; rfl) | cases h

theorem load_run {t : TypeId} {cells : List V} {off : Nat} {v : V} (hl : loadC P t cells off = some (true, v)) {w : World} {S : Nat → Prop} {b o : Nat} {vals : List Value}
    (hr : RdL w S vals cells) (hv : ∀ j u, vals[j]? = some u → w.cell? ⟨b, o + j, none⟩ = some u) :
    ∃ x, (Instr.loadAt t (.pointer (some ⟨b, o + off, none⟩))).run P w = .ok x w ∧ Rd w S x v := by
  unfold loadC at hl
  split at hl
  · rename_i hk
    obtain ⟨d, hd, hrow⟩ := kind_true hk
    obtain ⟨i, hi, hs⟩ := info_of_under hd
    simp only [Option.some.injEq, Prod.mk.injEq, Nat.ble_eq] at hl
    obtain ⟨hle, rfl⟩ := hl
    have hlen : ((vals.drop off).take (sizeT P t)).length = sizeT P t := by
      have := hr.length
      simp; omega
    refine ⟨_, run_loadAt_mid w b (o + off) t ((vals.drop off).take (sizeT P t)) d ?_ hd hrow (by simp [hi, hs, hlen]), .agg ((hr.drop off).take _)⟩
    intro j u hu
    rw [List.getElem?_take] at hu
    split at hu
    · rw [List.getElem?_drop] at hu
      have := hv _ _ hu
      rwa [show o + (off + j) = o + off + j by omega] at this
    · cases hu
  · rename_i hk
    split at hl
    · simp only [Option.some.injEq, Prod.mk.injEq, Bool.and_eq_true] at hl
      obtain ⟨⟨hlt, hi⟩, rfl⟩ := hl
      have hlt := blt_iff.1 hlt
      obtain ⟨u, hu, hru⟩ := hr.get (nth_lt .unk hlt)
      rw [isIntK_eq hi] at hru
      refine ⟨u, ?_, hru⟩
      simp [Instr.loadAt, Instr.sureAddr, loadVar, kind_false hk, hv _ _ hu]
    · simp only [Option.some.injEq, Prod.mk.injEq] at hl
      obtain ⟨hlt, rfl⟩ := hl
      have hlt := blt_iff.1 hlt
      obtain ⟨u, hu, hru⟩ := hr.get (nth_lt .unk hlt)
      refine ⟨u, ?_, hru⟩
      simp [Instr.loadAt, Instr.sureAddr, loadVar, kind_false hk, hv _ _ hu]
  · cases hl

/-! ### arithmetic -/
theorem cond_some {α : Type} {b : Bool} {x : Option α} {y : α} (h : cond b x none = some y) : b = true ∧ x = some y := by
  cases b
  · cases h
  · exact ⟨rfl, h⟩

theorem eqGuard_int {op : BinOp} {t : TypeId} {x y : Operand} {k k' : IntKind} {a b : Int} (w : World) : (eqGuard op t x y (.int k a) (.int k' b)).run P w = .ok () w := by
  unfold eqGuard
  split <;> rfl
theorem eqGuard_bool {op : BinOp} {t : TypeId} {x y : Operand} {a b : Bool} (w : World) : (eqGuard op t x y (.bool a) (.bool b)).run P w = .ok () w := by
  unfold eqGuard
  split <;> rfl

theorem wrap_fits {k : IntKind} {n : Int} (h : fits k n = true) : k.wrap n = n := by
  simp only [fits, Bool.and_eq_true, iLe, decide_eq_true_eq] at h
  unfold IntKind.wrap
  cases k <;> simp [IntKind.bits, IntKind.signed, IntKind.min, IntKind.max] at h ⊢ <;> omega

theorem binW_run {op : BinOp} {xt : TypeId} {xo yo : Operand} {dx dy : D} {k : IntKind} {n : Int} (hb : binW op dx dy = some (true, k, n)) {w : World} {S : Nat → Prop} {ρ : List Nat} {x y : Value}
    (hx : RdD w S ρ x dx) (hy : RdD w S ρ y dy) : (do eqGuard op xt xo yo x y; binOp op xt x y : Sem Value).run P w = .ok (.int k (k.wrap n)) w := by
  unfold binW at hb
  split at hb
  · rename_i k a k' b
    obtain rfl := hx.int_inv
    obtain rfl := hy.int_inv
    rw [Sem.run_bind, eqGuard_int, Result.andThen_ok]
    cases op <;> simp only [Option.some.injEq, Prod.mk.injEq, Bool.and_eq_true, reduceCtorEq] at hb
    · obtain ⟨hk, rfl, rfl⟩ := hb
      obtain rfl := kindEq_eq hk
      simp [binOp, Op.intArith]
    · obtain ⟨hk, rfl, rfl⟩ := hb
      obtain rfl := kindEq_eq hk
      simp [binOp, Op.intArith]
    · obtain ⟨hk, rfl, rfl⟩ := hb
      obtain rfl := kindEq_eq hk
      simp [binOp, Op.intArith]
    · obtain ⟨⟨hk, hne⟩, rfl, rfl⟩ := hb
      obtain rfl := kindEq_eq hk
      simp only [binOp, Op.intDiv]
      rw [if_neg (by simp), if_neg (by simpa [iNe] using hne)]
      rfl
    · obtain ⟨hle, rfl, rfl⟩ := hb
      have hle : 0 ≤ b := by simpa [iLe] using hle
      simp only [binOp, Op.shift]
      rw [if_neg (by omega)]
      rfl
  · cases hb

theorem unW_run {op : UnOp} {dx : D} {k : IntKind} {n : Int} (hb : unW op dx = some (true, k, n)) {w : World} {S : Nat → Prop} {ρ : List Nat} {x : Value} (hx : RdD w S ρ x dx) :
    (Op.unary op x).run P w = .ok (.int k (k.wrap n)) w := by
  unfold unW at hb
  split at hb
  · obtain rfl := hx.int_inv
    cases op <;> simp only [Option.some.injEq, Prod.mk.injEq, reduceCtorEq] at hb
    obtain ⟨_, rfl, rfl⟩ := hb
    simp [Op.unary, Op.intArith]
  · cases hb

theorem convW_run {src dst : TypeId} {dx : D} {k : IntKind} {n : Int} (hb : convW P src dst dx = some (true, k, n)) {w : World} {S : Nat → Prop} {ρ : List Nat} {x : Value} (hx : RdD w S ρ x dx) :
    (convert src dst x).run P w = .ok (.int k (k.wrap n)) w := by
  unfold convW at hb
  split at hb
  · obtain rfl := hx.int_inv
    split at hb
    · rename_i h1 h2
      simp only [Option.some.injEq, Prod.mk.injEq] at hb
      obtain ⟨_, rfl, rfl⟩ := hb
      unfold convert
      rw [Sem.run_bind, run_under h1, Result.andThen_ok, Sem.run_bind, run_under h2, Result.andThen_ok]
      simp [Conv.intToInt]
    · cases hb
  · cases hb

theorem bin_run {op : BinOp} {xt : TypeId} {xo yo : Operand} {dx dy : D} {v : V} (hb : binV P op xt dx dy = some (true, v)) {w : World} {S : Nat → Prop} {ρ : List Nat} {x y : Value}
    (hx : RdD w S ρ x dx) (hy : RdD w S ρ y dy) :
    ∃ u, (do eqGuard op xt xo yo x y; binOp op xt x y : Sem Value).run P w = .ok u w ∧ Rd w S u v := by
  unfold binV at hb
  split at hb
  · rename_i k a k' b
    obtain rfl := hx.int_inv
    obtain rfl := hy.int_inv
    rw [Sem.run_bind, eqGuard_int, Result.andThen_ok]
    split at hb
    · simp only [Option.some.injEq, Prod.mk.injEq] at hb
      obtain ⟨hle, rfl⟩ := hb
      have hle : 0 ≤ b := by simpa [iLe] using hle
      refine ⟨_, ?_, .int⟩
      simp only [binOp, Op.shift]
      rw [if_neg (by omega)]
      rfl
    · rename_i h2
      obtain ⟨hk, hb2⟩ := cond_some hb
      have hk' := kindEq_eq hk
      subst hk'
      clear hb hk
      revert hb2
      intro hb
      cases op <;> first
        | exact (h2 rfl).elim
        | (simp only [binI, Option.some.injEq, Prod.mk.injEq] at hb
           obtain ⟨hc, rfl⟩ := hb
           first
             | (refine ⟨_, ?_, .int⟩; simp only [binOp, Op.intDiv, wRem]; rw [if_neg (by simp), if_neg (by simpa [iNe] using hc)]; rfl)
             | (refine ⟨_, ?_, .int⟩; simp [binOp, Op.intBits, wAnd, wOr, wXor, wAndNot]; done)
             | (refine ⟨_, ?_, .bool⟩; simp [binOp, Op.intCmp, iEq, iNe, iLt, iLe, iGt, iGe]; done))
        | (simp [binI] at hb)
        | (simp [binOp]; done)
  · rename_i a b
    obtain rfl := hx.bool_inv
    obtain rfl := hy.bool_inv
    rw [Sem.run_bind, eqGuard_bool, Result.andThen_ok]
    split at hb
    · rename_i hu
      have hq : (Op.equal xt (.bool a) (.bool b)).run P w = .ok (a == b) w := by
        unfold Op.equal Op.maxDepth Op.equalIn
        rw [Sem.run_bind, run_under hu, Result.andThen_ok]
        rfl
      cases op <;> first
        | (simp only [Option.some.injEq, Prod.mk.injEq] at hb
           obtain ⟨_, rfl⟩ := hb
           refine ⟨_, ?_, .bool⟩
           simp [binOp, hq, bEq])
        | cases hb
    · cases hb
  · cases hb

theorem un_run {op : UnOp} {dx : D} {v : V} (hb : unV op dx = some (true, v)) {w : World} {S : Nat → Prop} {ρ : List Nat} {x : Value} (hx : RdD w S ρ x dx) :
    ∃ u, (Op.unary op x).run P w = .ok u w ∧ Rd w S u v := by
  unfold unV at hb
  split at hb
  · rename_i k n
    obtain rfl := hx.int_inv
    cases op <;> first
      | (simp only [Option.some.injEq, Prod.mk.injEq] at hb
         obtain ⟨_, rfl⟩ := hb
         refine ⟨_, ?_, .int⟩
         simp only [Op.unary, Op.intBits, wXor]
         cases k.signed <;> rfl)
      | cases hb
  · rename_i b
    obtain rfl := hx.bool_inv
    cases op <;> first
      | (simp only [Option.some.injEq, Prod.mk.injEq] at hb
         obtain ⟨_, rfl⟩ := hb
         exact ⟨_, rfl, .bool⟩)
      | cases hb
  · cases hb

end Go.Proofs.YtcijnloneigfcaaGreatDoor
