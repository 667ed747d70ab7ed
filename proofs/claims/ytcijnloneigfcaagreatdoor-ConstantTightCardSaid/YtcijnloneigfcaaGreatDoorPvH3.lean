/-
  append: what the model does, and that the evaluator's step is sound. Condition: none beyond the tree's.
-/
import Derived.Test.YtcijnloneigfcaaGreatDoorPvH2
namespace Go.Proofs.YtcijnloneigfcaaGreatDoor
open Go.RowKit
variable {P : Program} {C : World → Prop} {Qr : V → Prop} {Qo : Ex → St → Prop}

/-- the cells of what is appended -/
theorem src_run {w0 S0 w ρ h} (ok : OkH w0 S0 w ρ h) {dx : D} {c : List V} {n sz : Nat} (hc : srcV h dx = some c) (hn : lenD dx = some n) (hs : srcOk h sz dx = true) {x : Value} (hx : RdD w (stab S0 ρ h) ρ x dx) :
    ∃ (a : Option Addr) (cap : Nat) (us : List Value), x = .slice a n cap ∧ RdL w (stab S0 ρ h) us c ∧ c.length = n * sz ∧
      ∀ w1 : World, w1.heap = w.heap → (Builtin.firstCells sz n x).run P w1 = .ok us.toArray w1 := by
  unfold srcV at hc
  split at hc
  · cases hc
    cases hn
    have := hx.val_inv
    cases this
    exact ⟨none, 0, [], rfl, .nil, by simp, fun w1 _ => rfl⟩
  · rename_i s cells
    cases hc
    simp only [srcOk, Nat.beq_eq] at hs
    subst hs
    obtain ⟨hpos, rfl⟩ := lenD_sl hn
    have := hx.val_inv
    cases this with
    | nilsl =>
      have e0 : slen s ([] : List V) = 0 := slen_eq hpos (by simp)
      rw [e0]
      exact ⟨none, 0, [], rfl, .nil, by simp, fun w1 _ => rfl⟩
    | sl g1 g2 g3 g4 g5 g6 =>
      rename_i b o m cap vals
      rw [slen_eq hpos g4]
      refine ⟨_, cap, vals, rfl, g5, g4, fun w1 hw1 => ?_⟩
      have := run_loadCells_list (P := P) w1 ⟨b, o, none⟩ vals (fun j v hv => by
        rw [Addr.add_mid]
        have := g6 j v hv
        unfold World.cell? at this ⊢
        rw [hw1]; exact this)
      unfold Builtin.firstCells
      rw [← g4, ← g5.length]
      exact this
  · rename_i b off len s
    obtain ⟨ha, hc⟩ := cond_some hc
    cases hc
    cases hn
    simp only [srcOk, Bool.and_eq_true, Nat.beq_eq, Nat.ble_eq, mul_cond] at hs
    obtain ⟨rfl, hle⟩ := hs
    cases hx with
    | osl hβ hlc hsh hcap =>
      rename_i β cap e k
      obtain ⟨vals, h1, h2⟩ := ok.cells ha hβ
      have hlen := h1.length
      simp only [mul_cond]
      have hl2 : ((vals.drop off).take (n * s)).length = n * s := by rw [List.length_take, List.length_drop]; omega
      refine ⟨_, cap, (vals.drop off).take (n * s), rfl, (h1.drop off).take _, by rw [List.length_take, List.length_drop]; omega, fun w1 hw1 => ?_⟩
      have := run_loadCells_list (P := P) w1 ⟨β, off, none⟩ ((vals.drop off).take (n * s)) (fun j v hv => by
        rw [Addr.add_mid]
        rw [List.getElem?_take] at hv
        split at hv
        · rw [List.getElem?_drop] at hv
          have := (h2 _ _ hv).1
          unfold World.cell? at this ⊢
          rw [hw1]; exact this
        · cases hv)
      unfold Builtin.firstCells
      rw [hl2] at this
      exact this
  · cases hc

/-- append within the capacity -/
theorem append_fits {t e : TypeId} {sz : Nat} {zs : List V} (he : elemT P t = some (e, sz, zs)) {ty : TypeId} {β len cap n : Nat} {a : Option Addr} {xcap : Nat}
    {us : List Value} {w : World} (hf : (Builtin.firstCells sz n (.slice a n xcap)).run P w = .ok us.toArray w) (hfit : len + n ≤ cap)
    (hst : (storeCells ⟨β, len * sz, none⟩ us).run P w = .ok () (w.setCells β (len * sz) us)) :
    (Builtin.append_ #[t, t] ty #[.slice (some ⟨β, 0, none⟩) len cap, .slice a n xcap]).run P w = .ok (.slice (some ⟨β, 0, none⟩) (len + n) cap) (w.setCells β (len * sz) us) := by
  obtain ⟨hu, hz, hl, hs, hpos, hb⟩ := elemT_of he
  simp [Builtin.append_, run_under hu, run_sizeOf hs hpos, Builtin.lenOf, hfit, hf, Addr.add_mid, hst]

/-- append beyond the capacity: a new block -/
theorem append_grows {t e : TypeId} {sz : Nat} {zs : List V} (he : elemT P t = some (e, sz, zs)) {ty : TypeId} {base a : Option Addr} {len cap n xcap : Nat}
    {us os : List Value} {w : World} (hf : ∀ w1 : World, w1.heap = w.heap → (Builtin.firstCells sz n (.slice a n xcap)).run P w1 = .ok us.toArray w1)
    (ho : ∀ w1 : World, w1.heap = w.heap → (Builtin.firstCells sz len (.slice base len cap)).run P w1 = .ok os.toArray w1) (hg : cap < len + n) (hsm : len + n ≤ 1073741824) :
    ∃ (newCap : Nat) (rest : List Value), len + n ≤ newCap ∧ rest.length = (newCap - (len + n)) * sz ∧
      (Builtin.append_ #[t, t] ty #[.slice base len cap, .slice a n xcap]).run P w = .ok (.slice (some ⟨w.heap.size, 0, none⟩) (len + n) newCap) (push w.drew (os ++ us ++ rest).toArray e) := by
  obtain ⟨hu, hz, hl, hs, hpos, hb⟩ := elemT_of he
  obtain ⟨z, hz1, rfl, i, hi, hiz⟩ := zeroV_run hz w
  have hzs : z.cells.size = sz := by simpa using hl
  have hbi : i.bytes = P.bytesOf e := by simp [Program.bytesOf, hi]
  have hsi : i.size = sz := by rw [← hs]; simp [sizeT, Program.cellsOf, hi]
  refine ⟨grownCap w (len + n) cap e, (Builtin.zeroCells z.cells (grownCap w (len + n) cap e - (len + n))).toList, grownCap_ge _ _ _ _, by simp [size_zeroCells, hzs], ?_⟩
  have h1 : ¬ (len + n ≤ cap) := by omega
  have h2 : ¬ ((9223372036854775807 : Int) < (len : Int) + (n : Int)) := by omega
  have hfit : Builtin.nextslicecap (len + n) cap * i.bytes ≤ 281474976710656 := growslice_fits hg (by
    rw [hbi]
    have : (len + n) * P.bytesOf e ≤ 1073741824 * 1000 := Nat.mul_le_mul hsm hb
    omega)
  have h3 : ¬ (281474976710656 < Builtin.nextslicecap (len + n) cap * i.bytes) := by omega
  have hf' := hf w.drew rfl
  have ho' := ho w.drew rfl
  simp [Builtin.append_, run_under hu, sizeOf, typeInfo, zeroValue, hi, hiz, hsi, Builtin.lenOf, h1, h2, h3, Question.forced, hf', ho', newRow, grownCap]
  show push w.drew _ e = push w.drew _ e
  congr 1
  apply Array.ext'
  simp

theorem take_splice : ∀ (us vals : List Value) (off : Nat), off + us.length ≤ vals.length → (spliceW vals off us).take (off + us.length) = vals.take off ++ us
  | [], vals, off, _ => by simp [spliceW]
  | u :: us, vals, off, h => by
    simp only [List.length_cons] at h
    rw [spliceW, show off + (u :: us).length = (off + 1) + us.length by simp; omega, take_splice us (vals.set off u) (off + 1) (by simp; omega)]
    rw [List.take_succ_eq_append_getElem (by simp; omega)]
    simp [List.take_set_of_le]

/-- a box dies -/
theorem kill_ok {w0 S0 w ρ h} (ok : OkH w0 S0 w ρ h) (b : Nat) : OkH w0 S0 w ρ (setBox h b ⟨false, false, []⟩) ∧ (∀ c, stab S0 ρ h c → stab S0 ρ (setBox h b ⟨false, false, []⟩) c) := by
  have hst : ∀ c, stab S0 ρ h c → stab S0 ρ (setBox h b ⟨false, false, []⟩) c := fun c hc => ⟨hc.1, fun i x hi xa xf hic => by
    simp only [setBox, List.getElem?_set] at hi
    split at hi
    · split at hi
      · cases hi; cases xa
      · cases hi
    · exact hc.2 i x hi xa xf hic⟩
  have back : ∀ (i : Nat) (x : Box), (setBox h b ⟨false, false, []⟩)[i]? = some x → x.alive = true → h[i]? = some x := by
    intro i x hi xa
    simp only [setBox, List.getElem?_set] at hi
    split at hi
    · split at hi
      · cases hi; cases xa
      · cases hi
    · exact hi
  refine ⟨⟨ok.below, ?_, ok.heap.low, ?_, ?_⟩, hst⟩
  · simp [setBox, ok.heap.len]
  · intro i j x y β hi hj xa ya gi gj
    exact ok.heap.inj i j x y β (back i x hi xa) (back j y hj ya) xa ya gi gj
  · intro i x β hi xa gi
    obtain ⟨vs, t, h1, h2, h3⟩ := ok.heap.box i x β (back i x hi xa) xa gi
    exact ⟨vs, t, h1, h2, h3.lasts ⟨Nat.le_refl _, fun c _ hs => ⟨hst c hs, rfl⟩⟩⟩

end Go.Proofs.YtcijnloneigfcaaGreatDoor
