/-
  What the model does at each operation, continued: indexes, slices, lengths. No condition.
-/
import Derived.Test.YtcijnloneigfcaaGreatDoorPvRuns2
namespace Go.Proofs.YtcijnloneigfcaaGreatDoor
open Go.RowKit
variable {P : Program}

theorem inB_iff {i : Int} {n : Nat} : inB i n = true ↔ 0 ≤ i ∧ i < n := by
  simp [inB, iLe, iLt]

theorem mul_cond (n sz : Nat) : (cond (Nat.beq sz 1) n (n * sz)) = n * sz := by
  cases h : Nat.beq sz 1
  · rfl
  · rw [Nat.beq_eq] at h; subst h; simp

theorem index_run {t : TypeId} {dx di : D} {v : V} (h : indexV P t dx di = some (true, v)) {w : World} {S : Nat → Prop} {ρ : List Nat} {x i : Value} (hx : RdD w S ρ x dx) (hi : RdD w S ρ i di) :
    ∃ u, (Instr.index t x i).run P w = .ok u w ∧ Rd w S u v := by
  unfold indexV at h
  split at h
  · rename_i l k i
    obtain ⟨arr, rfl, hr⟩ := hx.val_inv.agg_inv
    obtain rfl := hi.int_inv
    split at h
    · rename_i n e hu
      obtain ⟨hb, h⟩ := cond_some h
      split at h
      · rename_i c v' hp
        simp only [Option.some.injEq, Prod.mk.injEq, Bool.and_eq_true] at h
        obtain ⟨⟨hin, rfl⟩, rfl⟩ := h
        obtain ⟨u, h1, h2⟩ := part_run hp hr
        refine ⟨u, ?_, h2⟩
        have hin := inB_iff.1 hin
        simp [Instr.index, asIntOf, run_under hu, hin, run_sizeOf (P := P) (t := e) rfl (blt_iff.1 hb), h1]
      · cases h
    · cases h
  · cases h

theorem slen_eq {sz : Nat} {cells : List V} {n : Nat} (hs : 0 < sz) (h : cells.length = n * sz) : slen sz cells = n := by
  unfold slen
  split
  · omega
  · rw [h]; exact Nat.mul_div_cancel n hs

theorem indexAt_run {t e : TypeId} {k : IntKind} {i : Int} {n cap sz b o : Nat} (hu : P.underlying t = some (.slice e)) (hs : sizeT P e = sz) (hpos : 0 < sz) (h0 : 0 ≤ i) (h1 : i < n) (w : World) :
    (Instr.indexAt t (.slice (some ⟨b, o, none⟩) n cap) (.int k i)).run P w = .ok (.pointer (some ⟨b, o + i.toNat * sz, none⟩)) w := by
  simp [Instr.indexAt, asIntOf, run_under hu, h0, h1, run_sizeOf hs hpos, Addr.add_mid]

theorem indexAddr_run {t : TypeId} {dx di d : D} (h : indexAddrD P t dx di = some (true, d)) {w : World} {S : Nat → Prop} {ρ : List Nat} {x i : Value} (hx : RdD w S ρ x dx) (hi : RdD w S ρ i di) :
    ∃ u, (Instr.indexAt t x i).run P w = .ok u w ∧ RdD w S ρ u d := by
  unfold indexAddrD at h
  split at h
  · rename_i sz cells k i
    obtain rfl := hi.int_inv
    split at h
    · rename_i e hu
      obtain ⟨hb, h⟩ := cond_some h
      simp only [Bool.and_eq_true, Nat.beq_eq] at hb
      simp only [Option.some.injEq, Prod.mk.injEq] at h
      obtain ⟨hin, rfl⟩ := h
      have hpos := blt_iff.1 hb.2
      have hin := inB_iff.1 hin
      have hx := hx.val_inv
      cases hx with
      | nilsl => simp only [slen_eq hpos (show ([] : List V).length = 0 * sz by simp)] at hin; omega
      | sl g1 g2 g3 g4 g5 g6 =>
        rename_i b o n cap vals
        rw [slen_eq hpos g4] at hin
        refine ⟨_, indexAt_run hu hb.1.symm hpos hin.1 hin.2 w, .val ?_⟩
        rw [mul_cond]
        exact .pt g1 g2 g5 g6
    · cases h
  · rename_i b off len sz k i
    obtain rfl := hi.int_inv
    split at h
    · rename_i e hu
      obtain ⟨hb, h⟩ := cond_some h
      simp only [Bool.and_eq_true, Nat.beq_eq] at hb
      simp only [Option.some.injEq, Prod.mk.injEq] at h
      obtain ⟨hin, rfl⟩ := h
      have hpos := blt_iff.1 hb.2
      have hin := inB_iff.1 hin
      cases hx with
      | osl g1 g2 g3 g4 =>
        refine ⟨_, indexAt_run hu hb.1.symm hpos hin.1 hin.2 w, ?_⟩
        rw [mul_cond]
        exact .own g1
    · cases h
  · rename_i b off k i
    obtain rfl := hi.int_inv
    obtain ⟨β, hβ, rfl⟩ := hx.own_inv
    split at h
    · rename_i n e hu
      obtain ⟨hb, h⟩ := cond_some h
      simp only [Bool.and_eq_true] at hb
      simp only [Option.some.injEq, Prod.mk.injEq] at h
      obtain ⟨hin, rfl⟩ := h
      have hin := inB_iff.1 hin
      have hpos := blt_iff.1 hb.1
      refine ⟨_, ?_, .own hβ⟩
      simp [Instr.indexAt, asIntOf, run_under hu, hin.1, hin.2, run_sizeOf (P := P) (t := e) rfl hpos, Addr.add_mid, Instr.sureAddr]
    · cases h
  · cases h

/-! ### slices of slices -/
theorem sliceBound_run (k : IntKind) (i : Int) (y : Nat) (code : BoundsCode) (h0 : 0 ≤ i) (h1 : i ≤ y) (w : World) : (Instr.sliceBound (.int k i) y code).run P w = .ok i.toNat w := by
  simp [Instr.sliceBound, asIntOf, h0, h1]

/-- an operand of a slice expression and its value -/
theorem bound_val {d : Option D} {dflt l : Int} {w : World} {S : Nat → Prop} {ρ : List Nat} {v : Option Value} (h : boundD d dflt = some l)
    (r : ∀ x, d = some x → ∃ u, v = some u ∧ RdD w S ρ u x) (n : d = none → v = none) : (v = none ∧ l = dflt) ∨ ∃ k, v = some (.int k l) := by
  unfold boundD at h
  split at h
  · cases h; exact .inl ⟨n rfl, rfl⟩
  · cases h
    obtain ⟨u, rfl, hu⟩ := r _ rfl
    obtain rfl := hu.int_inv
    exact .inr ⟨_, rfl⟩
  · cases h

theorem bounds_run {l m : Int} {len cap : Nat} (w : World) {vl vh : Option Value} (hcap : len ≤ cap)
    (hl : (vl = none ∧ l = 0) ∨ ∃ k, vl = some (.int k l)) (hm : (vh = none ∧ m = len) ∨ ∃ k, vh = some (.int k m)) (h0 : 0 ≤ l) (h1 : l ≤ m) (h2 : m ≤ len) :
    (Instr.sliceBounds true len cap vl vh none).run P w = .ok (l.toNat, m.toNat, cap) w := by
  unfold Instr.sliceBounds
  rcases hl with ⟨rfl, rfl⟩ | ⟨kl, rfl⟩ <;> rcases hm with ⟨rfl, rfl⟩ | ⟨km, rfl⟩
  · simp
  · simp [sliceBound_run (P := P) km m cap _ (by omega) (by omega) w]
  · simp [sliceBound_run (P := P) kl l len _ h0 (by omega) w]
  · simp [sliceBound_run (P := P) km m cap _ (by omega) (by omega) w, sliceBound_run (P := P) kl l m.toNat _ h0 (by omega) w]

theorem lenD_sl {sz : Nat} {cells : List V} {n : Nat} (h : lenD (.val (.sl sz cells)) = some n) : 0 < sz ∧ n = slen sz cells := by
  obtain ⟨hb, h⟩ := cond_some h
  exact ⟨blt_iff.1 hb, by cases h; rfl⟩

theorem slice_run {t : TypeId} {dx d : D} {lo hi : Option D} (h : sliceD P t dx lo hi = some (true, d)) {w : World} {S : Nat → Prop} {ρ : List Nat} {x : Value} {vl vh : Option Value} (hx : RdD w S ρ x dx)
    (rl : ∀ d, lo = some d → ∃ v, vl = some v ∧ RdD w S ρ v d) (nl : lo = none → vl = none)
    (rh : ∀ d, hi = some d → ∃ v, vh = some v ∧ RdD w S ρ v d) (nh : hi = none → vh = none) :
    ∃ u, (Instr.sliceAt t x vl vh none).run P w = .ok u w ∧ RdD w S ρ u d := by
  unfold sliceD at h
  split at h
  · rename_i e hu
    split at h
    · rename_i n hn
      split at h
      · rename_i l m hl hm
        have h' := cond_some h
        clear h
        obtain ⟨hpe', h⟩ := h'
        have hpe := blt_iff.1 hpe'
        clear hpe'
        have bl := bound_val hl rl nl
        have bh := bound_val hm rh nh
        have base : ∀ (a : Option Addr) (len cap : Nat), n = len → len ≤ cap → 0 ≤ l → l ≤ m → m ≤ n →
            (Instr.sliceAt t (.slice a len cap) vl vh none).run P w = .ok (.slice (if cap = l.toNat then a else a.map (·.add (l.toNat * sizeT P e))) (m.toNat - l.toNat) (cap - l.toNat)) w := by
          intro a len cap h1 h2 h3 h4 h5
          subst h1
          unfold Instr.sliceAt
          rw [Sem.run_bind, run_under hu, Result.andThen_ok]
          simp only [Instr.slice, Sem.run_bind, run_under hu, Result.andThen_ok, bounds_run w h2 bl bh h3 h4 h5, run_sizeOf (P := P) (t := e) rfl hpe, Sem.run_pure]
        split at h
        · -- nil
          simp only [Option.some.injEq, Prod.mk.injEq, Bool.and_eq_true, iLe, decide_eq_true_eq] at h
          obtain ⟨⟨⟨h3, h4⟩, h5⟩, rfl⟩ := h
          cases hn
          have hx := hx.val_inv
          cases hx
          refine ⟨_, base none 0 0 rfl (Nat.le_refl _) h3 h4 h5, ?_⟩
          have e1 : l = 0 := by omega
          have e2 : m = 0 := by omega
          rw [e1, e2]
          simp
          exact .val .nil
        · rename_i sz cells
          obtain ⟨hb, h⟩ := cond_some h
          rw [Nat.beq_eq] at hb
          simp only [Option.some.injEq, Prod.mk.injEq, Bool.and_eq_true, iLe, decide_eq_true_eq] at h
          obtain ⟨⟨⟨h3, h4⟩, h5⟩, rfl⟩ := h
          obtain ⟨hpos, rfl⟩ := lenD_sl hn
          have hx := hx.val_inv
          simp only [mul_cond]
          cases hx with
          | nilsl =>
            have e0 : slen sz ([] : List V) = 0 := slen_eq hpos (by simp)
            refine ⟨_, base none 0 0 e0 (Nat.le_refl _) h3 h4 h5, ?_⟩
            rw [e0] at h5
            have e1 : l = 0 := by omega
            have e2 : m = 0 := by omega
            rw [e1, e2]
            simp
            exact .val .nilsl
          | sl g1 g2 g3 g4 g5 g6 =>
            rename_i b o n cap vals
            have e0 := slen_eq hpos g4
            refine ⟨_, base _ n cap e0 g3 h3 h4 h5, ?_⟩
            rw [e0] at h5
            have hlen : ((cells.drop (l.toNat * sz)).take ((m - l).toNat * sz)).length = (m.toNat - l.toNat) * sz := by
              have hle : (l.toNat + (m - l).toNat) * sz ≤ n * sz := Nat.mul_le_mul_right sz (by omega)
              rw [Nat.add_mul] at hle
              rw [List.length_take, List.length_drop, g4, show (m.toNat - l.toNat) = (m - l).toNat by omega]
              omega
            by_cases hc : cap = l.toNat
            · rw [if_pos hc]
              have hz : m.toNat - l.toNat = 0 := by omega
              rw [hz, Nat.zero_mul] at hlen
              have hnil := List.eq_nil_of_length_eq_zero hlen
              rw [hz, hnil]
              exact .val (.sl g1 g2 (Nat.zero_le _) (by simp) .nil (fun i v hv => by simp at hv))
            · rw [if_neg hc]
              simp only [Option.map_some, Addr.add_mid]
              refine .val (.sl g1 g2 (by omega) hlen ((g5.drop (l.toNat * sz)).take ((m - l).toNat * sz)) ?_)
              intro i v hv
              rw [List.getElem?_take] at hv
              split at hv
              · rw [List.getElem?_drop] at hv
                have := g6 _ _ hv
                rw [← hb]
                rwa [Nat.add_assoc]
              · cases hv
        · rename_i b off len sz
          obtain ⟨hb, h⟩ := cond_some h
          rw [Nat.beq_eq] at hb
          simp only [Option.some.injEq, Prod.mk.injEq, Bool.and_eq_true, iLe, decide_eq_true_eq] at h
          obtain ⟨⟨⟨⟨h3, h4⟩, h5⟩, h6⟩, rfl⟩ := h
          cases hn
          have h6 : l = 0 ∨ l < n := by simpa [iEq, iLt] using h6
          simp only [mul_cond]
          cases hx with
          | osl g1 g2 g3 g4 =>
            rename_i β cap ty k
            refine ⟨_, base _ n cap rfl g2 h3 h4 h5, ?_⟩
            have hk : off + l.toNat * sz + (cap - l.toNat) * sz = off + cap * sz := by
              rw [Nat.add_assoc, ← Nat.add_mul, show l.toNat + (cap - l.toNat) = cap by omega]
            by_cases hc : cap = l.toNat
            · have e1 : l = 0 := by omega
              have e2 : m = 0 := by omega
              rw [if_pos hc, e1, e2]
              simp only [Int.toNat_zero, Nat.zero_mul, Nat.add_zero, Nat.sub_zero, Int.sub_self]
              exact .osl g1 (Nat.zero_le _) g3 g4
            · rw [if_neg hc]
              simp only [Option.map_some, Addr.add_mid]
              rw [show m.toNat - l.toNat = (m - l).toNat by omega, ← hb]
              exact .osl g1 (by omega) g3 (by omega)
        · cases h
      · cases h
    · cases h
  · cases h

end Go.Proofs.YtcijnloneigfcaaGreatDoor
