/-
  The evaluator's step at an operation that only reads, computes or calls is sound. Condition: none beyond the tree's.
-/
import Derived.Test.YtcijnloneigfcaaGreatDoorPvA
namespace Go.Proofs.YtcijnloneigfcaaGreatDoor
open Go.RowKit
variable {P : Program} {C : World → Prop} {Qr : V → Prop} {Qo : Ex → St → Prop}

theorem fold_max {w : World} {S : Nat → Prop} {ρ : List Nat} {ev : Operand → Value} {g : Operand → D} {k : IntKind} : ∀ {l : List Operand} {acc : Int} {v : V},
    (∀ x ∈ l, RdD w S ρ (ev x) (g x)) → foldI iMax k acc (l.map g) = some (true, v) → ∃ n, v = .int k n ∧ ((l.map ev).foldlM Builtin.max2 (.int k acc)).run P w = .ok (.int k n) w
  | [], acc, v, _, h => by cases h; exact ⟨acc, rfl, rfl⟩
  | x :: l, acc, v, hx, h => by
    simp only [List.map_cons] at h ⊢
    have hx0 := hx x (by simp)
    unfold foldI at h
    split at h
    · cases ‹_ = []›
    · rename_i k' y r he
      simp only [List.cons.injEq] at he
      obtain ⟨he, rfl⟩ := he
      rw [he] at hx0
      have hv := hx0.int_inv
      obtain ⟨n, h1, h2⟩ := fold_max (acc := iMax acc y) (fun z hz => hx z (by simp [hz])) h
      refine ⟨n, h1, ?_⟩
      rw [List.foldlM_cons, Sem.run_bind, hv]
      show (Result.ok _ _).andThen _ = _
      exact h2
    · cases h

theorem fold_min {w : World} {S : Nat → Prop} {ρ : List Nat} {ev : Operand → Value} {g : Operand → D} {k : IntKind} : ∀ {l : List Operand} {acc : Int} {v : V},
    (∀ x ∈ l, RdD w S ρ (ev x) (g x)) → foldI iMin k acc (l.map g) = some (true, v) → ∃ n, v = .int k n ∧ ((l.map ev).foldlM Builtin.min2 (.int k acc)).run P w = .ok (.int k n) w
  | [], acc, v, _, h => by cases h; exact ⟨acc, rfl, rfl⟩
  | x :: l, acc, v, hx, h => by
    simp only [List.map_cons] at h ⊢
    have hx0 := hx x (by simp)
    unfold foldI at h
    split at h
    · cases ‹_ = []›
    · rename_i k' y r he
      simp only [List.cons.injEq] at he
      obtain ⟨he, rfl⟩ := he
      rw [he] at hx0
      have hv := hx0.int_inv
      obtain ⟨n, h1, h2⟩ := fold_min (acc := iMin acc y) (fun z hz => hx z (by simp [hz])) h
      refine ⟨n, h1, ?_⟩
      rw [List.foldlM_cons, Sem.run_bind, hv]
      show (Result.ok _ _).andThen _ = _
      exact h2
    · cases h

theorem len_rd {dx : D} {n : Nat} (h : lenD dx = some n) {w : World} {S : Nat → Prop} {ρ : List Nat} {x : Value} (hx : RdD w S ρ x dx) : ∃ a cap, x = .slice a n cap := by
  unfold lenD at h
  split at h
  · cases h
    have := hx.val_inv
    cases this
    exact ⟨_, _, rfl⟩
  · rename_i sz c
    obtain ⟨hb, h⟩ := cond_some h
    cases h
    have hpos := blt_iff.1 hb
    have := hx.val_inv
    cases this with
    | nilsl => rw [slen_eq hpos (show ([] : List V).length = 0 * sz by simp)]; exact ⟨_, _, rfl⟩
    | sl g1 g2 g3 g4 g5 g6 => rw [slen_eq hpos g4]; exact ⟨_, _, rfl⟩
  · cases h
    cases hx
    exact ⟨_, _, rfl⟩
  · cases h

theorem opt_rd {w : World} {S : Nat → Prop} {ρ : List Nat} {ev : Operand → Value} {g : Operand → D} {lo : Option Operand} (h : ∀ x, lo = some x → RdD w S ρ (ev x) (g x)) :
    (∀ d, lo.map g = some d → ∃ v, lo.map ev = some v ∧ RdD w S ρ v d) ∧ (lo.map g = none → lo.map ev = none) := by
  cases lo with
  | none => exact ⟨(fun d hd => by cases hd), fun _ => rfl⟩
  | some x => exact ⟨(fun d hd => by cases hd; exact ⟨_, rfl, h x rfl⟩), (fun hd => by cases hd)⟩

theorem evalA_yields {o : Oper} {g : Operand → D} {h : List Box} {k : D → List Box → T} (hw : (evalA P o g h k).wp P C Qr Qo) :
    ∃ d h', Fr h h' ∧ YA P C o g d h' ∧ (k d h').wp P C Qr Qo := by
  unfold evalA at hw
  split at hw
  · rename_i x ho
    exact ⟨_, _, Fr.refl _, ya_pure fun h'' hf w0 S0 a w ρ ok hr => ⟨a.eval x, by simp [execOp, ho], hr x (by simp [ho, Op.operands])⟩, hw⟩
  · rename_i x ho
    exact ⟨_, _, Fr.refl _, ya_pure fun h'' hf w0 S0 a w ρ ok hr => ⟨a.eval x, by simp [execOp, ho], hr x (by simp [ho, Op.operands])⟩, hw⟩
  · rename_i c x y ho
    split at hw
    · rename_i t hg
      rcases of_br hw with ⟨e1, hw2⟩ | ⟨e1, hw2⟩ <;> subst e1 <;> clear hw
      · refine ⟨_, _, Fr.refl _, ya_pure fun h'' hf w0 S0 a w ρ ok hr => ⟨a.eval x, ?_, hr x (by simp [ho, Op.operands])⟩, hw2⟩
        have hc := hr c (by simp [ho, Op.operands])
        rw [hg] at hc
        simp [execOp, ho, hc.bool_inv, asBool]
      · refine ⟨_, _, Fr.refl _, ya_pure fun h'' hf w0 S0 a w ρ ok hr => ⟨a.eval y, ?_, hr y (by simp [ho, Op.operands])⟩, hw2⟩
        have hc := hr c (by simp [ho, Op.operands])
        rw [hg] at hc
        simp [execOp, ho, hc.bool_inv, asBool]
    · exact hw.elim
  · rename_i t parts ho
    obtain ⟨v, hv, hw⟩ := go1_wp hw
    refine ⟨_, _, Fr.refl _, ya_pure fun h'' hf w0 S0 a w ρ ok hr => ?_, hw⟩
    obtain ⟨u, h1, h2⟩ := build_run hv (w := w) (S := stab S0 ρ h'') (ρ := ρ) (ev := a.eval) (fun x hx => hr x.2 (by simp [ho, Op.operands]; exact ⟨x.1, by simpa using hx⟩))
    exact ⟨u, by simp only [execOp, ho, Sem.run_bind, h1, Result.andThen_ok, Sem.run_pure], .val h2⟩
  · rename_i t x ho
    obtain ⟨v, hv, hw⟩ := go1_wp hw
    refine ⟨_, _, Fr.refl _, ya_pure fun h'' hf w0 S0 a w ρ ok hr => ?_, hw⟩
    obtain ⟨u, h1, h2⟩ := load_any hf hv ok (hr x (by simp [ho, Op.operands]))
    exact ⟨u, by simp only [execOp, ho, Sem.run_bind, h1, Result.andThen_ok, Sem.run_pure], .val h2⟩
  · rename_i op xt x y yt ho
    split at hw
    · rename_i r hb
      obtain ⟨kd, n, m, hr', hm, hw2⟩ := goW_wp hw
      clear hw
      cases hr'
      refine ⟨_, _, Fr.refl _, ya_pure fun h'' hf w0 S0 a w ρ ok hr => ⟨.int kd m, ?_, .val .int⟩, hw2⟩
      have h1 := binW_run (P := P) (xt := xt) (xo := x) (yo := y) hb (hr x (by simp [ho, Op.operands])) (hr y (by simp [ho, Op.operands]))
      simp only [execOp, ho]
      rw [Sem.run_bind, h1, hm]
      rfl
    · obtain ⟨v, hv, hw⟩ := go1_wp hw
      refine ⟨_, _, Fr.refl _, ya_pure fun h'' hf w0 S0 a w ρ ok hr => ?_, hw⟩
      obtain ⟨u, h1, h2⟩ := bin_run (xo := x) (yo := y) hv (hr x (by simp [ho, Op.operands])) (hr y (by simp [ho, Op.operands]))
      refine ⟨u, ?_, .val h2⟩
      simp only [execOp, ho]
      rw [Sem.run_bind, h1]
      rfl
  · rename_i op t x ho
    split at hw
    · rename_i r hb
      obtain ⟨kd, n, m, hr', hm, hw2⟩ := goW_wp hw
      clear hw
      cases hr'
      refine ⟨_, _, Fr.refl _, ya_pure fun h'' hf w0 S0 a w ρ ok hr => ⟨.int kd m, ?_, .val .int⟩, hw2⟩
      have h1 := unW_run (P := P) hb (hr x (by simp [ho, Op.operands]))
      simp only [execOp, ho, Sem.run_bind, h1, hm, Result.andThen_ok, Sem.run_pure]
    · obtain ⟨v, hv, hw⟩ := go1_wp hw
      refine ⟨_, _, Fr.refl _, ya_pure fun h'' hf w0 S0 a w ρ ok hr => ?_, hw⟩
      obtain ⟨u, h1, h2⟩ := un_run (P := P) hv (hr x (by simp [ho, Op.operands]))
      exact ⟨u, by simp only [execOp, ho, Sem.run_bind, h1, Result.andThen_ok, Sem.run_pure], .val h2⟩
  · rename_i src dst x ho
    obtain ⟨kd, n, m, hr', hm, hw⟩ := goW_wp hw
    refine ⟨_, _, Fr.refl _, ya_pure fun h'' hf w0 S0 a w ρ ok hr => ⟨.int kd m, ?_, .val .int⟩, hw⟩
    have h1 := convW_run hr' (hr x (by simp [ho, Op.operands]))
    simp only [execOp, ho, Sem.run_bind, h1, hm, Result.andThen_ok, Sem.run_pure]
  · rename_i f first captured ho
    obtain ⟨he, hw⟩ := of_chk hw
    obtain ⟨v, hv, hw⟩ := go3_wp hw
    refine ⟨_, _, Fr.refl _, ya_pure fun h'' hf w0 S0 a w ρ ok hr => ?_, hw⟩
    have hfirst : first = #[] := by simpa using he
    have hcap : ∀ x ∈ captured.toList, RdD w (stab S0 ρ h'') ρ (a.eval x) (g x) := fun x hx => hr x (by simp [ho, Op.operands, hfirst]; simpa using hx)
    refine ⟨.func (.func f) #[] (captured.map a.eval), by simp [execOp, ho, Instr.makeFunc, hfirst], ?_⟩
    have e : captured.map a.eval = (captured.toList.map a.eval).toArray := by apply Array.ext'; simp
    rw [e]
    unfold makeFuncD at hv
    split at hv
    · rename_i vs hvs
      cases hv
      exact .val (.clos (caps_rd hcap hvs))
    · split at hv
      · rename_i cs hcs
        cases hv
        obtain ⟨h1, h2⟩ := owns_rd hcap hcs
        exact .clo h1 h2
      · cases hv
  · rename_i t x lo hi ho
    obtain ⟨v, hv, hw⟩ := go2_wp hw
    refine ⟨_, _, Fr.refl _, ya_pure fun h'' hf w0 S0 a w ρ ok hr => ?_, hw⟩
    obtain ⟨r1, r2⟩ := opt_rd (w := w) (S := stab S0 ρ h'') (ρ := ρ) (ev := a.eval) (g := g) (lo := lo) (fun y hy => hr y (by simp [ho, Op.operands, hy]))
    obtain ⟨r3, r4⟩ := opt_rd (w := w) (S := stab S0 ρ h'') (ρ := ρ) (ev := a.eval) (g := g) (lo := hi) (fun y hy => hr y (by simp [ho, Op.operands, hy]))
    obtain ⟨u, h1, h2⟩ := slice_run hv (hr x (by simp [ho, Op.operands])) r1 r2 r3 r4
    exact ⟨u, by simp only [execOp, ho, Sem.run_bind, Option.map_none, h1, Result.andThen_ok, Sem.run_pure], h2⟩
  · rename_i s x f ho
    obtain ⟨v, hv, hw⟩ := go3_wp hw
    refine ⟨_, _, Fr.refl _, ya_pure fun h'' hf w0 S0 a w ρ ok hr => ?_, hw⟩
    obtain ⟨u, h1, h2⟩ := fieldAddr_run hv (hr x (by simp [ho, Op.operands]))
    exact ⟨u, by simp only [execOp, ho, Sem.run_bind, h1, Result.andThen_ok, Sem.run_pure], h2⟩
  · rename_i s x f ho
    obtain ⟨v, hv, hw⟩ := go1_wp hw
    refine ⟨_, _, Fr.refl _, ya_pure fun h'' hf w0 S0 a w ρ ok hr => ?_, hw⟩
    obtain ⟨u, h1, h2⟩ := field_run hv (hr x (by simp [ho, Op.operands]))
    exact ⟨u, by simp only [execOp, ho, Sem.run_bind, h1, Result.andThen_ok, Sem.run_pure], .val h2⟩
  · rename_i t x i ho
    obtain ⟨v, hv, hw⟩ := go2_wp hw
    refine ⟨_, _, Fr.refl _, ya_pure fun h'' hf w0 S0 a w ρ ok hr => ?_, hw⟩
    obtain ⟨u, h1, h2⟩ := indexAddr_run hv (hr x (by simp [ho, Op.operands])) (hr i (by simp [ho, Op.operands]))
    exact ⟨u, by simp only [execOp, ho, Sem.run_bind, h1, Result.andThen_ok, Sem.run_pure], h2⟩
  · rename_i t x i ho
    obtain ⟨v, hv, hw⟩ := go1_wp hw
    refine ⟨_, _, Fr.refl _, ya_pure fun h'' hf w0 S0 a w ρ ok hr => ?_, hw⟩
    obtain ⟨u, h1, h2⟩ := index_run hv (hr x (by simp [ho, Op.operands])) (hr i (by simp [ho, Op.operands]))
    exact ⟨u, by simp only [execOp, ho, Sem.run_bind, h1, Result.andThen_ok, Sem.run_pure], .val h2⟩
  · rename_i x i ho
    split at hw
    · rename_i l hg
      obtain ⟨hb, hw⟩ := of_chk hw
      refine ⟨_, _, Fr.refl _, ya_pure fun h'' hf w0 S0 a w ρ ok hr => ?_, hw⟩
      have hx := hr x (by simp [ho, Op.operands])
      rw [hg] at hx
      obtain ⟨arr, ha, hl⟩ := hx.val_inv.tup_inv
      obtain ⟨u, hu, hru⟩ := hl.get (nth_lt .unk (blt_iff.1 hb))
      refine ⟨u, ?_, .val hru⟩
      have hu' : arr.toArray[i]? = some u := by simpa using hu
      simp [execOp, ho, ha, Instr.extract, hu']
    · exact hw.elim
  · rename_i c ho
    split at hw
    · rename_i fo hc
      split at hw
      · rename_i f caps hg
        refine call_ya ho hc (Fr.refl h) ?_ hw
        intro h'' hf w0 w S0 ρ v hS ok hv
        rw [hg] at hv
        have hv := hv.val_inv
        cases hv with
        | clos hl => exact ⟨_, rfl, hl⟩
      · rename_i f caps hg
        obtain ⟨hb, hw⟩ := of_chk hw
        refine call_ya ho hc (Fr.frz _ h) ?_ hw
        intro h'' hf w0 w S0 ρ v hS ok hv
        rw [hg] at hv
        have := toV_rd ((Fr.frz (caps.map (·.1)) h).trans hf) (d := .clo f caps) hb hS ok (fun b y hbm hy => by
          obtain ⟨z, hz, _, _, zf⟩ := hf.back hy
          exact zf (frz_frozen _ h b z hbm hz)) hv
        simp only [toV] at this
        cases this with
        | clos hl => exact ⟨_, rfl, hl⟩
      · exact hw.elim
    · rename_i hc
      split at hw
      · rename_i x t hargs hts
        split at hw
        · rename_i e hu
          split at hw
          · rename_i n hn
            refine ⟨_, _, Fr.refl _, ya_pure fun h'' hf w0 S0 a w ρ ok hr => ?_, hw⟩
            have ha : c.args = #[x] := by apply Array.ext'; simpa using hargs
            have ht : c.argTypes = #[t] := by apply Array.ext'; simpa using hts
            obtain ⟨ad, cap, hx⟩ := len_rd hn (hr x (by simp [ho, Op.operands, Call.operands, ha, hc]))
            refine ⟨.int .i64 n, ?_, .val .int⟩
            simp [execOp, ho, resolve, hc, ha, ht, invoke, builtin, Builtin.len_, run_under hu, hx, goInt]
          · exact hw.elim
        · rename_i n e hu
          refine ⟨_, _, Fr.refl _, ya_pure fun h'' hf w0 S0 a w ρ ok hr => ?_, hw⟩
          have ha : c.args = #[x] := by apply Array.ext'; simpa using hargs
          have ht : c.argTypes = #[t] := by apply Array.ext'; simpa using hts
          refine ⟨.int .i64 n, ?_, .val .int⟩
          simp [execOp, ho, resolve, hc, ha, ht, invoke, builtin, Builtin.len_, run_under hu, goInt]
        · exact hw.elim
      · exact hw.elim
    · rename_i hc
      split at hw
      · rename_i kd x r hargs
        obtain ⟨v, hv, hw⟩ := go1_wp hw
        refine ⟨_, _, Fr.refl _, ya_pure fun h'' hf w0 S0 a w ρ ok hr => ?_, hw⟩
        cases hl : c.args.toList with
        | nil => rw [hl] at hargs; cases hargs
        | cons y l =>
          rw [hl] at hargs
          simp only [List.map_cons, List.cons.injEq] at hargs
          obtain ⟨hy, rfl⟩ := hargs
          have hall : ∀ z ∈ c.args.toList, RdD w (stab S0 ρ h'') ρ (a.eval z) (g z) := fun z hz => hr z (by simp [ho, Op.operands, Call.operands, hc]; simpa using hz)
          have hy0 := hall y (by simp [hl])
          rw [hy] at hy0
          obtain ⟨n, rfl, hn⟩ := fold_max (P := P) (fun z hz => hall z (by simp [hl, hz])) hv
          refine ⟨.int kd n, ?_, .val .int⟩
          have e : (c.args.map a.eval).toList = a.eval y :: l.map a.eval := by simp [hl]
          simp only [execOp, ho, resolve, hc, Sem.run_bind, Sem.run_pure, Result.andThen_ok, invoke, builtin, Builtin.max_, e, hy0.int_inv, hn]
      · exact hw.elim
    · rename_i hc
      split at hw
      · rename_i kd x r hargs
        obtain ⟨v, hv, hw⟩ := go1_wp hw
        refine ⟨_, _, Fr.refl _, ya_pure fun h'' hf w0 S0 a w ρ ok hr => ?_, hw⟩
        cases hl : c.args.toList with
        | nil => rw [hl] at hargs; cases hargs
        | cons y l =>
          rw [hl] at hargs
          simp only [List.map_cons, List.cons.injEq] at hargs
          obtain ⟨hy, rfl⟩ := hargs
          have hall : ∀ z ∈ c.args.toList, RdD w (stab S0 ρ h'') ρ (a.eval z) (g z) := fun z hz => hr z (by simp [ho, Op.operands, Call.operands, hc]; simpa using hz)
          have hy0 := hall y (by simp [hl])
          rw [hy] at hy0
          obtain ⟨n, rfl, hn⟩ := fold_min (P := P) (fun z hz => hall z (by simp [hl, hz])) hv
          refine ⟨.int kd n, ?_, .val .int⟩
          have e : (c.args.map a.eval).toList = a.eval y :: l.map a.eval := by simp [hl]
          simp only [execOp, ho, resolve, hc, Sem.run_bind, Sem.run_pure, Result.andThen_ok, invoke, builtin, Builtin.min_, e, hy0.int_inv, hn]
      · exact hw.elim
    · exact hw.elim
  · exact hw.elim

end Go.Proofs.YtcijnloneigfcaaGreatDoor
