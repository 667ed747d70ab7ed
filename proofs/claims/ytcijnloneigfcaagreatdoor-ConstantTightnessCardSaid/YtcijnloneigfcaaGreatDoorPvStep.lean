/-
  One operation, and a row of them in the text's order: the evaluator is sound. Condition: none beyond the tree's.
-/
import Derived.Test.YtcijnloneigfcaaGreatDoorPvH
namespace Go.Proofs.YtcijnloneigfcaaGreatDoor
open Go.RowKit
variable {P : Program} {C : World → Prop} {Qr : V → Prop} {Qo : Ex → St → Prop}

theorem nil_run {t e : TypeId} (hu : P.underlying t = some (.slice e)) (xo : Operand) (a : Option Addr) (n c : Nat) (w : World) :
    (do eqGuard .eql t xo (.const (.slice none 0 0)) (.slice a n c) (.slice none 0 0); binOp .eql t (.slice a n c) (.slice none 0 0) : Sem Value).run P w = .ok (.bool a.isNone) w := by
  have h1 : (eqGuard .eql t xo (.const (.slice none 0 0)) (.slice a n c) (.slice none 0 0)).run P w = .ok () w := rfl
  rw [Sem.run_bind, h1, Result.andThen_ok]
  have hq : (Op.equal t (.slice a n c) (.slice none 0 0)).run P w = .ok a.isNone w := by
    unfold Op.equal Op.maxDepth Op.equalIn
    rw [Sem.run_bind, run_under hu, Result.andThen_ok]
    cases a <;> rfl
  show (do pure (.bool (← Op.equal t (.slice a n c) (.slice none 0 0))) : Sem Value).run P w = _
  rw [Sem.run_bind, hq]
  rfl

theorem post_same {w0 S0 w ρ h} (ok : OkH w0 S0 w ρ h) {o : Oper} {a : Act} {k : D → List Box → T} {v : Value} {d : D} (hv : RdD w (stab S0 ρ h) ρ v d) (hw : (k d h).wp P C Qr Qo) :
    Post P C Qr Qo w0 S0 o a w ρ h k (a.put o.dst v) w := ⟨v, d, h, ρ, rfl, ok, hv, fun _ _ q => q, hw⟩

theorem evalH_sound {w0 S0 w ρ h} (ok : OkH w0 S0 w ρ h) {o : Oper} {a : Act} {g : Operand → D} {k : D → List Box → T} {Q : Exit → Act → World → Prop} (hw : (evalH P o g h k).wp P C Qr Qo)
    (hr : Reads w (stab S0 ρ h) ρ a o g) : o.wp P a w (Post P C Qr Qo w0 S0 o a w ρ h k) Q := by
  unfold evalH at hw
  split at hw
  · rename_i t ho
    split at hw
    · rename_i zs hz
      obtain ⟨z, hz1, rfl, i, hi, hiz⟩ := zeroV_run hz w
      refine post_value (v := .pointer (some ⟨w.heap.size, 0, none⟩)) (w' := push w z.cells t) ?_ (push_post ok (by simp) (by rw [List.take_of_length_le (by simp)]; exact zeros_rd _) (.own (push_own ok)) hw)
      simp only [execOp, ho, Instr.alloc, Sem.run_bind, hz1, Result.andThen_ok, newVar, newRow, run_newObj, Sem.run_pure]
      rfl
    · exact hw.elim
  · rename_i t x ho
    split at hw
    · rename_i v hg
      obtain ⟨hc, hw⟩ := of_chk hw
      have hx := hr x (by simp [ho, Op.operands])
      rw [hg] at hx
      have hcs := cells_rd hx.val_inv hc
      refine post_value (v := .pointer (some ⟨w.heap.size, 0, none⟩)) (w' := push w (a.eval x).cells t) ?_
        (push_post ok (by have := hcs.length; simp at this; omega) (by rw [List.take_of_length_le (by have := hcs.length; omega)]; exact hcs) (.own (push_own ok)) hw)
      simp only [execOp, ho, Instr.box, Sem.run_bind, Result.andThen_ok, newVar, newRow, run_newObj, Sem.run_pure]
      rfl
    · exact hw.elim
  · rename_i t ad x ho
    split at hw
    · rename_i c h' hs
      obtain ⟨ec, hw2⟩ := of_brk hw
      subst ec
      clear hw
      obtain ⟨w', h1, h2, h3, _⟩ := store_sound (P := P) ok hs (hr ad (by simp [ho, Op.operands])) (hr x (by simp [ho, Op.operands]))
      refine post_skip (w' := w') ?_ ⟨undef, .unk, h', ρ, rfl, h2, .unk, h3, hw2⟩
      simp only [execOp, ho, Sem.run_bind, h1, Result.andThen_ok, Sem.run_pure]
    · exact hw.elim
  · rename_i t l c ho
    split at hw
    · rename_i e sz zs k1 n k2 m he hl hc
      obtain ⟨hchk, hw2⟩ := of_brk hw
      clear hw
      simp only [Bool.and_eq_true, iEq, iLe, beq_iff_eq, decide_eq_true_eq] at hchk
      obtain ⟨⟨hnm, h0⟩, h1⟩ := hchk
      subst hnm
      have hl' := hr l (by simp [ho, Op.operands])
      have hc' := hr c (by simp [ho, Op.operands])
      rw [hl] at hl'
      rw [hc] at hc'
      obtain ⟨hu, hz, hzl, hsz, hpos, hb⟩ := elemT_of he
      obtain ⟨z, rfl, hzs, hrun⟩ := make_run (P := P) he (k := k1) (k' := k2) h0 h1 w
      have hrd := rep_rd (w := w) (S := stab S0 ρ h) z n.toNat hzs hpos
      have hlen := hrd.length
      refine post_value ?_ (push_post ok (vals := (Array.range (n.toNat * sz)).map (fun i => z.cells[i % z.cells.size]!)) (ty := e) (v := .slice (some ⟨w.heap.size, 0, none⟩) n.toNat n.toNat)
        (by rw [← hlen]; simp) (by rw [List.take_of_length_le (by omega)]; exact hrd) (.osl (push_own ok) (Nat.le_refl _) (shape_of_cells (push_new _ _ _)) (by simp)) hw2)
      simp only [execOp, ho, Sem.run_bind, hl'.int_inv, hc'.int_inv, hrun, Result.andThen_ok, Sem.run_pure]
    · exact hw.elim
  · rename_i t len parts ho
    split at hw
    · rename_i sz cells hb
      obtain ⟨vals, e, h1, h2, h3⟩ := buildSlice_run hb (w := w) (S := stab S0 ρ h) (ρ := ρ) (ev := a.eval) (fun x hx => hr x.2 (by simp [ho, Op.operands]; exact ⟨x.1, by simpa using hx⟩))
      have hlen := h2.length
      refine post_value ?_ (push_post ok (vals := vals) (ty := e) (v := .slice (some ⟨w.heap.size, 0, none⟩) len len) (by rw [← hlen]; simp) (by rw [List.take_of_length_le (by omega)]; exact h2)
        (.osl (push_own ok) (Nat.le_refl _) (shape_of_cells (push_new _ _ _)) (by simp at hlen; omega)) hw)
      simp only [execOp, ho, Sem.run_bind, h1, Result.andThen_ok, Sem.run_pure]
    · exact hw.elim
  · rename_i args argTypes ho
    split at hw
    · rename_i s x t xt hargs hts
      have ha : args = #[s, x] := by apply Array.ext'; simpa using hargs
      have ht : argTypes = #[t, xt] := by apply Array.ext'; simpa using hts
      have hops : o.op.operands.toList = [s, x] := by simp [ho, Op.operands, Call.operands, ha]
      obtain ⟨v, w', h1, h2⟩ := append_sound (P := P) (C := C) (Qr := Qr) (Qo := Qo) ok (o := o) (a := a) (ty := o.type) hw (hr s (by simp [hops])) (hr x (by simp [hops]))
      refine post_value ?_ h2
      simp only [execOp, ho, resolve, ha, ht, Sem.run_bind, Sem.run_pure, Result.andThen_ok, invoke, builtin]
      have e : (#[s, x] : Array Operand).map a.eval = #[a.eval s, a.eval x] := by apply Array.ext'; simp
      rw [e, h1]
      rfl
    · exact hw.elim
  · rename_i t x yt ho
    split at hw
    · rename_i e hu
      have hx := hr x (by simp [ho, Op.operands])
      have key : ∀ (a0 : Option Addr) (n c : Nat), a.eval x = .slice a0 n c → (k (.val (.bool a0.isNone)) h).wp P C Qr Qo → o.wp P a w (Post P C Qr Qo w0 S0 o a w ρ h k) Q := by
        intro a0 n c e1 hk
        refine post_value (v := .bool a0.isNone) ?_ (post_same ok (.val .bool) hk)
        simp only [execOp, ho, e1]
        rw [Sem.run_bind, show a.eval (.const (.slice none 0 0)) = .slice none 0 0 from rfl, nil_run hu]
        rfl
      generalize a.eval x = vx at hx key
      split at hw
      · rename_i hg
        rw [hg] at hx
        cases hx with | val hx => cases hx; exact key _ _ _ rfl hw
      · rename_i sz cs hg
        rw [hg] at hx
        cases hx with
        | val hx =>
          cases hx with
          | nilsl =>
            rcases of_br hw with ⟨_, h2⟩ | ⟨h1, _⟩
            · exact key _ _ _ rfl h2.1
            · cases h1
          | sl =>
            rcases of_br hw with ⟨_, h2⟩ | ⟨_, h2⟩
            · exact key _ _ _ rfl h2.2
            · exact key _ _ _ rfl h2
      · rename_i hg
        rw [hg] at hx
        cases hx; exact key _ _ _ rfl hw
      · exact hw.elim
    · exact hw.elim
  · exact hw.elim

theorem evalA_sound {w0 S0 w ρ h} (ok : OkH w0 S0 w ρ h) (hC : C w) (hS : ∀ b, w0.heap.size ≤ b → S0 b) {o : Oper} {a : Act} {g : Operand → D} {k : D → List Box → T} {Q : Exit → Act → World → Prop}
    (hw : (evalA P o g h k).wp P C Qr Qo) (hr : Reads w (stab S0 ρ h) ρ a o g) : o.wp P a w (Post P C Qr Qo w0 S0 o a w ρ h k) Q := by
  obtain ⟨d, h', hf, hy, hw⟩ := evalA_yields hw
  refine Oper.wp_mono ?_ (hy h' (Fr.refl _) w0 S0 a w ρ Q hC (allS_of ok hS) (ok.fr hf) (fun x hx => (hr x hx).fr hf))
  rintro a' w' ⟨v, rfl, h1, h2⟩
  exact ⟨v, d, h', ρ, rfl, (ok.fr hf).grow h2, h1, fun u e q => (q.fr hf).grow h2, hw⟩

theorem evalB_sound {w0 S0 w ρ h} (ok : OkH w0 S0 w ρ h) (hC : C w) (hS : ∀ b, w0.heap.size ≤ b → S0 b) {o : Oper} {a : Act} {g : Operand → D} {k : D → List Box → T} {Q : Exit → Act → World → Prop}
    (hw : (evalB P o g h k).wp P C Qr Qo) (hr : Reads w (stab S0 ρ h) ρ a o g) : o.wp P a w (Post P C Qr Qo w0 S0 o a w ρ h k) Q := by
  unfold evalB at hw
  split at hw
  · rename_i c ho
    split at hw
    · rename_i fo hc
      split at hw
      · rename_i f caps hg
        unfold call2T at hw
        obtain ⟨hall, hw⟩ := of_brk hw
        rcases hw with ⟨r, hi, hw2⟩ | ⟨sz, n, cs, hi, hw2⟩
        · refine evalA_sound (C := C) (Qr := Qr) (Qo := Qo) ok hC hS ?_ hr
          simp only [evalA, ho, hc, hg]
          exact .inl ⟨hall, r, hi, hw2⟩
        · have hf := Fr.frz (h := h) ((c.args.toList.map g).flatMap idsD)
          have okf := ok.fr hf
          have hops : o.op.operands.toList = fo :: c.args.toList := by simp [ho, Op.operands, Call.operands, hc]
          have hfo := (hr fo (by simp [hops])).fr hf
          have hargs : ∀ x ∈ c.args.toList, RdD w (stab S0 ρ (frz h ((c.args.toList.map g).flatMap idsD))) ρ (a.eval x) (g x) := fun x hx => (hr x (by simp [hops]; exact .inr (by simpa using hx))).fr hf
          rw [hg] at hfo
          obtain ⟨csv, hv, hcs⟩ : ∃ cs : List Value, a.eval fo = .func (.func f) #[] cs.toArray ∧ RdL w (stab S0 ρ (frz h ((c.args.toList.map g).flatMap idsD))) cs caps := by
            have h1 := hfo.val_inv
            generalize a.eval fo = v at h1
            cases h1 with | clos h1 => exact ⟨_, rfl, h1⟩
          have hA : RdL w (stab S0 ρ (frz h ((c.args.toList.map g).flatMap idsD))) (c.args.toList.map a.eval) ((c.args.toList.map g).map (toV h)) := args_rd fun x hx => by
            refine toV_rd hf (List.all_eq_true.1 hall _ (List.mem_map_of_mem hx)) (allS_of okf hS) okf ?_ (hargs x hx)
            intro b y hb hy
            exact frz_frozen _ h b y (List.mem_flatMap.2 ⟨_, List.mem_map_of_mem hx, hb⟩) hy
          have hcall := hi.2.2 w (stab S0 ρ (frz h ((c.args.toList.map g).flatMap idsD))) _ hC (stab_new okf (allS_of okf hS)) (hA.append hcs)
          have hrun : (execOp a.eval o).run P w = .ok (.enter f (c.args.toList.map a.eval ++ csv).toArray) w := by
            simp only [execOp, ho, resolve, hc, hv, Deferred.ofValue, Sem.run_bind, Sem.run_pure, Result.andThen_ok, invoke]
            rw [callFunc_run hi.1]
            congr 2
            apply Array.ext'
            simp
          unfold Oper.wp
          rw [hrun]
          show Calls P f _ w _
          refine hcall.mono ?_
          rintro e w' ⟨β, cap, vals, ty, rfl, hge, hnew, hle, hcap, hfit, hrd, hb⟩
          obtain ⟨ok', hl⟩ := adopt_ok okf hb hge hnew hle hrd hi.2.1
          have hβ : (ρ ++ [β])[(frz h ((c.args.toList.map g).flatMap idsD)).length]? = some β := by rw [← okf.heap.len]; simp
          exact ⟨_, _, _, _, rfl, ok', .osl hβ hcap (shape_of_cells hnew) (by omega), fun u e q => (q.fr hf).lasts hl (Below.shapes hb) (fun _ _ hi => get_snoc_of hi), hw2⟩
      · exact evalA_sound ok hC hS hw hr
    · exact evalA_sound ok hC hS hw hr
  · exact evalA_sound ok hC hS hw hr

theorem evalOp_sound {w0 S0 w ρ h} (ok : OkH w0 S0 w ρ h) (hC : C w) (hS : ∀ b, w0.heap.size ≤ b → S0 b) {o : Oper} {a : Act} {g : Operand → D} {k : D → List Box → T} {Q : Exit → Act → World → Prop}
    (hw : (evalOp P false o g h k).wp P C Qr Qo) (hr : Reads w (stab S0 ρ h) ρ a o g) : o.wp P a w (Post P C Qr Qo w0 S0 o a w ρ h k) Q := by
  unfold evalOp at hw
  rcases of_cond hw with ⟨h1, _⟩ | ⟨_, hw⟩
  · cases h1
  · rcases of_cond hw with ⟨_, hw⟩ | ⟨_, hw⟩
    · exact evalH_sound ok hw hr
    · exact evalB_sound ok hC hS hw hr

theorem eval_get {w0 S0 st a w ρ} (ok : OkS w0 S0 st a w ρ) (x : Operand) : RdD w (stab S0 ρ st.h) ρ (a.eval x) (getD st.s x) := by
  cases x with
  | tmp t => exact ok.slots t
  | const v => exact .val (const_rd v)
  | global g => exact .unk
  | func f => exact .val (@Rd.clos w _ f [] [] .nil)

theorem putO_len (s : List D) (dst : Option Tmp) (d : D) : (putO s dst d).length = s.length := by
  cases dst <;> simp [putO]

/-- the state behind an operation -/
theorem put_ok {w0 S0 st a w ρ w' ρ' h'} (ok : OkS w0 S0 st a w ρ) {dst : Option Tmp} {v : Value} {d : D} (hok : OkH w0 S0 w' ρ' h') (hv : RdD w' (stab S0 ρ' h') ρ' v d)
    (hk : ∀ u e, RdD w (stab S0 ρ st.h) ρ u e → RdD w' (stab S0 ρ' h') ρ' u e) : OkS w0 S0 ⟨putO st.s dst d, h'⟩ (a.put dst v) w' ρ' := by
  cases dst with
  | none => exact ⟨hok, ok.size, fun t => hk _ _ (ok.slots t), ok.defers⟩
  | some t =>
    refine ⟨hok, by simp [Act.put, putO, ok.size], fun m => ?_, ok.defers⟩
    have hsz := ok.size
    simp only [Act.put, putO, Array.getD_eq_getD_getElem?]
    rw [nth_set]
    by_cases hm : t = m ∧ t < st.s.length
    · rw [if_pos hm]
      obtain ⟨rfl, hlt⟩ := hm
      rw [Array.getElem?_setIfInBounds_self_of_lt (by rw [hsz]; exact hlt)]
      exact hv
    · rw [if_neg hm]
      have := hk _ _ (ok.slots m)
      rw [Array.getD_eq_getD_getElem?] at this
      by_cases ht : t = m
      · subst ht
        have hge : ¬ t < a.tmps.size := fun q => hm ⟨rfl, hsz ▸ q⟩
        rw [Array.getElem?_setIfInBounds, if_pos rfl, if_neg hge]
        rw [Array.getElem?_eq_none (Nat.le_of_not_lt hge)] at this
        exact this
      · rw [Array.getElem?_setIfInBounds, if_neg ht]
        exact this

/-- a slot whose bool is known -/
theorem lit_ok {w0 S0 st a w ρ} (ok : OkS w0 S0 st a w ρ) {t : Nat} {b c : Bool} (ht : nth st.s t .unk = .val (.bool b)) (hb : b = c) : OkS w0 S0 ⟨st.s.set t (.val (.bool c)), st.h⟩ a w ρ := by
  subst hb
  refine ⟨ok.ok, by simp [ok.size], fun m => ?_, ok.defers⟩
  have hm := ok.slots m
  simp only
  rw [nth_set]
  by_cases h : t = m ∧ t < st.s.length
  · rw [if_pos h]
    obtain ⟨rfl, _⟩ := h
    rw [ht] at hm
    exact hm
  · rw [if_neg h]; exact hm

theorem yielded_ok {w0 S0 st a w ρ} (ok : OkS w0 S0 st a w ρ) {ops : Array Oper} {j t : Nat} {b : Bool} (hj : gslot ops j = some t) (ht : nth st.s t .unk = .val (.bool b)) : yielded ops a.tmps j = some b := by
  have hlt : t < st.s.length := by
    rcases Nat.lt_or_ge t st.s.length with q | q
    · exact q
    · rw [nth_eq, List.getElem?_eq_none q] at ht; cases ht
  have hs := ok.slots t
  rw [ht] at hs
  have hs := hs.bool_inv
  rw [Array.getD_eq_getD_getElem?, Array.getElem?_eq_getElem (by rw [ok.size]; exact hlt)] at hs
  simp only [Option.getD_some] at hs
  unfold yielded
  unfold gslot at hj
  rw [hj]
  simp only [Option.bind_some]
  rw [Array.getElem?_eq_getElem (by rw [ok.size]; exact hlt), hs]

theorem undD_rd {w : World} {S : Nat → Prop} {ρ : List Nat} : RdD w S ρ undef undD := .val (@Rd.tup w S [] [] .nil)
theorem yielded_no {w0 S0 st a w ρ} (ok : OkS w0 S0 st a w ρ) {ops : Array Oper} {j t : Nat} (hj : gslot ops j = some t) (ht : nth st.s t .unk = undD) : yielded ops a.tmps j = none := by
  have hlt : t < st.s.length := by
    rcases Nat.lt_or_ge t st.s.length with q | q
    · exact q
    · rw [nth_eq, List.getElem?_eq_none q] at ht; cases ht
  have hs := ok.slots t
  rw [ht] at hs
  obtain ⟨arr, hs, _⟩ := hs.val_inv.tup_inv
  rw [Array.getD_eq_getD_getElem?, Array.getElem?_eq_getElem (by rw [ok.size]; exact hlt)] at hs
  simp only [Option.getD_some] at hs
  unfold yielded
  unfold gslot at hj
  rw [hj]
  simp only [Option.bind_some]
  rw [Array.getElem?_eq_getElem (by rw [ok.size]; exact hlt), hs]

theorem below_C {w0 w : World} (hst : Stable C) (hC : C w0) (h : Below w0.heap.size w0 w) : C w := hst _ _ hC h

/-- a row of operations in the text's order -/
theorem evalOps_sound (hst : Stable C) {ops : Array Oper} {w0 : World} {S0 : Nat → Prop} (hC : C w0) (hS : ∀ b, w0.heap.size ≤ b → S0 b) {Q : Exit → Act → World → Prop} {k : St → T}
    (hQ : ∀ st a w ρ, OkS w0 S0 st a w ρ → (k st).wp P C Qr Qo → Q .normal a w) : ∀ (l : List Oper) (i : Nat) (st : St) (a : Act) (w : World) (ρ : List Nat), ops.toList.drop i = l → OkS w0 S0 st a w ρ →
    (evalOps P ops false l st k).wp P C Qr Qo → wpOps P ops Q (List.range' i l.length) a w
  | [], i, st, a, w, ρ, _, ok, hw => by
    simp only [List.length_nil, List.range'_zero, wpOps]
    exact hQ st a w ρ ok hw
  | o :: rest, i, st, a, w, ρ, hl, ok, hw => by
    have hi : ops[i]? = some o := by
      have : (ops.toList.drop i)[0]? = some o := by rw [hl]; rfl
      rw [List.getElem?_drop] at this
      simpa using this
    have hrest : ops.toList.drop (i + 1) = rest := by
      have : (ops.toList.drop i).drop 1 = rest := by rw [hl]; rfl
      rwa [List.drop_drop] at this
    have hCw := below_C hst hC ok.ok.below
    simp only [List.length_cons, List.range'_succ, wpOps, hi]
    unfold evalOps at hw
    cases hg : o.guard with
    | none =>
      rw [hg] at hw
      simp only at hw
      rw [if_pos (by simp [Region.wanted, hg])]
      refine .inl (Oper.wp_mono ?_ (evalOp_sound ok.ok hCw hS hw (fun x _ => eval_get ok x)))
      rintro a' w' ⟨v, d, h', ρ', rfl, h1, h2, h3, h4⟩
      exact evalOps_sound hst hC hS hQ rest (i + 1) _ _ _ _ hrest (put_ok ok h1 h2 h3) h4
    | some jw =>
      obtain ⟨j, want⟩ := jw
      rw [hg] at hw
      simp only at hw
      split at hw
      · rename_i t hj
        split at hw
        · rename_i b ht
          have hy := yielded_ok ok hj ht
          have hwanted : Region.wanted o (yielded ops a.tmps) = (b == want) := by
            simp only [Region.wanted, hg, hy]
            cases b <;> cases want <;> rfl
          have run : ∀ c : Bool, b = c → (evalOp P false o (getD (st.s.set t (.val (.bool c)))) st.h fun d h => evalOps P ops false rest ⟨putO (st.s.set t (.val (.bool c))) o.dst d, h⟩ k).wp P C Qr Qo →
              o.wp P a w (wpOps P ops Q (List.range' (i + 1) rest.length)) Q := by
            intro c hc hw
            have ok' := lit_ok ok ht hc
            refine Oper.wp_mono ?_ (evalOp_sound ok'.ok hCw hS hw (fun x _ => eval_get ok' x))
            rintro a' w' ⟨v, d, h', ρ', rfl, h1, h2, h3, h4⟩
            exact evalOps_sound hst hC hS hQ rest (i + 1) _ _ _ _ hrest (put_ok ok' h1 h2 h3) h4
          have skip : ∀ c : Bool, b = c → (evalOps P ops false rest ⟨putO (st.s.set t (.val (.bool c))) o.dst undD, st.h⟩ k).wp P C Qr Qo →
              wpOps P ops Q (List.range' (i + 1) rest.length) (a.put o.dst undef) w := by
            intro c hc hw
            have ok' := lit_ok ok ht hc
            exact evalOps_sound hst hC hS hQ rest (i + 1) _ _ _ _ hrest (put_ok ok' ok'.ok undD_rd (fun _ _ q => q)) hw
          rw [hwanted]
          rcases of_br hw with ⟨hb, hw2⟩ | ⟨hb, hw2⟩ <;> clear hw <;> rcases of_cond hw2 with ⟨hwt, hw⟩ | ⟨hwt, hw⟩
          · rw [if_pos (by simp [hb, hwt])]; exact .inl (run _ hb hw)
          · rw [if_neg (by simp [hb, hwt])]; exact skip _ hb hw
          · rw [if_neg (by simp [hb, hwt])]; exact skip _ hb hw
          · rw [if_pos (by simp [hb, hwt])]; exact .inl (run _ hb hw)
        · rename_i ht
          rw [if_neg (by simp [Region.wanted, hg, yielded_no ok hj ht])]
          exact evalOps_sound hst hC hS hQ rest (i + 1) _ _ _ _ hrest (put_ok ok ok.ok undD_rd (fun _ _ q => q)) hw
        · exact hw.elim
      · exact hw.elim

end Go.Proofs.YtcijnloneigfcaaGreatDoor
