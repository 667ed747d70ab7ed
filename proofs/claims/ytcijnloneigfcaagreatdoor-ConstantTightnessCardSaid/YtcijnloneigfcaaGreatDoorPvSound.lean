/-
  The pure logic is sound: a tree that is met gives a contract. Condition: the program follows the model's word on mixed orders; the property C of memory lasts.
-/
import Derived.Test.YtcijnloneigfcaaGreatDoorPvDraw
namespace Go.Proofs.YtcijnloneigfcaaGreatDoor
open Go.RowKit
variable {P : Program} {C : World → Prop} {Qr : V → Prop} {Qo : Ex → St → Prop}

theorem OkS.drew {w0 S0 st a w ρ} (ok : OkS w0 S0 st a w ρ) : OkS w0 S0 st a { w with drawn := w.drawn + 1 } ρ := by
  have hb : Below w.heap.size w { w with drawn := w.drawn + 1 } := ⟨rfl, rfl, rfl, Nat.le_refl _, fun _ _ => rfl⟩
  exact ⟨ok.ok.grow hb, ok.size, fun t => (ok.slots t).grow hb, ok.defers⟩

theorem evalR_sound (hP : P.follows .mixedOrders = true) (hst : Stable C) {ops : Array Oper} {draw : Bool} {id : Nat} {w0 : World} {S0 : Nat → Prop} (hC : C w0) (hS : ∀ b, w0.heap.size ≤ b → S0 b)
    {Q : Exit → Act → World → Prop} {k : St → T} (hQ : ∀ st a w ρ, OkS w0 S0 st a w ρ → (k st).wp P C Qr Qo → Q .normal a w) {st : St} {a : Act} {w : World} {ρ : List Nat} (ok : OkS w0 S0 st a w ρ)
    (hw : (evalR P ops draw st k).wp P C Qr Qo) : (Code.region id ops draw).wp P Q a w := by
  unfold evalR at hw
  cases draw with
  | false =>
    refine wp_region ?_
    rw [List.range_eq_range']
    have := evalOps_sound hst (ops := ops) hC hS (Q := Q) hQ ops.toList 0 st a w ρ (by simp) ok hw
    simpa using this
  | true =>
    rcases of_cond (show (cond (ops.toList.any isAl) _ _ : T).wp P C Qr Qo from hw) with ⟨hal, hw⟩ | ⟨hal, hw⟩
    · obtain ⟨hd, hw⟩ := of_chk (show (cond (drawOk2 ops) _ T.fail).wp P C Qr Qo from hw)
      refine wp_region_any hP ?_
      have ok := ok.drew
      obtain ⟨ds, h', e1, e2, e3, e4⟩ := extract ops ops.toList 0 st.s st.h (fun q o hq => by simpa using hq) hw
      have e1 : ds.length = ops.size := by simpa using e1
      rw [Array.length_toList] at e4
      obtain ⟨cs, h1, h2⟩ := finA_wp (ops := ops.toList) (S := SSf ops st.s 0 ds ops.size) ops.toList _ rfl (fun d x hs => ⟨rfl, fun o ho t e hop hdst hx => by
        obtain ⟨p, hp, u, hu⟩ := storeOf_some hs
        obtain ⟨i, hi, ei⟩ := List.mem_iff_getElem.1 hp
        have gi : ops[i]? = some p := by rw [← Array.getElem?_toList, List.getElem?_eq_getElem hi, ei]
        obtain ⟨j, hj, ej⟩ := List.mem_iff_getElem.1 ho
        have gj : ops[j]? = some o := by rw [← Array.getElem?_toList, List.getElem?_eq_getElem hj, ej]
        cases kind_of hd gi with
        | al t2 d2 m1 => rw [m1] at hu; cases hu
        | pu d2 m0 m1 m2 m3 m4 m5 => exact m5 u d x hu
        | st t2 b2 y2 j2 p2 m1 m2 m3 m4 m5 m6 m7 m8 m9 m10 =>
          rw [m1] at hu; cases hu
          have := (m10 e hx j o gj hdst).2.2
          unfold isAl at this
          rw [hop] at this
          cases this⟩) e4
      refine draw2_sound hst hd hC (S := st.s) (ds := ds) (h' := h') (ρ := ρ) e1 (fun q o ho => e3 q o (by rw [Array.getElem?_toList]; exact ho)) h1 (fun a w ρ ok => hQ _ a w ρ ok h2) _ _ S0 _ _ ?_ ?_
      · have : (List.range ops.size).countP (fun i => !(Array.replicate ops.size false).getD i true) ≤ (List.range ops.size).length := List.countP_le_length
        simp only [List.length_range] at this
        omega
      · have hno : ∀ i, (Array.replicate ops.size false).getD i false = false := by
          intro i
          rw [Array.getD_eq_getD_getElem?, Array.getElem?_replicate]
          split <;> rfl
        refine ⟨ok.ok.fr e2, fun _ q => q, allS_of ok.ok hS, ok.size, ok.defers, by simp, ?_, ?_, ?_, ?_, ?_⟩
        · intro i o _ hl; rw [hno] at hl; cases hl
        · intro t i _ _ hl _; rw [hno] at hl; cases hl
        · intro t _ _; exact (ok.slots t).fr e2
        · intro i o t d _ _ _ hl; rw [hno] at hl; cases hl
        · intro i i' o o' t t' d d' β _ _ _ _ _ _ hl; rw [hno] at hl; cases hl
    · obtain ⟨hd, hw⟩ := of_chk (show (cond (drawOk ops || drawOk3 ops) _ T.fail).wp P C Qr Qo from hw)
      refine wp_region_any hP ?_
      have ok := ok.drew
      have hle := tail_le ops
      obtain ⟨ds, h', e1, e2, e3, e4⟩ := extract ops (ops.toList.take (tailAt ops)) 0 st.s st.h (fun q o hq => by
        rw [List.getElem?_take] at hq
        split at hq
        · simpa using hq
        · cases hq) hw
      have hlen : (ops.toList.take (tailAt ops)).length = tailAt ops := by simp; omega
      rw [hlen] at e1 e4
      have hent : ∀ q o, q < tailAt ops → ops[q]? = some o → Ent P C ops (SSf ops st.s 0 ds q) o (nth ds q .unk) h' := fun q o hq ho =>
        e3 q o (by rw [List.getElem?_take, if_pos hq]; simpa using ho)
      have hcount : (List.range (tailAt ops)).countP (fun i => !(Array.replicate ops.size false).getD i true) + (ops.size - tailAt ops) ≤ ops.size := by
        have : (List.range (tailAt ops)).countP (fun i => !(Array.replicate ops.size false).getD i true) ≤ (List.range (tailAt ops)).length := List.countP_le_length
        simp only [List.length_range] at this
        omega
      have hmid : Mid w0 S0 ops (tailAt ops) st.s ds h' ρ (Array.replicate ops.size false) a { w with drawn := w.drawn + 1 } := by
        refine ⟨ok.ok.fr e2, ok.size, ok.defers, by simp, (fun j o _ hl => by
          rw [Array.getD_eq_getD_getElem?, Array.getElem?_replicate] at hl
          split at hl <;> cases hl), ?_, ?_, ?_⟩
        · intro j _ hj
          simp [Array.getD_eq_getD_getElem?, hj]
        · intro t i _ _ hl _
          exfalso
          rw [Array.getD_eq_getD_getElem?] at hl
          by_cases hi : i < ops.size
          · simp [hi] at hl
          · simp [hi] at hl
        · intro t _ _
          exact (ok.slots t).fr e2
      rw [Bool.or_eq_true] at hd
      rcases hd with hd | hd
      · refine draw_sound hst hal hd hC hS (S := st.s) (ds := ds) (h' := h') (ρ := ρ) e1 hent ?_ _ _ _ _ hcount hmid
        intro a w ok'
        have := evalOps_sound hst (ops := ops) hC hS (Q := Q) hQ (ops.toList.drop (tailAt ops)) (tailAt ops) _ a w ρ rfl ok' e4
        simpa using this
      · exact draw3_sound hst hal hd hC hS hQ e1 hent e4 _ _ _ hcount hmid

/-- what a piece of code leaves -/
def After (P : Program) (C : World → Prop) (Qr : V → Prop) (Qo : Ex → St → Prop) (w0 : World) (S0 : Nat → Prop) (k : Ex → St → T) (e : Exit) (a : Act) (w : World) : Prop :=
  ∃ ex st ρ, e = Ex.to ex ∧ OkS w0 S0 st a w ρ ∧ (k ex st).wp P C Qr Qo

theorem evalC_sound (hP : P.follows .mixedOrders = true) (hst : Stable C) {w0 : World} {S0 : Nat → Prop} (hC : C w0) (hS : ∀ b, w0.heap.size ≤ b → S0 b) : ∀ (c : Code) (st : St) (k : Ex → St → T) (a : Act) (w : World) (ρ : List Nat),
    OkS w0 S0 st a w ρ → (evalC P c st k).wp P C Qr Qo → c.wp P (After P C Qr Qo w0 S0 k) a w := by
  intro c
  induction c with
  | skip => exact fun st k a w ρ ok hw => wp_skip ⟨.normal, st, ρ, rfl, ok, hw⟩
  | region id ops draw => exact fun st k a w ρ ok hw => evalR_sound hP hst hC hS (fun st' a' w' ρ' ok' hw' => ⟨.normal, st', ρ', rfl, ok', hw'⟩) ok hw
  | seq x y ihx ihy =>
    intro st k a w ρ ok hw
    refine wp_seq (wp_mono (ihx st _ a w ρ ok hw) ?_)
    rintro e a' w' ⟨ex, st', ρ', rfl, ok', hw'⟩
    cases ex with
    | normal => exact ihy st' k a' w' ρ' ok' hw'
    | exit id => exact ⟨.exit id, st', ρ', rfl, ok', hw'⟩
    | ret => exact ⟨.ret, st', ρ', rfl, ok', hw'⟩
  | cond c x y ihx ihy =>
    intro st k a w ρ ok hw
    unfold evalC at hw
    split at hw
    · rename_i t hc
      have hv := eval_get ok c
      rw [hc] at hv
      rcases of_br hw with ⟨e1, hw2⟩ | ⟨e1, hw2⟩ <;> subst e1
      · exact wp_cond_true hv.bool_inv (ihx st k a w ρ ok hw2)
      · exact wp_cond_false hv.bool_inv (ihy st k a w ρ ok hw2)
    · exact hw.elim
  | block id c ih =>
    intro st k a w ρ ok hw
    refine wp_block (wp_mono (ih st _ a w ρ ok hw) ?_)
    rintro e a' w' ⟨ex, st', ρ', rfl, ok', hw'⟩
    cases ex with
    | normal => exact ⟨.normal, st', ρ', rfl, ok', hw'⟩
    | exit i =>
      simp only [Ex.to, Exit.inBlock]
      rcases of_cond (show (cond (Nat.beq i id) (k .normal st') (k (.exit i) st')).wp P C Qr Qo from hw') with ⟨hb, hw'⟩ | ⟨hb, hw'⟩
      · rw [if_pos (Nat.eq_of_beq_eq_true hb)]
        exact ⟨.normal, st', ρ', rfl, ok', hw'⟩
      · rw [if_neg (fun e => by rw [e, Nat.beq_refl] at hb; cases hb)]
        exact ⟨.exit i, st', ρ', rfl, ok', hw'⟩
    | ret => exact ⟨.ret, st', ρ', rfl, ok', hw'⟩
  | loop body ih =>
    rintro st k a w ρ ok ⟨R, hR, hw⟩
    refine wp_mono (hR w0 S0 hC hS a w ρ ok) ?_
    rintro e a' w' ⟨ex, st', ρ', rfl, hr, ok'⟩
    exact ⟨ex, st', ρ', rfl, ok', hw ex st' hr⟩
  | exit id => exact fun st k a w ρ ok hw => wp_exit ⟨.exit id, st, ρ, rfl, ok, hw⟩
  | ret => exact fun st k a w ρ ok hw => wp_ret ⟨.ret, st, ρ, rfl, ok, hw⟩
  | rangeFunc => exact fun st k a w ρ ok hw => hw.elim
  | scope => exact fun st k a w ρ ok hw => hw.elim
  | label => exact fun st k a w ρ ok hw => hw.elim
  | goto => exact fun st k a w ρ ok hw => hw.elim
  | refuse => exact fun st k a w ρ ok hw => hw.elim

/-! ### results -/
theorem res_run {w0 S0 st a w ρ} (ok : OkS w0 S0 st a w ρ) (hS : ∀ b, w0.heap.size ≤ b → S0 b) {r : ResultVar} {v : V} (hr : resD P st r = some (true, v)) :
    ∃ x, (match r with
      | .tmp t => pure (a.tmps.getD t undef)
      | .cell ad t => do loadVar t (← asAddr (a.tmps.getD ad undef)) : Sem Value).run P w = .ok x w ∧ Rd w S0 x v := by
  have toS0 : ∀ {h : List Box} {x : Value} {v : V}, Rd w (stab S0 ρ h) x v → Rd w S0 x v := fun q => q.lasts ⟨Nat.le_refl _, fun _ _ hs => ⟨hs.1, rfl⟩⟩
  have hall : ∀ (b : Nat) (x : Box), (frz st.h (List.range st.h.length))[b]? = some x → x.frozen = true := fun b x hx =>
    frz_frozen _ _ b x (List.mem_range.2 (by have := lt_of_get hx; rwa [(Fr.frz _ _).len] at this)) hx
  cases r with
  | tmp t =>
    simp only [resD, Option.some.injEq, Prod.mk.injEq] at hr
    obtain ⟨h1, rfl⟩ := hr
    refine ⟨_, rfl, ?_⟩
    exact toS0 (toV_rd (Fr.frz (List.range st.h.length) st.h) h1 (allS_of ok.ok hS) (ok.ok.fr (Fr.frz _ _)) (fun b x _ hx => hall b x hx) ((ok.slots t).fr (Fr.frz _ _)))
  | cell ad t =>
    simp only [resD] at hr
    split at hr
    · rename_i b off hg
      obtain ⟨hb, hl⟩ := cond_some hr
      have hs := ok.slots ad
      rw [hg] at hs
      obtain ⟨β, hβ, hv⟩ := hs.own_inv
      obtain ⟨vals, h1, h2⟩ := ok.ok.cells hb hβ
      obtain ⟨x, hx1, hx2⟩ := load_run (b := β) (o := 0) hl h1 (fun j u hu => by rw [Nat.zero_add]; exact (h2 j u hu).1)
      rw [Nat.zero_add] at hx1
      refine ⟨x, ?_, toS0 hx2⟩
      simp only [Sem.run_bind, hv, asAddr, Sem.run_pure, Result.andThen_ok]
      simpa [Instr.loadAt, Instr.sureAddr] using hx1
    · cases hr

theorem resL_run {w0 S0 st a w ρ} (ok : OkS w0 S0 st a w ρ) (hS : ∀ b, w0.heap.size ≤ b → S0 b) : ∀ {rs : List ResultVar} {vs : List V}, resL P st rs = some (true, vs) →
    ∃ xs, (rs.mapM (fun r => match r with
      | .tmp t => pure (a.tmps.getD t undef)
      | .cell ad t => do loadVar t (← asAddr (a.tmps.getD ad undef)) : ResultVar → Sem Value)).run P w = .ok xs w ∧ RdL w S0 xs vs
  | [], vs, h => by cases h; exact ⟨[], rfl, .nil⟩
  | r :: rs, vs, h => by
    unfold resL at h
    split at h
    · rename_i c v d vs' h1 h2
      simp only [Option.some.injEq, Prod.mk.injEq, Bool.and_eq_true] at h
      obtain ⟨⟨rfl, rfl⟩, rfl⟩ := h
      obtain ⟨x, hx1, hx2⟩ := res_run (P := P) ok hS h1
      obtain ⟨xs, hy1, hy2⟩ := resL_run ok hS h2
      refine ⟨x :: xs, ?_, .cons hx2 hy2⟩
      rw [List.mapM_cons, Sem.run_bind]
      erw [hx1]
      rw [Result.andThen_ok, Sem.run_bind, hy1]
      rfl
    · cases h

theorem resT_run {w0 S0 st a w ρ} (ok : OkS w0 S0 st a w ρ) (hS : ∀ b, w0.heap.size ≤ b → S0 b) {fn : Func} (hw : (resT P fn.results st).wp P C Qr Qo) :
    ∃ x v, (results fn a.tmps).run P w = .ok x w ∧ Rd w S0 x v ∧ Qr v := by
  have hm : ∀ xs, (fn.results.toList.mapM (fun r => match r with
      | .tmp t => pure (a.tmps.getD t undef)
      | .cell ad t => do loadVar t (← asAddr (a.tmps.getD ad undef)) : ResultVar → Sem Value)).run P w = .ok xs w → (results fn a.tmps).run P w = .ok (if h : xs.length = 1 then xs[0] else .tuple xs.toArray) w := by
    intro xs hx
    unfold results
    rw [Sem.run_bind, Array.mapM_eq_mapM_toList, Sem.run_map]
    erw [hx]
    rfl
  unfold resT at hw
  split at hw
  · rename_i c v hr
    obtain ⟨ec, hw2⟩ := of_brk hw
    subst ec
    clear hw
    obtain ⟨xs, h1, h2⟩ := resL_run ok hS hr
    cases h2 with
    | cons hx hn =>
      cases hn
      exact ⟨_, v, hm _ h1, hx, hw2⟩
  · rename_i c vs hne hr
    obtain ⟨ec, hw2⟩ := of_brk hw
    subst ec
    clear hw
    obtain ⟨xs, h1, h2⟩ := resL_run ok hS hr
    refine ⟨_, .tup vs, hm _ h1, ?_, hw2⟩
    have hl := h2.length
    rw [dif_neg (fun e => ?_)]
    · exact .tup h2
    · have : vs.length = 1 := by omega
      obtain ⟨v, rfl⟩ : ∃ v, vs = [v] := by
        cases vs with
        | nil => simp at this
        | cons v vs => cases vs with
          | nil => exact ⟨v, rfl⟩
          | cons => simp at this
      exact hne v rfl
  · exact hw.elim

/-- what reads as v reads as r, too -/
def vsub (v r : V) : Prop := ∀ (w : World) (S : Nat → Prop) (x : Value), Rd w S x v → Rd w S x r
theorem vsub_refl (v : V) : vsub v v := fun _ _ _ h => h
theorem vsub_of {v r : V} (h : v = r) : vsub v r := h ▸ vsub_refl v
theorem vsub_unk (v : V) : vsub v .unk := fun _ _ _ _ => .unk
theorem vsub_nil (sz : Nat) : vsub .nil (.sl sz []) := fun _ _ _ h => by cases h; exact .nilsl
theorem vsub_tup2 {a b c d : V} (h : vsub a c) (k : vsub b d) : vsub (.tup [a, b]) (.tup [c, d]) := fun w S x hx => by
  obtain ⟨arr, rfl, hr⟩ := hx.tup_inv
  cases hr with | cons h1 hr => cases hr with | cons h2 hr => cases hr with | nil => exact .tup (.cons (h _ _ _ h1) (.cons (k _ _ _ h2) .nil))
theorem vsub_tup3 {a b c d e f : V} (h : vsub a d) (k : vsub b e) (m : vsub c f) : vsub (.tup [a, b, c]) (.tup [d, e, f]) := fun w S x hx => by
  obtain ⟨arr, rfl, hr⟩ := hx.tup_inv
  cases hr with | cons h1 hr => cases hr with | cons h2 hr => cases hr with | cons h3 hr => cases hr with | nil => exact .tup (.cons (h _ _ _ h1) (.cons (k _ _ _ h2) (.cons (m _ _ _ h3) .nil)))
theorem vsub_agg2 {a b c d : V} (h : vsub a c) (k : vsub b d) : vsub (.agg [a, b]) (.agg [c, d]) := fun w S x hx => by
  obtain ⟨arr, rfl, hr⟩ := hx.agg_inv
  cases hr with | cons h1 hr => cases hr with | cons h2 hr => cases hr with | nil => exact .agg (.cons (h _ _ _ h1) (.cons (k _ _ _ h2) .nil))

/-- ████ A tree that is met is a contract. -/
theorem impl_ofW (hP : P.follows .mixedOrders = true) (hst : Stable C) {f : FuncId} {fn : Func} (hf : P.funcs[f]? = some fn) (hok : okFn P f = true) {ds : List V} {r : V}
    (hw : (evalF P fn ds).wp P C (fun v => vsub v r) (fun _ _ => False)) : Impl P C f ds r := by
  refine ⟨hok, fun w S args hC hS hargs => ?_⟩
  unfold evalF at hw
  split at hw
  · rename_i c hb
    refine calls_of_wp hf hb ?_
    have hlen := hargs.length
    have hSS : Lasts w w S (stab S [] []) := ⟨Nat.le_refl _, fun b _ hs => ⟨⟨hs, fun i x hx => by simp at hx⟩, rfl⟩⟩
    have ok : OkS w S (initS fn ds) { tmps := args.toArray ++ Array.replicate (fn.ntmps - args.toArray.size) undef, defers := [] } w [] := by
      refine ⟨⟨Below.refl _ _, rfl, fun i β hi => by simp at hi, fun i j x y β hx => by simp [initS] at hx, fun i x β hx => by simp [initS] at hx⟩, by simp [initS, hlen], fun t => ?_, rfl⟩
      show RdD w (stab S [] []) [] _ (nth (ds.map D.val ++ List.replicate (fn.ntmps - ds.length) D.unk) t .unk)
      rw [nth_eq]
      by_cases ht : t < ds.length
      · rw [List.getElem?_append_left (by simpa using ht), List.getElem?_map, List.getElem?_eq_getElem ht]
        obtain ⟨u, hu, hr⟩ := hargs.get (List.getElem?_eq_getElem ht)
        have : (args.toArray ++ Array.replicate (fn.ntmps - args.toArray.size) undef).getD t undef = u := by
          rw [Array.getD_eq_getD_getElem?, Array.getElem?_append_left (by simp; omega)]
          simp [hu]
        rw [this]
        exact .val (hr.lasts hSS)
      · rw [List.getElem?_append_right (by simp; omega)]
        have : ((List.replicate (fn.ntmps - ds.length) D.unk)[t - (ds.map D.val).length]?).getD D.unk = D.unk := by
          rw [List.getElem?_replicate]
          split <;> rfl
        rw [this]
        exact .unk
    refine wp_mono (evalC_sound hP hst hC hS c _ _ _ w [] ok hw) ?_
    rintro e a' w' ⟨ex, st', ρ', rfl, ok', hw'⟩
    cases ex with
    | normal =>
      obtain ⟨x, v, h1, h2, h3⟩ := resT_run ok' hS hw'
      exact ⟨ok'.defers, x, h1, x, rfl, h3 _ _ _ h2, ok'.ok.below⟩
    | ret =>
      obtain ⟨x, v, h1, h2, h3⟩ := resT_run ok' hS hw'
      exact ⟨ok'.defers, x, h1, x, rfl, h3 _ _ _ h2, ok'.ok.below⟩
    | exit id => exact hw'.elim
  · exact hw.elim

/-! ### loops -/
/-- a state that says less -/
def Weak (st st' : St) : Prop := ∀ w0 S0 a w ρ, OkS w0 S0 st a w ρ → ∃ ρ', OkS w0 S0 st' a w ρ'

theorem Weak.refl (st : St) : Weak st st := fun _ _ _ _ ρ h => ⟨ρ, h⟩

/-- a loop by a number that falls -/
theorem wp_loop_ix {c : Code} {Q : Exit → Act → World → Prop} (I : Nat → Act → World → Prop) (round : ∀ n a w, I n a w → c.wp P (Exit.then (fun a' w' => ∃ m, m < n ∧ I m a' w') Q) a w) (n : Nat) (a : Act) (w : World) (h0 : I n a w) :
    (Code.loop c).wp P Q a w := by
  intro b k cs
  have key : ∀ n a w, I n a w → ∃ e a' w', Q e a' w' ∧ Arrives P (lone (b.at a (.code c :: .inLoop c :: k)) cs w) b k cs e a' w' := by
    intro n
    induction n using Nat.strongRecOn with
    | _ n ih =>
      intro a w hI
      obtain ⟨e, a₁, w₁, hq, harr⟩ := round n a w hI b (.inLoop c :: k) cs
      cases e with
      | normal =>
        obtain ⟨m, hlt, hI₁⟩ := hq
        obtain ⟨e₂, a₂, w₂, hq₂, harr₂⟩ := ih m hlt a₁ w₁ hI₁
        exact ⟨e₂, a₂, w₂, hq₂, .of_steps (Steps.trans harr (.one step_inLoop)) harr₂⟩
      | exit id => exact ⟨_, a₁, w₁, hq, .pass (x := .inLoop c) rfl (fun _ _ => .inl (by simp)) harr⟩
      | goto l => exact ⟨_, a₁, w₁, hq, .pass (x := .inLoop c) rfl (fun _ _ => .inl (by simp)) harr⟩
      | ret => exact ⟨_, a₁, w₁, hq, .pass (x := .inLoop c) rfl (fun _ _ => .inl (by simp)) harr⟩
      | panic ch => exact ⟨_, a₁, w₁, hq, .pass (x := .inLoop c) rfl (fun _ _ => .inl (by simp)) harr⟩
      | outgrown => exact ⟨_, a₁, w₁, hq, .pass (x := .inLoop c) rfl (fun _ _ => .inl (by simp)) harr⟩
  obtain ⟨e, a', w', hq, harr⟩ := key n a w h0
  exact ⟨e, a', w', hq, .of_steps (.one step_loop) harr⟩

/-- ████ A loop: an invariant on the evaluator's states, a measure, and one round. -/
theorem loop_ok (hP : P.follows .mixedOrders = true) (hst : Stable C) {body : Code} {X : Type} (mk : X → St) (I : X → Prop) (μ : X → Nat) (R : Ex → St → Prop) {st : St} (x0 : X) (h0 : Weak st (mk x0)) (hI : I x0)
    (round : ∀ x, I x → (evalC P body (mk x) T.out).wp P C (fun _ => False) fun e st' => match e with
      | .normal => ∃ x', Weak st' (mk x') ∧ I x' ∧ μ x' < μ x
      | e => ∃ st'', Weak st' st'' ∧ R e st'') : LoopOk P C body st R := by
  intro w0 S0 hC hS a w ρ ok
  obtain ⟨ρ0, ok0⟩ := h0 w0 S0 a w ρ ok
  refine wp_loop_ix (fun n a w => ∃ x ρ, I x ∧ OkS w0 S0 (mk x) a w ρ ∧ μ x = n) ?_ (μ x0) a w ⟨x0, ρ0, hI, ok0, rfl⟩
  rintro n a w ⟨x, ρ, hx, okx, rfl⟩
  refine wp_mono (evalC_sound hP hst hC hS body _ _ a w ρ okx (round x hx)) ?_
  rintro e a' w' ⟨ex, st', ρ', rfl, ok', hw'⟩
  cases ex with
  | normal =>
    obtain ⟨x', h1, h2, h3⟩ := hw'
    obtain ⟨ρ'', ok''⟩ := h1 w0 S0 a' w' ρ' ok'
    exact ⟨μ x', h3, x', ρ'', h2, ok'', rfl⟩
  | exit id =>
    obtain ⟨st'', h1, h2⟩ := hw'
    obtain ⟨ρ'', ok''⟩ := h1 w0 S0 a' w' ρ' ok'
    exact ⟨_, st'', ρ'', rfl, h2, ok''⟩
  | ret =>
    obtain ⟨st'', h1, h2⟩ := hw'
    obtain ⟨ρ'', ok''⟩ := h1 w0 S0 a' w' ρ' ok'
    exact ⟨_, st'', ρ'', rfl, h2, ok''⟩

theorem LoopOk.weak {body : Code} {st st' : St} {R : Ex → St → Prop} (hw : Weak st st') (h : LoopOk P C body st' R) : LoopOk P C body st R := by
  intro w0 S0 hC hS a w ρ ok
  obtain ⟨ρ', ok'⟩ := hw w0 S0 a w ρ ok
  exact h w0 S0 hC hS a w ρ' ok'

end Go.Proofs.YtcijnloneigfcaaGreatDoor
