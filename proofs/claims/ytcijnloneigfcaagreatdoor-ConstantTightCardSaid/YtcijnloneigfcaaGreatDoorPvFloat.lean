/-
  A region that draws its order, where a move may come late: all orders. Condition: the check drawOk3, which the evaluator makes.
-/
import Derived.Test.YtcijnloneigfcaaGreatDoorPvDraw2
namespace Go.Proofs.YtcijnloneigfcaaGreatDoor
open Go.RowKit
variable {P : Program} {C : World → Prop} {Qr : V → Prop} {Qo : Ex → St → Prop}

structure FloatAt (ops : Array Oper) (m i : Nat) (o : Oper) (x : Operand) (d : Nat) : Prop where
  lt : i < m
  op : o.op = .move x
  dst : o.dst = some d
  guard : o.guard = none
  src : ∀ u, x = .tmp u → ∀ (j : Nat) (p : Oper), ops[j]? = some p → p.dst ≠ some u
  kind : (∃ u, x = .tmp u) ∨ ∃ c, x = .const c
  use : ∀ (j : Nat) (p : Oper), m ≤ j → ops[j]? = some p → (hasEdge p i = true ∨ d ∉ namesT p) ∧ p.dst ≠ some d

theorem lt_op {ops : Array Oper} {j : Nat} {p : Oper} (h : ops[j]? = some p) : j < ops.size := by
  rcases Nat.lt_or_ge j ops.size with q | q
  · exact q
  · rw [Array.getElem?_eq_none q] at h; cases h

theorem float_of {ops : Array Oper} {m i : Nat} (h : isFloat ops m i = true) : ∃ o x d, ops[i]? = some o ∧ FloatAt ops m i o x d := by
  unfold isFloat at h
  rw [Bool.and_eq_true] at h
  obtain ⟨hlt, h⟩ := h
  split at h
  · rename_i o ho
    rw [Bool.and_eq_true] at h
    obtain ⟨hg, h⟩ := h
    split at h
    · rename_i x d hop hdst
      rw [Bool.and_eq_true] at h
      obtain ⟨hx, hu⟩ := h
      refine ⟨o, x, d, ho, blt_iff.1 hlt, hop, hdst, by simpa using hg, ?_, ?_, ?_⟩
      · intro u hxu j p hp hd
        subst hxu
        have := List.all_eq_true.1 hx j (List.mem_range.2 (lt_op hp))
        rw [hp] at this
        simp only [hd] at this
        simp at this
      · cases x with
        | tmp u => exact .inl ⟨u, rfl⟩
        | const c => exact .inr ⟨c, rfl⟩
        | global g => cases hx
        | func f => cases hx
      · intro j p hj hp
        have := List.all_eq_true.1 hu j (List.mem_range.2 (lt_op hp))
        rw [Bool.or_eq_true] at this
        rcases this with q | q
        · have := blt_iff.1 q; omega
        · rw [hp] at q
          simp only [Bool.and_eq_true, Bool.or_eq_true, Bool.not_eq_true'] at q
          refine ⟨q.1.imp id fun hn hm => ?_, fun hd => ?_⟩
          · have := List.any_eq_false.1 hn d hm
            simp at this
          · have h2 := q.2
            rw [hd] at h2
            simp at h2
    · cases h
  · cases h

theorem plain_of {ops : Array Oper} {m j : Nat} (h : tailPlain ops m = true) (hj : m ≤ j) {o : Oper} (ho : ops[j]? = some o) : o.guard = none ∧ ((∃ t a x, o.op = .store t a x ∧ o.dst = none) ∨ ∃ x, o.op = .assign x) := by
  have := List.all_eq_true.1 h j (List.mem_range.2 (lt_op ho))
  rw [Bool.or_eq_true] at this
  rcases this with q | q
  · have := blt_iff.1 q; omega
  · rw [ho] at q
    simp only [Bool.and_eq_true] at q
    refine ⟨by simpa using q.1, ?_⟩
    have q2 := q.2
    split at q2
    · rename_i t a x e; exact .inl ⟨t, a, x, e, by simpa using q2⟩
    · rename_i x e; exact .inr ⟨x, e⟩
    · cases q2

theorem put_getD {a : Act} {d t : Nat} {v : Value} (hd : d < a.tmps.size) : (a.put (some d) v).tmps.getD t undef = if d = t then v else a.tmps.getD t undef := by
  simp only [Act.put, Array.getD_eq_getD_getElem?]
  by_cases h : d = t
  · subst h
    rw [Array.getElem?_setIfInBounds_self_of_lt hd, if_pos rfl]; rfl
  · rw [Array.getElem?_setIfInBounds, if_neg h, if_neg h]
theorem put_out {a : Act} {d : Nat} {v : Value} (hd : ¬ d < a.tmps.size) : a.put (some d) v = a := by
  simp only [Act.put]
  rw [Array.setIfInBounds_eq_of_size_le (by omega)]

/-- what a and a' share while moves are pending -/
structure Agree (ops : Array Oper) (m : Nat) (listed : Array Bool) (a a' : Act) : Prop where
  size : a.tmps.size = a'.tmps.size
  defers : a.defers = a'.defers
  same : ∀ t, (∀ i, isFloat ops m i = true → listed.getD i false = false → gslot ops i ≠ some t) → a.tmps.getD t undef = a'.tmps.getD t undef
  pend : ∀ (i : Nat) (o : Oper) (x : Operand) (d : Nat), FloatAt ops m i o x d → ops[i]? = some o → isFloat ops m i = true → listed.getD i false = false → d < a'.tmps.size → a'.tmps.getD d undef = a'.eval x

theorem gslot_mk {ops : Array Oper} {i d : Nat} {o : Oper} (ho : ops[i]? = some o) (hd : o.dst = some d) : gslot ops i = some d := by
  unfold gslot; rw [ho]; exact hd
theorem float_unique {ops : Array Oper} {m i : Nat} {o o' : Oper} {x x' : Operand} {d d' : Nat} (h : FloatAt ops m i o x d) (ho : ops[i]? = some o) (h' : FloatAt ops m i o' x' d') (ho' : ops[i]? = some o') : o = o' ∧ x = x' ∧ d = d' := by
  rw [ho] at ho'
  cases ho'
  refine ⟨rfl, ?_, ?_⟩
  · have := h.op.symm.trans h'.op
    cases this; rfl
  · have := h.dst.symm.trans h'.dst
    cases this; rfl

theorem act_ext {a a' : Act} (hs : a.tmps.size = a'.tmps.size) (hd : a.defers = a'.defers) (h : ∀ t, a.tmps.getD t undef = a'.tmps.getD t undef) : a = a' := by
  cases a with | mk t1 d1 =>
  cases a' with | mk t2 d2 =>
  simp only at hs hd h
  have : t1 = t2 := by
    apply Array.ext hs
    intro i h1 h2
    have := h i
    simpa [Array.getD_eq_getD_getElem?, h1, h2] using this
  rw [this, hd]

theorem exists_ready {ops : Array Oper} {listed : Array Bool} (hback : backOk ops = true) (hsz : listed.size = ops.size) : ∀ k, ∀ i, i < ops.size → i ≤ k → listed.getD i true = false → ∃ q, q ∈ Region.ready .any ops listed := by
  intro k
  induction k with
  | zero =>
    intro i hi hk hu
    have : i = 0 := by omega
    subst this
    refine ⟨0, mem_ready.2 ⟨hi, hu, ops[0], Array.getElem?_eq_getElem hi, fun e he hbd => ?_⟩⟩
    have := edge_lt hback (Array.getElem?_eq_getElem hi) he hbd
    omega
  | succ k ihk =>
    intro i hi hk hu
    by_cases hlow : ∃ j, j < i ∧ listed.getD j true = false
    · obtain ⟨j, hj, hju⟩ := hlow
      exact ihk j (by omega) (by omega) hju
    · refine ⟨i, mem_ready.2 ⟨hi, hu, ops[i], Array.getElem?_eq_getElem hi, fun e he hbd => ?_⟩⟩
      have hon := edge_lt hback (Array.getElem?_eq_getElem hi) he hbd
      rw [getD_any false true (by rw [hsz]; omega)]
      cases hq : listed.getD e.on true with
      | true => rfl
      | false => exact (hlow ⟨_, hon, hq⟩).elim

theorem tail_float (hst : Stable C) {ops : Array Oper} {m : Nat} (hpl : tailPlain ops m = true) (htl : tailOk3 ops m = true) (hhead : headOk ops m = true) (hback : backOk ops = true) (hms : m ≤ ops.size) {w0 : World} {S0 : Nat → Prop} (hC : C w0) (hS : ∀ b, w0.heap.size ≤ b → S0 b)
    {Q : Exit → Act → World → Prop} {k : St → T} (hQ : ∀ st a w ρ, OkS w0 S0 st a w ρ → (k st).wp P C Qr Qo → Q .normal a w) :
    ∀ (fuel j : Nat) (listed : Array Bool) (a a' : Act) (w : World) (st : St) (ρ : List Nat), m ≤ j → j ≤ ops.size → listed.size = ops.size → (List.range ops.size).countP (fun i => !listed.getD i true) ≤ fuel →
      (∀ i, i < ops.size → (isFloat ops m i = false ∨ m ≤ i) → listed.getD i false = decide (i < j)) →
      (∀ j o, ops[j]? = some o → listed.getD j false = true → ∀ e ∈ o.after.toList, Region.binds .any e = true → listed.getD e.on false = true) →
      OkS w0 S0 st a' w ρ → Agree ops m listed a a' → (evalOps P ops false (ops.toList.drop j) st k).wp P C Qr Qo → wpAny P .any ops Q fuel listed a w := by
  have floatlt : ∀ i, isFloat ops m i = true → i < m := fun i h => by obtain ⟨o, x, d, _, hf⟩ := float_of h; exact hf.lt
  have fin : ∀ (j : Nat) (listed : Array Bool) (a a' : Act) (w : World) (st : St) (ρ : List Nat), m ≤ j → j ≤ ops.size → listed.size = ops.size → (∀ i, i < ops.size → listed.getD i true = true) →
      (∀ i, i < ops.size → (isFloat ops m i = false ∨ m ≤ i) → listed.getD i false = decide (i < j)) →
      OkS w0 S0 st a' w ρ → Agree ops m listed a a' → (evalOps P ops false (ops.toList.drop j) st k).wp P C Qr Qo → Q .normal a w := by
    intro j listed a a' w st ρ hmj hjs hsz hall hl ok hag hw
    have hj : j = ops.size := by
      rcases Nat.lt_or_ge j ops.size with q | q
      · have h1 := hl j q (.inr hmj)
        rw [getD_any false true (by omega), hall j q] at h1
        have := of_decide_eq_true h1.symm
        omega
      · omega
    subst hj
    rw [List.drop_of_length_le (by simp)] at hw
    have : a = a' := act_ext hag.size hag.defers fun t => hag.same t fun i hfi hli => by
      have hi := Nat.lt_of_lt_of_le (floatlt i hfi) hms
      rw [getD_any false true (by omega), hall i hi] at hli
      cases hli
    rw [this]
    exact hQ st a' w ρ ok (by simpa [evalOps] using hw)
  have nil : ∀ (listed : Array Bool), (∀ i, i < ops.size → listed.getD i true = true) → Region.ready .any ops listed = [] := by
    intro listed hall
    apply List.eq_nil_iff_forall_not_mem.2
    intro i hi
    obtain ⟨h1, h2, _⟩ := mem_ready.1 hi
    rw [hall i h1] at h2
    cases h2
  intro fuel
  induction fuel with
  | zero =>
    intro j listed a a' w st ρ hmj hjs hsz hf hl hdep ok hag hw
    have hall : ∀ i, i < ops.size → listed.getD i true = true := by
      intro i hi
      have := (List.countP_eq_zero.1 (Nat.le_zero.1 hf)) i (List.mem_range.2 hi)
      simpa using this
    exact ⟨nil listed hall, fin j listed a a' w st ρ hmj hjs hsz hall hl ok hag hw⟩
  | succ fuel ih =>
    intro j listed a a' w st ρ hmj hjs hsz hf hl hdep ok hag hw
    refine ⟨fun h0 => fin j listed a a' w st ρ hmj hjs hsz (fun i0 hi0 => ?_) hl ok hag hw, fun i hi => ?_⟩
    · cases hu : listed.getD i0 true with
      | true => rfl
      | false =>
        exfalso
        obtain ⟨q, hq⟩ := exists_ready hback hsz i0 i0 hi0 (Nat.le_refl _) hu
        rw [h0] at hq
        cases hq
    obtain ⟨hin, hiu, o, ho, hedges⟩ := mem_ready.1 hi
    have hil : i < listed.size := by omega
    have hiu' : listed.getD i false = false := by rw [getD_any false true hil]; exact hiu
    have hcnt : (List.range ops.size).countP (fun q => !(listed.setIfInBounds i true).getD q true) ≤ fuel := by
      have := countP_lt (p := fun q => !listed.getD q true) (q := fun q => !(listed.setIfInBounds i true).getD q true) (List.mem_range.2 hin) (by simp [hiu])
        (by simp only [Bool.not_eq_false']; rw [getD_set hil, if_pos rfl])
        (fun y hy => by
          simp only [Bool.not_eq_true'] at hy ⊢
          rw [getD_set hil] at hy
          split at hy
          · cases hy
          · exact hy)
      omega
    have hdep' : ∀ q p, ops[q]? = some p → (listed.setIfInBounds i true).getD q false = true → ∀ e ∈ p.after.toList, Region.binds .any e = true → (listed.setIfInBounds i true).getD e.on false = true := by
      intro q p hp hlq e he hbd
      have up : listed.getD e.on false = true → (listed.setIfInBounds i true).getD e.on false = true := by
        intro h
        rw [getD_set hil]
        split
        · rfl
        · exact h
      rw [getD_set hil] at hlq
      split at hlq
      · rename_i eq
        subst eq
        rw [ho] at hp
        cases hp
        exact up (hedges e he hbd)
      · exact up (hdep q p hp hlq e he hbd)
    unfold wpOp
    rw [ho]
    simp only
    rcases Nat.lt_or_ge i m with him | him
    · -- a move that was pending
      have hfi : isFloat ops m i = true := by
        cases hq : isFloat ops m i with
        | true => rfl
        | false =>
          have := hl i hin (.inl hq)
          rw [hiu'] at this
          have := of_decide_eq_false this.symm
          omega
      obtain ⟨o2, x, d, ho2, hfl⟩ := float_of hfi
      rw [ho] at ho2
      cases ho2
      rw [if_pos (by simp [Region.wanted, hfl.guard])]
      have hev : a.eval x = a'.eval x := by
        rcases hfl.kind with ⟨u, rfl⟩ | ⟨c, rfl⟩
        · refine hag.same u fun q hq hlq hg => ?_
          obtain ⟨p, _, _, hp, _⟩ := float_of hq
          unfold gslot at hg
          rw [hp] at hg
          exact hfl.src u rfl q p hp (by simpa using hg)
        · rfl
      refine .inl (post_value (v := a.eval x) (w' := w) (by simp only [execOp, hfl.op, Sem.run_pure]) ?_)
      rw [hfl.dst]
      refine ih j _ _ a' w st ρ hmj hjs (by simp [hsz]) hcnt ?_ hdep' ok ⟨?_, ?_, ?_, ?_⟩ hw
      · intro q hq hor
        have hqi : i ≠ q := fun e => by
          subst e
          rcases hor with h | h
          · rw [hfi] at h; cases h
          · omega
        rw [getD_set hil, if_neg hqi]
        exact hl q hq hor
      · simp [Act.put, hag.size]
      · exact hag.defers
      · intro t ht
        by_cases hd : d < a.tmps.size
        · rw [put_getD hd]
          split
          · rename_i e
            subst e
            rw [hag.pend i o x d hfl ho hfi hiu' (by rw [← hag.size]; exact hd), hev]
          · rename_i hne
            refine hag.same t fun q hq hlq hg => ?_
            by_cases hqi : i = q
            · subst hqi
              have := gslot_mk ho hfl.dst
              rw [hg] at this
              cases this
              exact hne rfl
            · exact ht q hq (by rw [getD_set hil, if_neg hqi]; exact hlq) hg
        · rw [put_out hd]
          by_cases hdt : d = t
          · subst hdt
            simp only [Array.getD_eq_getD_getElem?]
            rw [Array.getElem?_eq_none (by omega), Array.getElem?_eq_none (by rw [← hag.size]; omega)]
          · refine hag.same t fun q hq hlq hg => ?_
            by_cases hqi : i = q
            · subst hqi
              have := gslot_mk ho hfl.dst
              rw [hg] at this
              cases this
              exact hdt rfl
            · exact ht q hq (by rw [getD_set hil, if_neg hqi]; exact hlq) hg
      · intro q p y e hq hp hfq hlq he
        have hqi : i ≠ q := fun eq => by subst eq; rw [getD_set hil, if_pos rfl] at hlq; cases hlq
        rw [getD_set hil, if_neg hqi] at hlq
        exact hag.pend q p y e hq hp hfq hlq he
    · -- the next of the last part
      have hij : i = j := by
        have h1 := hl i hin (.inr him)
        rw [hiu'] at h1
        have h1 := of_decide_eq_false h1.symm
        rcases Nat.lt_or_ge j i with h2 | h2
        · exfalso
          have hr := List.all_eq_true.1 htl i (List.mem_range.2 hin)
          rw [Bool.or_eq_true] at hr
          rcases hr with q | q
          · have := blt_iff.1 q; omega
          · have := List.all_eq_true.1 q j (List.mem_range.2 h2)
            rw [Bool.or_eq_true] at this
            rcases this with q | q
            · have := floatlt j q; omega
            · have := reach_listed hdep 5 i j q (fun o2 ho2 => by rw [ho] at ho2; cases ho2; exact hedges)
              rw [hl j (by omega) (.inr hmj)] at this
              have := of_decide_eq_true this
              omega
        · omega
      subst hij
      obtain ⟨hg, hkind⟩ := plain_of hpl him ho
      rw [if_pos (by simp [Region.wanted, hg])]
      have hdrop : ops.toList.drop i = o :: ops.toList.drop (i + 1) := by
        rw [List.drop_eq_getElem_cons (by simpa using hin)]
        congr 1
        rw [Array.getElem_toList]
        have := Array.getElem?_eq_getElem hin
        rw [ho] at this
        exact (Option.some.inj this).symm
      rw [hdrop] at hw
      unfold evalOps at hw
      rw [hg] at hw
      simp only at hw
      have hev : ∀ x, (∀ t, x = .tmp t → t ∈ namesT o) → a.eval x = a'.eval x := by
        intro x hx
        cases x with
        | tmp t =>
          refine hag.same t fun q hq hlq hgq => ?_
          obtain ⟨p, y, d, hp, hf⟩ := float_of hq
          have hd : d = t := by
            have := gslot_mk hp hf.dst
            rw [hgq] at this
            cases this; rfl
          subst hd
          rcases (hf.use i o him ho).1 with h | h
          · obtain ⟨e, he, hon, hbd⟩ := hasEdge_of h
            have := hedges e he hbd
            rw [hon, hlq] at this
            cases this
          · exact h (hx d rfl)
        | const v => rfl
        | global g => rfl
        | func f => rfl
      have hl' : ∀ q, q < ops.size → (isFloat ops m q = false ∨ m ≤ q) → (listed.setIfInBounds i true).getD q false = decide (q < i + 1) := by
        intro q hq hor
        rw [getD_set hil]
        by_cases e : i = q
        · subst e; simp
        · rw [if_neg e, hl q hq hor]; simp; omega
      have hlq' : ∀ q, isFloat ops m q = true → (listed.setIfInBounds i true).getD q false = false → listed.getD q false = false := by
        intro q hq h
        have := floatlt q hq
        rw [getD_set hil, if_neg (by omega)] at h
        exact h
      have hlq2 : ∀ q, isFloat ops m q = true → listed.getD q false = false → (listed.setIfInBounds i true).getD q false = false := by
        intro q hq h
        have := floatlt q hq
        rw [getD_set hil, if_neg (by omega)]
        exact h
      rcases hkind with ⟨t, ad, x, hop, hdst⟩ | ⟨x, hop⟩
      · have hh : heapOp o.op = true := by rw [hop]; rfl
        unfold evalOp at hw
        rw [hh] at hw
        simp only [cond_false, cond_true] at hw
        unfold evalH at hw
        rw [hop] at hw
        simp only at hw
        split at hw
        · rename_i c h' hs
          obtain ⟨ec, hw2⟩ := of_brk hw
          subst ec
          clear hw
          have n1 : ∀ u, ad = .tmp u → u ∈ namesT o := fun u e => by subst e; unfold namesT; rw [hop]; simp [Op.operands]
          have n2 : ∀ u, x = .tmp u → u ∈ namesT o := fun u e => by subst e; unfold namesT; rw [hop]; simp [Op.operands]
          obtain ⟨w', h1, h2, h3, _⟩ := store_sound (P := P) ok.ok hs (eval_get ok ad) (eval_get ok x)
          refine .inl (post_skip (w' := w') ?_ ?_)
          · simp only [execOp, hop, Sem.run_bind, hev ad n1, hev x n2, h1, Result.andThen_ok, Sem.run_pure]
          · rw [hdst] at hw2 ⊢
            exact ih (i + 1) _ a a' w' ⟨st.s, h'⟩ ρ (by omega) (by omega) (by simp [hsz]) hcnt hl' hdep' ⟨h2, ok.size, fun t => h3 _ _ (ok.slots t), ok.defers⟩
              ⟨hag.size, hag.defers, fun t ht => hag.same t fun q hq hlq => ht q hq (hlq2 q hq hlq), fun q p y e hq hp hfq hlq => hag.pend q p y e hq hp hfq (hlq' q hfq hlq)⟩ hw2
        · exact hw.elim
      · have hh : heapOp o.op = false := by rw [hop]; rfl
        unfold evalOp at hw
        rw [hh] at hw
        simp only [cond_false] at hw
        have hw2 : (evalOps P ops false (ops.toList.drop (i + 1)) ⟨putO st.s o.dst (getD st.s x), st.h⟩ k).wp P C Qr Qo := by
          unfold evalB at hw
          rw [hop] at hw
          simp only at hw
          unfold evalA at hw
          rw [hop] at hw
          exact hw
        have n1 : ∀ u, x = .tmp u → u ∈ namesT o := fun u e => by subst e; unfold namesT; rw [hop]; simp [Op.operands]
        refine .inl (post_value (v := a.eval x) (w' := w) (by simp only [execOp, hop, Sem.run_pure]) ?_)
        have ok2 := put_ok (dst := o.dst) ok ok.ok (eval_get ok x) (fun _ _ q => q)
        rw [hev x n1]
        refine ih (i + 1) _ _ _ w _ ρ (by omega) (by omega) (by simp [hsz]) hcnt hl' hdep' ok2 ?_ hw2
        cases hdst : o.dst with
        | none => exact ⟨hag.size, hag.defers, fun t ht => hag.same t fun q hq hlq => ht q hq (hlq2 q hq hlq), fun q p y e hq hp hfq hlq => hag.pend q p y e hq hp hfq (hlq' q hfq hlq)⟩
        | some dd =>
          refine ⟨by simp [Act.put, hag.size], hag.defers, ?_, ?_⟩
          · intro t ht
            by_cases hd : dd < a.tmps.size
            · rw [put_getD hd, put_getD (by rw [← hag.size]; exact hd)]
              split
              · rfl
              · exact hag.same t fun q hq hlq => ht q hq (hlq2 q hq hlq)
            · rw [put_out hd, put_out (by rw [← hag.size]; exact hd)]
              exact hag.same t fun q hq hlq => ht q hq (hlq2 q hq hlq)
          · intro q p y e hq hp hfq hlq he
            have h1 := hag.pend q p y e hq hp hfq (hlq' q hfq hlq) (by simpa [Act.put] using he)
            by_cases hd : dd < a'.tmps.size
            · have hde : dd ≠ e := fun h => (hq.use i o him ho).2 (by rw [hdst, h])
              rw [put_getD hd, if_neg hde, h1]
              rcases hq.kind with ⟨u, rfl⟩ | ⟨c, rfl⟩
              · have hdu : dd ≠ u := fun h => hq.src u rfl i o ho (by rw [hdst, h])
                show a'.tmps.getD u undef = (a'.put (some dd) _).tmps.getD u undef
                rw [put_getD hd, if_neg hdu]
              · rfl
            · rw [put_out hd]; exact h1

/-- the act as it will be when the pending moves have run -/
noncomputable def ahead (ops : Array Oper) (m : Nat) (listed : Array Bool) (a : Act) : Act :=
  open Classical in
  { tmps := Array.ofFn fun t : Fin a.tmps.size =>
      if h : ∃ x, ∃ (i : Nat) (o : Oper), FloatAt ops m i o x t.val ∧ ops[i]? = some o ∧ isFloat ops m i = true ∧ listed.getD i false = false then a.eval h.choose else a.tmps.getD t.val undef
    defers := a.defers }
theorem ahead_size {ops m listed a} : (ahead ops m listed a).tmps.size = a.tmps.size := by simp [ahead]
theorem ahead_no {ops : Array Oper} {m : Nat} {listed : Array Bool} {a : Act} {t : Nat} (h : ¬ ∃ x, ∃ (i : Nat) (o : Oper), FloatAt ops m i o x t ∧ ops[i]? = some o ∧ isFloat ops m i = true ∧ listed.getD i false = false) : (ahead ops m listed a).tmps.getD t undef = a.tmps.getD t undef := by
  simp only [Array.getD_eq_getD_getElem?]
  by_cases ht : t < a.tmps.size
  · rw [Array.getElem?_eq_getElem (by rw [ahead_size]; exact ht), Array.getElem?_eq_getElem ht]
    simp only [ahead, Array.getElem_ofFn, Option.getD_some]
    rw [dif_neg h, Array.getD_eq_getD_getElem?, Array.getElem?_eq_getElem ht]
    rfl
  · rw [Array.getElem?_eq_none (by rw [ahead_size]; omega), Array.getElem?_eq_none (by omega)]
theorem ahead_yes {ops : Array Oper} {m : Nat} {listed : Array Bool} {a : Act} {t i : Nat} {o : Oper} {x : Operand} (hlone : ∀ j, j < m → j ≠ i → gslot ops j ≠ some t) (hf : FloatAt ops m i o x t) (ho : ops[i]? = some o) (hfi : isFloat ops m i = true)
    (hl : listed.getD i false = false) (ht : t < a.tmps.size) : (ahead ops m listed a).tmps.getD t undef = a.eval x := by
  have h : ∃ x, ∃ (i : Nat) (o : Oper), FloatAt ops m i o x t ∧ ops[i]? = some o ∧ isFloat ops m i = true ∧ listed.getD i false = false := ⟨x, i, o, hf, ho, hfi, hl⟩
  have hc : h.choose = x := by
    obtain ⟨i', o', hf', ho', _⟩ := h.choose_spec
    have : i' = i := Classical.byContradiction fun hne => hlone i' hf'.lt hne (gslot_mk ho' hf'.dst)
    subst this
    exact (float_unique hf' ho' hf ho).2.1
  simp only [Array.getD_eq_getD_getElem?]
  rw [Array.getElem?_eq_getElem (by rw [ahead_size]; exact ht)]
  simp only [ahead, Array.getElem_ofFn, Option.getD_some]
  rw [dif_pos h, hc]

theorem draw3_sound (hst : Stable C) {ops : Array Oper} (hna : ops.toList.any isAl = false) (hd : drawOk3 ops = true) {w0 : World} {S0 : Nat → Prop} (hC : C w0) (hS : ∀ b, w0.heap.size ≤ b → S0 b) {Q : Exit → Act → World → Prop} {S : List D} {ds : List D} {h' : List Box} {ρ : List Nat} {k : St → T}
    (hQ : ∀ st a w ρ, OkS w0 S0 st a w ρ → (k st).wp P C Qr Qo → Q .normal a w)
    (hds : ds.length = tailAt ops) (hent : ∀ q o, q < tailAt ops → ops[q]? = some o → Ent P C ops (SSf ops S 0 ds q) o (nth ds q .unk) h')
    (hw : (evalOps P ops false (ops.toList.drop (tailAt ops)) ⟨SSf ops S 0 ds (tailAt ops), h'⟩ k).wp P C Qr Qo) :
    ∀ (listed : Array Bool) (a : Act) (w : World), (List.range (tailAt ops)).countP (fun i => !listed.getD i true) + (ops.size - tailAt ops) ≤ ops.size →
      Mid w0 S0 ops (tailAt ops) S ds h' ρ listed a w → wpAny P .any ops Q ops.size listed a w := by
  unfold drawOk3 at hd
  simp only [Bool.and_eq_true] at hd
  obtain ⟨⟨⟨hpl, htl⟩, hhead⟩, hback⟩ := hd
  have hmle := tail_le ops
  intro listed a w hcount
  refine draw_gen hst hna (fun i => isFloat ops (tailAt ops) i) hhead hback ?_ hC hS hds hent ?_ ops.size listed a w hcount
  · intro j i hj hjs hi hfl
    have := List.all_eq_true.1 htl j (List.mem_range.2 hjs)
    simp only [Bool.or_eq_true] at this
    rcases this with q | q
    · have := blt_iff.1 q; omega
    · have := List.all_eq_true.1 q i (List.mem_range.2 (by omega))
      rw [Bool.or_eq_true] at this
      rcases this with q | q
      · rw [hfl] at q; cases q
      · exact q
  · intro fuel listed a w hf hall mid
    have head : ∀ i, i < tailAt ops → ∃ o d, ops[i]? = some o ∧ o.dst = some d ∧ (∀ j, j < tailAt ops → j ≠ i → gslot ops j ≠ some d) ∧
        (∀ t ∈ namesT o, ∀ j, j < tailAt ops → gslot ops j = some t → j < i ∧ hasEdge o j = true) ∧ (∀ j want, o.guard = some (j, want) → j < i ∧ hasEdge o j = true) := by
      intro i hi
      have h1 := List.all_eq_true.1 hhead i (List.mem_range.2 hi)
      cases ho : ops[i]? with
      | none => rw [ho] at h1; cases h1
      | some o =>
        rw [ho] at h1
        simp only [Bool.and_eq_true] at h1
        obtain ⟨⟨h2, h3⟩, h4⟩ := h1
        cases hdst : o.dst with
        | none => rw [hdst] at h2; cases h2
        | some d =>
          rw [hdst] at h2
          refine ⟨o, d, rfl, hdst, ?_, ?_, ?_⟩
          · intro j hj hne hg
            have := List.all_eq_true.1 h2 j (List.mem_range.2 hj)
            simp only [Bool.or_eq_true, Nat.beq_eq] at this
            rcases this with q | q
            · exact hne q.symm
            · unfold gslot at hg
              cases hp : ops[j]? with
              | none => rw [hp] at q; cases q
              | some p =>
                rw [hp] at q hg
                simp only [Option.bind_some] at hg
                simp only [hg] at q
                simp at q
          · intro t ht j hj hg
            have := List.all_eq_true.1 (List.all_eq_true.1 h3 t ht) j (List.mem_range.2 hj)
            unfold gslot at hg
            cases hp : ops[j]? with
            | none => rw [hp] at this; cases this
            | some p =>
              rw [hp] at this hg
              simp only [Option.bind_some] at hg
              simp only [hg, Bool.or_eq_true, Bool.and_eq_true, Bool.not_eq_true'] at this
              rcases this with q | q
              · simp at q
              · exact ⟨blt_iff.1 q.1, q.2⟩
          · intro j want hg
            rw [hg] at h4
            simp only [Bool.and_eq_true] at h4
            exact ⟨blt_iff.1 h4.1, h4.2⟩
    have hlone : ∀ i, i < tailAt ops → ∀ t, gslot ops i = some t → ∀ j, j < tailAt ops → j ≠ i → gslot ops j ≠ some t := by
      intro i hi t hg
      obtain ⟨o, d, ho, hdst, hdis, _, _⟩ := head i hi
      have hgd : d = t := by unfold gslot at hg; rw [ho] at hg; simp [hdst] at hg; exact hg
      subst hgd
      exact hdis
    have hlist : ∀ i, i < tailAt ops → isFloat ops (tailAt ops) i = false → listed.getD i false = true := fun i hi hfl => by
      rw [getD_any false true (by rw [mid.lsize]; omega)]; exact hall i hi hfl
    have hCw := below_C hst hC mid.ok.below
    -- what a pending move will give
    have pendRd : ∀ i o x d, FloatAt ops (tailAt ops) i o x d → ops[i]? = some o → d < S.length → RdD w (stab S0 ρ h') ρ (a.eval x) (nth ds i .unk) := by
      intro i o x d hfl ho hd
      have hent := hent i o hfl.lt ho
      have hil := hfl.lt
      have hsrc : ∀ u, x = .tmp u → RdD w (stab S0 ρ h') ρ (a.tmps.getD u undef) (nth (SSf ops S 0 ds i) u .unk) := by
        intro u hu
        have hno : ∀ j, gslot ops j ≠ some u := fun j hg => by
          unfold gslot at hg
          cases hp : ops[j]? with
          | none => rw [hp] at hg; cases hg
          | some p => rw [hp] at hg; exact hfl.src u hu j p hp (by simpa using hg)
        by_cases ht : u < S.length
        · rw [SSf_other ops u i S 0 ds (fun j _ hg => hno _ hg)]
          exact mid.no u ht (fun j _ hg => (hno j hg).elim)
        · have : nth (SSf ops S 0 ds i) u .unk = .unk := by rw [nth_eq, List.getElem?_eq_none (by rw [SSf_len]; exact Nat.le_of_not_lt ht)]; rfl
          rw [this]
          exact .unk
      have hreads : Reads w (stab S0 ρ h') ρ a o (getD (SSf ops S 0 ds i)) := by
        intro y hy
        rw [hfl.op] at hy
        have : y = x := by simpa [Op.operands] using hy
        subst this
        rcases hfl.kind with ⟨u, rfl⟩ | ⟨c, rfl⟩
        · exact hsrc u rfl
        · exact .val (const_rd c)
      rcases hent with ⟨_, hy⟩ | ⟨j, want, t, hg, _⟩
      · rcases hy with ⟨_, hy⟩ | ⟨has, _⟩
        · have h1 := hy h' (Fr.refl _) w0 S0 a w ρ (fun _ _ _ => False) hCw (allS_of mid.ok hS) mid.ok hreads
          unfold Oper.wp at h1
          have hrun : (execOp a.eval o).run P w = .ok (.value (a.eval x)) w := by simp only [execOp, hfl.op, Sem.run_pure]
          rw [hrun] at h1
          obtain ⟨v, hv, hr, _⟩ := h1
          rw [hfl.dst] at hv
          have h2 : (a.put (some d) (a.eval x)).tmps.getD d undef = (a.put (some d) v).tmps.getD d undef := congrArg (fun b : Act => b.tmps.getD d undef) hv
          rw [put_getD (by rw [mid.size]; exact hd), put_getD (by rw [mid.size]; exact hd), if_pos rfl, if_pos rfl] at h2
          rw [h2]
          exact hr
        · unfold isAS at has
          rw [hfl.op] at has
          cases has
      · rw [hfl.guard] at hg; cases hg
    -- all of the head, ahead of time
    have hall2 : ∀ i, (Array.ofFn fun i : Fin ops.size => decide (i.val < tailAt ops)).getD i false = decide (i < tailAt ops) := by
      intro i
      rw [Array.getD_eq_getD_getElem?]
      by_cases hi : i < ops.size
      · rw [Array.getElem?_eq_getElem (by simpa using hi)]; simp
      · rw [Array.getElem?_eq_none (by simp; omega)]; simp; omega
    have hmid : Mid w0 S0 ops (tailAt ops) S ds h' ρ (Array.ofFn fun i : Fin ops.size => decide (i.val < tailAt ops)) (ahead ops (tailAt ops) listed a) w := by
      refine ⟨mid.ok, by rw [ahead_size]; exact mid.size, mid.defers, by simp, ?_, ?_, ?_, ?_⟩
      · intro j o ho hl e he hbd
        rw [hall2] at hl ⊢
        have := of_decide_eq_true hl
        have := edge_lt hback ho he hbd
        exact decide_eq_true (by omega)
      · intro j hj hjs
        rw [getD_any true false (by simpa using hjs), hall2]
        exact decide_eq_false (by omega)
      · intro t i ht hi _ hg
        cases hli : listed.getD i false with
        | true =>
          rw [ahead_no]
          · exact mid.yes t i ht hi hli hg
          · rintro ⟨x, i', o', hf', ho', hfi', hl'⟩
            by_cases e : i' = i
            · subst e; rw [hli] at hl'; cases hl'
            · exact hlone i hi t hg i' hf'.lt e (gslot_mk ho' hf'.dst)
        | false =>
          have hfi : isFloat ops (tailAt ops) i = true := by
            cases hq : isFloat ops (tailAt ops) i with
            | true => rfl
            | false => rw [hlist i hi hq] at hli; cases hli
          obtain ⟨o, x, d, ho, hfl⟩ := float_of hfi
          have hd : d = t := by
            have := gslot_mk ho hfl.dst
            rw [hg] at this
            cases this; rfl
          subst hd
          rw [ahead_yes (hlone i hi d hg) hfl ho hfi hli (by rw [mid.size]; exact ht)]
          exact pendRd i o x d hfl ho ht
      · intro t ht hno
        rw [ahead_no]
        · refine mid.no t ht fun i hi hg => ?_
          have := hno i hi hg
          rw [hall2] at this
          have := of_decide_eq_false this
          omega
        · rintro ⟨x, i', o', hf', ho', _⟩
          have := hno i' hf'.lt (gslot_mk ho' hf'.dst)
          rw [hall2] at this
          have := of_decide_eq_false this
          have := hf'.lt
          omega
    have hok := mid_full hhead hds hmid fun i hi => by
      rw [getD_any true false (by simp; omega), hall2]
      exact decide_eq_true hi
    refine tail_float hst hpl htl hhead hback hmle hC hS hQ fuel (tailAt ops) listed a (ahead ops (tailAt ops) listed a) w _ ρ (Nat.le_refl _) hmle mid.lsize ?_ ?_ mid.dep hok ⟨by rw [ahead_size], rfl, ?_, ?_⟩ hw
    · have h1 : (List.range ops.size).countP (fun i => !listed.getD i true) ≤ (List.range (tailAt ops)).countP (fun i => !listed.getD i true) + (ops.size - tailAt ops) := by
        have e : List.range ops.size = List.range (tailAt ops) ++ List.range' (tailAt ops) (ops.size - tailAt ops) := by
          rw [List.range_eq_range', List.range_eq_range']
          have := List.range'_append_1 (s := 0) (m := tailAt ops) (n := ops.size - tailAt ops)
          rw [show 0 + tailAt ops = tailAt ops by omega, show tailAt ops + (ops.size - tailAt ops) = ops.size by omega] at this
          exact this.symm
        rw [e, List.countP_append]
        have := List.countP_le_length (p := fun i => !listed.getD i true) (l := List.range' (tailAt ops) (ops.size - tailAt ops))
        rw [List.length_range'] at this
        omega
      omega
    · intro i hi hor
      rcases Nat.lt_or_ge i (tailAt ops) with h | h
      · rw [hlist i h (hor.resolve_right (by omega))]; simp [h]
      · rw [getD_any false true (by rw [mid.lsize]; exact hi), mid.tail i h hi]; simp; omega
    · intro t ht
      rw [ahead_no]
      rintro ⟨x, i', o', hf', ho', hfi', hl'⟩
      exact ht i' hfi' hl' (gslot_mk ho' hf'.dst)
    · intro i o x d hfl ho hfi hli hd
      rw [ahead_size] at hd
      rw [ahead_yes (hlone i hfl.lt d (gslot_mk ho hfl.dst)) hfl ho hfi hli hd]
      rcases hfl.kind with ⟨u, rfl⟩ | ⟨c, rfl⟩
      · show a.tmps.getD u undef = (ahead ops (tailAt ops) listed a).tmps.getD u undef
        rw [ahead_no]
        rintro ⟨y, i', o', hf', ho', _⟩
        exact hfl.src u rfl i' o' ho' hf'.dst
      · rfl

end Go.Proofs.YtcijnloneigfcaaGreatDoor
