/-
  A region that draws its order, continued: all orders. Condition: the check drawOk, which the evaluator makes.
-/
import Derived.Test.YtcijnloneigfcaaGreatDoorPvDraw
namespace Go.Proofs.YtcijnloneigfcaaGreatDoor
open Go.RowKit
variable {P : Program} {C : World → Prop} {Qr : V → Prop} {Qo : Ex → St → Prop}

theorem hasEdge_of {o : Oper} {i : Nat} (h : hasEdge o i = true) : ∃ e ∈ o.after.toList, e.on = i ∧ Region.binds .any e = true := by
  unfold hasEdge at h
  rw [← Array.any_toList] at h
  obtain ⟨e, he, hb⟩ := List.any_eq_true.1 h
  simp only [Bool.and_eq_true, Nat.beq_eq] at hb
  exact ⟨e, he, hb.1, hb.2⟩

theorem mem_ready {ops : Array Oper} {listed : Array Bool} {i : Nat} : i ∈ Region.ready .any ops listed ↔
    i < ops.size ∧ listed.getD i true = false ∧ ∃ o, ops[i]? = some o ∧ ∀ e ∈ o.after.toList, Region.binds .any e = true → listed.getD e.on false = true := by
  unfold Region.ready
  rw [List.mem_filter, List.mem_range]
  constructor
  · rintro ⟨h1, h2⟩
    simp only [Bool.and_eq_true, Bool.not_eq_true'] at h2
    refine ⟨h1, h2.1, ?_⟩
    cases ho : ops[i]? with
    | none => rw [ho] at h2; simp at h2
    | some o =>
      rw [ho] at h2
      simp only [Option.map_some, Option.getD_some] at h2
      refine ⟨o, rfl, fun e he hb => ?_⟩
      have h3 := h2.2
      rw [← Array.all_toList] at h3
      have := List.all_eq_true.1 h3 e he
      rw [hb] at this
      simpa using this
  · rintro ⟨h1, h2, o, ho, h3⟩
    refine ⟨h1, ?_⟩
    simp only [Bool.and_eq_true, Bool.not_eq_true']
    refine ⟨h2, ?_⟩
    rw [ho]
    simp only [Option.map_some, Option.getD_some]
    rw [← Array.all_toList]
    refine List.all_eq_true.2 fun e he => ?_
    cases hb : Region.binds .any e with
    | false => rfl
    | true => simpa using h3 e he hb

theorem getD_set {listed : Array Bool} {i j : Nat} {d : Bool} (hi : i < listed.size) : (listed.setIfInBounds i true).getD j d = if i = j then true else listed.getD j d := by
  simp only [Array.getD_eq_getD_getElem?, Array.getElem?_setIfInBounds]
  split
  · rename_i h; subst h; simp
  · rfl

theorem getD_any {listed : Array Bool} {i : Nat} (d e : Bool) (hi : i < listed.size) : listed.getD i d = listed.getD i e := by
  simp [Array.getD_eq_getD_getElem?, Array.getElem?_eq_getElem hi]

theorem reach_succ {ops : Array Oper} {f j i : Nat} (h : reach ops (f + 1) j i = true) : ∃ o, ops[j]? = some o ∧ (hasEdge o i = true ∨ ∃ e ∈ o.after.toList, Region.binds .any e = true ∧ reach ops f e.on i = true) := by
  unfold reach at h
  cases ho : ops[j]? with
  | none => rw [ho] at h; cases h
  | some o =>
    rw [ho] at h
    simp only [Bool.or_eq_true] at h
    refine ⟨o, rfl, h.imp id fun h => ?_⟩
    rw [← Array.any_toList] at h
    obtain ⟨e, he, hb⟩ := List.any_eq_true.1 h
    simp only [Bool.and_eq_true] at hb
    exact ⟨e, he, hb.1, hb.2⟩

theorem edge_lt {ops : Array Oper} (hb : backOk ops = true) {j : Nat} {o : Oper} (ho : ops[j]? = some o) {e : Edge} (he : e ∈ o.after.toList) (hbd : Region.binds .any e = true) : e.on < j := by
  have hlt : j < ops.size := by
    rcases Nat.lt_or_ge j ops.size with q | q
    · exact q
    · rw [Array.getElem?_eq_none q] at ho; cases ho
  have := List.all_eq_true.1 hb j (List.mem_range.2 hlt)
  rw [ho] at this
  simp only at this
  rw [← Array.all_toList] at this
  have := List.all_eq_true.1 this e he
  rw [hbd] at this
  exact blt_iff.1 (by simpa using this)

theorem reach_lt {ops : Array Oper} (hb : backOk ops = true) : ∀ (f j i : Nat), reach ops f j i = true → i < j
  | 0, _, _, h => by unfold reach at h; cases h
  | f + 1, j, i, h => by
    obtain ⟨o, ho, h | ⟨e, he, hbd, h⟩⟩ := reach_succ h
    · obtain ⟨e, he, hon, hbd⟩ := hasEdge_of h
      rw [← hon]
      exact edge_lt hb ho he hbd
    · exact Nat.lt_trans (reach_lt hb f e.on i h) (edge_lt hb ho he hbd)

theorem reach_listed {ops : Array Oper} {listed : Array Bool} (hdep : ∀ j o, ops[j]? = some o → listed.getD j false = true → ∀ e ∈ o.after.toList, Region.binds .any e = true → listed.getD e.on false = true) :
    ∀ (f j i : Nat), reach ops f j i = true → (∀ o, ops[j]? = some o → ∀ e ∈ o.after.toList, Region.binds .any e = true → listed.getD e.on false = true) → listed.getD i false = true
  | 0, _, _, h, _ => by unfold reach at h; cases h
  | f + 1, j, i, h, hj => by
    obtain ⟨o, ho, h | ⟨e, he, hbd, h⟩⟩ := reach_succ h
    · obtain ⟨e, he, hon, hbd⟩ := hasEdge_of h
      rw [← hon]
      exact hj o ho e he hbd
    · exact reach_listed hdep f e.on i h fun o' ho' => hdep e.on o' ho' (hj o ho e he hbd)

/-- the last part, in the text's order -/
theorem tail_any {ops : Array Oper} {Q : Exit → Act → World → Prop} {m : Nat} (ht : tailOk ops m = true) (hb : backOk ops = true) : ∀ (fuel j : Nat) (listed : Array Bool) (a : Act) (w : World), ops.size ≤ j + fuel → j ≤ ops.size → m ≤ j →
    listed.size = ops.size → (∀ i, i < ops.size → listed.getD i false = decide (i < j)) → wpOps P ops Q (List.range' j (ops.size - j)) a w → wpAny P .any ops Q fuel listed a w := by
  intro fuel
  have hready : ∀ (j : Nat) (listed : Array Bool), m ≤ j → listed.size = ops.size → (∀ i, i < ops.size → listed.getD i false = decide (i < j)) → ∀ i ∈ Region.ready .any ops listed, i = j := by
    intro j listed hm hsz hl i hi
    obtain ⟨h1, h2, o, ho, h3⟩ := mem_ready.1 hi
    have h4 := hl i h1
    rw [getD_any false true (by omega), h2] at h4
    have h4 : j ≤ i := by
      have := (of_decide_eq_false h4.symm)
      omega
    rcases Nat.lt_or_ge j i with hlt | hge
    · have := List.all_eq_true.1 ht i (List.mem_range.2 h1)
      simp only [Bool.or_eq_true] at this
      rcases this with q | q
      · have := blt_iff.1 q; omega
      · have hr := List.all_eq_true.1 q j (List.mem_range.2 hlt)
        obtain ⟨o', ho', hr | ⟨e, he, hbd, hr⟩⟩ := reach_succ hr <;> (rw [ho] at ho'; cases ho')
        · obtain ⟨e, he, hon, hbd⟩ := hasEdge_of hr
          have := h3 e he hbd
          rw [hon, hl j (by omega)] at this
          simp at this
        · have := h3 e he hbd
          have h5 := edge_lt hb ho he hbd
          rw [hl e.on (by omega)] at this
          have h6 := reach_lt hb _ _ _ hr
          have h7 := of_decide_eq_true this
          omega
    · omega
  induction fuel with
  | zero =>
    intro j listed a w hf hj hm hsz hl hw
    have : j = ops.size := by omega
    subst this
    refine ⟨?_, by simpa [wpOps] using hw⟩
    apply List.eq_nil_iff_forall_not_mem.2
    intro i hi
    have := hready _ listed hm hsz hl i hi
    have := (mem_ready.1 hi).1
    omega
  | succ fuel ih =>
    intro j listed a w hf hj hm hsz hl hw
    rcases Nat.lt_or_ge j ops.size with hlt | hge
    · have hin : j ∈ Region.ready .any ops listed := by
        refine mem_ready.2 ⟨hlt, ?_, ops[j], Array.getElem?_eq_getElem hlt, ?_⟩
        · rw [getD_any true false (by omega), hl j hlt]; simp
        · intro e he hbd
          have := List.all_eq_true.1 hb j (List.mem_range.2 hlt)
          rw [Array.getElem?_eq_getElem hlt] at this
          simp only at this
          rw [← Array.all_toList] at this
          have := List.all_eq_true.1 this e he
          rw [hbd] at this
          have := blt_iff.1 (by simpa using this)
          rw [hl e.on (by omega)]
          simpa using this
      refine ⟨(fun h0 => by rw [h0] at hin; cases hin), fun i hi => ?_⟩
      have := hready j listed hm hsz hl i hi
      subst this
      rw [show ops.size - i = (ops.size - (i + 1)) + 1 by omega, List.range'_succ, wpOps_cons] at hw
      refine wpOp_mono (fun a w h => ih (i + 1) _ a w (by omega) (by omega) (by omega) (by simp [hsz]) ?_ h) hw
      intro q hq
      rw [getD_set (by omega), hl q hq]
      by_cases hqi : i = q
      · subst hqi; simp
      · rw [if_neg hqi]; simp; omega
    · have : j = ops.size := by omega
      subst this
      refine ⟨fun _ => by simpa [wpOps] using hw, fun i hi => ?_⟩
      have := hready _ listed hm hsz hl i hi
      have := (mem_ready.1 hi).1
      omega

theorem countP_lt {α : Type} {p q : α → Bool} : ∀ {l : List α} {x : α}, x ∈ l → p x = true → q x = false → (∀ y, q y = true → p y = true) → l.countP q < l.countP p
  | [], _, h, _, _, _ => nomatch h
  | y :: l, x, h, hp, hq, hi => by
    have hle : l.countP q ≤ l.countP p := List.countP_mono_left fun z _ => hi z
    rcases List.mem_cons.1 h with rfl | h
    · rw [List.countP_cons_of_pos hp, List.countP_cons_of_neg (by simp [hq])]; omega
    · have := countP_lt h hp hq hi
      by_cases hy : q y = true
      · rw [List.countP_cons_of_pos hy, List.countP_cons_of_pos (hi y hy)]; omega
      · rw [List.countP_cons_of_neg hy]
        have : l.countP p ≤ (y :: l).countP p := by simp [List.countP_cons]
        omega

/-- the slots while a drawn region is under way -/
structure Mid (w0 : World) (S0 : Nat → Prop) (ops : Array Oper) (m : Nat) (S : List D) (ds : List D) (h' : List Box) (ρ : List Nat) (listed : Array Bool) (a : Act) (w : World) : Prop where
  ok : OkH w0 S0 w ρ h'
  size : a.tmps.size = S.length
  defers : a.defers = []
  lsize : listed.size = ops.size
  dep : ∀ j o, ops[j]? = some o → listed.getD j false = true → ∀ e ∈ o.after.toList, Region.binds .any e = true → listed.getD e.on false = true
  tail : ∀ j, m ≤ j → j < ops.size → listed.getD j true = false
  yes : ∀ t i, t < S.length → i < m → listed.getD i false = true → gslot ops i = some t → RdD w (stab S0 ρ h') ρ (a.tmps.getD t undef) (nth ds i .unk)
  no : ∀ t, t < S.length → (∀ i, i < m → gslot ops i = some t → listed.getD i false = false) → RdD w (stab S0 ρ h') ρ (a.tmps.getD t undef) (nth S t .unk)

theorem tail_le (ops : Array Oper) : tailAt ops ≤ ops.size := by
  unfold tailAt
  have := (List.takeWhile_sublist (fun o : Oper => !isTail o.op) (l := ops.toList)).length_le
  rw [Array.length_toList] at this
  cases headOk ops ops.size
  · exact this
  · exact Nat.le_refl _

theorem draw_gen (hst : Stable C) {ops : Array Oper} (hna : ops.toList.any isAl = false) (fl : Nat → Bool) (hhead : headOk ops (tailAt ops) = true) (hback : backOk ops = true)
    (htail : ∀ j i, tailAt ops ≤ j → j < ops.size → i < tailAt ops → fl i = false → reach ops 5 j i = true) {w0 : World} {S0 : Nat → Prop} (hC : C w0) (hS : ∀ b, w0.heap.size ≤ b → S0 b) {Q : Exit → Act → World → Prop} {S : List D} {ds : List D} {h' : List Box} {ρ : List Nat}
    (hds : ds.length = tailAt ops) (hent : ∀ q o, q < tailAt ops → ops[q]? = some o → Ent P C ops (SSf ops S 0 ds q) o (nth ds q .unk) h')
    (hend : ∀ (fuel : Nat) (listed : Array Bool) (a : Act) (w : World), (List.range (tailAt ops)).countP (fun i => !listed.getD i true) + (ops.size - tailAt ops) ≤ fuel → (∀ i, i < tailAt ops → fl i = false → listed.getD i true = true) →
      Mid w0 S0 ops (tailAt ops) S ds h' ρ listed a w → wpAny P .any ops Q fuel listed a w) :
    ∀ (fuel : Nat) (listed : Array Bool) (a : Act) (w : World), (List.range (tailAt ops)).countP (fun i => !listed.getD i true) + (ops.size - tailAt ops) ≤ fuel →
      Mid w0 S0 ops (tailAt ops) S ds h' ρ listed a w → wpAny P .any ops Q fuel listed a w := by
  have hmle := tail_le ops
  generalize hm : tailAt ops = m at *
  have head : ∀ i, i < m → ∃ o d, ops[i]? = some o ∧ o.dst = some d ∧ (∀ j, j < m → j ≠ i → gslot ops j ≠ some d) ∧
      (∀ t ∈ namesT o, ∀ j, j < m → gslot ops j = some t → j < i ∧ hasEdge o j = true) ∧ (∀ j want, o.guard = some (j, want) → j < i ∧ hasEdge o j = true) := by
    intro i hi
    have h1 := List.all_eq_true.1 hhead i (List.mem_range.2 hi)
    cases ho : ops[i]? with
    | none => rw [ho] at h1; cases h1
    | some o =>
      rw [ho] at h1
      simp only [Bool.and_eq_true] at h1
      obtain ⟨⟨h2, h3⟩, h4⟩ := h1
      cases hdst : o.dst with
      | none => rw [hdst] at h2; cases h2
      | some d =>
        rw [hdst] at h2
        refine ⟨o, d, rfl, hdst, ?_, ?_, ?_⟩
        · intro j hj hne hg
          have := List.all_eq_true.1 h2 j (List.mem_range.2 hj)
          simp only [Bool.or_eq_true, Nat.beq_eq] at this
          rcases this with q | q
          · exact hne q.symm
          · unfold gslot at hg
            cases hp : ops[j]? with
            | none => rw [hp] at q; cases q
            | some p =>
              rw [hp] at q hg
              simp only [Option.bind_some] at hg
              simp only [hg] at q
              simp at q
        · intro t ht j hj hg
          have := List.all_eq_true.1 (List.all_eq_true.1 h3 t ht) j (List.mem_range.2 hj)
          unfold gslot at hg
          cases hp : ops[j]? with
          | none => rw [hp] at this; cases this
          | some p =>
            rw [hp] at this hg
            simp only [Option.bind_some] at hg
            simp only [hg, Bool.or_eq_true, Bool.and_eq_true, Bool.not_eq_true'] at this
            rcases this with q | q
            · simp at q
            · exact ⟨blt_iff.1 q.1, q.2⟩
        · intro j want hg
          rw [hg] at h4
          simp only [Bool.and_eq_true] at h4
          exact ⟨blt_iff.1 h4.1, h4.2⟩
  intro fuel
  induction fuel with
  | zero =>
    intro listed a w hf mid
    have hc : (List.range m).countP (fun i => !listed.getD i true) = 0 := by omega
    have hall : ∀ i, i < m → listed.getD i true = true := by
      intro i hi
      have := (List.countP_eq_zero.1 hc) i (List.mem_range.2 hi)
      simpa using this
    exact hend 0 listed a w hf (fun i hi _ => hall i hi) mid
  | succ fuel ih =>
    intro listed a w hf mid
    by_cases hall : ∀ i, i < m → fl i = false → listed.getD i true = true
    · exact hend (fuel + 1) listed a w hf hall mid
    · -- some operation of the first part is still to come
      obtain ⟨i0, hi0, hfl0, hu0⟩ : ∃ i, i < m ∧ fl i = false ∧ listed.getD i true = false := by
        refine Classical.byContradiction fun hn => hall fun i hi hfl => ?_
        cases hq : listed.getD i true with
        | true => rfl
        | false => exact (hn ⟨i, hi, hfl, hq⟩).elim
      have hsome : ∃ i, i ∈ Region.ready .any ops listed := by
        -- the first that is not listed
        have key : ∀ k, ∀ i, i < m → i ≤ k → listed.getD i true = false → ∃ q, q ∈ Region.ready .any ops listed := by
          intro k
          induction k with
          | zero =>
            intro i hi hk hu
            have : i = 0 := by omega
            subst this
            have hlt : 0 < ops.size := by omega
            refine ⟨0, mem_ready.2 ⟨hlt, hu, ops[0], Array.getElem?_eq_getElem hlt, fun e he hbd => ?_⟩⟩
            have := List.all_eq_true.1 hback 0 (List.mem_range.2 hlt)
            rw [Array.getElem?_eq_getElem hlt] at this
            simp only at this
            rw [← Array.all_toList] at this
            have := List.all_eq_true.1 this e he
            rw [hbd] at this
            simp at this
          | succ k ihk =>
            intro i hi hk hu
            by_cases hlow : ∃ j, j < i ∧ listed.getD j true = false
            · obtain ⟨j, hj, hju⟩ := hlow
              exact ihk j (by omega) (by omega) hju
            · have hlt : i < ops.size := by omega
              refine ⟨i, mem_ready.2 ⟨hlt, hu, ops[i], Array.getElem?_eq_getElem hlt, fun e he hbd => ?_⟩⟩
              have := List.all_eq_true.1 hback i (List.mem_range.2 hlt)
              rw [Array.getElem?_eq_getElem hlt] at this
              simp only at this
              rw [← Array.all_toList] at this
              have := List.all_eq_true.1 this e he
              rw [hbd] at this
              have hon := blt_iff.1 (by simpa using this)
              rw [getD_any false true (by rw [mid.lsize]; omega)]
              cases hq : listed.getD e.on true with
              | true => rfl
              | false => exact (hlow ⟨_, hon, hq⟩).elim
        exact key i0 i0 hi0 (Nat.le_refl _) hu0
      refine ⟨(fun h0 => by obtain ⟨i, hi⟩ := hsome; rw [h0] at hi; cases hi), fun i hi => ?_⟩
      obtain ⟨hin, hiu, o', ho', hedges⟩ := mem_ready.1 hi
      have him : i < m := by
        rcases Nat.lt_or_ge i m with q | q
        · exact q
        · exfalso
          have := reach_listed mid.dep 5 i i0 (htail i i0 q hin hi0 hfl0) (fun o2 ho2 => by rw [ho'] at ho2; cases ho2; exact hedges)
          rw [getD_any false true (by rw [mid.lsize]; omega), hu0] at this
          cases this
      obtain ⟨o, d, ho, hdst, hdis, hnames, hguard⟩ := head i him
      rw [ho] at ho'
      have eoo := Option.some.inj ho'
      subst eoo
      have hlisted : ∀ j, hasEdge o j = true → listed.getD j false = true := by
        intro j hj
        obtain ⟨e, he, hon, hbd⟩ := hasEdge_of hj
        rw [← hon]
        exact hedges e he hbd
      have hgi : gslot ops i = some d := by unfold gslot; rw [ho]; simpa using hdst
      -- what a slot that the operation names holds
      have slot : ∀ t : Nat, (∀ j : Nat, j < m → gslot ops j = some t → j < i ∧ hasEdge o j = true) → RdD w (stab S0 ρ h') ρ (a.tmps.getD t undef) (nth (SSf ops S 0 ds i) t .unk) := by
        intro t hx
        by_cases ht : t < S.length
        · by_cases hex : ∃ j, j < m ∧ gslot ops j = some t
          · obtain ⟨j, hjm, hg⟩ := hex
            obtain ⟨hji, hje⟩ := hx j hjm hg
            obtain ⟨oj, dj, hoj, hdj, hdisj, _, _⟩ := head j hjm
            have hgd : dj = t := by unfold gslot at hg; rw [hoj] at hg; simp [hdj] at hg; exact hg
            rw [SSf_at ops t i S 0 ds j hji (by omega) (by simpa using hg) ht (fun j' hj' hne => by simpa [hgd] using hdisj j' (by omega) hne)]
            exact mid.yes t j ht hjm (hlisted j hje) hg
          · rw [SSf_other ops t i S 0 ds (fun j hj hg => hex ⟨j, Nat.lt_trans hj him, by simpa using hg⟩)]
            exact mid.no t ht (fun j hj hg => (hex ⟨j, hj, hg⟩).elim)
        · have : nth (SSf ops S 0 ds i) t .unk = .unk := by rw [nth_eq, List.getElem?_eq_none (by rw [SSf_len]; omega)]; rfl
          rw [this]
          exact .unk
      have hreads : Reads w (stab S0 ρ h') ρ a o (getD (SSf ops S 0 ds i)) := by
        intro x hx
        cases x with
        | tmp t =>
          refine slot t (fun j hj hg => hnames t ?_ j hj hg)
          unfold namesT
          rw [List.mem_filterMap]
          exact ⟨_, hx, rfl⟩
        | const v => exact .val (const_rd v)
        | global g => exact .unk
        | func f => exact .val (@Rd.clos w _ f [] [] .nil)
      have hCw := below_C hst hC mid.ok.below
      -- behind the operation
      have next : ∀ v w', RdD w' (stab S0 ρ h') ρ v (nth ds i .unk) → Below w.heap.size w w' → wpAny P .any ops Q fuel (listed.setIfInBounds i true) (a.put o.dst v) w' := by
        intro v w' hv hbw
        refine ih _ _ _ ?_ ?_
        · have := countP_lt (p := fun q => !listed.getD q true) (q := fun q => !(listed.setIfInBounds i true).getD q true) (List.mem_range.2 him) (by simp [hiu])
            (by simp only [Bool.not_eq_false']; rw [getD_set (by rw [mid.lsize]; exact hin), if_pos rfl])
            (fun y hy => by
              simp only [Bool.not_eq_true'] at hy ⊢
              rw [getD_set (by rw [mid.lsize]; exact hin)] at hy
              split at hy
              · cases hy
              · exact hy)
          omega
        · refine ⟨mid.ok.grow hbw, by rw [hdst]; simp [Act.put, mid.size], by rw [hdst]; exact mid.defers, by simp [mid.lsize], ?_, ?_, ?_, ?_⟩
          · intro j o2 ho2 hl e he hbd
            have up : listed.getD e.on false = true → (listed.setIfInBounds i true).getD e.on false = true := by
              intro h
              rw [getD_set (by rw [mid.lsize]; exact hin)]
              split
              · rfl
              · exact h
            rw [getD_set (by rw [mid.lsize]; exact hin)] at hl
            split at hl
            · rename_i eij
              subst eij
              rw [ho] at ho2
              cases ho2
              exact up (hedges e he hbd)
            · exact up (mid.dep j o2 ho2 hl e he hbd)
          · intro j hj hjn
            rw [getD_set (by rw [mid.lsize]; exact hin), if_neg (by omega)]
            exact mid.tail j hj hjn
          · intro t j ht hjm hl hg
            rw [hdst]
            simp only [Act.put, Array.getD_eq_getD_getElem?]
            by_cases hji : j = i
            · subst hji
              rw [hgi] at hg
              cases hg
              rw [Array.getElem?_setIfInBounds_self_of_lt (by rw [mid.size]; exact ht)]
              exact hv
            · rw [getD_set (by rw [mid.lsize]; exact hin), if_neg (fun e => hji e.symm)] at hl
              have hne : d ≠ t := fun e => hdis j hjm hji (by rw [hg, e])
              rw [Array.getElem?_setIfInBounds, if_neg hne]
              have := mid.yes t j ht hjm hl hg
              rw [Array.getD_eq_getD_getElem?] at this
              exact this.grow hbw
          · intro t ht hno
            rw [hdst]
            simp only [Act.put, Array.getD_eq_getD_getElem?]
            have hne : d ≠ t := fun e => by
              have := hno i him (by rw [hgi, e])
              rw [getD_set (by rw [mid.lsize]; exact hin), if_pos rfl] at this
              cases this
            rw [Array.getElem?_setIfInBounds, if_neg hne]
            have := mid.no t ht (fun j hj hg => by
              have := hno j hj hg
              rw [getD_set (by rw [mid.lsize]; exact hin)] at this
              split at this
              · cases this
              · exact this)
            rw [Array.getD_eq_getD_getElem?] at this
            exact this.grow hbw
      have run : YA P C o (getD (SSf ops S 0 ds i)) (nth ds i .unk) h' → o.wp P a w (wpAny P .any ops Q fuel (listed.setIfInBounds i true)) Q := by
        intro hy
        refine Oper.wp_mono ?_ (hy h' (Fr.refl _) w0 S0 a w ρ Q hCw (allS_of mid.ok hS) mid.ok hreads)
        rintro a' w' ⟨v, rfl, h1, h2⟩
        exact next v w' h1 h2
      have noAS : isAS o = true → False := by
        intro hAS
        unfold isAS at hAS
        split at hAS
        · rename_i t hop
          have hmem : o ∈ ops.toList := by
            have h1 : ops.toList[i]? = some o := by rw [Array.getElem?_toList]; exact ho
            exact List.mem_of_getElem? h1
          have := List.any_eq_true.2 ⟨o, hmem, (show isAl o = true by unfold isAl; rw [hop])⟩
          rw [hna] at this
          cases this
        · rw [hdst] at hAS; cases hAS
        · cases hAS
      unfold wpOp
      rw [ho]
      simp only
      rcases hent i o him ho with ⟨hg, hy⟩ | ⟨j, want, t, hg, hj, hcase⟩
      · rw [if_pos (by simp [Region.wanted, hg])]
        rcases hy with hy | hy
        · exact .inl (run hy.2)
        · exact (noAS hy.1).elim
      · have hjg := hguard j want hg
        have hs := slot t (fun j' hj' hgj' => by
          have hjm : j < m := by omega
          by_cases e : j' = j
          · subst e; exact hjg
          · obtain ⟨oj, dj, hoj, hdj, hdisj, _, _⟩ := head j hjm
            have hgd : dj = t := by unfold gslot at hj; rw [hoj] at hj; simp [hdj] at hj; exact hj
            exact (hdisj j' hj' e (by rw [hgj', hgd])).elim)
        have hltof : nth (SSf ops S 0 ds i) t .unk ≠ .unk → t < S.length := by
          intro hne
          rcases Nat.lt_or_ge t S.length with q | q
          · exact q
          · exact (hne (by rw [nth_eq, List.getElem?_eq_none (by rw [SSf_len]; exact q)]; rfl)).elim
        rcases hcase with ⟨b, ht, hcase⟩ | ⟨ht, hdu⟩
        · have hlt := hltof (by rw [ht]; intro h; cases h)
          rw [ht] at hs
          have hs := hs.bool_inv
          have hy : yielded ops a.tmps j = some b := by
            unfold yielded
            unfold gslot at hj
            rw [hj]
            simp only [Option.bind_some]
            rw [Array.getD_eq_getD_getElem?, Array.getElem?_eq_getElem (by rw [mid.size]; exact hlt)] at hs
            simp only [Option.getD_some] at hs
            rw [Array.getElem?_eq_getElem (by rw [mid.size]; exact hlt), hs]
          have hwanted : Region.wanted o (yielded ops a.tmps) = (b == want) := by
            simp only [Region.wanted, hg, hy]
            cases b <;> cases want <;> rfl
          rw [hwanted]
          rcases hcase with ⟨rfl, hya⟩ | ⟨hne, hdu⟩
          · rw [if_pos (by simp)]
            rcases hya with hya | hya
            · exact .inl (run hya.2)
            · exact (noAS hya.1).elim
          · rw [if_neg (by simp [hne])]
            exact next undef w (by rw [hdu]; exact undD_rd) (Below.refl _ _)
        · have hlt := hltof (by rw [ht]; intro h; cases h)
          rw [ht] at hs
          obtain ⟨arr, hs, _⟩ := hs.val_inv.tup_inv
          have hy : yielded ops a.tmps j = none := by
            unfold yielded
            unfold gslot at hj
            rw [hj]
            simp only [Option.bind_some]
            rw [Array.getD_eq_getD_getElem?, Array.getElem?_eq_getElem (by rw [mid.size]; exact hlt)] at hs
            simp only [Option.getD_some] at hs
            rw [Array.getElem?_eq_getElem (by rw [mid.size]; exact hlt), hs]
          rw [if_neg (by simp [Region.wanted, hg, hy])]
          exact next undef w (by rw [hdu]; exact undD_rd) (Below.refl _ _)


/-- the slots behind the head, all of which has run -/
theorem mid_full {w0 : World} {S0 : Nat → Prop} {ops : Array Oper} {S ds : List D} {h' : List Box} {ρ : List Nat} {listed : Array Bool} {a : Act} {w : World} (hhead : headOk ops (tailAt ops) = true) (hds : ds.length = tailAt ops)
    (mid : Mid w0 S0 ops (tailAt ops) S ds h' ρ listed a w) (hall : ∀ i, i < tailAt ops → listed.getD i true = true) : OkS w0 S0 ⟨SSf ops S 0 ds (tailAt ops), h'⟩ a w ρ := by
  have hmle := tail_le ops
  generalize hm : tailAt ops = m at *
  have head : ∀ i, i < m → ∃ o d, ops[i]? = some o ∧ o.dst = some d ∧ (∀ j, j < m → j ≠ i → gslot ops j ≠ some d) ∧
      (∀ t ∈ namesT o, ∀ j, j < m → gslot ops j = some t → j < i ∧ hasEdge o j = true) ∧ (∀ j want, o.guard = some (j, want) → j < i ∧ hasEdge o j = true) := by
    intro i hi
    have h1 := List.all_eq_true.1 hhead i (List.mem_range.2 hi)
    cases ho : ops[i]? with
    | none => rw [ho] at h1; cases h1
    | some o =>
      rw [ho] at h1
      simp only [Bool.and_eq_true] at h1
      obtain ⟨⟨h2, h3⟩, h4⟩ := h1
      cases hdst : o.dst with
      | none => rw [hdst] at h2; cases h2
      | some d =>
        rw [hdst] at h2
        refine ⟨o, d, rfl, hdst, ?_, ?_, ?_⟩
        · intro j hj hne hg
          have := List.all_eq_true.1 h2 j (List.mem_range.2 hj)
          simp only [Bool.or_eq_true, Nat.beq_eq] at this
          rcases this with q | q
          · exact hne q.symm
          · unfold gslot at hg
            cases hp : ops[j]? with
            | none => rw [hp] at q; cases q
            | some p =>
              rw [hp] at q hg
              simp only [Option.bind_some] at hg
              simp only [hg] at q
              simp at q
        · intro t ht j hj hg
          have := List.all_eq_true.1 (List.all_eq_true.1 h3 t ht) j (List.mem_range.2 hj)
          unfold gslot at hg
          cases hp : ops[j]? with
          | none => rw [hp] at this; cases this
          | some p =>
            rw [hp] at this hg
            simp only [Option.bind_some] at hg
            simp only [hg, Bool.or_eq_true, Bool.and_eq_true, Bool.not_eq_true'] at this
            rcases this with q | q
            · simp at q
            · exact ⟨blt_iff.1 q.1, q.2⟩
        · intro j want hg
          rw [hg] at h4
          simp only [Bool.and_eq_true] at h4
          exact ⟨blt_iff.1 h4.1, h4.2⟩
  refine ⟨mid.ok, by rw [mid.size, SSf_len], fun t => ?_, mid.defers⟩
  by_cases ht : t < S.length
  · by_cases hex : ∃ i, i < m ∧ gslot ops i = some t
    · obtain ⟨i, him, hg⟩ := hex
      obtain ⟨o, d, ho, hdst, hdis, _, _⟩ := head i him
      have hgd : d = t := by unfold gslot at hg; rw [ho] at hg; simp [hdst] at hg; exact hg
      simp only
      rw [SSf_at ops t m S 0 ds i him (by omega) (by simpa using hg) ht (fun j hj hne => by simpa [hgd] using hdis j hj hne)]
      exact mid.yes t i ht him (by rw [getD_any false true (by rw [mid.lsize]; omega)]; exact hall i him) hg
    · simp only
      rw [SSf_other ops t m S 0 ds (fun j hj hg => hex ⟨j, hj, by simpa using hg⟩)]
      exact mid.no t ht (fun i hi hg => (hex ⟨i, hi, hg⟩).elim)
  · have : nth (SSf ops S 0 ds m) t .unk = .unk := by rw [nth_eq, List.getElem?_eq_none (by rw [SSf_len]; omega)]; rfl
    simp only
    rw [this]
    exact .unk

theorem draw_sound (hst : Stable C) {ops : Array Oper} (hna : ops.toList.any isAl = false) (hd : drawOk ops = true) {w0 : World} {S0 : Nat → Prop} (hC : C w0) (hS : ∀ b, w0.heap.size ≤ b → S0 b) {Q : Exit → Act → World → Prop} {S : List D} {ds : List D} {h' : List Box} {ρ : List Nat}
    (hds : ds.length = tailAt ops) (hent : ∀ q o, q < tailAt ops → ops[q]? = some o → Ent P C ops (SSf ops S 0 ds q) o (nth ds q .unk) h')
    (hend : ∀ a w, OkS w0 S0 ⟨SSf ops S 0 ds (tailAt ops), h'⟩ a w ρ → wpOps P ops Q (List.range' (tailAt ops) (ops.size - tailAt ops)) a w) :
    ∀ (fuel : Nat) (listed : Array Bool) (a : Act) (w : World), (List.range (tailAt ops)).countP (fun i => !listed.getD i true) + (ops.size - tailAt ops) ≤ fuel →
      Mid w0 S0 ops (tailAt ops) S ds h' ρ listed a w → wpAny P .any ops Q fuel listed a w := by
  unfold drawOk at hd
  simp only [Bool.and_eq_true] at hd
  obtain ⟨⟨htail, hhead⟩, hback⟩ := hd
  have hmle := tail_le ops
  refine draw_gen hst hna (fun _ => false) hhead hback ?_ hC hS hds hent ?_
  · intro j i hj hjs hi _
    have := List.all_eq_true.1 htail j (List.mem_range.2 hjs)
    simp only [Bool.or_eq_true] at this
    rcases this with q | q
    · have := blt_iff.1 q; omega
    · exact List.all_eq_true.1 q i (List.mem_range.2 (by omega))
  · intro fuel listed a w hf hall mid
    have hall := fun i hi => hall i hi rfl
    refine tail_any htail hback fuel (tailAt ops) listed a w (by omega) hmle (Nat.le_refl _) mid.lsize ?_ (hend a w (mid_full hhead hds mid hall))
    intro i hi
    rw [getD_any false true (by rw [mid.lsize]; exact hi)]
    by_cases him : i < tailAt ops
    · rw [hall i him]; simp [him]
    · rw [mid.tail i (by omega) hi]; simp [him]

end Go.Proofs.YtcijnloneigfcaaGreatDoor
