/-
  A region that draws its order and makes blocks, continued: all orders. Condition: the check drawOk2, which the evaluator makes.
-/
import Derived.Test.YtcijnloneigfcaaGreatDoorPvDraw3
namespace Go.Proofs.YtcijnloneigfcaaGreatDoor
open Go.RowKit
variable {P : Program} {C : World → Prop} {Qr : V → Prop} {Qo : Ex → St → Prop}

theorem OkH.sub {w0 : World} {S1 S0 : Nat → Prop} {w : World} {ρ : List Nat} {h : List Box} (ok : OkH w0 S1 w ρ h) (hs : ∀ b, S1 b → S0 b) : OkH w0 S0 w ρ h ∧ Lasts w w (stab S1 ρ h) (stab S0 ρ h) := by
  have hl : Lasts w w (stab S1 ρ h) (stab S0 ρ h) := ⟨Nat.le_refl _, fun b _ q => ⟨⟨hs b q.1, q.2⟩, rfl⟩⟩
  refine ⟨⟨ok.below, ok.heap.len, ok.heap.low, ok.heap.inj, ?_⟩, hl⟩
  intro i x γ hx xa hi
  obtain ⟨vs, t, h1, h2, h3⟩ := ok.heap.box i x γ hx xa hi
  exact ⟨vs, t, h1, h2, h3.lasts hl⟩

theorem storeOf_some : ∀ {l : List Oper} {d : Nat} {x : Operand}, storeOf d l = some x → ∃ o ∈ l, ∃ t, o.op = .store t (.tmp d) x
  | [], d, x, h => by cases h
  | o :: rest, d, x, h => by
    unfold storeOf at h
    split at h
    · rename_i u t y ho
      cases hb : Nat.beq t d with
      | true =>
        rw [hb] at h
        have := Nat.eq_of_beq_eq_true hb
        subst this
        cases h
        exact ⟨o, by simp, u, ho⟩
      | false =>
        rw [hb] at h
        obtain ⟨p, hp, q⟩ := storeOf_some (show storeOf d rest = some x from h)
        exact ⟨p, List.mem_cons_of_mem _ hp, q⟩
    · obtain ⟨p, hp, q⟩ := storeOf_some h
      exact ⟨p, List.mem_cons_of_mem _ hp, q⟩

theorem storeOf_none : ∀ {l : List Oper} {d : Nat}, storeOf d l = none → ∀ o ∈ l, ∀ t x, o.op ≠ .store t (.tmp d) x
  | [], d, h, o, ho, _, _ => nomatch ho
  | o :: rest, d, h, p, hp, t, x => by
    intro e
    unfold storeOf at h
    rcases List.mem_cons.1 hp with rfl | hp
    · rw [e] at h
      simp at h
    · split at h
      · rename_i u t' y ho
        cases hb : Nat.beq t' d with
        | true => rw [hb] at h; cases h
        | false => rw [hb] at h; exact storeOf_none (show storeOf d rest = none from h) p hp t x e
      · exact storeOf_none h p hp t x e

theorem gslot_some {ops : Array Oper} {j t : Nat} (h : gslot ops j = some t) : ∃ p, ops[j]? = some p ∧ p.dst = some t := by
  unfold gslot at h
  cases hp : ops[j]? with
  | none => rw [hp] at h; cases h
  | some p => rw [hp] at h; exact ⟨p, rfl, h⟩
theorem gslot_of {ops : Array Oper} {j t : Nat} {p : Oper} (h : ops[j]? = some p) (hd : p.dst = some t) : gslot ops j = some t := by
  unfold gslot; rw [h]; exact hd
theorem lt_of_op {ops : Array Oper} {j : Nat} {p : Oper} (h : ops[j]? = some p) : j < ops.size := by
  rcases Nat.lt_or_ge j ops.size with q | q
  · exact q
  · rw [Array.getElem?_eq_none q] at h; cases h

/-- the blocks set apart become boxes, in the text's order -/
theorem adopt_all {w0 : World} {S0 : Nat → Prop} {ops : List Oper} {S : List D} {a : Act} {w : World} : ∀ (l : List Oper) (cs : List (Nat × List V)) (st : St) (S1 : Nat → Prop) (ρ : List Nat),
    AllB P ops S l cs → OkH w0 S1 w ρ st.h → (∀ b, S1 b → S0 b) → st.s.length = S.length → a.tmps.size = st.s.length → a.defers = [] →
    (∀ t, RdD w (stab S1 ρ st.h) ρ (a.tmps.getD t undef) (nth st.s t .unk)) →
    (∀ o ∈ l, ∀ t d, o.op = .alloc t → o.dst = some d → ∀ cells, Cont P ops S t d cells → ∃ β vals ty, a.tmps.getD d undef = .pointer (some ⟨β, 0, none⟩) ∧ w.heap[β]? = some (.cells vals ty (0, 0)) ∧ w0.heap.size ≤ β ∧ S0 β ∧ ¬ S1 β ∧
      (∀ k : Nat, ρ[k]? ≠ some β) ∧ cells.length ≤ vals.size ∧ RdL w (stab S1 ρ st.h) (vals.toList.take cells.length) cells) →
    l.Pairwise (fun o o' => ∀ t d t' d' β, o.op = .alloc t → o.dst = some d → o'.op = .alloc t' → o'.dst = some d' → d < S.length → d' < S.length → a.tmps.getD d undef = .pointer (some ⟨β, 0, none⟩) → a.tmps.getD d' undef ≠ .pointer (some ⟨β, 0, none⟩)) →
    ∃ ρ', OkS w0 S0 (addB cs st) a w ρ'
  | [], cs, st, S1, ρ, hA, ok, hs, hl, hsz, hdf, hr, _, _ => by
    have : cs = [] := hA
    subst this
    obtain ⟨ok', hl'⟩ := ok.sub hs
    exact ⟨ρ, ok', hsz, fun t => (hr t).lasts hl' (fun _ _ _ q => q) (fun _ _ q => q), hdf⟩
  | o :: rest, cs, st, S1, ρ, hA, ok, hs, hl, hsz, hdf, hr, hp, hd => by
    have hrest : ∀ p ∈ rest, p ∈ o :: rest := fun p hp => List.mem_cons_of_mem _ hp
    unfold AllB at hA
    split at hA
    · rename_i t d hop hdst
      obtain ⟨cells, cs', rfl, hc, hA⟩ := hA
      obtain ⟨β, vals, ty, h1, h2, h3, h4, h5, h6, h7, h8⟩ := hp o (by simp) t d hop hdst cells hc
      have hdl : d < S.length := hc.1
      obtain ⟨ok', hl'⟩ := adoptX ok h3 h5 h6 h2 h7 h8
      have hlen := ok.heap.len
      refine adopt_all rest cs' ⟨st.s.set d (.own st.h.length 0), newB st.h cells⟩ (fun b => S1 b ∨ b = β) (ρ ++ [β]) hA ok' ?_ (by simp [hl]) (by simp [hsz]) hdf ?_ ?_ (List.pairwise_cons.1 hd).2
      · intro b hb
        rcases hb with hb | rfl
        · exact hs b hb
        · exact h4
      · intro t'
        simp only
        rw [nth_set]
        split
        · rename_i e
          obtain ⟨rfl, _⟩ := e
          rw [h1]
          exact .own (by rw [← hlen]; simp)
        · exact (hr t').lasts hl' (fun _ _ _ q => q) (fun _ _ q => get_snoc_of q)
      · intro p hp' t' d' hop' hdst' cells' hc'
        obtain ⟨β', vals', ty', g1, g2, g3, g4, g5, g6, g7, g8⟩ := hp p (hrest p hp') t' d' hop' hdst' cells' hc'
        have hne : β' ≠ β := fun e => (List.pairwise_cons.1 hd).1 p hp' t d t' d' β hop hdst hop' hdst' hdl hc'.1 h1 (e ▸ g1)
        refine ⟨β', vals', ty', g1, g2, g3, g4, ?_, ?_, g7, g8.lasts hl'⟩
        · intro q
          rcases q with q | q
          · exact g5 q
          · exact hne q
        · intro k q
          rcases get_snoc q with q | ⟨_, q⟩
          · exact g6 k q
          · exact hne q
    · exact adopt_all rest cs st S1 ρ hA ok hs hl hsz hdf hr (fun p hp' => hp p (hrest p hp')) (List.pairwise_cons.1 hd).2

theorem mid2_slot {w0 : World} {S0 S1 : Nat → Prop} {ops : Array Oper} {S ds : List D} {h' : List Box} {ρ : List Nat} {listed : Array Bool} {a : Act} {w : World} (hd : drawOk2 ops = true) (hds : ds.length = ops.size)
    (mid : Mid2 P w0 S0 S1 ops S ds h' ρ listed a w) {i : Nat} {o : Oper} (hi : i < ops.size) (hl : ∀ k, hasEdge o k = true → listed.getD k false = true) {u : Nat} (hf : Fed ops i o u) {q : Nat} (hq : i ≤ q) (hq' : q ≤ ops.size) :
    RdD w (stab S1 ρ h') ρ (a.tmps.getD u undef) (nth (SSf ops S 0 ds q) u .unk) := by
  by_cases hu : u < S.length
  · by_cases hex : ∃ j, j < ops.size ∧ gslot ops j = some u
    · obtain ⟨j, hj, hg⟩ := hex
      obtain ⟨p, hp, hpd⟩ := gslot_some hg
      obtain ⟨hji, hje, hal⟩ := hf j p hp hpd
      have hlone : Lone ops j u := by
        cases kind_of hd hp with
        | al t d k1 k2 k3 k4 => unfold isAl at hal; rw [k1] at hal; cases hal
        | st t b x j' p' k1 k2 k3 => rw [k3] at hpd; cases hpd
        | pu d k0 k1 k2 => rw [k1] at hpd; cases hpd; exact k2
      rw [SSf_at ops u q S 0 ds j (by omega) (by omega) (by simpa using hg) hu (fun j' hj' hne hg' => by
        rw [Nat.zero_add] at hg'
        obtain ⟨p', hp', hpd'⟩ := gslot_some hg'
        exact hlone j' p' hne hp' hpd')]
      exact mid.yes u j hu hj (hl j hje) hg
    · rw [SSf_other ops u q S 0 ds (fun j hj hg => hex ⟨j, by omega, by simpa using hg⟩)]
      exact mid.no u hu (fun j hj hg => (hex ⟨j, hj, hg⟩).elim)
  · have : nth (SSf ops S 0 ds q) u .unk = .unk := by rw [nth_eq, List.getElem?_eq_none (by rw [SSf_len]; omega)]; rfl
    rw [this]
    exact .unk

/-- the end: all has run -/
theorem mid2_end {w0 : World} {S0 S1 : Nat → Prop} {ops : Array Oper} {S ds : List D} {h' : List Box} {ρ : List Nat} {listed : Array Bool} {a : Act} {w : World} (hd : drawOk2 ops = true) (hds : ds.length = ops.size)
    (mid : Mid2 P w0 S0 S1 ops S ds h' ρ listed a w) (hall : ∀ i, i < ops.size → listed.getD i false = true) {cs : List (Nat × List V)} (hcs : AllB P ops.toList (SSf ops S 0 ds ops.size) ops.toList cs) :
    ∃ ρ', OkS w0 S0 (addB cs ⟨SSf ops S 0 ds ops.size, h'⟩) a w ρ' := by
  have memof : ∀ {o : Oper}, o ∈ ops.toList → ∃ i : Nat, ops[i]? = some o := fun {o} ho => by
    obtain ⟨i, hi, e⟩ := List.mem_iff_getElem.1 ho
    exact ⟨i, by rw [← Array.getElem?_toList, List.getElem?_eq_getElem hi, e]⟩
  have tomem : ∀ {i : Nat} {o : Oper}, ops[i]? = some o → o ∈ ops.toList := fun {i o} h => List.mem_of_getElem? (by rw [Array.getElem?_toList]; exact h)
  refine adopt_all ops.toList cs ⟨SSf ops S 0 ds ops.size, h'⟩ S1 ρ hcs mid.ok mid.sub rfl (by simp only; rw [mid.size, SSf_len]) mid.defers ?_ ?_ ?_
  · intro t
    simp only
    by_cases ht : t < S.length
    · by_cases hex : ∃ j, j < ops.size ∧ gslot ops j = some t
      · obtain ⟨j, hj, hg⟩ := hex
        obtain ⟨p, hp, hpd⟩ := gslot_some hg
        have hlone : Lone ops j t := by
          cases kind_of hd hp with
          | al t' d k1 k2 k3 k4 => rw [k3] at hpd; cases hpd; exact k4
          | st t' b x j' p' k1 k2 k3 => rw [k3] at hpd; cases hpd
          | pu d k0 k1 k2 => rw [k1] at hpd; cases hpd; exact k2
        rw [SSf_at ops t ops.size S 0 ds j hj (by omega) (by simpa using hg) ht (fun j' hj' hne hg' => by
          rw [Nat.zero_add] at hg'
          obtain ⟨p', hp', hpd'⟩ := gslot_some hg'
          exact hlone j' p' hne hp' hpd')]
        exact mid.yes t j ht hj (hall j hj) hg
      · rw [SSf_other ops t ops.size S 0 ds (fun j hj hg => hex ⟨j, hj, by simpa using hg⟩)]
        exact mid.no t ht (fun j hj hg => (hex ⟨j, hj, hg⟩).elim)
    · have : nth (SSf ops S 0 ds ops.size) t .unk = .unk := by rw [nth_eq, List.getElem?_eq_none (by rw [SSf_len]; omega)]; rfl
      rw [this]
      exact .unk
  · intro o ho t d hop hdst cells hc
    obtain ⟨i, hi⟩ := memof ho
    have hdl : d < S.length := by have := hc.1; rwa [SSf_len] at this
    obtain ⟨β, vals, ty, cells', h1, h2, h3, h4, h5, h6, h7, h8, h9⟩ := mid.al i o t d hi hop hdst (hall i (lt_of_op hi)) hdl
    have e : cells = cells' := by
      obtain ⟨_, zs, hz, hc⟩ := hc
      rcases h9 with ⟨n1, n2⟩ | ⟨j, p, u, x, v, n1, n2, n3, n4, n5⟩
      · rcases hc with ⟨_, rfl⟩ | ⟨x, v, c1, c2, c3, c4⟩
        · exact (Option.some.inj (hz.symm.trans n2))
        · obtain ⟨p, hp, u, hu⟩ := storeOf_some c1
          obtain ⟨j, hj⟩ := memof hp
          have := n1 j p u x hj hu
          rw [hall j (lt_of_op hj)] at this
          cases this
      · rcases hc with ⟨c0, _⟩ | ⟨x', v', c1, c2, c3, c4⟩
        · exact (storeOf_none c0 p (tomem n1) u x n2).elim
        · obtain ⟨p', hp', u', hu'⟩ := storeOf_some c1
          obtain ⟨j', hj'⟩ := memof hp'
          have hex : x' = x := by
            cases kind_of hd n1 with
            | al t' d' k1 => rw [k1] at n2; cases n2
            | pu d' k0 k1 k2 k3 k4 k5 => exact (k5 u d x n2).elim
            | st t' b y j1 p1 k1 k2 k3 k4 k5 k6 k7 k8 k9 k10 =>
              rw [n2] at k1; cases k1
              by_cases hjj : j' = j
              · subst hjj
                rw [n1] at hj'; cases hj'
                rw [n2] at hu'; cases hu'; rfl
              · exact (k9 j' p' u' x' hjj hj' hu').elim
          subst hex
          rw [c2] at n4
          cases n4
          rw [c3, n5]
    subst e
    exact ⟨β, vals, ty, h1, h2, h3, h4, h5, h6, h7, h8⟩
  · rw [List.pairwise_iff_getElem]
    intro i j hi hj hij t d t' d' β h1 h2 h3 h4 h5 h6 h7
    have gi : ops[i]? = some ops.toList[i] := by rw [← Array.getElem?_toList]; exact List.getElem?_eq_getElem hi
    have gj : ops[j]? = some ops.toList[j] := by rw [← Array.getElem?_toList]; exact List.getElem?_eq_getElem hj
    rw [SSf_len] at h5 h6
    exact mid.dis i j _ _ t t' d d' β gi gj h1 h3 h2 h4 (hall i (lt_of_op gi)) (hall j (lt_of_op gj)) (by omega) h5 h6 h7

theorem draw2_sound (hst : Stable C) {ops : Array Oper} (hd : drawOk2 ops = true) {w0 : World} {S0 : Nat → Prop} (hC : C w0) {Q : Exit → Act → World → Prop} {S : List D} {ds : List D} {h' : List Box} {ρ : List Nat}
    (hds : ds.length = ops.size) (hent : ∀ q o, ops[q]? = some o → Ent P C ops (SSf ops S 0 ds q) o (nth ds q .unk) h') {cs : List (Nat × List V)} (hcs : AllB P ops.toList (SSf ops S 0 ds ops.size) ops.toList cs)
    (hend : ∀ a w ρ, OkS w0 S0 (addB cs ⟨SSf ops S 0 ds ops.size, h'⟩) a w ρ → Q .normal a w) :
    ∀ (fuel : Nat) (listed : Array Bool) (S1 : Nat → Prop) (a : Act) (w : World), (List.range ops.size).countP (fun i => !listed.getD i true) ≤ fuel →
      Mid2 P w0 S0 S1 ops S ds h' ρ listed a w → wpAny P .any ops Q fuel listed a w := by
  have tomem : ∀ {i : Nat} {o : Oper}, ops[i]? = some o → o ∈ ops.toList := fun {i o} h => List.mem_of_getElem? (by rw [Array.getElem?_toList]; exact h)
  have fin : ∀ (listed : Array Bool) (S1 : Nat → Prop) (a : Act) (w : World), Mid2 P w0 S0 S1 ops S ds h' ρ listed a w → (∀ i, i < ops.size → listed.getD i true = true) → Q .normal a w := by
    intro listed S1 a w mid hall
    obtain ⟨ρ', ok⟩ := mid2_end hd hds mid (fun i hi => by rw [getD_any false true (by rw [mid.lsize]; exact hi)]; exact hall i hi) hcs
    exact hend a w ρ' ok
  have nil : ∀ (listed : Array Bool), (∀ i, i < ops.size → listed.getD i true = true) → Region.ready .any ops listed = [] := by
    intro listed hall
    apply List.eq_nil_iff_forall_not_mem.2
    intro i hi
    obtain ⟨h1, h2, _⟩ := mem_ready.1 hi
    rw [hall i h1] at h2
    cases h2
  have hback : backOk ops = true := by
    unfold drawOk2 at hd
    rw [Bool.and_eq_true] at hd
    exact hd.2
  intro fuel
  induction fuel with
  | zero =>
    intro listed S1 a w hf mid
    have hall : ∀ i, i < ops.size → listed.getD i true = true := by
      intro i hi
      have := (List.countP_eq_zero.1 (Nat.le_zero.1 hf)) i (List.mem_range.2 hi)
      simpa using this
    exact ⟨nil listed hall, fin listed S1 a w mid hall⟩
  | succ fuel ih =>
    intro listed S1 a w hf mid
    refine ⟨fun h0 => fin listed S1 a w mid ?_, fun i hi => ?_⟩
    · intro i0 hi0
      cases hu : listed.getD i0 true with
      | true => rfl
      | false =>
        exfalso
        have key : ∀ k, ∀ i, i < ops.size → i ≤ k → listed.getD i true = false → ∃ q, q ∈ Region.ready .any ops listed := by
          intro k
          induction k with
          | zero =>
            intro i hi hk hu
            have : i = 0 := by omega
            subst this
            refine ⟨0, mem_ready.2 ⟨hi, hu, ops[0], Array.getElem?_eq_getElem hi, fun e he hbd => ?_⟩⟩
            have := List.all_eq_true.1 hback 0 (List.mem_range.2 hi)
            rw [Array.getElem?_eq_getElem hi] at this
            simp only at this
            rw [← Array.all_toList] at this
            have := List.all_eq_true.1 this e he
            rw [hbd] at this
            simp at this
          | succ k ihk =>
            intro i hi hk hu
            by_cases hlow : ∃ j, j < i ∧ listed.getD j true = false
            · obtain ⟨j, hj, hju⟩ := hlow
              exact ihk j (by omega) (by omega) hju
            · refine ⟨i, mem_ready.2 ⟨hi, hu, ops[i], Array.getElem?_eq_getElem hi, fun e he hbd => ?_⟩⟩
              have := List.all_eq_true.1 hback i (List.mem_range.2 hi)
              rw [Array.getElem?_eq_getElem hi] at this
              simp only at this
              rw [← Array.all_toList] at this
              have := List.all_eq_true.1 this e he
              rw [hbd] at this
              have hon := blt_iff.1 (by simpa using this)
              rw [getD_any false true (by rw [mid.lsize]; omega)]
              cases hq : listed.getD e.on true with
              | true => rfl
              | false => exact (hlow ⟨_, hon, hq⟩).elim
        obtain ⟨q, hq⟩ := key i0 i0 hi0 (Nat.le_refl _) hu
        rw [h0] at hq
        cases hq
    obtain ⟨hin, hiu, o, ho, hedges⟩ := mem_ready.1 hi
    have hil : i < listed.size := by rw [mid.lsize]; exact hin
    have hiu' : listed.getD i false = false := by rw [getD_any false true hil]; exact hiu
    have hlisted : ∀ j, hasEdge o j = true → listed.getD j false = true := by
      intro j hj
      obtain ⟨e, he, hon, hbd⟩ := hasEdge_of hj
      rw [← hon]
      exact hedges e he hbd
    have hcnt : (List.range ops.size).countP (fun q => !(listed.setIfInBounds i true).getD q true) ≤ fuel := by
      have := countP_lt (p := fun q => !listed.getD q true) (q := fun q => !(listed.setIfInBounds i true).getD q true) (List.mem_range.2 hin) (by simp [hiu])
        (by simp only [Bool.not_eq_false']; rw [getD_set hil, if_pos rfl])
        (fun y hy => by
          simp only [Bool.not_eq_true'] at hy ⊢
          rw [getD_set hil] at hy
          split at hy
          · cases hy
          · exact hy)
      omega
    have hdep : ∀ j p, ops[j]? = some p → (listed.setIfInBounds i true).getD j false = true → ∀ k, hasEdge p k = true → (listed.setIfInBounds i true).getD k false = true := by
      intro j p hp hl k hk
      have up : listed.getD k false = true → (listed.setIfInBounds i true).getD k false = true := by
        intro h
        rw [getD_set hil]
        split
        · rfl
        · exact h
      rw [getD_set hil] at hl
      split at hl
      · rename_i e
        subst e
        rw [ho] at hp
        cases hp
        exact up (hlisted k hk)
      · exact up (mid.dep j p hp hl k hk)
    have old : ∀ {j : Nat}, (listed.setIfInBounds i true).getD j false = true → j ≠ i → listed.getD j false = true := by
      intro j h hne
      rw [getD_set hil, if_neg (fun e => hne e.symm)] at h
      exact h
    have fresh : ∀ {j : Nat}, (listed.setIfInBounds i true).getD j false = false → listed.getD j false = false := by
      intro j h
      rw [getD_set hil] at h
      split at h
      · cases h
      · exact h
    have newer : ∀ {j : Nat}, listed.getD j false = true → (listed.setIfInBounds i true).getD j false = true := by
      intro j h
      rw [getD_set hil]
      split
      · rfl
      · exact h
    have hself : (listed.setIfInBounds i true).getD i false = true := by rw [getD_set hil, if_pos rfl]
    have put_ne : ∀ {d t : Nat} {v : Value}, d ≠ t → (a.put (some d) v).tmps.getD t undef = a.tmps.getD t undef := by
      intro d t v hne
      simp only [Act.put, Array.getD_eq_getD_getElem?]
      rw [Array.getElem?_setIfInBounds, if_neg hne]
    have put_eq : ∀ {d : Nat} {v : Value}, d < S.length → (a.put (some d) v).tmps.getD d undef = v := by
      intro d v hd
      simp only [Act.put, Array.getD_eq_getD_getElem?]
      rw [Array.getElem?_setIfInBounds_self_of_lt (by rw [mid.size]; exact hd)]
      rfl
    have hCw := below_C hst hC mid.ok.below
    have now_up : ∀ {t d : Nat} {cells : List V}, (∀ u x, o.op ≠ .store u (.tmp d) x) → Now P ops (SSf ops S 0 ds ops.size) listed t d cells → Now P ops (SSf ops S 0 ds ops.size) (listed.setIfInBounds i true) t d cells := by
      intro t d cells hns hn
      rcases hn with ⟨n1, n2⟩ | ⟨j, p, u, x, v, n1, n2, n3, n4, n5⟩
      · refine .inl ⟨fun j p u x hp hop => ?_, n2⟩
        have hji : j ≠ i := fun e => by
          subst e
          rw [ho] at hp
          cases hp
          exact hns u x hop
        rw [getD_set hil, if_neg (fun e => hji e.symm)]
        exact n1 j p u x hp hop
      · exact .inr ⟨j, p, u, x, v, n1, n2, newer n3, n4, n5⟩
    -- behind an operation that makes no block and writes nothing
    have next : ∀ d v w', o.dst = some d → Lone ops i d → (∀ t, o.op ≠ .alloc t) → (∀ u e x, o.op ≠ .store u (.tmp e) x) → RdD w' (stab S1 ρ h') ρ v (nth ds i .unk) → Below w.heap.size w w' → wpAny P .any ops Q fuel (listed.setIfInBounds i true) (a.put o.dst v) w' := by
      intro d v w' hdst hlone hna hns hv hbw
      have hl : Lasts w w' (stab S1 ρ h') (stab S1 ρ h') := Lasts.of_below hbw _
      rw [hdst]
      refine ih _ S1 _ _ hcnt ⟨mid.ok.grow hbw, mid.sub, ⟨fun b hb => mid.alls.1 b (Nat.le_trans hbw.size hb), mid.alls.2⟩, by simp [Act.put, mid.size], mid.defers, by simp [mid.lsize], hdep, ?_, ?_, ?_, ?_⟩
      · intro t j ht hj hlj hg
        by_cases hji : j = i
        · subst hji
          have := gslot_of ho hdst
          rw [hg] at this
          cases this
          rw [put_eq ht]
          exact hv
        · obtain ⟨p, hp, hpd⟩ := gslot_some hg
          rw [put_ne (fun e => hlone j p hji hp (by rw [hpd, e]))]
          exact (mid.yes t j ht hj (old hlj hji) hg).grow hbw
      · intro t ht hno
        rw [put_ne (fun e => by have := hno i hin (gslot_of ho (e ▸ hdst)); rw [hself] at this; cases this)]
        exact (mid.no t ht (fun j hj hg => fresh (hno j hj hg))).grow hbw
      · intro j p t e hp hop hpd hlj he
        have hji : j ≠ i := fun q => by subst q; rw [ho] at hp; cases hp; exact hna t hop
        obtain ⟨β, vals, ty, cells, g1, g2, g3, g4, g5, g6, g7, g8, g9⟩ := mid.al j p t e hp hop hpd (old hlj hji) he
        have hβ : β < w.heap.size := by
          rcases Nat.lt_or_ge β w.heap.size with q | q
          · exact q
          · rw [Array.getElem?_eq_none q] at g2; cases g2
        refine ⟨β, vals, ty, cells, ?_, (hbw.block β hβ).trans g2, g3, g4, g5, g6, g7, g8.lasts hl, now_up (fun u x => hns u e x) g9⟩
        rw [put_ne (fun q => hlone j p hji hp (by rw [hpd, q]))]
        exact g1
      · intro j j' p p' t t' e e' β hp hp' hop hop' hpd hpd' hlj hlj' hne he he' h1
        have hji : j ≠ i := fun q => by subst q; rw [ho] at hp; cases hp; exact hna t hop
        have hji' : j' ≠ i := fun q => by subst q; rw [ho] at hp'; cases hp'; exact hna t' hop'
        rw [put_ne (fun q => hlone j p hji hp (by rw [hpd, q]))] at h1
        rw [put_ne (fun q => hlone j' p' hji' hp' (by rw [hpd', q]))]
        exact mid.dis j j' p p' t t' e e' β hp hp' hop hop' hpd hpd' (old hlj hji) (old hlj' hji') hne he he' h1
    unfold wpOp
    rw [ho]
    simp only
    have hent' := hent
    have hent := hent i o ho
    cases kind_of hd ho with
    | al t d k1 k2 k3 k4 =>
      rw [if_pos (by simp [Region.wanted, k2])]
      have hunk : nth ds i .unk = .unk := by
        rcases hent with ⟨_, hy⟩ | ⟨j, want, t, hg, _⟩
        · rcases hy with hy | hy
          · have := hy.1
            unfold isAS at this
            rw [k1] at this
            cases this
          · exact hy.2
        · rw [k2] at hg; cases hg
      -- the zero of the type: from the end's list
      obtain ⟨zs, hz⟩ : ∃ zs, zeroV P t = some zs := by
        have : ∀ (l : List Oper) (cs : List (Nat × List V)), AllB P ops.toList (SSf ops S 0 ds ops.size) l cs → o ∈ l → ∃ zs, zeroV P t = some zs := by
          intro l
          induction l with
          | nil => intro cs _ hm; cases hm
          | cons p l ihl =>
            intro cs hA hm
            unfold AllB at hA
            split at hA
            · rename_i t' d' e1 e2
              obtain ⟨cells, cs', _, hc, hA⟩ := hA
              rcases List.mem_cons.1 hm with rfl | hm
              · rw [k1] at e1; cases e1
                obtain ⟨_, zs, hz, _⟩ := hc
                exact ⟨zs, hz⟩
              · exact ihl cs' hA hm
            · rename_i hn
              rcases List.mem_cons.1 hm with rfl | hm
              · exact (hn t d k1 k3).elim
              · exact ihl cs hA hm
        exact this _ _ hcs (tomem ho)
      obtain ⟨w', vals, hrun, hblk, hbw, hsz, hzl, hok, halls, hl, hrd⟩ := alloc_pend (P := P) mid.ok mid.alls hz k1 a
      refine .inl (post_value hrun ?_)
      rw [k3]
      have hgrow : ∀ {u : Value} {e : D}, RdD w (stab S1 ρ h') ρ u e → RdD w' (stab (fun b => S1 b ∧ b ≠ w.heap.size) ρ h') ρ u e := fun q => q.lasts hl (Below.shapes hbw) (fun _ _ q => q)
      refine ih _ (fun b => S1 b ∧ b ≠ w.heap.size) _ _ hcnt ⟨hok, fun b hb => mid.sub b hb.1, halls, by simp [Act.put, mid.size], mid.defers, by simp [mid.lsize], hdep, ?_, ?_, ?_, ?_⟩
      · intro t' j ht hj hlj hg
        by_cases hji : j = i
        · subst hji
          rw [hunk]
          exact .unk
        · obtain ⟨p, hp, hpd⟩ := gslot_some hg
          rw [put_ne (fun e => k4 j p hji hp (by rw [hpd, e]))]
          exact hgrow (mid.yes t' j ht hj (old hlj hji) hg)
      · intro t' ht hno
        rw [put_ne (fun e => by have := hno i hin (gslot_of ho (e ▸ k3)); rw [hself] at this; cases this)]
        exact hgrow (mid.no t' ht (fun j hj hg => fresh (hno j hj hg)))
      · intro j p t' e hp hop hpd hlj he
        by_cases hji : j = i
        · subst hji
          rw [ho] at hp; cases hp
          rw [k1] at hop; cases hop
          rw [k3] at hpd; cases hpd
          refine ⟨w.heap.size, vals, t, zs, put_eq he, hblk, mid.ok.below.size, mid.sub _ (mid.alls.1 _ (Nat.le_refl _)), fun q => q.2 rfl, fun k hk => ?_, hzl, hrd _, .inl ⟨fun j' p' u x hp' hop' => ?_, hz⟩⟩
          · have := (mid.ok.heap.low k _ hk).2; omega
          · have hne : j' ≠ j := fun q => by subst q; rw [ho] at hp'; cases hp'; rw [k1] at hop'; cases hop'
            rw [getD_set hil, if_neg (fun e => hne e.symm)]
            cases hq : listed.getD j' false with
            | false => rfl
            | true =>
              exfalso
              cases kind_of hd hp' with
              | al t2 d2 m1 => rw [m1] at hop'; cases hop'
              | pu d2 m0 m1 m2 m3 m4 m5 => exact m5 u d x hop'
              | st t2 b2 y2 j2 p2 m1 m2 m3 m4 m5 m6 m7 m8 m9 m10 =>
                rw [m1] at hop'; cases hop'
                have hj2 : j2 = j := Classical.byContradiction fun hne => k4 j2 p2 hne m4 m8
                subst hj2
                have := mid.dep j' p' hp' hq j2 m6
                rw [hiu'] at this
                cases this
        · obtain ⟨β, vals', ty, cells, g1, g2, g3, g4, g5, g6, g7, g8, g9⟩ := mid.al j p t' e hp hop hpd (old hlj hji) he
          have hβ : β < w.heap.size := by
            rcases Nat.lt_or_ge β w.heap.size with q | q
            · exact q
            · rw [Array.getElem?_eq_none q] at g2; cases g2
          refine ⟨β, vals', ty, cells, ?_, (hbw.block β hβ).trans g2, g3, g4, fun q => g5 q.1, g6, g7, g8.lasts hl, now_up (fun u x => by rw [k1]; intro h; cases h) g9⟩
          rw [put_ne (fun q => k4 j p hji hp (by rw [hpd, q]))]
          exact g1
      · intro j j' p p' t1 t1' e e' β hp hp' hop hop' hpd hpd' hlj hlj' hne he he' h1
        have bound : ∀ (j : Nat) (p : Oper) (t' e : Nat), ops[j]? = some p → p.op = .alloc t' → p.dst = some e → j ≠ i → (listed.setIfInBounds i true).getD j false = true → e < S.length → (a.put (some d) (.pointer (some ⟨w.heap.size, 0, none⟩))).tmps.getD e undef ≠ .pointer (some ⟨w.heap.size, 0, none⟩) := by
          intro j p t' e hp hop hpd hji hlj he
          rw [put_ne (fun q => k4 j p hji hp (by rw [hpd, q]))]
          obtain ⟨β, vals', ty, cells, g1, g2, _⟩ := mid.al j p t' e hp hop hpd (old hlj hji) he
          rw [g1]
          intro q
          simp only [Value.pointer.injEq, Option.some.injEq, Addr.mk.injEq] at q
          rw [q.1, Array.getElem?_eq_none (Nat.le_refl _)] at g2
          cases g2
        by_cases hji : j = i
        · subst hji
          rw [ho] at hp; cases hp
          rw [k3] at hpd; cases hpd
          rw [put_eq he] at h1
          cases h1
          exact bound j' p' t1' e' hp' hop' hpd' (fun q => hne q.symm) hlj' he'
        · by_cases hji' : j' = i
          · subst hji'
            rw [ho] at hp'; cases hp'
            rw [k3] at hpd'; cases hpd'
            rw [put_eq he']
            intro q
            cases q
            exact bound j p t1 e hp hop hpd hji hlj he h1
          · rw [put_ne (fun q => k4 j p hji hp (by rw [hpd, q]))] at h1
            rw [put_ne (fun q => k4 j' p' hji' hp' (by rw [hpd', q]))]
            exact mid.dis j j' p p' t1 t1' e e' β hp hp' hop hop' hpd hpd' (old hlj hji) (old hlj' hji') hne he he' h1
    | st t d x j p k1 k2 k3 k4 k5 k6 k7 k8 k9 k10 =>
      rw [if_pos (by simp [Region.wanted, k2])]
      have hjl : listed.getD j false = true := hlisted j k6
      have hpal := kind_of hd k4
      have hplone : Lone ops j d := by
        cases hpal with
        | al t' d' m1 m2 m3 m4 => rw [k8] at m3; cases m3; exact m4
        | st t' b y j' p' m1 => rw [k7] at m1; cases m1
        | pu d' m0 m1 m2 => rw [k8] at m1; cases m1; exact m2
      -- what the end's list says
      obtain ⟨hdl, zs, hz, v, hv, hchk⟩ : d < S.length ∧ ∃ zs, zeroV P t = some zs ∧ ∃ v, getD (SSf ops S 0 ds ops.size) x = .val v ∧ (okC v && Nat.blt 0 (sizeT P t) && Nat.beq (cellsV v).length (sizeT P t) && (cellsV v).all isCell && Nat.beq zs.length (sizeT P t)) = true := by
        have hcont : ∀ (l : List Oper) (cs : List (Nat × List V)), AllB P ops.toList (SSf ops S 0 ds ops.size) l cs → p ∈ l → ∃ cells, Cont P ops.toList (SSf ops S 0 ds ops.size) t d cells := by
          intro l
          induction l with
          | nil => intro cs _ hm; cases hm
          | cons q l ihl =>
            intro cs hA hm
            unfold AllB at hA
            split at hA
            · rename_i t' d' e1 e2
              obtain ⟨cells, cs', _, hc, hA⟩ := hA
              rcases List.mem_cons.1 hm with rfl | hm
              · rw [k7] at e1; cases e1
                rw [k8] at e2; cases e2
                exact ⟨cells, hc⟩
              · exact ihl cs' hA hm
            · rename_i hn
              rcases List.mem_cons.1 hm with rfl | hm
              · exact (hn t d k7 k8).elim
              · exact ihl cs hA hm
        obtain ⟨cells, hdl, zs, hz, hc⟩ := hcont _ _ hcs (tomem k4)
        rw [SSf_len] at hdl
        refine ⟨hdl, zs, hz, ?_⟩
        rcases hc with ⟨c0, _⟩ | ⟨x', v', c1, c2, c3, c4⟩
        · exact (storeOf_none c0 o (tomem ho) t x k1).elim
        · obtain ⟨p', hp', u', hu'⟩ := storeOf_some c1
          obtain ⟨i', hi', e⟩ := List.mem_iff_getElem.1 hp'
          have hi'' : ops[i']? = some p' := by rw [← Array.getElem?_toList, List.getElem?_eq_getElem hi', e]
          have : x' = x := by
            by_cases hii : i' = i
            · subst hii
              rw [ho] at hi''; cases hi''
              rw [k1] at hu'; cases hu'; rfl
            · exact (k9 i' p' u' x' hii hi'' hu').elim
          subst this
          exact ⟨v', c2, c4⟩
      obtain ⟨β, vals, ty, cells, g1, g2, g3, g4, g5, g6, g7, g8, g9⟩ := mid.al j p t d k4 k7 k8 hjl hdl
      have hcz : cells = zs := by
        rcases g9 with ⟨_, n2⟩ | ⟨j', p', u, y, v', n1, n2, n3, _⟩
        · exact Option.some.inj (n2.symm.trans hz)
        · have hne : j' ≠ i := fun q => by subst q; rw [hiu'] at n3; cases n3
          exact (k9 j' p' u y hne n1 n2).elim
      subst hcz
      have hrx : Rd w (stab S1 ρ h') (a.eval x) v := by
        cases x with
        | tmp u =>
          have := mid2_slot hd hds mid hin hlisted (k10 u rfl) (q := ops.size) (Nat.le_of_lt hin) (Nat.le_refl _)
          have hv' : nth (SSf ops S 0 ds ops.size) u .unk = .val v := hv
          rw [hv'] at this
          exact this.val_inv
        | const c =>
          have hv' : D.val (constV c) = .val v := hv
          cases hv'
          exact const_rd c
        | global g => have hv' : D.unk = .val v := hv; cases hv'
        | func f =>
          have hv' : D.val (.clos f []) = .val v := hv
          cases hv'
          exact @Rd.clos w _ f [] [] .nil
      simp only [Bool.and_eq_true] at hchk
      obtain ⟨⟨⟨⟨q1, q2⟩, q3⟩, q4⟩, q5⟩ := hchk
      obtain ⟨w', vals', ty', hrun, hok, hblk, hle, hrd, hgrow, hothers, hsz⟩ := store_pend (P := P) mid.ok g3 g5 g6 g2 g7 g8 hrx (by simp [q2, q3, q4]) (t := t) (Nat.eq_of_beq_eq_true q5)
      refine .inl (post_skip (w' := w') ?_ ?_)
      · simp only [execOp, k1, Sem.run_bind]
        rw [show a.eval (.tmp d) = .pointer (some ⟨β, 0, none⟩) from g1]
        rw [hrun]
        rfl
      rw [k3]
      show wpAny P .any ops Q fuel (listed.setIfInBounds i true) a w'
      have hgrowL : ∀ {us : List Value} {es : List V}, RdL w (stab S1 ρ h') us es → RdL w' (stab S1 ρ h') us es := by
        intro us es q
        have := (hgrow _ _ (.val (.agg q))).val_inv
        obtain ⟨arr, e1, e2⟩ := this.agg_inv
        simp only [Value.agg.injEq] at e1
        have : us = arr := by
          have := congrArg Array.toList e1
          simpa using this
        rw [this]
        exact e2
      refine ih _ S1 _ _ hcnt ⟨hok, mid.sub, ⟨fun b hb => mid.alls.1 b (by rw [hsz] at hb; exact hb), mid.alls.2⟩, mid.size, mid.defers, by simp [mid.lsize], hdep, ?_, ?_, ?_, ?_⟩
      · intro t' j' ht hj hlj hg
        have hji : j' ≠ i := fun q => by
          subst q
          obtain ⟨p', hp', hpd'⟩ := gslot_some hg
          rw [ho] at hp'; cases hp'
          rw [k3] at hpd'; cases hpd'
        exact hgrow _ _ (mid.yes t' j' ht hj (old hlj hji) hg)
      · intro t' ht hno
        exact hgrow _ _ (mid.no t' ht (fun j hj hg => fresh (hno j hj hg)))
      · intro j' p' t' e hp hop hpd hlj he
        have hji : j' ≠ i := fun q => by subst q; rw [ho] at hp; cases hp; rw [k1] at hop; cases hop
        obtain ⟨β', vals2, ty2, cells', r1, r2, r3, r4, r5, r6, r7, r8, r9⟩ := mid.al j' p' t' e hp hop hpd (old hlj hji) he
        by_cases hjj : j' = j
        · subst hjj
          rw [k4] at hp; cases hp
          rw [k8] at hpd; cases hpd
          rw [k7] at hop; cases hop
          rw [g1] at r1
          cases r1
          exact ⟨β, vals', ty', cellsV v, g1, hblk, g3, g4, g5, g6, hle, hrd, .inr ⟨i, o, t, x, v, ho, k1, hself, hv, rfl⟩⟩
        · have hne : β' ≠ β := fun q => by
            subst q
            exact mid.dis j j' p p' t t' d e β' k4 hp k7 hop k8 hpd hjl (old hlj hji) (fun q => hjj q.symm) hdl he g1 r1
          have hde : d ≠ e := fun q => hplone j' p' hjj hp (by rw [hpd, q])
          exact ⟨β', vals2, ty2, cells', r1, (hothers β' hne).trans r2, r3, r4, r5, r6, r7, hgrowL r8, now_up (fun u y => by rw [k1]; intro h; cases h; exact hde rfl) r9⟩
      · intro j1 j' p1 p' t1 t' e e' β hp hp' hop hop' hpd hpd' hlj hlj' hne he he' h1
        have hji : j1 ≠ i := fun q => by subst q; rw [ho] at hp; cases hp; rw [k1] at hop; cases hop
        have hji' : j' ≠ i := fun q => by subst q; rw [ho] at hp'; cases hp'; rw [k1] at hop'; cases hop'
        exact mid.dis j1 j' p1 p' t1 t' e e' β hp hp' hop hop' hpd hpd' (old hlj hji) (old hlj' hji') hne he he' h1
    | pu d k0 k1 k2 k3 k4 k5 =>
      have hna : ∀ t, o.op ≠ .alloc t := fun t e => by unfold isAS at k0; rw [e] at k0; cases k0
      have hreads : Reads w (stab S1 ρ h') ρ a o (getD (SSf ops S 0 ds i)) := by
        intro x hx
        cases x with
        | tmp t =>
          refine mid2_slot hd hds mid hin hlisted (k3 t ?_) (Nat.le_refl _) (Nat.le_of_lt hin)
          unfold namesT
          rw [List.mem_filterMap]
          exact ⟨_, hx, rfl⟩
        | const v => exact .val (const_rd v)
        | global g => exact .unk
        | func f => exact .val (@Rd.clos w _ f [] [] .nil)
      have run : YA P C o (getD (SSf ops S 0 ds i)) (nth ds i .unk) h' → o.wp P a w (wpAny P .any ops Q fuel (listed.setIfInBounds i true)) Q := by
        intro hy
        refine Oper.wp_mono ?_ (hy h' (Fr.refl _) w0 S1 a w ρ Q hCw mid.alls mid.ok hreads)
        rintro a' w' ⟨v, rfl, h1, h2⟩
        exact next d v w' k1 k2 hna k5 h1 h2
      rcases hent with ⟨hg, hy⟩ | ⟨j, want, t, hg, hj, hcase⟩
      · rw [if_pos (by simp [Region.wanted, hg])]
        rcases hy with hy | hy
        · exact .inl (run hy.2)
        · rw [k0] at hy; cases hy.1
      · have hjg := k4 j want hg
        obtain ⟨pj, hpj, hpjd⟩ := gslot_some hj
        have hne0 : nth (SSf ops S 0 ds i) t .unk ≠ .unk := by
          rcases hcase with ⟨b, ht, _⟩ | ⟨ht, _⟩ <;> (rw [ht]; intro h; cases h)
        have hlt : t < S.length := by
          rcases Nat.lt_or_ge t S.length with q | q
          · exact q
          · exact (hne0 (by rw [nth_eq, List.getElem?_eq_none (by rw [SSf_len]; exact q)]; rfl)).elim
        have hs := mid2_slot hd hds mid hin hlisted (u := t) (i := i) (fun j' p' hp' hpd' => by
          by_cases e : j' = j
          · subst e
            refine ⟨hjg.1, hjg.2, ?_⟩
            rw [hpj] at hp'; cases hp'
            cases hq : isAl pj with
            | false => rfl
            | true =>
              exfalso
              cases kind_of hd hpj with
              | st t' b' y j1 p1 m1 m2 m3 => rw [hpjd] at m3; cases m3
              | pu d' m0 m1 m2 =>
                unfold isAl at hq
                unfold isAS at m0
                split at hq
                · rename_i u hu
                  rw [hu] at m0
                  cases m0
                · cases hq
              | al t' d' m1 m2 m3 m4 =>
                rw [hpjd] at m3; cases m3
                have hunk : nth ds j' .unk = .unk := by
                  rcases hent' j' pj hpj with ⟨_, hy⟩ | ⟨_, _, _, hg2, _⟩
                  · rcases hy with hy | hy
                    · have := hy.1
                      unfold isAS at this
                      rw [m1] at this
                      cases this
                    · exact hy.2
                  · rw [m2] at hg2; cases hg2
                rw [SSf_at ops t i S 0 ds j' hjg.1 (by omega) (by simpa using hj) hlt (fun j2 hj2 hne hg2 => by
                  rw [Nat.zero_add] at hg2
                  obtain ⟨p2, hp2, hpd2⟩ := gslot_some hg2
                  exact m4 j2 p2 hne hp2 hpd2), hunk] at hne0
                exact hne0 rfl
          · exfalso
            cases kind_of hd hpj with
            | al t' d' m1 m2 m3 m4 => rw [hpjd] at m3; cases m3; exact m4 j' p' e hp' hpd'
            | st t' b' y j1 p1 m1 m2 m3 => rw [hpjd] at m3; cases m3
            | pu d' m0 m1 m2 => rw [hpjd] at m1; cases m1; exact m2 j' p' e hp' hpd') (q := i) (Nat.le_refl _) (Nat.le_of_lt hin)
        rcases hcase with ⟨b, ht, hcase⟩ | ⟨ht, hdu⟩
        · rw [ht] at hs
          have hs := hs.bool_inv
          have hy : yielded ops a.tmps j = some b := by
            unfold yielded
            unfold gslot at hj
            rw [hj]
            simp only [Option.bind_some]
            rw [Array.getD_eq_getD_getElem?, Array.getElem?_eq_getElem (by rw [mid.size]; exact hlt)] at hs
            simp only [Option.getD_some] at hs
            rw [Array.getElem?_eq_getElem (by rw [mid.size]; exact hlt), hs]
          have hwanted : Region.wanted o (yielded ops a.tmps) = (b == want) := by
            simp only [Region.wanted, hg, hy]
            cases b <;> cases want <;> rfl
          rw [hwanted]
          rcases hcase with ⟨rfl, hya⟩ | ⟨hne, hdu⟩
          · rw [if_pos (by simp)]
            rcases hya with hya | hya
            · exact .inl (run hya.2)
            · rw [k0] at hya; cases hya.1
          · rw [if_neg (by simp [hne])]
            exact next d undef w k1 k2 hna k5 (by rw [hdu]; exact undD_rd) (Below.refl _ _)
        · rw [ht] at hs
          obtain ⟨arr, hs, _⟩ := hs.val_inv.tup_inv
          have hy : yielded ops a.tmps j = none := by
            unfold yielded
            unfold gslot at hj
            rw [hj]
            simp only [Option.bind_some]
            rw [Array.getD_eq_getD_getElem?, Array.getElem?_eq_getElem (by rw [mid.size]; exact hlt)] at hs
            simp only [Option.getD_some] at hs
            rw [Array.getElem?_eq_getElem (by rw [mid.size]; exact hlt), hs]
          rw [if_neg (by simp [Region.wanted, hg, hy])]
          exact next d undef w k1 k2 hna k5 (by rw [hdu]; exact undD_rd) (Below.refl _ _)

end Go.Proofs.YtcijnloneigfcaaGreatDoor
