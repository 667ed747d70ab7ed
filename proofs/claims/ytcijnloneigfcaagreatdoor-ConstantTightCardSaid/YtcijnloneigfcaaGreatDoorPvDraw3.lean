/-
  A region that draws its order and makes blocks: whatever the order, the result is that of the text's order. Condition: the check drawOk2, which the evaluator makes.
-/
import Derived.Test.YtcijnloneigfcaaGreatDoorPvDraw2
namespace Go.Proofs.YtcijnloneigfcaaGreatDoor
open Go.RowKit
variable {P : Program} {C : World → Prop} {Qr : V → Prop} {Qo : Ex → St → Prop}

/-- no other operation has this destination -/
def Lone (ops : Array Oper) (i d : Nat) : Prop := ∀ j p, j ≠ i → ops[j]? = some p → p.dst ≠ some d
/-- whatever gives this slot comes before, and is no alloc -/
def Fed (ops : Array Oper) (i : Nat) (o : Oper) (u : Nat) : Prop := ∀ j p, ops[j]? = some p → p.dst = some u → j < i ∧ hasEdge o j = true ∧ isAl p = false

theorem lone_of {ops : Array Oper} {i d : Nat} (h : ((List.range ops.size).all fun j => Nat.beq i j || match ops[j]? with | some p => (match p.dst with | some e => !Nat.beq d e | none => isAS p) | none => false) = true) : Lone ops i d := by
  intro j p hj hp hd
  have hlt : j < ops.size := by
    rcases Nat.lt_or_ge j ops.size with q | q
    · exact q
    · rw [Array.getElem?_eq_none q] at hp; cases hp
  have := List.all_eq_true.1 h j (List.mem_range.2 hlt)
  simp only [Bool.or_eq_true] at this
  rcases this with q | q
  · exact hj (Nat.eq_of_beq_eq_true q).symm
  · rw [hp] at q
    simp only [hd] at q
    simp at q

theorem fed_of {ops : Array Oper} {i u : Nat} {o : Oper} (h : ((List.range ops.size).all fun j => match ops[j]? with | some p => (match p.dst with | some e => !Nat.beq u e || (Nat.blt j i && hasEdge o j && !isAl p) | none => true) | none => false) = true) : Fed ops i o u := by
  intro j p hp hd
  have hlt : j < ops.size := by
    rcases Nat.lt_or_ge j ops.size with q | q
    · exact q
    · rw [Array.getElem?_eq_none q] at hp; cases hp
  have := List.all_eq_true.1 h j (List.mem_range.2 hlt)
  rw [hp] at this
  simp only [hd, Bool.or_eq_true, Bool.and_eq_true, Bool.not_eq_true'] at this
  rcases this with q | ⟨⟨q1, q2⟩, q3⟩
  · simp at q
  · exact ⟨blt_iff.1 q1, q2, q3⟩

/-- what the check says of an operation -/
inductive Kind (ops : Array Oper) (i : Nat) (o : Oper) : Prop
  | al (t d : Nat) (h1 : o.op = .alloc t) (h2 : o.guard = none) (h3 : o.dst = some d) (h4 : Lone ops i d)
  | st (t a : Nat) (x : Operand) (j : Nat) (p : Oper) (h1 : o.op = .store t (.tmp a) x) (h2 : o.guard = none) (h3 : o.dst = none) (h4 : ops[j]? = some p) (h5 : j < i) (h6 : hasEdge o j = true)
      (h7 : p.op = .alloc t) (h8 : p.dst = some a) (h9 : ∀ k q t' x', k ≠ i → ops[k]? = some q → q.op ≠ .store t' (.tmp a) x') (h10 : ∀ u, x = .tmp u → Fed ops i o u)
  | pu (d : Nat) (h0 : isAS o = false) (h1 : o.dst = some d) (h2 : Lone ops i d) (h3 : ∀ t ∈ namesT o, Fed ops i o t) (h4 : ∀ j want, o.guard = some (j, want) → j < i ∧ hasEdge o j = true) (h5 : ∀ t a x, o.op ≠ .store t (.tmp a) x)

theorem kind_of {ops : Array Oper} (hd : drawOk2 ops = true) {i : Nat} {o : Oper} (ho : ops[i]? = some o) : Kind ops i o := by
  have hlt : i < ops.size := by
    rcases Nat.lt_or_ge i ops.size with q | q
    · exact q
    · rw [Array.getElem?_eq_none q] at ho; cases ho
  unfold drawOk2 at hd
  rw [Bool.and_eq_true] at hd
  have h := List.all_eq_true.1 hd.1 i (List.mem_range.2 hlt)
  rw [ho] at h
  simp only at h
  split at h
  · rename_i t hop
    rw [Bool.and_eq_true] at h
    cases hdst : o.dst with
    | none => rw [hdst] at h; simp at h
    | some d =>
      rw [hdst] at h
      exact .al t d hop (by simpa using h.1) hdst (lone_of h.2)
  · rename_i t a x hop
    simp only [Bool.and_eq_true] at h
    obtain ⟨⟨⟨⟨h1, h2⟩, h3⟩, h4⟩, h5⟩ := h
    obtain ⟨j, hj, h3⟩ := List.any_eq_true.1 h3
    cases hp : ops[j]? with
    | none => rw [hp] at h3; cases h3
    | some p =>
      rw [hp] at h3
      simp only [Bool.and_eq_true] at h3
      obtain ⟨⟨g1, g2⟩, g3⟩ := h3
      split at g3
      · rename_i u d e1 e2
        rw [Bool.and_eq_true] at g3
        have eu := Nat.eq_of_beq_eq_true g3.1
        have ed := Nat.eq_of_beq_eq_true g3.2
        subst eu; subst ed
        refine .st _ _ x j p hop (by simpa using h1) (by simpa using h2) hp (blt_iff.1 g1) g2 e1 e2 ?_ ?_
        · intro k q t' x' hk hq he
          have hkl : k < ops.size := by
            rcases Nat.lt_or_ge k ops.size with r | r
            · exact r
            · rw [Array.getElem?_eq_none r] at hq; cases hq
          have := List.all_eq_true.1 h4 k (List.mem_range.2 hkl)
          rw [Bool.or_eq_true] at this
          rcases this with r | r
          · exact hk (Nat.eq_of_beq_eq_true r).symm
          · rw [hq] at r
            simp only [he] at r
            simp at r
        · intro u hu
          subst hu
          exact fed_of h5
      · cases g3
  · rename_i hn1 hn2
    simp only [Bool.and_eq_true] at h
    obtain ⟨⟨h1, h2⟩, h3⟩ := h
    cases hdst : o.dst with
    | none => rw [hdst] at h1; cases h1
    | some d =>
      rw [hdst] at h1
      refine .pu d ?_ hdst (lone_of h1) (fun t ht => fed_of (List.all_eq_true.1 h2 t ht)) ?_ (fun t a x e => (hn2 t a x e).elim)
      · unfold isAS
        split
        · rename_i t e; exact (hn1 t e).elim
        · rename_i t a x e; exact (hn2 t a x e).elim
        · rfl
      · intro j want hg
        rw [hg] at h3
        simp only [Bool.and_eq_true] at h3
        exact ⟨blt_iff.1 h3.1, h3.2⟩

/-- a block that is set apart becomes a box -/
theorem adoptX {w0 : World} {S1 : Nat → Prop} {w : World} {ρ : List Nat} {h : List Box} {β : Nat} (ok : OkH w0 S1 w ρ h) (hlow : w0.heap.size ≤ β) (hS : ¬ S1 β) (hρ : ∀ k : Nat, ρ[k]? ≠ some β)
    {vals : Array Value} {ty : TypeId} (hb : w.heap[β]? = some (.cells vals ty (0, 0))) {cells : List V} (hle : cells.length ≤ vals.size) (hr : RdL w (stab S1 ρ h) (vals.toList.take cells.length) cells) :
    OkH w0 (fun b => S1 b ∨ b = β) w (ρ ++ [β]) (newB h cells) ∧ Lasts w w (stab S1 ρ h) (stab (fun b => S1 b ∨ b = β) (ρ ++ [β]) (newB h cells)) := by
  have hlt : β < w.heap.size := by
    rcases Nat.lt_or_ge β w.heap.size with q | q
    · exact q
    · rw [Array.getElem?_eq_none q] at hb; cases hb
  have hlen := ok.heap.len
  have hl : Lasts w w (stab S1 ρ h) (stab (fun b => S1 b ∨ b = β) (ρ ++ [β]) (newB h cells)) := by
    refine ⟨Nat.le_refl _, fun b _ hs => ⟨⟨.inl hs.1, fun i x hx xa xf hi => ?_⟩, rfl⟩⟩
    rcases get_snoc hi with hi | ⟨_, e⟩
    · rcases get_snoc hx with hx | ⟨e, _⟩
      · exact hs.2 i x hx xa xf hi
      · have := lt_of_get hi; omega
    · exact hS (e ▸ hs.1)
  refine ⟨⟨ok.below, ?_, ?_, ?_, ?_⟩, hl⟩
  · simp [newB, hlen]
  · intro i γ hi
    rcases get_snoc hi with hi | ⟨_, rfl⟩
    · exact ok.heap.low i γ hi
    · exact ⟨hlow, hlt⟩
  · intro i j x y γ hx hy xa ya hi hj
    rcases get_snoc hi with gi | ⟨ei, fi⟩ <;> rcases get_snoc hj with gj | ⟨ej, fj⟩
    · rcases get_snoc hx with gx | ⟨ex, _⟩
      · rcases get_snoc hy with gy | ⟨ey, _⟩
        · exact ok.heap.inj i j x y γ gx gy xa ya gi gj
        · have := lt_of_get gj; omega
      · have := lt_of_get gi; omega
    · exact (hρ i (fj ▸ gi)).elim
    · exact (hρ j (fi ▸ gj)).elim
    · rw [ei, ej]
  · intro i x γ hx xa hi
    rcases get_snoc hi with hi | ⟨rfl, rfl⟩
    · rcases get_snoc hx with hx | ⟨rfl, _⟩
      · obtain ⟨vs, t, h1, h2, h3⟩ := ok.heap.box i x γ hx xa hi
        exact ⟨vs, t, h1, h2, h3.lasts hl⟩
      · have := lt_of_get hi; omega
    · rcases get_snoc hx with hx | ⟨_, rfl⟩
      · have := lt_of_get hx; omega
      · exact ⟨vals, ty, hb, hle, hr.lasts hl⟩

/-- and back -/
theorem unadoptX {w0 : World} {S1 : Nat → Prop} {w : World} {ρ : List Nat} {h : List Box} {β : Nat} (hS : ¬ S1 β) {cells : List V} (hlen : ρ.length = h.length)
    (ok : OkH w0 (fun b => S1 b ∨ b = β) w (ρ ++ [β]) (newB h cells)) :
    OkH w0 S1 w ρ h ∧ Lasts w w (stab (fun b => S1 b ∨ b = β) (ρ ++ [β]) (newB h cells)) (stab S1 ρ h) := by
  have hβ : (ρ ++ [β])[h.length]? = some β := by rw [← hlen]; simp
  have hx : (newB h cells)[h.length]? = some ⟨true, false, cells⟩ := by simp [newB]
  have up : ∀ {i γ : Nat}, ρ[i]? = some γ → (ρ ++ [β])[i]? = some γ := fun hi => get_snoc_of hi
  have hl : Lasts w w (stab (fun b => S1 b ∨ b = β) (ρ ++ [β]) (newB h cells)) (stab S1 ρ h) := by
    refine ⟨Nat.le_refl _, fun b _ hs => ⟨⟨?_, fun i x hx xa xf hi => hs.2 i x (get_snoc_of hx) xa xf (up hi)⟩, rfl⟩⟩
    rcases hs.1 with q | q
    · exact q
    · subst q; exact (hs.2 h.length _ hx rfl rfl hβ).elim
  refine ⟨⟨ok.below, hlen, fun i γ hi => ok.heap.low i γ (up hi), fun i j x y γ hx hy xa ya hi hj => ok.heap.inj i j x y γ (get_snoc_of hx) (get_snoc_of hy) xa ya (up hi) (up hj), ?_⟩, hl⟩
  intro i x γ hx xa hi
  obtain ⟨vs, t, h1, h2, h3⟩ := ok.heap.box i x γ (get_snoc_of hx) xa (up hi)
  exact ⟨vs, t, h1, h2, h3.lasts hl⟩

theorem splice_at : ∀ (d c p : List V), c.length = d.length → splice (p ++ c) p.length d = p ++ d
  | [], c, p, h => by
    have : c = [] := List.eq_nil_of_length_eq_zero (by simpa using h)
    subst this; rfl
  | y :: d, [], p, h => by simp at h
  | y :: d, x :: c, p, h => by
    have := splice_at d c (p ++ [y]) (by simpa using h)
    simp only [splice]
    rw [show (p ++ x :: c).set p.length y = (p ++ [y]) ++ c by simp, show p.length + 1 = (p ++ [y]).length by simp, this]
    simp
theorem splice_all (c d : List V) (h : c.length = d.length) : splice c 0 d = d := splice_at d c [] h

theorem store_pend {w0 : World} {S1 : Nat → Prop} {w : World} {ρ : List Nat} {h : List Box} {β : Nat} (ok : OkH w0 S1 w ρ h) (hlow : w0.heap.size ≤ β) (hS : ¬ S1 β) (hρ : ∀ k : Nat, ρ[k]? ≠ some β)
    {vals : Array Value} {ty : TypeId} (hb : w.heap[β]? = some (.cells vals ty (0, 0))) {zs : List V} (hle : zs.length ≤ vals.size) (hr : RdL w (stab S1 ρ h) (vals.toList.take zs.length) zs)
    {t : TypeId} {v : V} {vx : Value} (rx : Rd w (stab S1 ρ h) vx v) (hc : (Nat.blt 0 (sizeT P t) && Nat.beq (cellsV v).length (sizeT P t) && (cellsV v).all isCell) = true) (hz : zs.length = sizeT P t) :
    ∃ w' vals' ty', (Instr.storeAt t (.pointer (some ⟨β, 0, none⟩)) vx).run P w = .ok () w' ∧ OkH w0 S1 w' ρ h ∧ w'.heap[β]? = some (.cells vals' ty' (0, 0)) ∧ (cellsV v).length ≤ vals'.size ∧
      RdL w' (stab S1 ρ h) (vals'.toList.take (cellsV v).length) (cellsV v) ∧ (∀ u e, RdD w (stab S1 ρ h) ρ u e → RdD w' (stab S1 ρ h) ρ u e) ∧ (∀ c, c ≠ β → w'.heap[c]? = w.heap[c]?) ∧ w'.heap.size = w.heap.size := by
  obtain ⟨okA, hlA⟩ := adoptX ok hlow hS hρ hb hle hr
  have hlen := ok.heap.len
  simp only [Bool.and_eq_true] at hc
  obtain ⟨⟨c1, c2⟩, c3⟩ := hc
  have hcl : (cellsV v).length = sizeT P t := Nat.eq_of_beq_eq_true c2
  have hbx : bx (newB h zs) h.length = ⟨true, false, zs⟩ := bx_of (by simp [newB])
  have hst : storeH P t (newB h zs) (.own h.length 0) (.val v) = some (true, newB h (cellsV v)) := by
    unfold storeH
    simp only [hbx, c1, c2, c3, Bool.not_false, Bool.and_self, cond_true]
    rw [splice_all _ _ (by omega)]
    congr 2
    · simp [hz, hcl]
    · simp [setBox, newB]
  have hβ : (ρ ++ [β])[h.length]? = some β := by rw [← hlen]; simp
  obtain ⟨w', h1, h2, h3, h4, h5⟩ := store_sound (P := P) okA hst (.own hβ) (.val (rx.lasts hlA))
  obtain ⟨okB, hlB⟩ := unadoptX hS hlen h2
  obtain ⟨vals', ty', g1, g2, g3⟩ := h2.heap.box h.length ⟨true, false, cellsV v⟩ β (by simp [newB]) rfl hβ
  refine ⟨w', vals', ty', h1, okB, g1, g2, g3.lasts hlB, ?_, ?_, h5⟩
  · intro u e hr
    have hA : RdD w (stab (fun b => S1 b ∨ b = β) (ρ ++ [β]) (newB h zs)) (ρ ++ [β]) u e := hr.lasts hlA (fun _ _ _ q => q) (fun _ _ q => get_snoc_of q)
    have hB := h3 u e hA
    -- the numbers of boxes in e are old ones
    cases hr with
    | unk => exact .unk
    | val _ => cases hB with | val hv => exact .val (hv.lasts hlB)
    | own q => exact .own q
    | osl q q1 q2 q3 =>
      cases hB with
      | osl p1 p2 p3 p4 =>
        rw [get_snoc_of q] at p1
        cases p1
        exact .osl q p2 p3 p4
    | clo q1 q2 => exact .clo q1 q2
  · intro c hcne
    refine h4 c fun b off e => ?_
    cases e
    rw [hβ]
    exact fun q => hcne (Option.some.inj q).symm

/-- what the block of slot d's alloc holds at the region's end -/
def Cont (P : Program) (ops : List Oper) (S : List D) (t d : Nat) (cells : List V) : Prop :=
  d < S.length ∧ ∃ zs, zeroV P t = some zs ∧ ((storeOf d ops = none ∧ cells = zs) ∨
    ∃ x v, storeOf d ops = some x ∧ getD S x = .val v ∧ cells = cellsV v ∧ (okC v && Nat.blt 0 (sizeT P t) && Nat.beq (cellsV v).length (sizeT P t) && (cellsV v).all isCell && Nat.beq zs.length (sizeT P t)) = true)
def AllB (P : Program) (ops : List Oper) (S : List D) : List Oper → List (Nat × List V) → Prop
  | [], cs => cs = []
  | o :: rest, cs =>
    match o.op, o.dst with
    | .alloc t, some d => ∃ cells cs', cs = (d, cells) :: cs' ∧ Cont P ops S t d cells ∧ AllB P ops S rest cs'
    | _, _ => AllB P ops S rest cs
def addB : List (Nat × List V) → St → St
  | [], st => st
  | (d, c) :: cs, st => addB cs ⟨st.s.set d (.own st.h.length 0), newB st.h c⟩

theorem getD_set_ne {s : List D} {d : Nat} {e : D} {x : Operand} (h : x ≠ .tmp d) : getD (s.set d e) x = getD s x := by
  cases x with
  | tmp t =>
    show nth (s.set d e) t .unk = nth s t .unk
    rw [nth_set, if_neg (fun q => h (by rw [q.1]))]
  | _ => rfl

theorem finA_wp {ops : List Oper} {S : List D} {k : St → T} : ∀ (l : List Oper) (st : St), st.s.length = S.length → (∀ d x, storeOf d ops = some x → getD st.s x = getD S x ∧ ∀ o ∈ l, ∀ t e, o.op = .alloc t → o.dst = some e → x ≠ .tmp e) →
    (finA P ops l st k).wp P C Qr Qo → ∃ cs, AllB P ops S l cs ∧ (k (addB cs st)).wp P C Qr Qo
  | [], st, _, _, hw => ⟨[], rfl, hw⟩
  | o :: rest, st, hl, hx, hw => by
    have hx' : ∀ d x, storeOf d ops = some x → getD st.s x = getD S x ∧ ∀ p ∈ rest, ∀ t e, p.op = .alloc t → p.dst = some e → x ≠ .tmp e :=
      fun d x h => ⟨(hx d x h).1, fun p hp => (hx d x h).2 p (List.mem_cons_of_mem _ hp)⟩
    unfold finA at hw
    split at hw
    · rename_i t d hop hdst
      have hset : ∀ D', ∀ d' x, storeOf d' ops = some x → getD (st.s.set d D') x = getD S x ∧ ∀ p ∈ rest, ∀ t e, p.op = .alloc t → p.dst = some e → x ≠ .tmp e := fun D' d' x h =>
        ⟨(getD_set_ne ((hx d' x h).2 o (by simp) t d hop hdst)).trans (hx d' x h).1, (hx' d' x h).2⟩
      split at hw
      · rename_i zs hz
        obtain ⟨hdl, hw⟩ := of_chk hw
        have hdl := blt_iff.1 hdl
        rw [hl] at hdl
        split at hw
        · rename_i x hs
          split at hw
          · rename_i v hg
            obtain ⟨hc, hw⟩ := of_chk hw
            obtain ⟨cs, h1, h2⟩ := finA_wp rest _ (by simp [hl]) (hset _) hw
            refine ⟨(d, cellsV v) :: cs, ?_, h2⟩
            unfold AllB
            rw [hop, hdst]
            exact ⟨_, _, rfl, ⟨hdl, zs, hz, .inr ⟨x, v, hs, ((hx d x hs).1.symm.trans hg), rfl, hc⟩⟩, h1⟩
          · exact hw.elim
        · rename_i hs
          obtain ⟨cs, h1, h2⟩ := finA_wp rest _ (by simp [hl]) (hset _) hw
          refine ⟨(d, zs) :: cs, ?_, h2⟩
          unfold AllB
          rw [hop, hdst]
          exact ⟨_, _, rfl, ⟨hdl, zs, hz, .inl ⟨hs, rfl⟩⟩, h1⟩
      · exact hw.elim
    · rename_i hn
      obtain ⟨cs, h1, h2⟩ := finA_wp rest st hl hx' hw
      refine ⟨cs, ?_, h2⟩
      unfold AllB
      split
      · rename_i t d e1 e2; exact (hn t d e1 e2).elim
      · exact h1

/-- an alloc sets a block apart -/
theorem alloc_pend {w0 : World} {S1 : Nat → Prop} {w : World} {ρ : List Nat} {h : List Box} (ok : OkH w0 S1 w ρ h) (hA : AllS w S1 ρ) {t : TypeId} {zs : List V} (hz : zeroV P t = some zs)
    {o : Oper} (ho : o.op = .alloc t) (a : Act) :
    ∃ w' vals, (execOp a.eval o).run P w = .ok (.value (.pointer (some ⟨w.heap.size, 0, none⟩))) w' ∧ w'.heap[w.heap.size]? = some (.cells vals t (0, 0)) ∧ Below w.heap.size w w' ∧ w'.heap.size = w.heap.size + 1 ∧
      zs.length ≤ vals.size ∧ OkH w0 (fun b => S1 b ∧ b ≠ w.heap.size) w' ρ h ∧ AllS w' (fun b => S1 b ∧ b ≠ w.heap.size) ρ ∧
      Lasts w w' (stab S1 ρ h) (stab (fun b => S1 b ∧ b ≠ w.heap.size) ρ h) ∧ (∀ S : Nat → Prop, RdL w' S (vals.toList.take zs.length) zs) := by
  obtain ⟨z, hz1, rfl, i, hi, hiz⟩ := zeroV_run hz w
  have hb := push_below w z.cells t
  have hl : Lasts w (push w z.cells t) (stab S1 ρ h) (stab (fun b => S1 b ∧ b ≠ w.heap.size) ρ h) :=
    ⟨hb.size, fun b hbl hs => ⟨⟨⟨hs.1, by omega⟩, hs.2⟩, hb.block b hbl⟩⟩
  refine ⟨push w z.cells t, z.cells, ?_, push_new _ _ _, hb, push_size _ _ _, by simp, ?_, ?_, hl, ?_⟩
  · simp only [execOp, ho, Instr.alloc, Sem.run_bind, hz1, Result.andThen_ok, newVar, newRow, run_newObj, Sem.run_pure]
    rfl
  · have k := ok.grow hb
    refine ⟨k.below, k.heap.len, k.heap.low, k.heap.inj, ?_⟩
    intro i x γ hx xa hi
    obtain ⟨vs, ty, h1, h2, h3⟩ := ok.heap.box i x γ hx xa hi
    exact ⟨vs, ty, (hb.block γ (ok.heap.low i γ hi).2).trans h1, h2, h3.lasts hl⟩
  · refine ⟨fun b hbl => ⟨hA.1 b ?_, ?_⟩, fun i β hi => ⟨hA.2 i β hi, ?_⟩⟩
    · rw [push_size] at hbl; omega
    · rw [push_size] at hbl; omega
    · have := (ok.heap.low i β hi).2; omega
  · intro S
    rw [List.take_of_length_le (by simp)]
    exact zeros_rd _

/-- what the block of an alloc that has run holds, while the region is under way -/
def Now (P : Program) (ops : Array Oper) (Send : List D) (listed : Array Bool) (t d : Nat) (cells : List V) : Prop :=
  ((∀ j p u x, ops[j]? = some p → p.op = .store u (.tmp d) x → listed.getD j false = false) ∧ zeroV P t = some cells) ∨
  ∃ j p u x v, ops[j]? = some p ∧ p.op = .store u (.tmp d) x ∧ listed.getD j false = true ∧ getD Send x = .val v ∧ cells = cellsV v

/-- the slots and blocks while such a region is under way: S1 is S0 less the blocks set apart -/
structure Mid2 (P : Program) (w0 : World) (S0 S1 : Nat → Prop) (ops : Array Oper) (S ds : List D) (h' : List Box) (ρ : List Nat) (listed : Array Bool) (a : Act) (w : World) : Prop where
  ok : OkH w0 S1 w ρ h'
  sub : ∀ b, S1 b → S0 b
  alls : AllS w S1 ρ
  size : a.tmps.size = S.length
  defers : a.defers = []
  lsize : listed.size = ops.size
  dep : ∀ i o, ops[i]? = some o → listed.getD i false = true → ∀ k, hasEdge o k = true → listed.getD k false = true
  yes : ∀ t i, t < S.length → i < ops.size → listed.getD i false = true → gslot ops i = some t → RdD w (stab S1 ρ h') ρ (a.tmps.getD t undef) (nth ds i .unk)
  no : ∀ t, t < S.length → (∀ i, i < ops.size → gslot ops i = some t → listed.getD i false = false) → RdD w (stab S1 ρ h') ρ (a.tmps.getD t undef) (nth S t .unk)
  al : ∀ i o t d, ops[i]? = some o → o.op = .alloc t → o.dst = some d → listed.getD i false = true → d < S.length →
    ∃ β vals ty cells, a.tmps.getD d undef = .pointer (some ⟨β, 0, none⟩) ∧ w.heap[β]? = some (.cells vals ty (0, 0)) ∧ w0.heap.size ≤ β ∧ S0 β ∧ ¬ S1 β ∧ (∀ k : Nat, ρ[k]? ≠ some β) ∧
      cells.length ≤ vals.size ∧ RdL w (stab S1 ρ h') (vals.toList.take cells.length) cells ∧ Now P ops (SSf ops S 0 ds ops.size) listed t d cells
  dis : ∀ i i' o o' t t' d d' β, ops[i]? = some o → ops[i']? = some o' → o.op = .alloc t → o'.op = .alloc t' → o.dst = some d → o'.dst = some d' → listed.getD i false = true → listed.getD i' false = true →
    i ≠ i' → d < S.length → d' < S.length → a.tmps.getD d undef = .pointer (some ⟨β, 0, none⟩) → a.tmps.getD d' undef ≠ .pointer (some ⟨β, 0, none⟩)

end Go.Proofs.YtcijnloneigfcaaGreatDoor
