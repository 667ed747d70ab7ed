/-
  A region that draws its order: whatever the order, the result is that of the text's order. Condition: the check drawOk, which the evaluator makes.
-/
import Derived.Test.YtcijnloneigfcaaGreatDoorPvStep
namespace Go.Proofs.YtcijnloneigfcaaGreatDoor
open Go.RowKit
variable {P : Program} {C : World → Prop} {Qr : V → Prop} {Qo : Ex → St → Prop}

theorem YA.mono {o : Oper} {g : Operand → D} {d : D} {h h' : List Box} (hf : Fr h h') (y : YA P C o g d h) : YA P C o g d h' := fun h'' q => y h'' (hf.trans q)

theorem evalDr_yields {o : Oper} {g : Operand → D} {h : List Box} {k : D → List Box → T} (hw : (evalDr P o g h k).wp P C Qr Qo) :
    ∃ d h', Fr h h' ∧ ((isAS o = false ∧ YA P C o g d h') ∨ (isAS o = true ∧ d = .unk)) ∧ (k d h').wp P C Qr Qo := by
  unfold evalDr at hw
  split at hw
  · rename_i t len parts ho
    split at hw
    · rename_i sz cells hb
      obtain ⟨hlen, hw⟩ := of_chk hw
      refine ⟨_, _, Fr.refl _, .inl ⟨by unfold isAS; rw [ho], ?_⟩, hw⟩
      intro h'' hf w0 S0 a w ρ Q hC hS ok hr
      obtain ⟨vals, e, h1, h2, h3⟩ := buildSlice_run hb (w := w) (S := stab S0 ρ h'') (ρ := ρ) (ev := a.eval) (fun x hx => hr x.2 (by simp [ho, Op.operands]; exact ⟨x.1, by simpa using hx⟩))
      have hrun : (execOp a.eval o).run P w = .ok (.value (.slice (some ⟨w.heap.size, 0, none⟩) len len)) (push w vals e) := by
        simp only [execOp, ho, Sem.run_bind, h1, Result.andThen_ok, Sem.run_pure]
      have hb := push_below w vals e
      refine post_value hrun ⟨_, rfl, .val (.sl (stab_new ok hS _ (Nat.le_refl _)) (by rw [push_size]; omega) (Nat.le_refl _) h3 (h2.lasts (Lasts.of_below hb _)) ?_), hb⟩
      intro i v hv
      rw [Nat.zero_add]
      simp only [World.cell?, push_new]
      simpa using hv
    · exact hw.elim
  · rcases of_cond hw with ⟨ha, hw⟩ | ⟨ha, hw⟩
    · exact ⟨_, _, Fr.refl _, .inr ⟨ha, rfl⟩, hw⟩
    · obtain ⟨_, hw⟩ := of_chk' hw
      obtain ⟨d, h', h1, h2, h3⟩ := evalA_yields hw
      exact ⟨d, h', h1, .inl ⟨ha, h2⟩, h3⟩

theorem evalOp_dr (o : Oper) (g : Operand → D) (h : List Box) (k : D → List Box → T) : evalOp P true o g h k = evalDr P o g h k := rfl

/-- what the text's order says of one operation -/
def Ent (P : Program) (C : World → Prop) (ops : Array Oper) (S : List D) (o : Oper) (d : D) (h' : List Box) : Prop :=
  (o.guard = none ∧ ((isAS o = false ∧ YA P C o (getD S) d h') ∨ (isAS o = true ∧ d = .unk))) ∨
  ∃ j want t, o.guard = some (j, want) ∧ gslot ops j = some t ∧ ((∃ b, nth S t .unk = .val (.bool b) ∧ ((b = want ∧ ((isAS o = false ∧ YA P C o (getD S) d h') ∨ (isAS o = true ∧ d = .unk))) ∨ (b ≠ want ∧ d = undD))) ∨ (nth S t .unk = undD ∧ d = undD))

theorem Ent.mono {ops : Array Oper} {S : List D} {o : Oper} {d : D} {h h' : List Box} (hf : Fr h h') (e : Ent P C ops S o d h) : Ent P C ops S o d h' := by
  rcases e with ⟨h1, h2⟩ | ⟨j, want, t, h1, h2, ⟨b, h3, h4⟩ | h3⟩
  · exact .inl ⟨h1, h2.imp (fun y => ⟨y.1, y.2.mono hf⟩) id⟩
  · refine .inr ⟨j, want, t, h1, h2, .inl ⟨b, h3, ?_⟩⟩
    rcases h4 with ⟨h4, h5⟩ | h4
    · exact .inl ⟨h4, h5.imp (fun y => ⟨y.1, y.2.mono hf⟩) id⟩
    · exact .inr h4
  · exact .inr ⟨j, want, t, h1, h2, .inr h3⟩

/-- the slots behind the first q operations from i on -/
def SSf (ops : Array Oper) : List D → Nat → List D → Nat → List D
  | S, _, _, 0 => S
  | S, _, [], _ + 1 => S
  | S, i, d :: ds, q + 1 => SSf ops (putO S (gslot ops i) d) (i + 1) ds q

theorem SSf_len (ops : Array Oper) : ∀ (q : Nat) (S : List D) (i : Nat) (ds : List D), (SSf ops S i ds q).length = S.length
  | 0, _, _, _ => by simp [SSf]
  | _ + 1, _, _, [] => by simp [SSf]
  | q + 1, S, i, d :: ds => by rw [SSf, SSf_len ops q, putO_len]

theorem set_same {s : List D} {t : Nat} {d : D} (h : nth s t .unk = d) : s.set t d = s := by
  apply List.ext_getElem?
  intro i
  rw [List.getElem?_set]
  split
  · rename_i he
    subst he
    split
    · rename_i hl
      rw [nth_lt .unk hl, h]
    · rename_i hl
      rw [List.getElem?_eq_none (Nat.le_of_not_lt hl)]
  · rfl

theorem extract (ops : Array Oper) {k : St → T} : ∀ (l : List Oper) (i : Nat) (S : List D) (h : List Box), (∀ q o, l[q]? = some o → ops[i + q]? = some o) →
    (evalOps P ops true l ⟨S, h⟩ k).wp P C Qr Qo → ∃ ds h', ds.length = l.length ∧ Fr h h' ∧
      (∀ q o, l[q]? = some o → Ent P C ops (SSf ops S i ds q) o (nth ds q .unk) h') ∧ (k ⟨SSf ops S i ds l.length, h'⟩).wp P C Qr Qo
  | [], i, S, h, _, hw => ⟨[], h, rfl, Fr.refl _, (fun q o hq => by simp at hq), by simpa [SSf, evalOps] using hw⟩
  | o :: rest, i, S, h, hops, hw => by
    have hi : ops[i]? = some o := by simpa using hops 0 o rfl
    have hdst : gslot ops i = o.dst := by simp [gslot, hi]
    have hrest : ∀ q p, rest[q]? = some p → ops[(i + 1) + q]? = some p := fun q p hq => by
      have := hops (q + 1) p (by simpa using hq)
      rwa [show i + (q + 1) = (i + 1) + q by omega] at this
    have go : ∀ (d : D) (h1 : List Box), Fr h h1 → Ent P C ops S o d h1 → (evalOps P ops true rest ⟨putO S o.dst d, h1⟩ k).wp P C Qr Qo →
        ∃ ds h', ds.length = (o :: rest).length ∧ Fr h h' ∧ (∀ q p, (o :: rest)[q]? = some p → Ent P C ops (SSf ops S i ds q) p (nth ds q .unk) h') ∧
          (k ⟨SSf ops S i ds (o :: rest).length, h'⟩).wp P C Qr Qo := by
      intro d h1 hf he hw
      obtain ⟨ds, h', e1, e2, e3, e4⟩ := extract ops rest (i + 1) _ h1 hrest hw
      refine ⟨d :: ds, h', by simp [e1], hf.trans e2, ?_, ?_⟩
      · intro q p hq
        cases q with
        | zero =>
          simp at hq
          subst hq
          exact he.mono e2
        | succ q =>
          have := e3 q p (by simpa using hq)
          simp only [SSf, nth]
          rw [hdst]
          exact this
      · simp only [List.length_cons, SSf]
        rw [hdst]
        exact e4
    unfold evalOps at hw
    cases hg : o.guard with
    | none =>
      rw [hg] at hw
      simp only at hw
      rw [evalOp_dr] at hw
      obtain ⟨d, h1, hf, hy, hw⟩ := evalDr_yields hw
      exact go d h1 hf (.inl ⟨hg, hy⟩) hw
    | some jw =>
      obtain ⟨j, want⟩ := jw
      rw [hg] at hw
      simp only at hw
      split at hw
      · rename_i t hj
        split at hw
        · rename_i b ht
          have run : ∀ c : Bool, b = c → c = want → (evalOp P true o (getD (S.set t (.val (.bool c)))) h fun d h => evalOps P ops true rest ⟨putO (S.set t (.val (.bool c))) o.dst d, h⟩ k).wp P C Qr Qo →
              ∃ ds h', ds.length = (o :: rest).length ∧ Fr h h' ∧ (∀ q p, (o :: rest)[q]? = some p → Ent P C ops (SSf ops S i ds q) p (nth ds q .unk) h') ∧
                (k ⟨SSf ops S i ds (o :: rest).length, h'⟩).wp P C Qr Qo := by
            intro c hbc hcw hw
            subst hbc
            rw [set_same ht] at hw
            rw [evalOp_dr] at hw
            obtain ⟨d, h1, hf, hy, hw⟩ := evalDr_yields hw
            exact go d h1 hf (.inr ⟨j, want, t, hg, hj, .inl ⟨b, ht, .inl ⟨hcw, hy⟩⟩⟩) hw
          have skip : ∀ c : Bool, b = c → c ≠ want → (evalOps P ops true rest ⟨putO (S.set t (.val (.bool c))) o.dst undD, h⟩ k).wp P C Qr Qo →
              ∃ ds h', ds.length = (o :: rest).length ∧ Fr h h' ∧ (∀ q p, (o :: rest)[q]? = some p → Ent P C ops (SSf ops S i ds q) p (nth ds q .unk) h') ∧
                (k ⟨SSf ops S i ds (o :: rest).length, h'⟩).wp P C Qr Qo := by
            intro c hbc hcw hw
            subst hbc
            rw [set_same ht] at hw
            exact go undD h (Fr.refl _) (.inr ⟨j, want, t, hg, hj, .inl ⟨b, ht, .inr ⟨hcw, rfl⟩⟩⟩) hw
          rcases of_br hw with ⟨hb, hw2⟩ | ⟨hb, hw2⟩ <;> clear hw <;> rcases of_cond hw2 with ⟨hwt, hw⟩ | ⟨hwt, hw⟩
          · exact run true hb hwt.symm hw
          · exact skip true hb (by rw [hwt]; simp) hw
          · exact skip false hb (by rw [hwt]; simp) hw
          · exact run false hb hwt.symm hw
        · rename_i ht
          exact go undD h (Fr.refl _) (.inr ⟨j, want, t, hg, hj, .inr ⟨ht, rfl⟩⟩) hw
        · exact hw.elim
      · exact hw.elim

theorem SSf_other (ops : Array Oper) (t : Nat) : ∀ (q : Nat) (S : List D) (i : Nat) (ds : List D), (∀ j, j < q → gslot ops (i + j) ≠ some t) → nth (SSf ops S i ds q) t .unk = nth S t .unk
  | 0, _, _, _, _ => by simp [SSf]
  | _ + 1, _, _, [], _ => by simp [SSf]
  | q + 1, S, i, d :: ds, h => by
    rw [SSf, SSf_other ops t q _ (i + 1) ds (fun j hj => by rw [show i + 1 + j = i + (j + 1) by omega]; exact h (j + 1) (by omega))]
    have h0 := h 0 (by omega)
    simp only [Nat.add_zero] at h0
    cases hg : gslot ops i with
    | none => rfl
    | some u =>
      simp only [putO]
      rw [nth_set, if_neg (fun e => h0 (by rw [hg, e.1]))]

theorem SSf_at (ops : Array Oper) (t : Nat) : ∀ (q : Nat) (S : List D) (i : Nat) (ds : List D) (j : Nat), j < q → q ≤ ds.length → gslot ops (i + j) = some t → t < S.length →
    (∀ j', j' < q → j' ≠ j → gslot ops (i + j') ≠ some t) → nth (SSf ops S i ds q) t .unk = nth ds j .unk
  | 0, _, _, _, _, h, _, _, _, _ => by omega
  | _ + 1, _, _, [], _, _, h, _, _, _ => by simp at h
  | q + 1, S, i, d :: ds, j, hj, hq, hg, ht, hd => by
    rw [SSf]
    cases j with
    | zero =>
      rw [SSf_other ops t q _ (i + 1) ds (fun j' hj' => by rw [show i + 1 + j' = i + (j' + 1) by omega]; exact hd (j' + 1) (by omega) (by omega))]
      simp only [Nat.add_zero] at hg
      rw [hg]
      simp only [putO, nth]
      rw [nth_set, if_pos ⟨rfl, ht⟩]
    | succ j =>
      rw [SSf_at ops t q _ (i + 1) ds j (by omega) (by simpa using hq) (by rw [show i + 1 + j = i + (j + 1) by omega]; exact hg) (by rw [putO_len]; exact ht)
        (fun j' hj' hne => by rw [show i + 1 + j' = i + (j' + 1) by omega]; exact hd (j' + 1) (by omega) (by omega))]
      rfl

end Go.Proofs.YtcijnloneigfcaaGreatDoor
