/-
  The evaluator's step at an operation that makes a block or writes is sound. Condition: none beyond the tree's.
-/
import Derived.Test.YtcijnloneigfcaaGreatDoorPvH3
namespace Go.Proofs.YtcijnloneigfcaaGreatDoor
open Go.RowKit
variable {P : Program} {C : World → Prop} {Qr : V → Prop} {Qo : Ex → St → Prop}

theorem readd_ok {w0 S0 w w' ρ h h1 β} (ok : OkH w0 S0 w ρ h1) (hno : ∀ (i : Nat) (x : Box), h1[i]? = some x → x.alive = true → ρ[i]? ≠ some β) (hlow : w0.heap.size ≤ β ∧ β < w.heap.size)
    (hos : w'.os = w.os) (htape : w'.tape = w.tape) (hout : w'.output = w.output) (hsz : w'.heap.size = w.heap.size) (hoth : ∀ c, c ≠ β → w'.heap[c]? = w.heap[c]?)
    {vals' : Array Value} {ty : TypeId} (hnew : w'.heap[β]? = some (.cells vals' ty (0, 0))) {cells : List V} (hle : cells.length ≤ vals'.size)
    (hl : Lasts w w' (stab S0 ρ h) (stab S0 (ρ ++ [β]) (newB h1 cells))) (hl1 : Lasts w w' (stab S0 ρ h1) (stab S0 (ρ ++ [β]) (newB h1 cells)) ∨ ∀ (i : Nat) (x : Box) γ, h1[i]? = some x → x.alive = true → ρ[i]? = some γ →
      ∃ vals ty, w.heap[γ]? = some (.cells vals ty (0, 0)) ∧ x.cells.length ≤ vals.size ∧ RdL w (stab S0 ρ h) (vals.toList.take x.cells.length) x.cells)
    (hr : RdL w (stab S0 ρ h) (vals'.toList.take cells.length) cells) : OkH w0 S0 w' (ρ ++ [β]) (newB h1 cells) := by
  refine ⟨⟨hos.trans ok.below.os, htape.trans ok.below.tape, hout.trans ok.below.output, by rw [hsz]; exact ok.below.size, fun c hc => (hoth c (by omega)).trans (ok.below.block c hc)⟩, ?_, ?_, ?_, ?_⟩
  · simp [newB, ok.heap.len]
  · intro i γ hi
    rw [hsz]
    rcases get_snoc hi with hi | ⟨_, rfl⟩
    · exact ok.heap.low i γ hi
    · exact hlow
  · intro i j x y γ hx hy xa ya hi hj
    have hlen := ok.heap.len
    rcases get_snoc hi with gi | ⟨ei, fi⟩ <;> rcases get_snoc hj with gj | ⟨ej, fj⟩
    · rcases get_snoc hx with gx | ⟨ex, _⟩
      · rcases get_snoc hy with gy | ⟨ey, _⟩
        · exact ok.heap.inj i j x y γ gx gy xa ya gi gj
        · have := lt_of_get gj; omega
      · have := lt_of_get gi; omega
    · rcases get_snoc hx with gx | ⟨ex, _⟩
      · exact (hno i x gx xa (fj ▸ gi)).elim
      · have := lt_of_get gi; omega
    · rcases get_snoc hy with gy | ⟨ey, _⟩
      · exact (hno j y gy ya (fi ▸ gj)).elim
      · have := lt_of_get gj; omega
    · rw [ei, ej]
  · intro i x γ hx xa hi
    have hlen := ok.heap.len
    rcases get_snoc hi with hi | ⟨rfl, rfl⟩
    · rcases get_snoc hx with hx | ⟨rfl, _⟩
      · have hne : γ ≠ β := fun e => hno i x hx xa (e ▸ hi)
        rcases hl1 with hl1 | hb
        · obtain ⟨vs, t, h1, h2, h3⟩ := ok.heap.box i x γ hx xa hi
          exact ⟨vs, t, (hoth γ hne).trans h1, h2, h3.lasts hl1⟩
        · obtain ⟨vs, t, h1, h2, h3⟩ := hb i x γ hx xa hi
          exact ⟨vs, t, (hoth γ hne).trans h1, h2, h3.lasts hl⟩
      · have := lt_of_get hi; omega
    · rcases get_snoc hx with hx | ⟨_, rfl⟩
      · have := lt_of_get hx; omega
      · exact ⟨vals', ty, hnew, hle, hr.lasts hl⟩

theorem prim_any {w w' : World} {S S' : Nat → Prop} : ∀ {vs : List Value} {xs : List V}, RdL w S vs xs → xs.all isPrim = true → RdL w' S' vs xs
  | [], _, h, _ => by cases h; exact .nil
  | v :: vs, _, h, hp => by
    cases h with
    | cons h1 h2 =>
      rename_i x xs
      rw [List.all_cons, Bool.and_eq_true] at hp
      refine .cons ?_ (prim_any h2 hp.2)
      have hp1 := hp.1
      cases h1 <;> first | exact .unk | exact .bool | exact .int | exact .nil | cases hp1

/-- a block that a call has made becomes a box -/
theorem adopt_ok {w0 S0 w w' ρ h β} (ok : OkH w0 S0 w ρ h) (hb : Below w.heap.size w w') (hge : w.heap.size ≤ β) {vals : Array Value} {ty : TypeId} (hnew : w'.heap[β]? = some (.cells vals ty (0, 0)))
    {cells : List V} (hle : cells.length ≤ vals.size) {S : Nat → Prop} (hr : RdL w' S (vals.toList.take cells.length) cells) (hp : cells.all isPrim = true) :
    OkH w0 S0 w' (ρ ++ [β]) (newB h cells) ∧ Lasts w w' (stab S0 ρ h) (stab S0 (ρ ++ [β]) (newB h cells)) := by
  have hlt : β < w'.heap.size := by
    rcases Nat.lt_or_ge β w'.heap.size with q | q
    · exact q
    · rw [Array.getElem?_eq_none q] at hnew; cases hnew
  have hlen := ok.heap.len
  have hl : Lasts w w' (stab S0 ρ h) (stab S0 (ρ ++ [β]) (newB h cells)) := by
    refine ⟨hb.size, fun b hbl hs => ⟨⟨hs.1, fun i x hx xa xf hi => ?_⟩, hb.block b hbl⟩⟩
    rcases get_snoc hi with hi | ⟨_, rfl⟩
    · rcases get_snoc hx with hx | ⟨rfl, _⟩
      · exact hs.2 i x hx xa xf hi
      · have := lt_of_get hi; omega
    · omega
  refine ⟨⟨ok.below.trans (hb.mono ok.below.size), ?_, ?_, ?_, ?_⟩, hl⟩
  · simp [newB, hlen]
  · intro i γ hi
    rcases get_snoc hi with hi | ⟨_, rfl⟩
    · have := ok.heap.low i γ hi; have := hb.size; omega
    · have := ok.below.size; omega
  · intro i j x y γ hx hy xa ya hi hj
    rcases get_snoc hi with gi | ⟨ei, fi⟩ <;> rcases get_snoc hj with gj | ⟨ej, fj⟩
    · rcases get_snoc hx with gx | ⟨ex, _⟩
      · rcases get_snoc hy with gy | ⟨ey, _⟩
        · exact ok.heap.inj i j x y γ gx gy xa ya gi gj
        · have := lt_of_get gj; omega
      · have := lt_of_get gi; omega
    · have := ok.heap.low i γ gi; omega
    · have := ok.heap.low j γ gj; omega
    · rw [ei, ej]
  · intro i x γ hx xa hi
    rcases get_snoc hi with hi | ⟨rfl, rfl⟩
    · rcases get_snoc hx with hx | ⟨rfl, _⟩
      · obtain ⟨vs, t, h1, h2, h3⟩ := ok.heap.box i x γ hx xa hi
        exact ⟨vs, t, (hb.block γ (ok.heap.low i γ hi).2).trans h1, h2, h3.lasts hl⟩
      · have := lt_of_get hi; omega
    · rcases get_snoc hx with hx | ⟨_, rfl⟩
      · have := lt_of_get hx; omega
      · exact ⟨vals, ty, hnew, hle, prim_any hr hp⟩

theorem kill_back {h : List Box} {b i : Nat} {x : Box} (hi : (setBox h b ⟨false, false, []⟩)[i]? = some x) (xa : x.alive = true) : h[i]? = some x ∧ i ≠ b := by
  simp only [setBox, List.getElem?_set] at hi
  split at hi
  · split at hi
    · cases hi; cases xa
    · cases hi
  · rename_i hne; exact ⟨hi, fun e => hne e.symm⟩

theorem append_sound {w0 S0 w ρ h} (ok : OkH w0 S0 w ρ h) {o : Oper} {a : Act} {t xt ty : TypeId} {ds dx : D} {k : D → List Box → T} (hw : (appendT P t xt h ds dx k).wp P C Qr Qo) {vs vx : Value}
    (rs : RdD w (stab S0 ρ h) ρ vs ds) (rx : RdD w (stab S0 ρ h) ρ vx dx) :
    ∃ v w', (Builtin.append_ #[t, xt] ty #[vs, vx]).run P w = .ok v w' ∧ Post P C Qr Qo w0 S0 o a w ρ h k (a.put o.dst v) w' := by
  unfold appendT at hw
  split at hw
  · rename_i e sz zs n c he hn hc
    obtain ⟨htx, hn2⟩ := cond_some hn
    clear hn
    rw [Nat.beq_eq] at htx
    subst htx
    obtain ⟨hu, hz, hzl, hsz, hpos, hb⟩ := elemT_of he
    split at hw
    · -- onto nil
      obtain ⟨hcheck, hw1⟩ := of_brk hw
      clear hw
      simp only [Bool.and_eq_true, Nat.ble_eq] at hcheck
      obtain ⟨hso, hsm⟩ := hcheck
      have hvs := rs.val_inv
      cases hvs
      obtain ⟨ad, cap, us, rfl, hus, hcl, hfc⟩ := src_run (P := P) ok hc hn2 hso rx
      rcases of_br hw1 with ⟨hn0, hw⟩ | ⟨hn0, hw⟩ <;> clear hw1
      · rw [Nat.beq_eq] at hn0
        subst hn0
        refine ⟨.slice none 0 0, w, ?_, .slice none 0 0, _, h, ρ, rfl, ok, .val .nil, fun _ _ q => q, hw⟩
        have hf := hfc w rfl
        simp [Builtin.append_, run_under hu, run_sizeOf hsz hpos, Builtin.lenOf, hf]
      · have hn0 : 0 < n := by
          rcases Nat.eq_zero_or_pos n with q | q
          · subst q; cases hn0
          · exact q
        obtain ⟨newCap, rest, h1, h2, h3⟩ := append_grows (P := P) he (ty := ty) (base := none) (len := 0) (cap := 0) (os := []) hfc (fun _ _ => rfl) (by omega) (by omega)
        refine ⟨_, _, h3, ?_⟩
        have okd : OkH w0 S0 w.drew ρ h := ok.grow ((Below.refl _ _).drew)
        have hul := hus.length
        have hvs : (([] : List Value) ++ us ++ rest).toArray.size = newCap * sz := by
          simp only [List.nil_append, List.size_toArray, List.length_append, h2, hul, hcl]
          rw [← Nat.add_mul]
          congr 1
          omega
        obtain ⟨v, d, h', ρ', e1, e2, e3, e4, e5⟩ := push_post (P := P) (C := C) (Qr := Qr) (Qo := Qo) okd (o := o) (a := a) (k := k) (vals := (([] : List Value) ++ us ++ rest).toArray) (ty := e) (cells := c)
          (v := .slice (some ⟨w.drew.heap.size, 0, none⟩) (0 + n) newCap) (d := .osl h.length 0 n sz)
          (by rw [hvs, hcl]; exact Nat.mul_le_mul_right sz (by omega)) (by simp [← hul]; exact (hus.lasts (Lasts.of_below ((Below.refl _ _).drew) _)))
          (by rw [Nat.zero_add]; exact .osl (push_own okd) (by omega) (shape_of_cells (push_new _ _ _)) (by rw [Nat.zero_add, hvs]; exact Nat.le_refl _)) hw
        exact ⟨v, d, h', ρ', e1, e2, e3, fun u x q => e4 u x (q.grow ((Below.refl _ _).drew)), e5⟩
    · -- onto a block of the call's own
      rename_i b off len s'
      obtain ⟨hcheck1, hw1⟩ := of_chk hw
      clear hw
      simp only [Bool.and_eq_true, Bool.not_eq_true', Nat.beq_eq] at hcheck1
      obtain ⟨⟨⟨e1, e2⟩, ha⟩, hfz⟩ := hcheck1
      subst e1 e2
      obtain ⟨hcheck2, hw2⟩ := of_brk hw1
      clear hw1
      simp only [Bool.and_eq_true, Nat.ble_eq, Nat.beq_eq, mul_cond] at hcheck2
      obtain ⟨⟨⟨hso, hall⟩, hsm⟩, hbl⟩ := hcheck2
      obtain ⟨ad, xcap, us, rfl, hus, hcl, hfc⟩ := src_run (P := P) ok hc hn2 hso rx
      have hul := hus.length
      cases rs with
      | osl hβ hlc hsh hcap =>
        rename_i β cap ety n'
        obtain ⟨vals, bty, hb1, hb2, hb3⟩ := ok.heap.box b _ β (bx_get ha) ha hβ
        have hshv := shape_of_cells hb1
        rw [hsh] at hshv
        simp only [Option.some.injEq, Prod.mk.injEq] at hshv
        obtain ⟨rfl, rfl⟩ := hshv
        rw [Nat.zero_add] at hcap
        obtain ⟨okk, hstk⟩ := kill_ok ok b
        have hbn : ¬ stab S0 ρ h β := fun q => q.2 b _ (bx_get ha) ha hfz hβ
        by_cases hfit : len + n ≤ cap
        · -- in place
          have hroom : (len + n) * s' ≤ vals.size := Nat.le_trans (Nat.mul_le_mul_right s' hfit) hcap
          rw [Nat.add_mul] at hroom
          have hst : (storeCells ⟨β, len * s', none⟩ us).run P w = .ok () (w.setCells β (len * s') us) := by
            have := run_storeCells_cells (P := P) β (len * s') us 0 w
              (fun j hj => by
                have hlt : len * s' + j < vals.size := by omega
                simp [World.cell?, hb1, Array.getElem?_eq_getElem hlt])
              (fun j hj => by simp [World.frozen?, hb1]) (cells_one hus hall)
            simpa using this
          refine ⟨_, _, append_fits he (hfc w rfl) hfit hst, ?_⟩
          obtain ⟨vals', hv1, hv2⟩ := setCells_heap β us (len * s') w vals ety (0, 0) hb1
          have hvs : vals'.size = vals.size := by
            have := spliceW_len us vals.toList (len * s')
            rw [← hv2] at this
            simpa using this
          obtain ⟨q1, q2, q3⟩ := setCells_rest β us (len * s') w
          have hl : Lasts w (w.setCells β (len * s') us) (stab S0 ρ h) (stab S0 (ρ ++ [β]) (newB (setBox h b ⟨false, false, []⟩) ((bx h b).cells ++ c))) :=
            ⟨by rw [setCells_size]; exact Nat.le_refl _, fun m _ hs => ⟨⟨hs.1, fun i x hx xa xf hi => by
              have hlen := ok.heap.len
              rcases get_snoc hx with hx | ⟨rfl, rfl⟩
              · obtain ⟨hx, hne⟩ := kill_back hx xa
                rcases get_snoc hi with hi | ⟨rfl, _⟩
                · exact hs.2 i x hx xa xf hi
                · have := lt_of_get hx; omega
              · rcases get_snoc hi with hi | ⟨_, rfl⟩
                · have := lt_of_get hi; simp [setBox] at this; omega
                · exact hbn hs⟩, setCells_other β us _ w m (fun e => hbn (e ▸ hs))⟩⟩
          refine ⟨_, _, _, ρ ++ [β], rfl, readd_ok (h := h) okk ?_ (ok.heap.low b β hβ) q1 q2 q3 (setCells_size β _ _ _) (fun m hm => setCells_other β us _ w m hm) hv1 ?_ hl (.inr ?_) ?_, ?_, ?_, hw2⟩
          · intro i x hx xa hi
            obtain ⟨hx, hne⟩ := kill_back hx xa
            exact hne (ok.heap.inj i b x _ β hx (bx_get ha) xa ha hi hβ)
          · rw [List.length_append, hbl, hvs, hcl]; omega
          · intro i x γ hx xa hi
            obtain ⟨hx, _⟩ := kill_back hx xa
            exact ok.heap.box i x γ hx xa hi
          · rw [List.length_append, hbl, hv2, show c.length = us.length from hul.symm, take_splice us vals.toList (len * s') (by simp; omega)]
            rw [hbl] at hb3
            exact hb3.append hus
          · have e1 : (setBox h b ⟨false, false, []⟩).length = h.length := by simp [setBox]
            refine .osl (β := β) (by rw [← ok.heap.len]; simp) hfit (shape_of_cells hv1) (by rw [hvs]; omega)
          · intro u x hr
            refine hr.lasts hl (fun m ty' n' hsh' => ?_) (fun _ _ hi => get_snoc_of hi)
            by_cases hm : m = β
            · subst hm
              rw [shape_of_cells hb1] at hsh'
              rw [shape_of_cells hv1, hvs]
              exact hsh'
            · simpa [World.shape?, setCells_other β us _ w m hm] using hsh'
        · -- a new block
          have hfo : ∀ w1 : World, w1.heap = w.heap → (Builtin.firstCells s' len (.slice (some ⟨β, 0, none⟩) len cap)).run P w1 = .ok (vals.toList.take (len * s')).toArray w1 := by
            intro w1 hw1
            have hlt : (vals.toList.take (len * s')).length = len * s' := by simp; omega
            have := run_loadCells_list (P := P) w1 ⟨β, 0, none⟩ (vals.toList.take (len * s')) (fun j v hv => by
              rw [Addr.add_mid, Nat.zero_add]
              rw [List.getElem?_take] at hv
              split at hv
              · unfold World.cell?
                rw [hw1]
                simp only [hb1]
                simpa using hv
              · cases hv)
            rw [hlt] at this
            exact this
          obtain ⟨newCap, rest, h1, h2, h3⟩ := append_grows (P := P) he (ty := ty) hfc hfo (by omega) hsm
          refine ⟨_, _, h3, ?_⟩
          have okd : OkH w0 S0 w.drew ρ (setBox h b ⟨false, false, []⟩) := okk.grow ((Below.refl _ _).drew)
          have hos : (vals.toList.take (len * s')).length = len * s' := by simp; omega
          have hvs : (vals.toList.take (len * s') ++ us ++ rest).toArray.size = newCap * s' := by
            simp only [List.size_toArray, List.length_append, h2, hul, hcl, hos]
            rw [← Nat.add_mul, ← Nat.add_mul]
            congr 1
            omega
          have hkill : Lasts w w (stab S0 ρ h) (stab S0 ρ (setBox h b ⟨false, false, []⟩)) := ⟨Nat.le_refl _, fun m _ hs => ⟨hstk m hs, rfl⟩⟩
          have hdrew : Lasts w w.drew (stab S0 ρ h) (stab S0 ρ (setBox h b ⟨false, false, []⟩)) := hkill.trans (Lasts.of_below ((Below.refl _ _).drew) _)
          obtain ⟨v, d, h', ρ', e1, e2, e3, e4, e5⟩ := push_post (P := P) (C := C) (Qr := Qr) (Qo := Qo) okd (o := o) (a := a) (k := fun d h' => k d h') (vals := (vals.toList.take (len * s') ++ us ++ rest).toArray) (ty := e)
            (cells := (bx h b).cells ++ c)
            (v := .slice (some ⟨w.drew.heap.size, 0, none⟩) (len + n) newCap) (d := .osl h.length 0 (len + n) s')
            (by rw [hvs, List.length_append, hbl, hcl, ← Nat.add_mul]; exact Nat.mul_le_mul_right s' (by omega))
            (by
              have e9 : (vals.toList.take (len * s') ++ us ++ rest).toArray.toList.take ((bx h b).cells ++ c).length = vals.toList.take (len * s') ++ us := by
                rw [List.length_append, hbl, ← hul]
                rw [List.toList_toArray]
                rw [List.take_append_of_le_length (by simp; omega)]
                exact List.take_of_length_le (by simp; omega)
              rw [e9]
              rw [hbl] at hb3
              exact (hb3.append hus).lasts hdrew)
            (by
              have e8 : (setBox h b ⟨false, false, []⟩).length = h.length := by simp [setBox]
              have := push_own okd
              rw [e8] at this
              exact .osl this (by omega) (shape_of_cells (push_new _ _ _)) (by rw [Nat.zero_add, hvs]; exact Nat.le_refl _)) hw2
          exact ⟨v, d, h', ρ', e1, e2, e3, fun u x q => e4 u x (q.lasts hdrew (Below.shapes ((Below.refl _ _).drew)) (fun _ _ q => q)), e5⟩
    · exact hw.elim
  · exact hw.elim

end Go.Proofs.YtcijnloneigfcaaGreatDoor
