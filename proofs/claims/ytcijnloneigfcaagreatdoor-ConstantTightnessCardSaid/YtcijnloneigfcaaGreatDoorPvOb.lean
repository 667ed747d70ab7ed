/-
  Choices at a tree's nodes (Ch), what is owed for them (ob), and that this gives the tree; states with less said (cut). Condition: as in PvSound.
-/
import Derived.Test.YtcijnloneigfcaaGreatDoorPvSound
import Derived.KernelRfl
namespace Go.Proofs.YtcijnloneigfcaaGreatDoor
open Go.RowKit
variable {P : Program} {C : World → Prop} {Qr : V → Prop} {Qo : Ex → St → Prop}

/-- forgetting: all slots but those kept; all boxes but the first n; those of fz are frozen -/
def cutL (keep : List Nat) : Nat → List D → List D
  | _, [] => []
  | i, d :: r => cond (keep.any (Nat.beq i)) d .unk :: cutL keep (i + 1) r
def cutS (keep : List Nat) (n : Nat) (fz : List Nat) (st : St) : St := ⟨cutL keep 0 st.s, (frz st.h fz).take n⟩
def idsOk (n : Nat) : D → Bool
  | .unk => true
  | .val _ => true
  | .own b _ => Nat.blt b n
  | .osl b _ _ _ => Nat.blt b n
  | .clo _ caps => caps.all fun c => Nat.blt c.1 n
def cutOk (keep : List Nat) (n : Nat) (st : St) : Bool := (cutL keep 0 st.s).all (idsOk n)

theorem cutL_len (keep : List Nat) : ∀ (i : Nat) (l : List D), (cutL keep i l).length = l.length
  | _, [] => rfl
  | i, d :: r => by simp [cutL, cutL_len keep (i + 1) r]

theorem cutL_get (keep : List Nat) : ∀ (l : List D) (i t : Nat), nth (cutL keep i l) t .unk = nth l t .unk ∨ nth (cutL keep i l) t .unk = .unk
  | [], _, _ => .inl rfl
  | d :: r, i, 0 => by
    simp only [cutL, nth]
    cases keep.any (Nat.beq i)
    · exact .inr rfl
    · exact .inl rfl
  | d :: r, i, t + 1 => by simpa only [cutL, nth] using cutL_get keep r (i + 1) t

theorem take_get {α : Type} {l : List α} {n i : Nat} {x : α} (h : (l.take n)[i]? = some x) : l[i]? = some x ∧ i < n := by
  rw [List.getElem?_take] at h
  split at h
  · rename_i hi; exact ⟨h, hi⟩
  · cases h

theorem weak_cut (keep : List Nat) (n : Nat) (fz : List Nat) {st : St} (h : cutOk keep n st = true) : Weak st (cutS keep n fz st) := by
  intro w0 S0 a w ρ ok
  have hf := Fr.frz fz st.h
  have okf := ok.ok.fr hf
  refine ⟨ρ.take n, ?_⟩
  have hstab : ∀ b, stab S0 ρ (frz st.h fz) b → stab S0 (ρ.take n) ((frz st.h fz).take n) b := fun b hb => ⟨hb.1, fun i x hx xa xf hi => hb.2 i x (take_get hx).1 xa xf (take_get hi).1⟩
  have hl : Lasts w w (stab S0 ρ (frz st.h fz)) (stab S0 (ρ.take n) ((frz st.h fz).take n)) := ⟨Nat.le_refl _, fun b _ hb => ⟨hstab b hb, rfl⟩⟩
  refine ⟨⟨okf.below, ?_, ?_, ?_, ?_⟩, by simp [cutS, cutL_len, ok.size], fun t => ?_, ok.defers⟩
  · simp [cutS, okf.heap.len]
  · intro i β hi; exact okf.heap.low i β (take_get hi).1
  · intro i j x y β hx hy xa ya hi hj
    exact okf.heap.inj i j x y β (take_get hx).1 (take_get hy).1 xa ya (take_get hi).1 (take_get hj).1
  · intro i x β hx xa hi
    obtain ⟨vs, t, h1, h2, h3⟩ := okf.heap.box i x β (take_get hx).1 xa (take_get hi).1
    exact ⟨vs, t, h1, h2, h3.lasts hl⟩
  · have hs := (ok.slots t).fr hf
    show RdD w (stab S0 (ρ.take n) ((frz st.h fz).take n)) (ρ.take n) _ (nth (cutL keep 0 st.s) t .unk)
    have hid : idsOk n (nth (cutL keep 0 st.s) t .unk) = true := by
      by_cases ht : t < (cutL keep 0 st.s).length
      · exact List.all_eq_true.1 h _ (List.mem_of_getElem? (nth_lt .unk ht))
      · rw [nth_eq, List.getElem?_eq_none (by omega)]; rfl
    rcases cutL_get keep st.s 0 t with he | he
    · rw [he] at hid ⊢
      generalize nth st.s t D.unk = d at hs hid
      generalize a.tmps.getD t undef = u at hs
      have tk : ∀ {b β : Nat}, Nat.blt b n = true → ρ[b]? = some β → (ρ.take n)[b]? = some β := fun hb hβ => by
        rw [List.getElem?_take, if_pos (blt_iff.1 hb)]; exact hβ
      cases hs with
      | unk => exact .unk
      | val hv => exact .val (hv.lasts hl)
      | own hβ => exact .own (tk hid hβ)
      | osl hβ h1 h2 h3 => exact .osl (tk hid hβ) h1 h2 h3
      | clo h1 h2 =>
        refine .clo h1 fun i b off hc => ?_
        obtain ⟨β, hβ, ha⟩ := h2 i b off hc
        exact ⟨β, tk (List.all_eq_true.1 hid _ (List.mem_of_getElem? hc)) hβ, ha⟩
    · rw [he]; exact .unk

/-- forgetting with renumbering: all slots but those kept; the boxes of sel, in this order -/
def posN (b : Nat) : List Nat → Nat → Option Nat
  | [], _ => none
  | c :: r, k => cond (Nat.beq b c) (some k) (posN b r (k + 1))
def ren (sel : List Nat) : D → D
  | .unk => .unk
  | .val v => .val v
  | .own b off => match posN b sel 0 with | some j => .own j off | none => .unk
  | .osl b off len sz => match posN b sel 0 with | some j => .osl j off len sz | none => .unk
  | .clo _ _ => .unk
def cutR (keep sel : List Nat) : Nat → List D → List D
  | _, [] => []
  | i, d :: r => cond (keep.any (Nat.beq i)) (ren sel d) .unk :: cutR keep sel (i + 1) r
structure Cut3 where
  keep : List Nat
  sel : List Nat
def nodupN : List Nat → Bool
  | [] => true
  | x :: r => !(r.any (Nat.beq x)) && nodupN r
def cutS3 (v : Cut3) (st : St) : St := ⟨cutR v.keep v.sel 0 st.s, v.sel.map (bx st.h)⟩
def cutOk3 (v : Cut3) (st : St) : Bool := nodupN v.sel && v.sel.all fun i => Nat.blt i st.h.length

theorem posN_spec {b : Nat} : ∀ {l : List Nat} {k j : Nat}, posN b l k = some j → k ≤ j ∧ l[j - k]? = some b
  | [], k, j, h => by cases h
  | c :: r, k, j, h => by
    unfold posN at h
    cases hb : Nat.beq b c with
    | true =>
      rw [hb] at h
      cases h
      have := Nat.eq_of_beq_eq_true hb
      subst this
      simp
    | false =>
      rw [hb] at h
      obtain ⟨h1, h2⟩ := posN_spec (show posN b r (k + 1) = some j from h)
      refine ⟨by omega, ?_⟩
      rw [show j - k = (j - (k + 1)) + 1 by omega]
      simpa using h2
theorem nodupN_spec : ∀ {l : List Nat}, nodupN l = true → ∀ (i j x : Nat), l[i]? = some x → l[j]? = some x → i = j
  | [], _, i, j, x, h, _ => by simp at h
  | c :: r, hd, i, j, x, h, k => by
    unfold nodupN at hd
    simp only [Bool.and_eq_true, Bool.not_eq_true'] at hd
    have no : ∀ m : Nat, r[m]? ≠ some c := by
      intro m hm
      have := List.any_eq_false.1 hd.1 c (List.mem_of_getElem? hm)
      simp at this
    cases i with
    | zero =>
      cases j with
      | zero => rfl
      | succ j => simp at h k; subst h; exact (no j k).elim
    | succ i =>
      cases j with
      | zero => simp at h k; subst k; exact (no i h).elim
      | succ j => simp at h k; rw [nodupN_spec hd.2 i j x h k]

theorem cutR_len (keep sel : List Nat) : ∀ (i : Nat) (l : List D), (cutR keep sel i l).length = l.length
  | _, [] => rfl
  | i, d :: r => by simp [cutR, cutR_len keep sel (i + 1) r]
theorem cutR_get (keep sel : List Nat) : ∀ (l : List D) (i t : Nat), nth (cutR keep sel i l) t .unk = ren sel (nth l t .unk) ∨ nth (cutR keep sel i l) t .unk = .unk
  | [], _, _ => .inl rfl
  | d :: r, i, 0 => by
    simp only [cutR, nth]
    cases keep.any (Nat.beq i)
    · exact .inr rfl
    · exact .inl rfl
  | d :: r, i, t + 1 => by simpa only [cutR, nth] using cutR_get keep sel r (i + 1) t

theorem weak_cut3 (v : Cut3) {st : St} (h : cutOk3 v st = true) : Weak st (cutS3 v st) := by
  intro w0 S0 a w ρ ok
  unfold cutOk3 at h
  rw [Bool.and_eq_true] at h
  obtain ⟨hnd, hall⟩ := h
  have hlt : ∀ (i c : Nat), v.sel[i]? = some c → c < st.h.length := fun i c hc => blt_iff.1 (List.all_eq_true.1 hall c (List.mem_of_getElem? hc))
  have hlen := ok.ok.heap.len
  -- the numbers
  have hρ : ∀ (i β : Nat), (v.sel.map fun c => nth ρ c 0)[i]? = some β → ∃ c : Nat, v.sel[i]? = some c ∧ ρ[c]? = some β := by
    intro i β hi
    rw [List.getElem?_map] at hi
    cases hc : v.sel[i]? with
    | none => rw [hc] at hi; cases hi
    | some c =>
      rw [hc] at hi
      simp only [Option.map_some, Option.some.injEq] at hi
      exact ⟨c, rfl, by rw [nth_lt 0 (by rw [hlen]; exact hlt i c hc), hi]⟩
  have hρ' : ∀ (i c β : Nat), v.sel[i]? = some c → ρ[c]? = some β → (v.sel.map fun c => nth ρ c 0)[i]? = some β := by
    intro i c β hc hβ
    rw [List.getElem?_map, hc]
    simp only [Option.map_some, Option.some.injEq]
    rw [nth_eq, hβ]
    rfl
  have hh : ∀ (i : Nat) (x : Box), (v.sel.map (bx st.h))[i]? = some x → ∃ c : Nat, v.sel[i]? = some c ∧ st.h[c]? = some x := by
    intro i x hi
    rw [List.getElem?_map] at hi
    cases hc : v.sel[i]? with
    | none => rw [hc] at hi; cases hi
    | some c =>
      rw [hc] at hi
      simp only [Option.map_some, Option.some.injEq] at hi
      refine ⟨c, rfl, ?_⟩
      have := hlt i c hc
      rw [← hi, List.getElem?_eq_getElem this, bx_of (List.getElem?_eq_getElem this)]
  have hstab : ∀ b, stab S0 ρ st.h b → stab S0 (v.sel.map fun c => nth ρ c 0) (v.sel.map (bx st.h)) b := fun b hb => ⟨hb.1, fun i x hx xa xf hi => by
    obtain ⟨c, hc, hx'⟩ := hh i x hx
    obtain ⟨c', hc', hi'⟩ := hρ i b hi
    rw [hc] at hc'; cases hc'
    exact hb.2 c x hx' xa xf hi'⟩
  have hl : Lasts w w (stab S0 ρ st.h) (stab S0 (v.sel.map fun c => nth ρ c 0) (v.sel.map (bx st.h))) := ⟨Nat.le_refl _, fun b _ hb => ⟨hstab b hb, rfl⟩⟩
  refine ⟨v.sel.map fun c => nth ρ c 0, ⟨ok.ok.below, ?_, ?_, ?_, ?_⟩, by simp [cutS3, cutR_len, ok.size], fun t => ?_, ok.defers⟩
  · simp [cutS3]
  · intro i β hi
    obtain ⟨c, _, hc⟩ := hρ i β hi
    exact ok.ok.heap.low c β hc
  · intro i j x y β hx hy xa ya hi hj
    obtain ⟨c, hc, hx'⟩ := hh i x hx
    obtain ⟨d, hd, hy'⟩ := hh j y hy
    obtain ⟨c', hc', hi'⟩ := hρ i β hi
    obtain ⟨d', hd', hj'⟩ := hρ j β hj
    rw [hc] at hc'; cases hc'
    rw [hd] at hd'; cases hd'
    have := ok.ok.heap.inj c d x y β hx' hy' xa ya hi' hj'
    subst this
    exact nodupN_spec hnd i j c hc hd
  · intro i x β hx xa hi
    obtain ⟨c, hc, hx'⟩ := hh i x hx
    obtain ⟨c', hc', hi'⟩ := hρ i β hi
    rw [hc] at hc'; cases hc'
    obtain ⟨vs, t, h1, h2, h3⟩ := ok.ok.heap.box c x β hx' xa hi'
    exact ⟨vs, t, h1, h2, h3.lasts hl⟩
  · have hs := ok.slots t
    show RdD w (stab S0 (v.sel.map fun c => nth ρ c 0) (v.sel.map (bx st.h))) (v.sel.map fun c => nth ρ c 0) _ (nth (cutR v.keep v.sel 0 st.s) t .unk)
    rcases cutR_get v.keep v.sel st.s 0 t with he | he
    · rw [he]
      generalize nth st.s t D.unk = d at hs
      generalize a.tmps.getD t undef = u at hs
      cases hs with
      | unk => exact .unk
      | val hv => exact .val (hv.lasts hl)
      | own hβ =>
        unfold ren
        simp only
        split
        · rename_i j hj
          obtain ⟨_, h2⟩ := posN_spec hj
          exact .own (hρ' j _ _ (by simpa using h2) hβ)
        · exact .unk
      | osl hβ h1 h2 h3 =>
        unfold ren
        simp only
        split
        · rename_i j hj
          obtain ⟨_, h4⟩ := posN_spec hj
          exact .osl (hρ' j _ _ (by simpa using h4) hβ) h1 h2 h3
        · exact .unk
      | clo h1 h2 => exact .unk
    · rw [he]; exact .unk

/-- what is kept at a loop's head, its round's end and its exits -/
structure Cut where
  keep : List Nat
  n : Nat
  fz : List Nat

inductive Ch : Type 1 where
  | ret
  | fin (s : St)
  | fin2 (v : Cut)
  | fin3 (v : Cut3)
  | call (r : V) (c : Ch)
  | callO (sz n : Nat) (cells : List V) (c : Ch)
  | lit (c : Ch)
  | yes (c : Ch)
  | no (c : Ch)
  | both (c d : Ch)
  | loop (u : Cut) (s0 : St) (E : Type) (ex : E → Ex × St) (J : E → Prop) (c : E → Ch)
  | loop2 (u : Cut) (s0 : St) (E F : Type) (ex : E ⊕ F → Ex × St) (J : E ⊕ F → Prop) (c : E → Ch) (d : F → Ch)

def ob (P : Program) (C : World → Prop) (Qr : V → Prop) (Qo : Ex → St → Prop) (u : Cut) : Ch → T → Prop
  | .ret, .ret v => Qr v
  | .fin s, .out e st => cutOk u.keep u.n st = true ∧ cutS u.keep u.n u.fz st = s ∧ Qo e s
  | .fin2 v, .out e st => cutOk v.keep v.n st = true ∧ Qo e (cutS v.keep v.n v.fz st)
  | .fin3 v, .out e st => cutOk3 v st = true ∧ Qo e (cutS3 v st)
  | .call r c, .call f ds k => Impl P C f ds r ∧ ob P C Qr Qo u c (k r)
  | .call r c, .call2 f ds k _ => Impl P C f ds r ∧ ob P C Qr Qo u c (k r)
  | .callO sz n cs c, .call2 f ds _ k => ImplO P C f ds sz n cs ∧ ob P C Qr Qo u c (k sz n cs)
  | .lit c, .br b x y => ob P C Qr Qo u c (match b with | true => x | false => y)
  | .yes c, .br b x _ => b = true ∧ ob P C Qr Qo u c x
  | .no c, .br b _ y => b = false ∧ ob P C Qr Qo u c y
  | .both c d, .br b x y => (b = true → ob P C Qr Qo u c x) ∧ (b = false → ob P C Qr Qo u d y)
  | .both c d, .any x y => ob P C Qr Qo u c x ∧ ob P C Qr Qo u d y
  | .yes c, .alt b x _ => b = true ∧ ob P C Qr Qo u c x
  | .no c, .alt _ _ y => ob P C Qr Qo u c y
  | .loop v s0 _ ex J c, .loop body st k => cutOk v.keep v.n st = true ∧ cutS v.keep v.n v.fz st = s0 ∧ LoopOk P C body s0 (fun e st' => ∃ x, J x ∧ ex x = (e, st')) ∧ ∀ x, J x → ob P C Qr Qo u (c x) (k (ex x).1 (ex x).2)
  | .loop2 v s0 _ _ ex J c d, .loop body st k => cutOk v.keep v.n st = true ∧ cutS v.keep v.n v.fz st = s0 ∧ LoopOk P C body s0 (fun e st' => ∃ x, J x ∧ ex x = (e, st')) ∧
    (∀ x, J (.inl x) → ob P C Qr Qo u (c x) (k (ex (.inl x)).1 (ex (.inl x)).2)) ∧ ∀ x, J (.inr x) → ob P C Qr Qo u (d x) (k (ex (.inr x)).1 (ex (.inr x)).2)
  | _, _ => False

/-- what a leaf says, the state cut down -/
def QW (Qo : Ex → St → Prop) (e : Ex) (st : St) : Prop := ∃ s, Weak st s ∧ Qo e s

theorem wp_of_ob {u : Cut} : ∀ (c : Ch) (t : T), ob P C Qr Qo u c t → t.wp P C Qr (QW Qo) := by
  intro c
  induction c with
  | ret => intro t h; cases t <;> first | exact h | exact h.elim
  | fin s => intro t h; cases t <;> first | exact ⟨s, h.2.1 ▸ weak_cut u.keep u.n u.fz h.1, h.2.2⟩ | exact h.elim
  | fin2 v => intro t h; cases t <;> first | exact ⟨_, weak_cut v.keep v.n v.fz h.1, h.2⟩ | exact h.elim
  | fin3 v => intro t h; cases t <;> first | exact ⟨_, weak_cut3 v h.1, h.2⟩ | exact h.elim
  | call r c ih => intro t h; cases t <;> first | exact ⟨r, h.1, ih _ h.2⟩ | exact .inl ⟨r, h.1, ih _ h.2⟩ | exact h.elim
  | callO sz n cs c ih => intro t h; cases t <;> first | exact .inr ⟨sz, n, cs, h.1, ih _ h.2⟩ | exact h.elim
  | lit c ih =>
    intro t h
    cases t with
    | br b x y =>
      cases b
      · exact .inr ⟨rfl, ih y h⟩
      · exact .inl ⟨rfl, ih x h⟩
    | _ => exact h.elim
  | yes c ih => intro t h; cases t <;> first | exact .inl ⟨h.1, ih _ h.2⟩ | exact h.elim
  | no c ih => intro t h; cases t <;> first | exact .inr ⟨h.1, ih _ h.2⟩ | exact .inr (ih _ h) | exact h.elim
  | both c d ihc ihd =>
    intro t h
    cases t with
    | br b x y =>
      cases b
      · exact .inr ⟨rfl, ihd y (h.2 rfl)⟩
      · exact .inl ⟨rfl, ihc x (h.1 rfl)⟩
    | any x y => exact ⟨ihc x h.1, ihd y h.2⟩
    | _ => exact h.elim
  | loop v s0 E ex J c ih =>
    intro t h
    cases t with
    | loop body st k =>
      refine ⟨_, LoopOk.weak (h.2.1 ▸ weak_cut v.keep v.n v.fz h.1) h.2.2.1, ?_⟩
      rintro e st' ⟨x, hx, he⟩
      have := ih x _ (h.2.2.2 x hx)
      rw [he] at this
      exact this
    | _ => exact h.elim
  | loop2 v s0 E F ex J c d ihc ihd =>
    intro t h
    cases t with
    | loop body st k =>
      refine ⟨_, LoopOk.weak (h.2.1 ▸ weak_cut v.keep v.n v.fz h.1) h.2.2.1, ?_⟩
      rintro e st' ⟨x, hx, he⟩
      cases x with
      | inl x =>
        have := ihc x _ (h.2.2.2.1 x hx)
        rw [he] at this
        exact this
      | inr x =>
        have := ihd x _ (h.2.2.2.2 x hx)
        rw [he] at this
        exact this
    | _ => exact h.elim

theorem cast_ob {A B : Prop} (a : A) (h : A = B) : B := h ▸ a

/-- ████ the contract from what is owed -/
theorem impl_ob (hP : P.follows .mixedOrders = true) (hst : Stable C) {f : FuncId} {fn : Func} (hf : P.funcs[f]? = some fn) (hok : okFn P f = true) {ds : List V} {r : V} (c : Ch)
    (h : True ∧ ob P C (fun v => vsub v r) (fun _ _ => False) ⟨[], 0, []⟩ c (evalF P fn ds)) : Impl P C f ds r := by
  refine impl_ofW hP hst hf hok ?_
  have := wp_of_ob (Qr := fun v => vsub v r) c _ h.2
  have e : QW (fun _ _ => False) = fun _ _ => False := by
    funext e st
    exact propext ⟨fun ⟨_, _, h⟩ => h, False.elim⟩
  rwa [e] at this

/-- the state at a function's end, its result a whole box -/
def EndO (rs : Array ResultVar) (sz n : Nat) (cells : List V) (e : Ex) (st : St) : Prop :=
  (e = .ret ∨ e = .normal) ∧ ∃ b t, rs = #[.tmp t] ∧ nth st.s t .unk = .osl b 0 n sz ∧ (bx st.h b).alive = true ∧ ∃ rest, (bx st.h b).cells = cells ++ rest
def evalFO (P : Program) (fn : Func) (ds : List V) : T := match fn.body with | some c => evalC P c (initS fn ds) T.out | none => .fail

theorem init_ok {w : World} {S : Nat → Prop} {fn : Func} {args : List Value} {ds : List V} (hargs : RdL w S args ds) :
    OkS w S (initS fn ds) { tmps := args.toArray ++ Array.replicate (fn.ntmps - args.toArray.size) undef, defers := [] } w [] := by
  have hlen := hargs.length
  have hSS : Lasts w w S (stab S [] []) := ⟨Nat.le_refl _, fun b _ hs => ⟨⟨hs, fun i x hx => by simp at hx⟩, rfl⟩⟩
  refine ⟨⟨Below.refl _ _, rfl, fun i β hi => by simp at hi, fun i j x y β hx => by simp [initS] at hx, fun i x β hx => by simp [initS] at hx⟩, by simp [initS, hlen], fun t => ?_, rfl⟩
  show RdD w (stab S [] []) [] _ (nth (ds.map D.val ++ List.replicate (fn.ntmps - ds.length) D.unk) t .unk)
  rw [nth_eq]
  by_cases ht : t < ds.length
  · rw [List.getElem?_append_left (by simpa using ht), List.getElem?_map, List.getElem?_eq_getElem ht]
    obtain ⟨u, hu, hr⟩ := hargs.get (List.getElem?_eq_getElem ht)
    have : (args.toArray ++ Array.replicate (fn.ntmps - args.toArray.size) undef).getD t undef = u := by
      rw [Array.getD_eq_getD_getElem?, Array.getElem?_append_left (by simp; omega)]
      simp [hu]
    rw [this]
    exact .val (hr.lasts hSS)
  · rw [List.getElem?_append_right (by simp; omega)]
    have : ((List.replicate (fn.ntmps - ds.length) D.unk)[t - (ds.map D.val).length]?).getD D.unk = D.unk := by
      rw [List.getElem?_replicate]
      split <;> rfl
    rw [this]
    exact .unk

/-- ████ the contract of a function that returns a new slice -/
theorem implO_ob (hP : P.follows .mixedOrders = true) (hst : Stable C) {f : FuncId} {fn : Func} (hf : P.funcs[f]? = some fn) (hok : okFn P f = true) {ds : List V} {sz n : Nat} {cells : List V} (hp : cells.all isPrim = true) (c : Ch)
    (h : True ∧ ob P C (fun _ => False) (EndO fn.results sz n cells) ⟨[], 0, []⟩ c (evalFO P fn ds)) : ImplO P C f ds sz n cells := by
  refine ⟨hok, hp, fun w S args hC hS hargs => ?_⟩
  have hw := wp_of_ob (Qr := fun _ => False) c _ h.2
  unfold evalFO at hw
  split at hw
  · rename_i cd hb
    refine calls_of_wp hf hb ?_
    refine wp_mono (evalC_sound hP hst hC hS cd _ _ _ w [] (init_ok hargs) hw) ?_
    rintro e a' w' ⟨ex, st', ρ', rfl, ok', hw'⟩
    obtain ⟨s, hws, he, b, t, hrs, hsl, hal, rest, hcs⟩ := hw'
    obtain ⟨ρ2, ok2⟩ := hws w S a' w' ρ' ok'
    have h1 := ok2.slots t
    rw [hsl] at h1
    generalize hv : a'.tmps.getD t undef = v at h1
    cases h1 with
    | osl hβ hcap hsh hfit =>
      rename_i β cap e nn
      have hbx := bx_get hal
      obtain ⟨vals, ty, g1, g2, g3⟩ := ok2.ok.heap.box b _ β hbx hal hβ
      have hlow := (ok2.ok.heap.low b β hβ).1
      rw [hcs] at g2 g3
      have g3 := g3.take cells.length
      rw [List.take_take, List.take_left, Nat.min_eq_left (by simp)] at g3
      rw [List.length_append] at g2
      have hs2 := shape_of_cells g1
      rw [hs2] at hsh
      have hnn : nn = vals.size := by
        have := Option.some.inj hsh
        exact (congrArg Prod.snd this).symm
      have hres : (results fn a'.tmps).run P w' = .ok (.slice (some ⟨β, 0, none⟩) n cap) w' := by
        rw [← hv]
        unfold results
        rw [hrs, Sem.run_bind, Array.mapM_eq_mapM_toList, Sem.run_map]
        have hx : ([ResultVar.tmp t].mapM (fun r => match r with
          | .tmp t => pure (a'.tmps.getD t undef)
          | .cell ad t => do loadVar t (← asAddr (a'.tmps.getD ad undef)) : ResultVar → Sem Value)).run P w' = .ok [a'.tmps.getD t undef] w' := by
          simp [List.mapM_cons]
        erw [hx]
        rfl
      rcases he with rfl | rfl
      · exact ⟨ok'.defers, _, hres, β, cap, vals, ty, rfl, hlow, g1, by omega, hcap, by omega, prim_any g3 hp, ok'.ok.below⟩
      · exact ⟨ok'.defers, _, hres, β, cap, vals, ty, rfl, hlow, g1, by omega, hcap, by omega, prim_any g3 hp, ok'.ok.below⟩
  · exact hw.elim

/-- the n-th loop's body, in the text's order, outer ones first -/
def loops : Code → List Code
  | .seq a b => loops a ++ loops b
  | .cond _ a b => loops a ++ loops b
  | .block _ b => loops b
  | .loop b => b :: loops b
  | _ => []
def loopN (fn : Func) (n : Nat) : Code := match fn.body with | some c => nth (loops c) n .skip | none => .skip

/-- a state from its slots that say something -/
def lookD (l : List (Nat × D)) (i : Nat) : D :=
  match l with
  | [] => .unk
  | (j, d) :: r => cond (Nat.beq i j) d (lookD r i)
def mkS (n : Nat) (l : List (Nat × D)) : List D := (List.range n).map (lookD l)

/-- the leaves of a round: the invariant again, with a smaller measure; or an exit -/
def NX {X E : Type} (mk : X → St) (I : X → Prop) (μ : X → Nat) (ex : E → Ex × St) (J : E → Prop) (x : X) (e : Ex) (s : St) : Prop :=
  match e with
  | .normal => ∃ x', s = mk x' ∧ I x' ∧ μ x' < μ x
  | e => ∃ y, J y ∧ ex y = (e, s)
theorem nx_next {X E : Type} {mk : X → St} {I : X → Prop} {μ : X → Nat} {ex : E → Ex × St} {J : E → Prop} {x : X} (x' : X) (h : I x') (hm : μ x' < μ x) : NX mk I μ ex J x .normal (mk x') := ⟨x', rfl, h, hm⟩
theorem nx_exit {X E : Type} {mk : X → St} {I : X → Prop} {μ : X → Nat} {ex : E → Ex × St} {J : E → Prop} {x : X} (id : Nat) (s : St) (y : E) (h : J y) (he : ex y = (.exit id, s)) : NX mk I μ ex J x (.exit id) s := ⟨y, h, he⟩
theorem nx_ret {X E : Type} {mk : X → St} {I : X → Prop} {μ : X → Nat} {ex : E → Ex × St} {J : E → Prop} {x : X} (s : St) (y : E) (h : J y) (he : ex y = (.ret, s)) : NX mk I μ ex J x .ret s := ⟨y, h, he⟩

/-- ████ a loop, by what is owed for one round -/
theorem loop_ob (hP : P.follows .mixedOrders = true) (hst : Stable C) {body : Code} {X E : Type} (u : Cut) (mk : X → St) (I : X → Prop) (μ : X → Nat) (ex : E → Ex × St) (J : E → Prop) (x0 : X) (hI : I x0) (c : X → Ch)
    (round : ∀ x, I x → True ∧ ob P C (fun _ => False) (NX mk I μ ex J x) u (c x) (evalC P body (mk x) T.out)) : LoopOk P C body (mk x0) (fun e st' => ∃ y, J y ∧ ex y = (e, st')) := by
  refine loop_ok hP hst mk I μ _ x0 (Weak.refl _) hI fun x hx => ?_
  have hw := wp_of_ob _ _ (round x hx).2
  have mono : ∀ (t : T) {Q Q' : Ex → St → Prop}, (∀ e st', Q e st' → Q' e st') → t.wp P C (fun _ => False) Q → t.wp P C (fun _ => False) Q' := by
    intro t Q Q' hq
    induction t with
    | fail => exact id
    | ret v => exact id
    | out e st => exact hq e st
    | call f ds k ih => exact fun ⟨r, h1, h2⟩ => ⟨r, h1, ih r h2⟩
    | br b x y ihx ihy => exact fun h => h.imp (fun q => ⟨q.1, ihx q.2⟩) (fun q => ⟨q.1, ihy q.2⟩)
    | alt b x y ihx ihy => exact fun h => h.imp (fun q => ⟨q.1, ihx q.2⟩) ihy
    | any x y ihx ihy => exact fun h => ⟨ihx h.1, ihy h.2⟩
    | call2 f ds k kO ih ih2 => exact fun h => h.imp (fun ⟨r, h1, h2⟩ => ⟨r, h1, ih r h2⟩) fun ⟨sz, n, c, h1, h2⟩ => ⟨sz, n, c, h1, ih2 sz n c h2⟩
    | loop body st k ih => exact fun ⟨R, h1, h2⟩ => ⟨R, h1, fun e st' hr => ih e st' (h2 e st' hr)⟩
  refine mono _ (fun e st' h => ?_) hw
  obtain ⟨s, h1, h2⟩ := h
  cases e with
  | normal =>
    obtain ⟨x', rfl, h3, h4⟩ := h2
    exact ⟨x', h1, h3, h4⟩
  | exit id => exact ⟨s, h1, h2⟩
  | ret => exact ⟨s, h1, h2⟩

end Go.Proofs.YtcijnloneigfcaaGreatDoor
