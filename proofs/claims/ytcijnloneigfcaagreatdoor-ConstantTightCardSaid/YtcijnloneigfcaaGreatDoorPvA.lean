/-
  The operations that only read and compute, and calls: what the evaluator says of them holds, whatever else has grown meanwhile. Condition: the caller's property of memory lasts (Stable).
-/
import Derived.Test.YtcijnloneigfcaaGreatDoorPvRuns3
namespace Go.Proofs.YtcijnloneigfcaaGreatDoor
open Go.RowKit
variable {P : Program} {C : World → Prop} {Qr : V → Prop} {Qo : Ex → St → Prop}

def Reads (w : World) (S : Nat → Prop) (ρ : List Nat) (a : Act) (o : Oper) (g : Operand → D) : Prop :=
  ∀ x, x ∈ o.op.operands.toList → RdD w S ρ (a.eval x) (g x)

/-- operation o yields a value that reads as d, in every state that holds at least what h' says -/
def YA (P : Program) (C : World → Prop) (o : Oper) (g : Operand → D) (d : D) (h' : List Box) : Prop :=
  ∀ h'', Fr h' h'' → ∀ (w0 : World) (S0 : Nat → Prop) (a : Act) (w : World) (ρ : List Nat) (Q : Exit → Act → World → Prop), C w → AllS w S0 ρ →
    OkH w0 S0 w ρ h'' → Reads w (stab S0 ρ h'') ρ a o g →
    o.wp P a w (fun a' w' => ∃ v, a' = a.put o.dst v ∧ RdD w' (stab S0 ρ h'') ρ v d ∧ Below w.heap.size w w') Q

theorem ya_pure {o : Oper} {g : Operand → D} {d : D} {h' : List Box}
    (h : ∀ h'', Fr h' h'' → ∀ (w0 : World) (S0 : Nat → Prop) (a : Act) (w : World) (ρ : List Nat), OkH w0 S0 w ρ h'' → Reads w (stab S0 ρ h'') ρ a o g →
      ∃ v, (execOp a.eval o).run P w = .ok (.value v) w ∧ RdD w (stab S0 ρ h'') ρ v d) : YA P C o g d h' := by
  intro h'' hf w0 S0 a w ρ Q _ _ ok hr
  obtain ⟨v, h1, h2⟩ := h h'' hf w0 S0 a w ρ ok hr
  unfold Oper.wp
  rw [h1]
  exact ⟨v, rfl, h2, Below.refl _ _⟩

theorem go1_wp {h : List Box} {k : D → List Box → T} {r : Option (Bool × V)} (hw : (go1 h k r).wp P C Qr Qo) : ∃ v, r = some (true, v) ∧ (k (.val v) h).wp P C Qr Qo := by
  unfold go1 at hw
  split at hw
  · obtain ⟨h1, h2⟩ := of_brk hw; subst h1; exact ⟨_, rfl, h2⟩
  · exact hw.elim
theorem go2_wp {h : List Box} {k : D → List Box → T} {r : Option (Bool × D)} (hw : (go2 h k r).wp P C Qr Qo) : ∃ v, r = some (true, v) ∧ (k v h).wp P C Qr Qo := by
  unfold go2 at hw
  split at hw
  · obtain ⟨h1, h2⟩ := of_brk hw; subst h1; exact ⟨_, rfl, h2⟩
  · exact hw.elim
theorem go3_wp {h : List Box} {k : D → List Box → T} {r : Option D} (hw : (go3 h k r).wp P C Qr Qo) : ∃ v, r = some v ∧ (k v h).wp P C Qr Qo := by
  unfold go3 at hw
  split at hw
  · exact ⟨_, rfl, hw⟩
  · exact hw.elim

theorem goW_wp {h : List Box} {k : D → List Box → T} {r : Option (Bool × IntKind × Int)} (hw : (goW h k r).wp P C Qr Qo) : ∃ kd n m, r = some (true, kd, n) ∧ kd.wrap n = m ∧ (k (.val (.int kd m)) h).wp P C Qr Qo := by
  unfold goW at hw
  split at hw
  · rename_i c kd n
    obtain ⟨h1, h2⟩ := of_brk hw
    subst h1
    rcases h2 with ⟨h3, h4⟩ | h4
    · exact ⟨kd, n, n, rfl, wrap_fits h3, h4⟩
    · exact ⟨kd, n, _, rfl, rfl, h4⟩
  · exact hw.elim

theorem load_any {t : TypeId} {h h'' : List Box} (hf : Fr h h'') {dx : D} {v : V} (hl : loadV P t h dx = some (true, v)) {w0 w : World} {S0 : Nat → Prop} {ρ : List Nat} (ok : OkH w0 S0 w ρ h'') {x : Value}
    (hx : RdD w (stab S0 ρ h'') ρ x dx) : ∃ u, (Instr.loadAt t x).run P w = .ok u w ∧ Rd w (stab S0 ρ h'') u v := by
  unfold loadV at hl
  split at hl
  · obtain ⟨hb, hl⟩ := cond_some hl
    obtain ⟨β, hβ, rfl⟩ := hx.own_inv
    obtain ⟨ha, hc⟩ := hf.bx hb
    obtain ⟨vals, h1, h2⟩ := ok.cells ha hβ
    rw [hc] at h1
    have := load_run (b := β) (o := 0) hl h1 (fun j u hu => by rw [Nat.zero_add]; exact (h2 j u hu).1)
    rwa [Nat.zero_add] at this
  · have hx := hx.val_inv
    cases hx with
    | pt g1 g2 g3 g4 => exact load_run hl g3 g4
  · cases hl

theorem caps_rd {w : World} {S : Nat → Prop} {ρ : List Nat} {ev : Operand → Value} {g : Operand → D} : ∀ {l : List Operand} {vs : List V},
    (∀ x ∈ l, RdD w S ρ (ev x) (g x)) → valCaps (l.map g) = some vs → RdL w S (l.map ev) vs
  | [], vs, _, h => by cases h; exact .nil
  | x :: l, vs, hx, h => by
    simp only [List.map_cons] at h ⊢
    have hx0 := hx x (by simp)
    generalize g x = gx at h hx0
    cases gx with
    | val v =>
      simp only [valCaps] at h
      split at h
      · rename_i l' hl
        cases h
        exact .cons hx0.val_inv (caps_rd (fun y hy => hx y (by simp [hy])) hl)
      · cases h
    | unk => cases h
    | own => cases h
    | osl => cases h
    | clo => cases h

theorem owns_rd {w : World} {S : Nat → Prop} {ρ : List Nat} {ev : Operand → Value} {g : Operand → D} : ∀ {l : List Operand} {cs : List (Nat × Nat)},
    (∀ x ∈ l, RdD w S ρ (ev x) (g x)) → ownCaps (l.map g) = some cs → (l.map ev).length = cs.length ∧
      ∀ (i b off : Nat), cs[i]? = some (b, off) → ∃ β : Nat, ρ[b]? = some β ∧ (l.map ev)[i]? = some (Value.pointer (some ⟨β, off, none⟩))
  | [], cs, _, h => by cases h; exact ⟨rfl, fun i b off hi => by simp at hi⟩
  | x :: l, cs, hx, h => by
    simp only [List.map_cons] at h ⊢
    have hx0 := hx x (by simp)
    generalize g x = gx at h hx0
    cases gx with
    | own b off =>
      simp only [ownCaps] at h
      split at h
      · rename_i l' hl
        cases h
        obtain ⟨h1, h2⟩ := owns_rd (fun y hy => hx y (by simp [hy])) hl
        obtain ⟨β, hβ, he⟩ := hx0.own_inv
        refine ⟨by simpa using h1, fun i b' off' hi => ?_⟩
        cases i with
        | zero => simp at hi; obtain ⟨rfl, rfl⟩ := hi; exact ⟨β, hβ, by simp [he]⟩
        | succ i => simp at hi; obtain ⟨γ, g1, g2⟩ := h2 i b' off' hi; exact ⟨γ, g1, by simpa using g2⟩
      · cases h
    | unk => cases h
    | val => cases h
    | osl => cases h
    | clo => cases h

/-- an argument that is handed to a callee reads as data: the boxes that it leads to are frozen -/
theorem toV_rd {h h'' : List Box} (hf : Fr h h'') {d : D} (hd : okV h d = true) {w0 w : World} {S0 : Nat → Prop} {ρ : List Nat} (hS : AllS w S0 ρ) (ok : OkH w0 S0 w ρ h'')
    (hz : ∀ (b : Nat) (x : Box), b ∈ idsD d → h''[b]? = some x → x.frozen = true) {v : Value} (hv : RdD w (stab S0 ρ h'') ρ v d) : Rd w (stab S0 ρ h'') v (toV h d) := by
  cases hv with
  | unk => exact .unk
  | val hv => exact hv
  | own hβ =>
    rename_i b off β
    simp only [okV] at hd
    obtain ⟨ha, hc⟩ := hf.bx hd
    obtain ⟨vals, h1, h2⟩ := ok.cells ha hβ
    have hst := stab_frozen ok hS (bx_get ha) ha (hz b _ (by simp [idsD]) (bx_get ha)) hβ
    rw [hc] at h1
    have := @Rd.pt w (stab S0 ρ h'') β 0 off _ _ hst (ok.heap.low _ _ hβ).2 h1 (fun i v hv => by rw [Nat.zero_add]; exact (h2 i v hv).1)
    rw [Nat.zero_add] at this
    exact this
  | osl hβ hlc hs hn =>
    rename_i b off len sz β cap e n
    simp only [okV, Bool.and_eq_true, Nat.ble_eq, mul_cond] at hd
    obtain ⟨ha, hc⟩ := hf.bx hd.1
    obtain ⟨vals, h1, h2⟩ := ok.cells ha hβ
    have hst := stab_frozen ok hS (bx_get ha) ha (hz b _ (by simp [idsD]) (bx_get ha)) hβ
    rw [hc] at h1
    simp only [toV, mul_cond]
    refine .sl hst (ok.heap.low _ _ hβ).2 hlc (by simp; omega) ((h1.drop off).take (len * sz)) ?_
    intro i v hv
    rw [List.getElem?_take] at hv
    split at hv
    · rw [List.getElem?_drop] at hv
      exact (h2 _ _ hv).1
    · cases hv
  | clo hlen hcs =>
    rename_i f caps arr
    simp only [okV, List.all_eq_true] at hd
    refine .clos (RdL.mk (by simpa using hlen) fun i u x hu hx => ?_)
    rw [List.getElem?_map] at hx
    cases hci : caps[i]? with
    | none => rw [hci] at hx; cases hx
    | some c =>
      obtain ⟨b, off⟩ := c
      rw [hci] at hx
      cases hx
      obtain ⟨β, hβ, hu'⟩ := hcs i b off hci
      rw [hu] at hu'
      cases hu'
      have hmem : (b, off) ∈ caps := List.mem_of_getElem? hci
      obtain ⟨ha, hc⟩ := hf.bx (hd _ hmem)
      obtain ⟨vals, h1, h2⟩ := ok.cells ha hβ
      have hst := stab_frozen ok hS (bx_get ha) ha (hz b _ (by simp only [idsD, List.mem_map]; exact ⟨_, hmem, rfl⟩) (bx_get ha)) hβ
      rw [hc] at h1
      have := @Rd.pt w (stab S0 ρ h'') β 0 off _ _ hst (ok.heap.low _ _ hβ).2 h1 (fun i v hv => by rw [Nat.zero_add]; exact (h2 i v hv).1)
      rw [Nat.zero_add] at this
      exact this

theorem callFunc_run {f : FuncId} (h : okFn P f = true) (args : Array Value) (w : World) : (callFunc f args).run P w = .ok (.enter f args) w := by
  unfold okFn at h
  split at h
  · rename_i fn hfn
    simp only [Bool.and_eq_true, bne_iff_ne, ne_eq] at h
    unfold callFunc
    simp only [Sem.run_bind, run_program, Result.andThen_ok, hfn]
    rw [if_neg (by simpa using h.1)]
    cases hb : fn.body with
    | none => rw [hb] at h; simp at h
    | some c => simp
  · cases h

theorem args_rd {w : World} {S : Nat → Prop} {ev : Operand → Value} {g : Operand → D} {F : D → V} : ∀ {l : List Operand},
    (∀ x ∈ l, Rd w S (ev x) (F (g x))) → RdL w S (l.map ev) ((l.map g).map F)
  | [], _ => .nil
  | x :: _, h => .cons (h x (by simp)) (args_rd fun y hy => h y (by simp [hy]))

theorem call_ya {o : Oper} {c : Call} {fo : Operand} {g : Operand → D} {h h1 : List Box} {f : FuncId} {caps : List V} {k : D → List Box → T} (ho : o.op = .call c) (hc : c.callee = .value fo) (hf1 : Fr h h1)
    (hval : ∀ h'', Fr h1 h'' → ∀ (w0 w : World) (S0 : Nat → Prop) (ρ : List Nat) (v : Value), AllS w S0 ρ → OkH w0 S0 w ρ h'' → RdD w (stab S0 ρ h'') ρ v (g fo) →
      ∃ cs : List Value, v = .func (.func f) #[] cs.toArray ∧ RdL w (stab S0 ρ h'') cs caps)
    (hw : (callT h1 f (c.args.toList.map g) caps k).wp P C Qr Qo) : ∃ d h', Fr h h' ∧ YA P C o g d h' ∧ (k d h').wp P C Qr Qo := by
  unfold callT at hw
  obtain ⟨hall, r, hi, hw2⟩ := of_brk hw
  clear hw
  refine ⟨_, _, hf1.trans (Fr.frz _ _), ?_, hw2⟩
  intro h'' hf w0 S0 a w ρ Q hC hS ok hr
  have hf1' : Fr h1 h'' := (Fr.frz _ _).trans hf
  have hops : o.op.operands.toList = fo :: c.args.toList := by simp [ho, Op.operands, Call.operands, hc]
  have hfo := hr fo (by simp [hops])
  have hargs : ∀ x ∈ c.args.toList, RdD w (stab S0 ρ h'') ρ (a.eval x) (g x) := fun x hx => hr x (by simp [hops]; exact .inr (by simpa using hx))
  obtain ⟨cs, hv, hcs⟩ := hval h'' hf1' w0 w S0 ρ _ hS ok hfo
  have hA : RdL w (stab S0 ρ h'') (c.args.toList.map a.eval) ((c.args.toList.map g).map (toV h1)) := args_rd fun x hx => by
    refine toV_rd hf1' (List.all_eq_true.1 hall _ (List.mem_map_of_mem hx)) hS ok ?_ (hargs x hx)
    intro b y hb hy
    obtain ⟨z, hz, _, _, zf⟩ := hf.back hy
    exact zf (frz_frozen _ h1 b z (List.mem_flatMap.2 ⟨_, List.mem_map_of_mem hx, hb⟩) hz)
  have hcall := hi.2 w (stab S0 ρ h'') _ hC (stab_new ok hS) (hA.append hcs)
  have hrun : (execOp a.eval o).run P w = .ok (.enter f (c.args.toList.map a.eval ++ cs).toArray) w := by
    simp only [execOp, ho, resolve, hc, hv, Deferred.ofValue, Sem.run_bind, Sem.run_pure, Result.andThen_ok, invoke]
    rw [callFunc_run hi.1]
    congr 2
    apply Array.ext'
    simp
  unfold Oper.wp
  rw [hrun]
  show Calls P f _ w _
  refine hcall.mono ?_
  rintro e w' ⟨v, rfl, h2, h3⟩
  exact ⟨v, rfl, .val h2, h3⟩

end Go.Proofs.YtcijnloneigfcaaGreatDoor
