/-
  The operations that only read and compute, and calls: what the evaluator says of them holds, whatever else has grown meanwhile. Condition: the caller's property of memory lasts (Stable).
-/
import Derived.Test.YtcijnloneigfcaaGreatDoorPvRuns

namespace Go.Proofs.YtcijnloneigfcaaGreatDoor
open Go.RowKit
variable {P : Program} {C : World → Prop} {Qr : V → Prop} {Qo : Ex → St → Prop}

def Reads (w : World) (S : Nat → Prop) (ρ : List Nat) (a : Act) (o : Oper) (g : Operand → D) : Prop :=
  ∀ x, x ∈ o.op.operands.toList → RdD w S ρ (a.eval x) (g x)

/-- operation o yields a value that reads as d, in every state that holds at least what h' says -/
def YA (P : Program) (C : World → Prop) (o : Oper) (g : Operand → D) (d : D) (h' : List Box) : Prop :=
  ∀ h'', Fr h' h'' → ∀ (w0 : World) (S0 : Nat → Prop) (a : Act) (w : World) (ρ : List Nat) (Q : Exit → Act → World → Prop), C w → AllS w S0 ρ →
    OkH w0 S0 w ρ h'' → Reads w (stab S0 ρ h'') ρ a o g →
    o.wp P a w (fun a' w' => ∃ v, a' = a.put o.dst v ∧ RdD w' (stab S0 ρ h'') ρ v d ∧ Below w.heap.size w w') Q

theorem ya_pure {o : Oper} {g : Operand → D} {d : D} {h' : List Box}
    (h : ∀ h'', Fr h' h'' → ∀ (w0 : World) (S0 : Nat → Prop) (a : Act) (w : World) (ρ : List Nat), OkH w0 S0 w ρ h'' → Reads w (stab S0 ρ h'') ρ a o g →
      ∃ v, (execOp a.eval o).run P w = .ok (.value v) w ∧ RdD w (stab S0 ρ h'') ρ v d) : YA P C o g d h' := by
  intro h'' hf w0 S0 a w ρ Q _ _ ok hr
  obtain ⟨v, h1, h2⟩ := h h'' hf w0 S0 a w ρ ok hr
  unfold Oper.wp
  rw [h1]
  exact ⟨v, rfl, h2, Below.refl _ _⟩

theorem go1_wp {h : List Box} {k : D → List Box → T} {r : Option (Bool × V)} (hw : (go1 h k r).wp P C Qr Qo) : ∃ v, r = some (true, v) ∧ (k (.val v) h).wp P C Qr Qo := by
  unfold go1 at hw
  split at hw
  · obtain ⟨h1, h2⟩ := of_brk hw; subst h1; exact ⟨_, rfl, h2⟩
  · exact hw.elim
theorem go2_wp {h : List Box} {k : D → List Box → T} {r : Option (Bool × D)} (hw : (go2 h k r).wp P C Qr Qo) : ∃ v, r = some (true, v) ∧ (k v h).wp P C Qr Qo := by
  unfold go2 at hw
  split at hw
  · obtain ⟨h1, h2⟩ := of_brk hw; subst h1; exact ⟨_, rfl, h2⟩
  · exact hw.elim
theorem go3_wp {h : List Box} {k : D → List Box → T} {r : Option D} (hw : (go3 h k r).wp P C Qr Qo) : ∃ v, r = some v ∧ (k v h).wp P C Qr Qo := by
  unfold go3 at hw
  split at hw
  · exact ⟨_, rfl, hw⟩
  · exact hw.elim

theorem goW_wp {h : List Box} {k : D → List Box → T} {r : Option (Bool × IntKind × Int)} (hw : (goW h k r).wp P C Qr Qo) : ∃ kd n m, r = some (true, kd, n) ∧ kd.wrap n = m ∧ (k (.val (.int kd m)) h).wp P C Qr Qo := by
  unfold goW at hw
  split at hw
  · rename_i c kd n
    obtain ⟨h1, h2⟩ := of_brk hw
    subst h1
    rcases h2 with ⟨h3, h4⟩ | h4
    · exact ⟨kd, n, n, rfl, wrap_fits h3, h4⟩
    · exact ⟨kd, n, _, rfl, rfl, h4⟩
  · exact hw.elim

theorem load_any {t : TypeId} {h h'' : List Box} (hf : Fr h h'') {dx : D} {v : V} (hl : loadV P t h dx = some (true, v)) {w0 w : World} {S0 : Nat → Prop} {ρ : List Nat} (ok : OkH w0 S0 w ρ h'') {x : Value}
    (hx : RdD w (stab S0 ρ h'') ρ x dx) : ∃ u, (Instr.loadAt t x).run P w = .ok u w ∧ Rd w (stab S0 ρ h'') u v := by
  unfold loadV at hl
  split at hl
  · obtain ⟨hb, hl⟩ := cond_some hl
    obtain ⟨β, hβ, rfl⟩ := hx.own_inv
    obtain ⟨ha, hc⟩ := hf.bx hb
    obtain ⟨vals, h1, h2⟩ := ok.cells ha hβ
    rw [hc] at h1
    have := load_run (b := β) (o := 0) hl h1 (fun j u hu => by rw [Nat.zero_add]; exact (h2 j u hu).1)
    rwa [Nat.zero_add] at this
  · have hx := hx.val_inv
    cases hx with
    | pt g1 g2 g3 g4 => exact load_run hl g3 g4
  · cases hl

theorem caps_rd {w : World} {S : Nat → Prop} {ρ : List Nat} {ev : Operand → Value} {g : Operand → D} : ∀ {l : List Operand} {vs : List V},
    (∀ x ∈ l, RdD w S ρ (ev x) (g x)) → valCaps (l.map g) = some vs → RdL w S (l.map ev) vs
  | [], vs, _, h => by cases h; exact .nil
  | x :: l, vs, hx, h => by
    simp only [List.map_cons] at h ⊢
    have hx0 := hx x (by simp)
    generalize g x = gx at h hx0
    cases gx with
    | val v =>
      simp only [valCaps] at h
      split at h
      · rename_i l' hl
        cases h
        exact .cons hx0.val_inv (caps_rd (fun y hy => hx y (by simp [hy])) hl)
      · cases h
    | unk => cases h
    | own => cases h
    | osl => cases h
    | clo => cases h

theorem owns_rd {w : World} {S : Nat → Prop} {ρ : List Nat} {ev : Operand → Value} {g : Operand → D} : ∀ {l : List Operand} {cs : List (Nat × Nat)},
    (∀ x ∈ l, RdD w S ρ (ev x) (g x)) → ownCaps (l.map g) = some cs → (l.map ev).length = cs.length ∧
      ∀ (i b off : Nat), cs[i]? = some (b, off) → ∃ β : Nat, ρ[b]? = some β ∧ (l.map ev)[i]? = some (Value.pointer (some ⟨β, off, none⟩))
  | [], cs, _, h => by cases h; exact ⟨rfl, fun i b off hi => by simp at hi⟩
  | x :: l, cs, hx, h => by
    simp only [List.map_cons] at h ⊢
    have hx0 := hx x (by simp)
    generalize g x = gx at h hx0
    cases gx with
    | own b off =>
      simp only [ownCaps] at h
      split at h
      · rename_i l' hl
        cases h
        obtain ⟨h1, h2⟩ := owns_rd (fun y hy => hx y (by simp [hy])) hl
        obtain ⟨β, hβ, he⟩ := hx0.own_inv
        refine ⟨by simpa using h1, fun i b' off' hi => ?_⟩
        cases i with
        | zero => simp at hi; obtain ⟨rfl, rfl⟩ := hi; exact ⟨β, hβ, by simp [he]⟩
        | succ i => simp at hi; obtain ⟨γ, g1, g2⟩ := h2 i b' off' hi; exact ⟨γ, g1, by simpa using g2⟩
      · cases h
    | unk => cases h
    | val => cases h
    | osl => cases h
    | clo => cases h

/-- an argument that is handed to a callee reads as data: the boxes that it leads to are frozen -/
theorem toV_rd {h h'' : List Box} (hf : Fr h h'') {d : D} (hd : okV h d = true) {w0 w : World} {S0 : Nat → Prop} {ρ : List Nat} (hS : AllS w S0 ρ) (ok : OkH w0 S0 w ρ h'')
    (hz : ∀ (b : Nat) (x : Box), b ∈ idsD d → h''[b]? = some x → x.frozen = true) {v : Value} (hv : RdD w (stab S0 ρ h'') ρ v d) : Rd w (stab S0 ρ h'') v (toV h d) := by
  cases hv with
  | unk => exact .unk
  | val hv => exact hv
  | own hβ =>
    rename_i b off β
    simp only [okV] at hd
    obtain ⟨ha, hc⟩ := hf.bx hd
    obtain ⟨vals, h1, h2⟩ := ok.cells ha hβ
    have hst := stab_frozen ok hS (bx_get ha) ha (hz b _ (by simp [idsD]) (bx_get ha)) hβ
    rw [hc] at h1
    have := @Rd.pt w (stab S0 ρ h'') β 0 off _ _ hst (ok.heap.low _ _ hβ).2 h1 (fun i v hv => by rw [Nat.zero_add]; exact (h2 i v hv).1)
    rw [Nat.zero_add] at this
    exact this
  | osl hβ hlc hs hn =>
    rename_i b off len sz β cap e n
    simp only [okV, Bool.and_eq_true, Nat.ble_eq, mul_cond] at hd
    obtain ⟨ha, hc⟩ := hf.bx hd.1
    obtain ⟨vals, h1, h2⟩ := ok.cells ha hβ
    have hst := stab_frozen ok hS (bx_get ha) ha (hz b _ (by simp [idsD]) (bx_get ha)) hβ
    rw [hc] at h1
    simp only [toV, mul_cond]
    refine .sl hst (ok.heap.low _ _ hβ).2 hlc (by simp; omega) ((h1.drop off).take (len * sz)) ?_
    intro i v hv
    rw [List.getElem?_take] at hv
    split at hv
    · rw [List.getElem?_drop] at hv
      exact (h2 _ _ hv).1
    · cases hv
  | clo hlen hcs =>
    rename_i f caps arr
    simp only [okV, List.all_eq_true] at hd
    refine .clos (RdL.mk (by simpa using hlen) fun i u x hu hx => ?_)
    rw [List.getElem?_map] at hx
    cases hci : caps[i]? with
    | none => rw [hci] at hx; cases hx
    | some c =>
      obtain ⟨b, off⟩ := c
      rw [hci] at hx
      cases hx
      obtain ⟨β, hβ, hu'⟩ := hcs i b off hci
      rw [hu] at hu'
      cases hu'
      have hmem : (b, off) ∈ caps := List.mem_of_getElem? hci
      obtain ⟨ha, hc⟩ := hf.bx (hd _ hmem)
      obtain ⟨vals, h1, h2⟩ := ok.cells ha hβ
      have hst := stab_frozen ok hS (bx_get ha) ha (hz b _ (by simp only [idsD, List.mem_map]; exact ⟨_, hmem, rfl⟩) (bx_get ha)) hβ
      rw [hc] at h1
      have := @Rd.pt w (stab S0 ρ h'') β 0 off _ _ hst (ok.heap.low _ _ hβ).2 h1 (fun i v hv => by rw [Nat.zero_add]; exact (h2 i v hv).1)
      rw [Nat.zero_add] at this
      exact this

theorem callFunc_run {f : FuncId} (h : okFn P f = true) (args : Array Value) (w : World) : (callFunc f args).run P w = .ok (.enter f args) w := by
  unfold okFn at h
  split at h
  · rename_i fn hfn
    simp only [Bool.and_eq_true, bne_iff_ne, ne_eq] at h
    unfold callFunc
    simp only [Sem.run_bind, run_program, Result.andThen_ok, hfn]
    rw [if_neg (by simpa using h.1)]
    cases hb : fn.body with
    | none => rw [hb] at h; simp at h
    | some c => simp
  · cases h

theorem args_rd {w : World} {S : Nat → Prop} {ev : Operand → Value} {g : Operand → D} {F : D → V} : ∀ {l : List Operand},
    (∀ x ∈ l, Rd w S (ev x) (F (g x))) → RdL w S (l.map ev) ((l.map g).map F)
  | [], _ => .nil
  | x :: _, h => .cons (h x (by simp)) (args_rd fun y hy => h y (by simp [hy]))

theorem call_ya {o : Oper} {c : Call} {fo : Operand} {g : Operand → D} {h h1 : List Box} {f : FuncId} {caps : List V} {k : D → List Box → T} (ho : o.op = .call c) (hc : c.callee = .value fo) (hf1 : Fr h h1)
    (hval : ∀ h'', Fr h1 h'' → ∀ (w0 w : World) (S0 : Nat → Prop) (ρ : List Nat) (v : Value), AllS w S0 ρ → OkH w0 S0 w ρ h'' → RdD w (stab S0 ρ h'') ρ v (g fo) →
      ∃ cs : List Value, v = .func (.func f) #[] cs.toArray ∧ RdL w (stab S0 ρ h'') cs caps)
    (hw : (callT h1 f (c.args.toList.map g) caps k).wp P C Qr Qo) : ∃ d h', Fr h h' ∧ YA P C o g d h' ∧ (k d h').wp P C Qr Qo := by
  unfold callT at hw
  obtain ⟨hall, r, hi, hw2⟩ := of_brk hw
  clear hw
  refine ⟨_, _, hf1.trans (Fr.frz _ _), ?_, hw2⟩
  intro h'' hf w0 S0 a w ρ Q hC hS ok hr
  have hf1' : Fr h1 h'' := (Fr.frz _ _).trans hf
  have hops : o.op.operands.toList = fo :: c.args.toList := by simp [ho, Op.operands, Call.operands, hc]
  have hfo := hr fo (by simp [hops])
  have hargs : ∀ x ∈ c.args.toList, RdD w (stab S0 ρ h'') ρ (a.eval x) (g x) := fun x hx => hr x (by simp [hops]; exact .inr (by simpa using hx))
  obtain ⟨cs, hv, hcs⟩ := hval h'' hf1' w0 w S0 ρ _ hS ok hfo
  have hA : RdL w (stab S0 ρ h'') (c.args.toList.map a.eval) ((c.args.toList.map g).map (toV h1)) := args_rd fun x hx => by
    refine toV_rd hf1' (List.all_eq_true.1 hall _ (List.mem_map_of_mem hx)) hS ok ?_ (hargs x hx)
    intro b y hb hy
    obtain ⟨z, hz, _, _, zf⟩ := hf.back hy
    exact zf (frz_frozen _ h1 b z (List.mem_flatMap.2 ⟨_, List.mem_map_of_mem hx, hb⟩) hz)
  have hcall := hi.2 w (stab S0 ρ h'') _ hC (stab_new ok hS) (hA.append hcs)
  have hrun : (execOp a.eval o).run P w = .ok (.enter f (c.args.toList.map a.eval ++ cs).toArray) w := by
    simp only [execOp, ho, resolve, hc, hv, Deferred.ofValue, Sem.run_bind, Sem.run_pure, Result.andThen_ok, invoke]
    rw [callFunc_run hi.1]
    congr 2
    apply Array.ext'
    simp
  unfold Oper.wp
  rw [hrun]
  show Calls P f _ w _
  refine hcall.mono ?_
  rintro e w' ⟨v, rfl, h2, h3⟩
  exact ⟨v, rfl, .val h2, h3⟩

end Go.Proofs.YtcijnloneigfcaaGreatDoor

namespace Go.Proofs.YtcijnloneigfcaaGreatDoor
open Go.RowKit
variable {P : Program} {C : World → Prop} {Qr : V → Prop} {Qo : Ex → St → Prop}

theorem fold_max {w : World} {S : Nat → Prop} {ρ : List Nat} {ev : Operand → Value} {g : Operand → D} {k : IntKind} : ∀ {l : List Operand} {acc : Int} {v : V},
    (∀ x ∈ l, RdD w S ρ (ev x) (g x)) → foldI iMax k acc (l.map g) = some (true, v) → ∃ n, v = .int k n ∧ ((l.map ev).foldlM Builtin.max2 (.int k acc)).run P w = .ok (.int k n) w
  | [], acc, v, _, h => by cases h; exact ⟨acc, rfl, rfl⟩
  | x :: l, acc, v, hx, h => by
    simp only [List.map_cons] at h ⊢
    have hx0 := hx x (by simp)
    unfold foldI at h
    split at h
    · cases ‹_ = []›
    · rename_i k' y r he
      simp only [List.cons.injEq] at he
      obtain ⟨he, rfl⟩ := he
      rw [he] at hx0
      have hv := hx0.int_inv
      obtain ⟨n, h1, h2⟩ := fold_max (acc := iMax acc y) (fun z hz => hx z (by simp [hz])) h
      refine ⟨n, h1, ?_⟩
      rw [List.foldlM_cons, Sem.run_bind, hv]
      show (Result.ok _ _).andThen _ = _
      exact h2
    · cases h

theorem fold_min {w : World} {S : Nat → Prop} {ρ : List Nat} {ev : Operand → Value} {g : Operand → D} {k : IntKind} : ∀ {l : List Operand} {acc : Int} {v : V},
    (∀ x ∈ l, RdD w S ρ (ev x) (g x)) → foldI iMin k acc (l.map g) = some (true, v) → ∃ n, v = .int k n ∧ ((l.map ev).foldlM Builtin.min2 (.int k acc)).run P w = .ok (.int k n) w
  | [], acc, v, _, h => by cases h; exact ⟨acc, rfl, rfl⟩
  | x :: l, acc, v, hx, h => by
    simp only [List.map_cons] at h ⊢
    have hx0 := hx x (by simp)
    unfold foldI at h
    split at h
    · cases ‹_ = []›
    · rename_i k' y r he
      simp only [List.cons.injEq] at he
      obtain ⟨he, rfl⟩ := he
      rw [he] at hx0
      have hv := hx0.int_inv
      obtain ⟨n, h1, h2⟩ := fold_min (acc := iMin acc y) (fun z hz => hx z (by simp [hz])) h
      refine ⟨n, h1, ?_⟩
      rw [List.foldlM_cons, Sem.run_bind, hv]
      show (Result.ok _ _).andThen _ = _
      exact h2
    · cases h

theorem len_rd {dx : D} {n : Nat} (h : lenD dx = some n) {w : World} {S : Nat → Prop} {ρ : List Nat} {x : Value} (hx : RdD w S ρ x dx) : ∃ a cap, x = .slice a n cap := by
  unfold lenD at h
  split at h
  · cases h
    have := hx.val_inv
    cases this
    exact ⟨_, _, rfl⟩
  · rename_i sz c
    obtain ⟨hb, h⟩ := cond_some h
    cases h
    have hpos := blt_iff.1 hb
    have := hx.val_inv
    cases this with
    | nilsl => rw [slen_eq hpos (show ([] : List V).length = 0 * sz by simp)]; exact ⟨_, _, rfl⟩
    | sl g1 g2 g3 g4 g5 g6 => rw [slen_eq hpos g4]; exact ⟨_, _, rfl⟩
  · cases h
    cases hx
    exact ⟨_, _, rfl⟩
  · cases h

theorem opt_rd {w : World} {S : Nat → Prop} {ρ : List Nat} {ev : Operand → Value} {g : Operand → D} {lo : Option Operand} (h : ∀ x, lo = some x → RdD w S ρ (ev x) (g x)) :
    (∀ d, lo.map g = some d → ∃ v, lo.map ev = some v ∧ RdD w S ρ v d) ∧ (lo.map g = none → lo.map ev = none) := by
  cases lo with
  | none => exact ⟨(fun d hd => by cases hd), fun _ => rfl⟩
  | some x => exact ⟨(fun d hd => by cases hd; exact ⟨_, rfl, h x rfl⟩), (fun hd => by cases hd)⟩

theorem evalA_yields {o : Oper} {g : Operand → D} {h : List Box} {k : D → List Box → T} (hw : (evalA P o g h k).wp P C Qr Qo) :
    ∃ d h', Fr h h' ∧ YA P C o g d h' ∧ (k d h').wp P C Qr Qo := by
  unfold evalA at hw
  split at hw
  · rename_i x ho
    exact ⟨_, _, Fr.refl _, ya_pure fun h'' hf w0 S0 a w ρ ok hr => ⟨a.eval x, by simp [execOp, ho], hr x (by simp [ho, Op.operands])⟩, hw⟩
  · rename_i x ho
    exact ⟨_, _, Fr.refl _, ya_pure fun h'' hf w0 S0 a w ρ ok hr => ⟨a.eval x, by simp [execOp, ho], hr x (by simp [ho, Op.operands])⟩, hw⟩
  · rename_i c x y ho
    split at hw
    · rename_i t hg
      rcases of_br hw with ⟨e1, hw2⟩ | ⟨e1, hw2⟩ <;> subst e1 <;> clear hw
      · refine ⟨_, _, Fr.refl _, ya_pure fun h'' hf w0 S0 a w ρ ok hr => ⟨a.eval x, ?_, hr x (by simp [ho, Op.operands])⟩, hw2⟩
        have hc := hr c (by simp [ho, Op.operands])
        rw [hg] at hc
        simp [execOp, ho, hc.bool_inv, asBool]
      · refine ⟨_, _, Fr.refl _, ya_pure fun h'' hf w0 S0 a w ρ ok hr => ⟨a.eval y, ?_, hr y (by simp [ho, Op.operands])⟩, hw2⟩
        have hc := hr c (by simp [ho, Op.operands])
        rw [hg] at hc
        simp [execOp, ho, hc.bool_inv, asBool]
    · exact hw.elim
  · rename_i t parts ho
    obtain ⟨v, hv, hw⟩ := go1_wp hw
    refine ⟨_, _, Fr.refl _, ya_pure fun h'' hf w0 S0 a w ρ ok hr => ?_, hw⟩
    obtain ⟨u, h1, h2⟩ := build_run hv (w := w) (S := stab S0 ρ h'') (ρ := ρ) (ev := a.eval) (fun x hx => hr x.2 (by simp [ho, Op.operands]; exact ⟨x.1, by simpa using hx⟩))
    exact ⟨u, by simp only [execOp, ho, Sem.run_bind, h1, Result.andThen_ok, Sem.run_pure], .val h2⟩
  · rename_i t x ho
    obtain ⟨v, hv, hw⟩ := go1_wp hw
    refine ⟨_, _, Fr.refl _, ya_pure fun h'' hf w0 S0 a w ρ ok hr => ?_, hw⟩
    obtain ⟨u, h1, h2⟩ := load_any hf hv ok (hr x (by simp [ho, Op.operands]))
    exact ⟨u, by simp only [execOp, ho, Sem.run_bind, h1, Result.andThen_ok, Sem.run_pure], .val h2⟩
  · rename_i op xt x y yt ho
    split at hw
    · rename_i r hb
      obtain ⟨kd, n, m, hr', hm, hw2⟩ := goW_wp hw
      clear hw
      cases hr'
      refine ⟨_, _, Fr.refl _, ya_pure fun h'' hf w0 S0 a w ρ ok hr => ⟨.int kd m, ?_, .val .int⟩, hw2⟩
      have h1 := binW_run (P := P) (xt := xt) (xo := x) (yo := y) hb (hr x (by simp [ho, Op.operands])) (hr y (by simp [ho, Op.operands]))
      simp only [execOp, ho]
      rw [Sem.run_bind, h1, hm]
      rfl
    · obtain ⟨v, hv, hw⟩ := go1_wp hw
      refine ⟨_, _, Fr.refl _, ya_pure fun h'' hf w0 S0 a w ρ ok hr => ?_, hw⟩
      obtain ⟨u, h1, h2⟩ := bin_run (xo := x) (yo := y) hv (hr x (by simp [ho, Op.operands])) (hr y (by simp [ho, Op.operands]))
      refine ⟨u, ?_, .val h2⟩
      simp only [execOp, ho]
      rw [Sem.run_bind, h1]
      rfl
  · rename_i op t x ho
    split at hw
    · rename_i r hb
      obtain ⟨kd, n, m, hr', hm, hw2⟩ := goW_wp hw
      clear hw
      cases hr'
      refine ⟨_, _, Fr.refl _, ya_pure fun h'' hf w0 S0 a w ρ ok hr => ⟨.int kd m, ?_, .val .int⟩, hw2⟩
      have h1 := unW_run (P := P) hb (hr x (by simp [ho, Op.operands]))
      simp only [execOp, ho, Sem.run_bind, h1, hm, Result.andThen_ok, Sem.run_pure]
    · obtain ⟨v, hv, hw⟩ := go1_wp hw
      refine ⟨_, _, Fr.refl _, ya_pure fun h'' hf w0 S0 a w ρ ok hr => ?_, hw⟩
      obtain ⟨u, h1, h2⟩ := un_run (P := P) hv (hr x (by simp [ho, Op.operands]))
      exact ⟨u, by simp only [execOp, ho, Sem.run_bind, h1, Result.andThen_ok, Sem.run_pure], .val h2⟩
  · rename_i src dst x ho
    obtain ⟨kd, n, m, hr', hm, hw⟩ := goW_wp hw
    refine ⟨_, _, Fr.refl _, ya_pure fun h'' hf w0 S0 a w ρ ok hr => ⟨.int kd m, ?_, .val .int⟩, hw⟩
    have h1 := convW_run hr' (hr x (by simp [ho, Op.operands]))
    simp only [execOp, ho, Sem.run_bind, h1, hm, Result.andThen_ok, Sem.run_pure]
  · rename_i f first captured ho
    obtain ⟨he, hw⟩ := of_chk hw
    obtain ⟨v, hv, hw⟩ := go3_wp hw
    refine ⟨_, _, Fr.refl _, ya_pure fun h'' hf w0 S0 a w ρ ok hr => ?_, hw⟩
    have hfirst : first = #[] := by simpa using he
    have hcap : ∀ x ∈ captured.toList, RdD w (stab S0 ρ h'') ρ (a.eval x) (g x) := fun x hx => hr x (by simp [ho, Op.operands, hfirst]; simpa using hx)
    refine ⟨.func (.func f) #[] (captured.map a.eval), by simp [execOp, ho, Instr.makeFunc, hfirst], ?_⟩
    have e : captured.map a.eval = (captured.toList.map a.eval).toArray := by apply Array.ext'; simp
    rw [e]
    unfold makeFuncD at hv
    split at hv
    · rename_i vs hvs
      cases hv
      exact .val (.clos (caps_rd hcap hvs))
    · split at hv
      · rename_i cs hcs
        cases hv
        obtain ⟨h1, h2⟩ := owns_rd hcap hcs
        exact .clo h1 h2
      · cases hv
  · rename_i t x lo hi ho
    obtain ⟨v, hv, hw⟩ := go2_wp hw
    refine ⟨_, _, Fr.refl _, ya_pure fun h'' hf w0 S0 a w ρ ok hr => ?_, hw⟩
    obtain ⟨r1, r2⟩ := opt_rd (w := w) (S := stab S0 ρ h'') (ρ := ρ) (ev := a.eval) (g := g) (lo := lo) (fun y hy => hr y (by simp [ho, Op.operands, hy]))
    obtain ⟨r3, r4⟩ := opt_rd (w := w) (S := stab S0 ρ h'') (ρ := ρ) (ev := a.eval) (g := g) (lo := hi) (fun y hy => hr y (by simp [ho, Op.operands, hy]))
    obtain ⟨u, h1, h2⟩ := slice_run hv (hr x (by simp [ho, Op.operands])) r1 r2 r3 r4
    exact ⟨u, by simp only [execOp, ho, Sem.run_bind, Option.map_none, h1, Result.andThen_ok, Sem.run_pure], h2⟩
  · rename_i s x f ho
    obtain ⟨v, hv, hw⟩ := go3_wp hw
    refine ⟨_, _, Fr.refl _, ya_pure fun h'' hf w0 S0 a w ρ ok hr => ?_, hw⟩
    obtain ⟨u, h1, h2⟩ := fieldAddr_run hv (hr x (by simp [ho, Op.operands]))
    exact ⟨u, by simp only [execOp, ho, Sem.run_bind, h1, Result.andThen_ok, Sem.run_pure], h2⟩
  · rename_i s x f ho
    obtain ⟨v, hv, hw⟩ := go1_wp hw
    refine ⟨_, _, Fr.refl _, ya_pure fun h'' hf w0 S0 a w ρ ok hr => ?_, hw⟩
    obtain ⟨u, h1, h2⟩ := field_run hv (hr x (by simp [ho, Op.operands]))
    exact ⟨u, by simp only [execOp, ho, Sem.run_bind, h1, Result.andThen_ok, Sem.run_pure], .val h2⟩
  · rename_i t x i ho
    obtain ⟨v, hv, hw⟩ := go2_wp hw
    refine ⟨_, _, Fr.refl _, ya_pure fun h'' hf w0 S0 a w ρ ok hr => ?_, hw⟩
    obtain ⟨u, h1, h2⟩ := indexAddr_run hv (hr x (by simp [ho, Op.operands])) (hr i (by simp [ho, Op.operands]))
    exact ⟨u, by simp only [execOp, ho, Sem.run_bind, h1, Result.andThen_ok, Sem.run_pure], h2⟩
  · rename_i t x i ho
    obtain ⟨v, hv, hw⟩ := go1_wp hw
    refine ⟨_, _, Fr.refl _, ya_pure fun h'' hf w0 S0 a w ρ ok hr => ?_, hw⟩
    obtain ⟨u, h1, h2⟩ := index_run hv (hr x (by simp [ho, Op.operands])) (hr i (by simp [ho, Op.operands]))
    exact ⟨u, by simp only [execOp, ho, Sem.run_bind, h1, Result.andThen_ok, Sem.run_pure], .val h2⟩
  · rename_i x i ho
    split at hw
    · rename_i l hg
      obtain ⟨hb, hw⟩ := of_chk hw
      refine ⟨_, _, Fr.refl _, ya_pure fun h'' hf w0 S0 a w ρ ok hr => ?_, hw⟩
      have hx := hr x (by simp [ho, Op.operands])
      rw [hg] at hx
      obtain ⟨arr, ha, hl⟩ := hx.val_inv.tup_inv
      obtain ⟨u, hu, hru⟩ := hl.get (nth_lt .unk (blt_iff.1 hb))
      refine ⟨u, ?_, .val hru⟩
      have hu' : arr.toArray[i]? = some u := by simpa using hu
      simp [execOp, ho, ha, Instr.extract, hu']
    · exact hw.elim
  · rename_i c ho
    split at hw
    · rename_i fo hc
      split at hw
      · rename_i f caps hg
        refine call_ya ho hc (Fr.refl h) ?_ hw
        intro h'' hf w0 w S0 ρ v hS ok hv
        rw [hg] at hv
        have hv := hv.val_inv
        cases hv with
        | clos hl => exact ⟨_, rfl, hl⟩
      · rename_i f caps hg
        obtain ⟨hb, hw⟩ := of_chk hw
        refine call_ya ho hc (Fr.frz _ h) ?_ hw
        intro h'' hf w0 w S0 ρ v hS ok hv
        rw [hg] at hv
        have := toV_rd ((Fr.frz (caps.map (·.1)) h).trans hf) (d := .clo f caps) hb hS ok (fun b y hbm hy => by
          obtain ⟨z, hz, _, _, zf⟩ := hf.back hy
          exact zf (frz_frozen _ h b z hbm hz)) hv
        simp only [toV] at this
        cases this with
        | clos hl => exact ⟨_, rfl, hl⟩
      · exact hw.elim
    · rename_i hc
      split at hw
      · rename_i x t hargs hts
        split at hw
        · rename_i e hu
          split at hw
          · rename_i n hn
            refine ⟨_, _, Fr.refl _, ya_pure fun h'' hf w0 S0 a w ρ ok hr => ?_, hw⟩
            have ha : c.args = #[x] := by apply Array.ext'; simpa using hargs
            have ht : c.argTypes = #[t] := by apply Array.ext'; simpa using hts
            obtain ⟨ad, cap, hx⟩ := len_rd hn (hr x (by simp [ho, Op.operands, Call.operands, ha, hc]))
            refine ⟨.int .i64 n, ?_, .val .int⟩
            simp [execOp, ho, resolve, hc, ha, ht, invoke, builtin, Builtin.len_, run_under hu, hx, goInt]
          · exact hw.elim
        · rename_i n e hu
          refine ⟨_, _, Fr.refl _, ya_pure fun h'' hf w0 S0 a w ρ ok hr => ?_, hw⟩
          have ha : c.args = #[x] := by apply Array.ext'; simpa using hargs
          have ht : c.argTypes = #[t] := by apply Array.ext'; simpa using hts
          refine ⟨.int .i64 n, ?_, .val .int⟩
          simp [execOp, ho, resolve, hc, ha, ht, invoke, builtin, Builtin.len_, run_under hu, goInt]
        · exact hw.elim
      · exact hw.elim
    · rename_i hc
      split at hw
      · rename_i kd x r hargs
        obtain ⟨v, hv, hw⟩ := go1_wp hw
        refine ⟨_, _, Fr.refl _, ya_pure fun h'' hf w0 S0 a w ρ ok hr => ?_, hw⟩
        cases hl : c.args.toList with
        | nil => rw [hl] at hargs; cases hargs
        | cons y l =>
          rw [hl] at hargs
          simp only [List.map_cons, List.cons.injEq] at hargs
          obtain ⟨hy, rfl⟩ := hargs
          have hall : ∀ z ∈ c.args.toList, RdD w (stab S0 ρ h'') ρ (a.eval z) (g z) := fun z hz => hr z (by simp [ho, Op.operands, Call.operands, hc]; simpa using hz)
          have hy0 := hall y (by simp [hl])
          rw [hy] at hy0
          obtain ⟨n, rfl, hn⟩ := fold_max (P := P) (fun z hz => hall z (by simp [hl, hz])) hv
          refine ⟨.int kd n, ?_, .val .int⟩
          have e : (c.args.map a.eval).toList = a.eval y :: l.map a.eval := by simp [hl]
          simp only [execOp, ho, resolve, hc, Sem.run_bind, Sem.run_pure, Result.andThen_ok, invoke, builtin, Builtin.max_, e, hy0.int_inv, hn]
      · exact hw.elim
    · rename_i hc
      split at hw
      · rename_i kd x r hargs
        obtain ⟨v, hv, hw⟩ := go1_wp hw
        refine ⟨_, _, Fr.refl _, ya_pure fun h'' hf w0 S0 a w ρ ok hr => ?_, hw⟩
        cases hl : c.args.toList with
        | nil => rw [hl] at hargs; cases hargs
        | cons y l =>
          rw [hl] at hargs
          simp only [List.map_cons, List.cons.injEq] at hargs
          obtain ⟨hy, rfl⟩ := hargs
          have hall : ∀ z ∈ c.args.toList, RdD w (stab S0 ρ h'') ρ (a.eval z) (g z) := fun z hz => hr z (by simp [ho, Op.operands, Call.operands, hc]; simpa using hz)
          have hy0 := hall y (by simp [hl])
          rw [hy] at hy0
          obtain ⟨n, rfl, hn⟩ := fold_min (P := P) (fun z hz => hall z (by simp [hl, hz])) hv
          refine ⟨.int kd n, ?_, .val .int⟩
          have e : (c.args.map a.eval).toList = a.eval y :: l.map a.eval := by simp [hl]
          simp only [execOp, ho, resolve, hc, Sem.run_bind, Sem.run_pure, Result.andThen_ok, invoke, builtin, Builtin.min_, e, hy0.int_inv, hn]
      · exact hw.elim
    · exact hw.elim
  · exact hw.elim

end Go.Proofs.YtcijnloneigfcaaGreatDoor
