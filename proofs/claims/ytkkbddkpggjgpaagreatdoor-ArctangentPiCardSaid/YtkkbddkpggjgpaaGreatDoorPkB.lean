/-
  Lower layers: what functions of the program compute, and plain facts. Conditions: as the theorems say.
-/
import Derived.Laws.Append
import Derived.Test.YtkkbddkpggjgpaaGreatDoorPkA
set_option linter.unusedVariables false
set_option linter.unusedSimpArgs false
namespace Go.Proofs.YtkkbddkpggjgpaaGreatDoor
open Go.RowKit
variable {P:Program} {C:World→Prop} {Qr:V→Prop} {Qo:Ex→St→Prop}
def Reads (w:World)(S:Nat→Prop)(ρ:List Nat)(a:Act)(o:Oper)(g:Operand→D):Prop :=
 ∀ x,x∈o.op.operands.toList→RdD w S ρ (a.eval x) (g x)
def YA (P:Program)(C:World→Prop)(o:Oper)(g:Operand→D)(d:D)(h':List Box):Prop :=
 ∀ h'',Fr h' h''→∀ (w0:Base) (S0:Nat→Prop) (a:Act) (w:World) (ρ:List Nat) (Q:Exit→Act→World→Prop),C w→AllS w S0 ρ →
  OkH w0 S0 w ρ h''→Reads w (stab S0 ρ h'') ρ a o g →
  o.wp P a w (fun a' w'=>∃ v,a'=a.put o.dst v∧RdD w' (stab S0 ρ h'') ρ v d∧Below w.heap.size w w') Q
theorem ya_pure {o:Oper}{g:Operand→D}{d:D}{h':List Box}
  (h:∀ h'',Fr h' h''→∀ (w0:Base) (S0:Nat→Prop) (a:Act) (w:World) (ρ:List Nat),OkH w0 S0 w ρ h''→Reads w (stab S0 ρ h'') ρ a o g →
   ∃ v,(execOp a.eval o).run P w=.ok (.value v) w∧RdD w (stab S0 ρ h'') ρ v d):YA P C o g d h':=by
 intro h'' hf w0 S0 a w ρ Q _ _ ok hr
 obtain⟨v,h1,h2⟩:=h h'' hf w0 S0 a w ρ ok hr
 unfold Oper.wp
 rw[h1]
 exact⟨v,rfl,h2,Below.refl _ _⟩
theorem go1_wp {h:List Box}{k:D→List Box→T}{r:Option (Bool × V)}(hw:(go1 h k r).wp P C Qr Qo):∃ v,r=some (true,v)∧(k (.val v) h).wp P C Qr Qo:=by
 unfold go1 at hw
 split at hw
 ·obtain⟨h1,h2⟩:=of_brk hw;subst h1;exact⟨_,rfl,h2⟩
 ·exact hw.elim
theorem go2_wp {h:List Box}{k:D→List Box→T}{r:Option (Bool × D)}(hw:(go2 h k r).wp P C Qr Qo):∃ v,r=some (true,v)∧(k v h).wp P C Qr Qo:=by
 unfold go2 at hw
 split at hw
 ·obtain⟨h1,h2⟩:=of_brk hw;subst h1;exact⟨_,rfl,h2⟩
 ·exact hw.elim
theorem go3_wp {h:List Box}{k:D→List Box→T}{r:Option D}(hw:(go3 h k r).wp P C Qr Qo):∃ v,r=some v∧(k v h).wp P C Qr Qo:=by
 unfold go3 at hw
 split at hw
 ·exact⟨_,rfl,hw⟩
 ·exact hw.elim
theorem goJ_wp {h:List Box}{k:D→List Box→T}{t:TypeId}{dx:D}{kd:IntKind}{i:Int}:∀ {n:Nat},(goJ P h k t dx kd i n).wp P C Qr Qo→∃ v,indexV P t dx (.val (.int kd i))=some (true,v)∧(k (.val v) h).wp P C Qr Qo
 | 0,hw=>hw.elim
 | n+1,hw=>by
  rcases hw with ⟨h1,h2⟩ | h2
  ·have e:i=(n:Int):=by simpa [iEq] using h1
   obtain⟨v,hv,hk⟩:=go1_wp h2
   exact⟨v,by rw[e];exact hv,hk⟩
  ·exact goJ_wp h2
theorem goI_wp {h:List Box}{k:D→List Box→T}{t:TypeId}{dx di:D}(hw:(goI P h k t dx di).wp P C Qr Qo):∃ v,indexV P t dx di=some (true,v)∧(k (.val v) h).wp P C Qr Qo:=by
 rcases hw with ⟨_,h2⟩ | h2
 ·exact go1_wp h2
 ·split at h2
  ·exact goJ_wp h2
  ·exact h2.elim
theorem goW_wp {h:List Box}{k:D→List Box→T}{r:Option (Bool × IntKind × Int)}(hw:(goW h k r).wp P C Qr Qo):∃ kd n m,r=some (true,kd,n)∧kd.wrap n=m∧(k (.val (.int kd m)) h).wp P C Qr Qo:=by
 unfold goW at hw
 split at hw
 ·rename_i c kd n
  obtain⟨h1,h2⟩:=of_brk hw
  subst h1
  rcases h2 with ⟨h3,h4⟩ | h4
  ·exact⟨kd,n,n,rfl,wrap_fits h3,h4⟩
  ·exact⟨kd,n,_,rfl,rfl,h4⟩
 ·exact hw.elim
theorem load_any {t:TypeId}{h h'':List Box}(hf:Fr h h''){dx:D}{v:V}(hl:loadV P t h dx=some (true,v)){w0:Base}{w:World}{S0:Nat→Prop}{ρ:List Nat}(ok:OkH w0 S0 w ρ h''){x:Value}
  (hx:RdD w (stab S0 ρ h'') ρ x dx):∃ u,(Instr.loadAt t x).run P w=.ok u w∧Rd w (stab S0 ρ h'') u v:=by
 unfold loadV at hl
 split at hl
 ·obtain⟨hb,hl⟩:=cond_some hl
  obtain⟨β,hβ,rfl⟩:=hx.own_inv
  obtain⟨ha,hc⟩:=hf.bx hb
  obtain⟨vals,h1,h2⟩:=ok.cells ha hβ
  rw[hc] at h1
  have:=load_run (b:=β) (o:=0) hl h1 (fun j u hu=>by rw[Nat.zero_add];exact (h2 j u hu).1)
  rwa [Nat.zero_add] at this
 ·have hx:=hx.val_inv
  cases hx with
  | pt g1 g2 g3 g4=>exact load_run hl g3 g4
 ·cases hl
theorem caps_rd {w:World}{S:Nat→Prop}{ρ:List Nat}{ev:Operand→Value}{g:Operand→D}:∀ {l:List Operand} {vs:List V},
  (∀ x∈l,RdD w S ρ (ev x) (g x))→valCaps (l.map g)=some vs→RdL w S (l.map ev) vs
 | [],vs,_,h=>by cases h;exact .nil
 | x::l,vs,hx,h=>by
  simp only [List.map_cons] at h ⊢
  have hx0:=hx x (by simp)
  generalize g x=gx at h hx0
  cases gx with
  | val v =>
   simp only [valCaps] at h
   split at h
   ·rename_i l' hl
    cases h
    exact .cons hx0.val_inv (caps_rd (fun y hy=>hx y (by simp [hy])) hl)
   ·cases h
  | unk=>cases h
  | own=>cases h
  | osl=>cases h
  | clo=>cases h
  | oslp=>cases h
theorem owns_rd {w:World}{S:Nat→Prop}{ρ:List Nat}{ev:Operand→Value}{g:Operand→D}:∀ {l:List Operand} {cs:List (Nat × Nat)},
  (∀ x∈l,RdD w S ρ (ev x) (g x))→ownCaps (l.map g)=some cs→(l.map ev).length=cs.length ∧
   ∀ (i b off:Nat),cs[i]?=some (b,off)→∃ β:Nat,ρ[b]?=some β∧(l.map ev)[i]?=some (Value.pointer (some ⟨β,off,none⟩))
 | [],cs,_,h=>by cases h;exact⟨rfl,fun i b off hi=>by simp at hi⟩
 | x::l,cs,hx,h=>by
  simp only [List.map_cons] at h ⊢
  have hx0:=hx x (by simp)
  generalize g x=gx at h hx0
  cases gx with
  | own b off =>
   simp only [ownCaps] at h
   split at h
   ·rename_i l' hl
    cases h
    obtain⟨h1,h2⟩:=owns_rd (fun y hy=>hx y (by simp [hy])) hl
    obtain⟨β,hβ,he⟩:=hx0.own_inv
    refine⟨by simpa using h1,fun i b' off' hi=>?_⟩
    cases i with
    | zero=>simp at hi;obtain⟨rfl,rfl⟩:=hi;exact⟨β,hβ,by simp [he]⟩
    | succ i=>simp at hi;obtain⟨γ,g1,g2⟩:=h2 i b' off' hi;exact⟨γ,g1,by simpa using g2⟩
   ·cases h
  | unk=>cases h
  | val=>cases h
  | osl=>cases h
  | clo=>cases h
  | oslp=>cases h
theorem toV_rd {h h'':List Box}(hf:Fr h h''){d:D}(hd:okV h d=true){w0:Base}{w:World}{S0:Nat→Prop}{ρ:List Nat}(hS:AllS w S0 ρ)(ok:OkH w0 S0 w ρ h'')
  (hz:∀ (b:Nat) (x:Box),b∈idsD d→h''[b]?=some x→x.frozen=true) {v:Value} (hv:RdD w (stab S0 ρ h'') ρ v d):Rd w (stab S0 ρ h'') v (toV h d):=by
 cases hv with
 | unk=>exact .unk
 | val hv=>exact hv
 | own hβ =>
  rename_i b off β
  simp only [okV] at hd
  obtain⟨ha,hc⟩:=hf.bx hd
  obtain⟨vals,h1,h2⟩:=ok.cells ha hβ
  have hst:=stab_frozen ok hS (bx_get ha) ha (hz b _ (by simp [idsD]) (bx_get ha)) hβ
  rw[hc] at h1
  have:=@Rd.pt w (stab S0 ρ h'') β 0 off _ _ hst (ok.heap.low _ _ hβ).2 h1 (fun i v hv=>by rw[Nat.zero_add];exact (h2 i v hv).1)
  rw[Nat.zero_add] at this
  exact this
 | osl hβ hlc hs hn =>
  rename_i b off len sz β cap e n
  simp only [okV,Bool.and_eq_true,Nat.ble_eq,mul_cond] at hd
  obtain⟨ha,hc⟩:=hf.bx hd.1
  obtain⟨vals,h1,h2⟩:=ok.cells ha hβ
  have hst:=stab_frozen ok hS (bx_get ha) ha (hz b _ (by simp [idsD]) (bx_get ha)) hβ
  rw[hc] at h1
  simp only [toV,mul_cond]
  refine .sl hst (ok.heap.low _ _ hβ).2 hlc (by simp;omega) ((h1.drop off).take (len*sz)) ?_
  intro i v hv
  rw[List.getElem?_take] at hv
  split at hv
  ·rw[List.getElem?_drop] at hv
   exact (h2 _ _ hv).1
  ·cases hv
 | oslp=>exact .unk
 | clo hlen hcs =>
  rename_i f caps arr
  simp only [okV,List.all_eq_true] at hd
  refine .clos (RdL.mk (by simpa using hlen) fun i u x hu hx=>?_)
  rw[List.getElem?_map] at hx
  cases hci:caps[i]? with
  | none=>rw[hci] at hx;cases hx
  | some c =>
   obtain⟨b,off⟩:=c
   rw[hci] at hx
   cases hx
   obtain⟨β,hβ,hu'⟩:=hcs i b off hci
   rw[hu] at hu'
   cases hu'
   have hmem:(b,off)∈caps:=List.mem_of_getElem? hci
   obtain⟨ha,hc⟩:=hf.bx (hd _ hmem)
   obtain⟨vals,h1,h2⟩:=ok.cells ha hβ
   have hst:=stab_frozen ok hS (bx_get ha) ha (hz b _ (by simp only [idsD,List.mem_map];exact⟨_,hmem,rfl⟩) (bx_get ha)) hβ
   rw[hc] at h1
   have:=@Rd.pt w (stab S0 ρ h'') β 0 off _ _ hst (ok.heap.low _ _ hβ).2 h1 (fun i v hv=>by rw[Nat.zero_add];exact (h2 i v hv).1)
   rw[Nat.zero_add] at this
   exact this
theorem callFunc_run {f:FuncId}(h:okFn P f=true)(args:Array Value)(w:World):(callFunc f args).run P w=.ok (.enter f args) w:=by
 unfold okFn at h
 split at h
 ·rename_i fn hfn
  simp only [Bool.and_eq_true,bne_iff_ne,ne_eq] at h
  unfold callFunc
  simp only [Sem.run_bind,run_program,Result.andThen_ok,hfn]
  rw[if_neg (by simpa using h.1)]
  cases hb:fn.body with
  | none=>rw[hb] at h;simp at h
  | some c=>simp
 ·cases h
theorem args_rd {w:World}{S:Nat→Prop}{ev:Operand→Value}{g:Operand→D}{F:D→V}:∀ {l:List Operand},
  (∀ x∈l,Rd w S (ev x) (F (g x)))→RdL w S (l.map ev) ((l.map g).map F)
 | [],_=>.nil
 | x::_,h=>.cons (h x (by simp)) (args_rd fun y hy=>h y (by simp [hy]))
theorem call_ya {o:Oper}{c:Call}{fo:Operand}{g:Operand→D}{h h1:List Box}{f:FuncId}{caps:List V}{k:D→List Box→T}(ho:o.op=.call c)(hc:c.callee=.value fo)(hf1:Fr h h1)
  (hval:∀ h'',Fr h1 h''→∀ (w0:Base) (w:World) (S0:Nat→Prop) (ρ:List Nat) (v:Value),AllS w S0 ρ→OkH w0 S0 w ρ h''→RdD w (stab S0 ρ h'') ρ v (g fo) →
   ∃ cs:List Value,v=.func (.func f) #[] cs.toArray∧RdL w (stab S0 ρ h'') cs caps)
  (hw:(callT h1 f (c.args.toList.map g) caps k).wp P C Qr Qo):∃ d h',Fr h h'∧YA P C o g d h'∧(k d h').wp P C Qr Qo:=by
 unfold callT at hw
 obtain⟨hall,r,hi,hw2⟩:=of_brk hw
 clear hw
 refine⟨_,_,hf1.trans (Fr.frz _ _),?_,hw2⟩
 intro h'' hf w0 S0 a w ρ Q hC hS ok hr
 have hf1':Fr h1 h'':=(Fr.frz _ _).trans hf
 have hops:o.op.operands.toList=fo::c.args.toList:=by simp [ho,Op.operands,Call.operands,hc]
 have hfo:=hr fo (by simp [hops])
 have hargs:∀ x∈c.args.toList,RdD w (stab S0 ρ h'') ρ (a.eval x) (g x):=fun x hx=>hr x (by simp [hops];exact .inr (by simpa using hx))
 obtain⟨cs,hv,hcs⟩:=hval h'' hf1' w0 w S0 ρ _ hS ok hfo
 have hA:RdL w (stab S0 ρ h'') (c.args.toList.map a.eval) ((c.args.toList.map g).map (toV h1)):=args_rd fun x hx=>by
  refine toV_rd hf1' (List.all_eq_true.1 hall _ (List.mem_map_of_mem hx)) hS ok ?_ (hargs x hx)
  intro b y hb hy
  obtain⟨z,hz,_,_,zf⟩:=hf.back hy
  exact zf (frz_frozen _ h1 b z (List.mem_flatMap.2 ⟨_,List.mem_map_of_mem hx,hb⟩) hz)
 have hcall:=hi.2 w (stab S0 ρ h'') _ hC (stab_new ok hS) (hA.append hcs)
 have hrun:(execOp a.eval o).run P w=.ok (.enter f (c.args.toList.map a.eval ++ cs).toArray) w:=by
  simp only [execOp,ho,resolve,hc,hv,Deferred.ofValue,Sem.run_bind,Sem.run_pure,Result.andThen_ok,invoke]
  rw[callFunc_run hi.1]
  congr 2
  apply Array.ext'
  simp
 unfold Oper.wp
 rw[hrun]
 show Calls P f _ w _
 refine hcall.mono ?_
 rintro e w' ⟨v,rfl,h2,h3⟩
 exact⟨v,rfl,.val h2,h3⟩
theorem call_yb {o:Oper}{c:Call}{fo:Operand}{g:Operand→D}{h h1:List Box}{f:FuncId}{first:List V}{k:D→List Box→T}(ho:o.op=.call c)(hc:c.callee=.value fo)(hf1:Fr h h1)
  (hval:∀ h'',Fr h1 h''→∀ (w0:Base) (w:World) (S0:Nat→Prop) (ρ:List Nat) (v:Value),AllS w S0 ρ→OkH w0 S0 w ρ h''→RdD w (stab S0 ρ h'') ρ v (g fo) →
   ∃ cs:List Value,v=.func (.func f) cs.toArray #[]∧RdL w (stab S0 ρ h'') cs first)
  (hw:(callB h1 f first (c.args.toList.map g) k).wp P C Qr Qo):∃ d h',Fr h h'∧YA P C o g d h'∧(k d h').wp P C Qr Qo:=by
 unfold callB at hw
 obtain⟨hall,r,hi,hw2⟩:=of_brk hw
 clear hw
 refine⟨_,_,hf1.trans (Fr.frz _ _),?_,hw2⟩
 intro h'' hf w0 S0 a w ρ Q hC hS ok hr
 have hf1':Fr h1 h'':=(Fr.frz _ _).trans hf
 have hops:o.op.operands.toList=fo::c.args.toList:=by simp [ho,Op.operands,Call.operands,hc]
 have hfo:=hr fo (by simp [hops])
 have hargs:∀ x∈c.args.toList,RdD w (stab S0 ρ h'') ρ (a.eval x) (g x):=fun x hx=>hr x (by simp [hops];exact .inr (by simpa using hx))
 obtain⟨cs,hv,hcs⟩:=hval h'' hf1' w0 w S0 ρ _ hS ok hfo
 have hA:RdL w (stab S0 ρ h'') (c.args.toList.map a.eval) ((c.args.toList.map g).map (toV h1)):=args_rd fun x hx=>by
  refine toV_rd hf1' (List.all_eq_true.1 hall _ (List.mem_map_of_mem hx)) hS ok ?_ (hargs x hx)
  intro b y hb hy
  obtain⟨z,hz,_,_,zf⟩:=hf.back hy
  exact zf (frz_frozen _ h1 b z (List.mem_flatMap.2 ⟨_,List.mem_map_of_mem hx,hb⟩) hz)
 have hcall:=hi.2 w (stab S0 ρ h'') _ hC (stab_new ok hS) (hcs.append hA)
 have hrun:(execOp a.eval o).run P w=.ok (.enter f (cs ++ c.args.toList.map a.eval).toArray) w:=by
  simp only [execOp,ho,resolve,hc,hv,Deferred.ofValue,Sem.run_bind,Sem.run_pure,Result.andThen_ok,invoke]
  rw[callFunc_run hi.1]
  congr 2
  apply Array.ext'
  simp
 unfold Oper.wp
 rw[hrun]
 show Calls P f _ w _
 refine hcall.mono ?_
 rintro e w' ⟨v,rfl,h2,h3⟩
 exact⟨v,rfl,.val h2,h3⟩
end Go.Proofs.YtkkbddkpggjgpaaGreatDoor
namespace Go.Proofs.YtkkbddkpggjgpaaGreatDoor
open Go.RowKit
variable {P:Program} {C:World→Prop} {Qr:V→Prop} {Qo:Ex→St→Prop}
theorem fold_max {w:World}{S:Nat→Prop}{ρ:List Nat}{ev:Operand→Value}{g:Operand→D}{k:IntKind}:∀ {l:List Operand} {acc:Int} {v:V},
  (∀ x∈l,RdD w S ρ (ev x) (g x))→foldI iMax k acc (l.map g)=some (true,v)→∃ n,v=.int k n∧((l.map ev).foldlM Builtin.max2 (.int k acc)).run P w=.ok (.int k n) w
 | [],acc,v,_,h=>by cases h;exact⟨acc,rfl,rfl⟩
 | x::l,acc,v,hx,h=>by
  simp only [List.map_cons] at h ⊢
  have hx0:=hx x (by simp)
  unfold foldI at h
  split at h
  ·cases ‹_ = []›
  ·rename_i k' y r he
   simp only [List.cons.injEq] at he
   obtain⟨he,rfl⟩:=he
   rw[he] at hx0
   have hv:=hx0.int_inv
   obtain⟨n,h1,h2⟩:=fold_max (acc:=iMax acc y) (fun z hz=>hx z (by simp [hz])) h
   refine⟨n,h1,?_⟩
   rw[List.foldlM_cons,Sem.run_bind,hv]
   show (Result.ok _ _).andThen _=_
   exact h2
  ·cases h
theorem fold_min {w:World}{S:Nat→Prop}{ρ:List Nat}{ev:Operand→Value}{g:Operand→D}{k:IntKind}:∀ {l:List Operand} {acc:Int} {v:V},
  (∀ x∈l,RdD w S ρ (ev x) (g x))→foldI iMin k acc (l.map g)=some (true,v)→∃ n,v=.int k n∧((l.map ev).foldlM Builtin.min2 (.int k acc)).run P w=.ok (.int k n) w
 | [],acc,v,_,h=>by cases h;exact⟨acc,rfl,rfl⟩
 | x::l,acc,v,hx,h=>by
  simp only [List.map_cons] at h ⊢
  have hx0:=hx x (by simp)
  unfold foldI at h
  split at h
  ·cases ‹_ = []›
  ·rename_i k' y r he
   simp only [List.cons.injEq] at he
   obtain⟨he,rfl⟩:=he
   rw[he] at hx0
   have hv:=hx0.int_inv
   obtain⟨n,h1,h2⟩:=fold_min (acc:=iMin acc y) (fun z hz=>hx z (by simp [hz])) h
   refine⟨n,h1,?_⟩
   rw[List.foldlM_cons,Sem.run_bind,hv]
   show (Result.ok _ _).andThen _=_
   exact h2
  ·cases h
theorem len_rd {dx:D}{n:Nat}(h:lenD dx=some n){w:World}{S:Nat→Prop}{ρ:List Nat}{x:Value}(hx:RdD w S ρ x dx):∃ a cap,x=.slice a n cap:=by
 unfold lenD at h
 split at h
 ·cases h
  have:=hx.val_inv
  cases this
  exact⟨_,_,rfl⟩
 ·rename_i sz c
  obtain⟨hb,h⟩:=cond_some h
  cases h
  have hpos:=blt_iff.1 hb
  have:=hx.val_inv
  cases this with
  | nilsl=>rw[slen_eq hpos (show ([]:List V).length=0*sz by simp)];exact⟨_,_,rfl⟩
  | sl g1 g2 g3 g4 g5 g6=>rw[slen_eq hpos g4];exact⟨_,_,rfl⟩
 ·cases h
  cases hx
  exact⟨_,_,rfl⟩
 ·cases h
theorem opt_rd {w:World}{S:Nat→Prop}{ρ:List Nat}{ev:Operand→Value}{g:Operand→D}{lo:Option Operand}(h:∀ x,lo=some x→RdD w S ρ (ev x) (g x)) :
  (∀ d,lo.map g=some d→∃ v,lo.map ev=some v∧RdD w S ρ v d)∧(lo.map g=none→lo.map ev=none):=by
 cases lo with
 | none=>exact⟨(fun d hd=>by cases hd),fun _=>rfl⟩
 | some x=>exact⟨(fun d hd=>by cases hd;exact⟨_,rfl,h x rfl⟩),(fun hd=>by cases hd)⟩
theorem evalA_yields {o:Oper}{g:Operand→D}{h:List Box}{k:D→List Box→T}(hw:(evalA P o g h k).wp P C Qr Qo) :
  ∃ d h',Fr h h'∧YA P C o g d h'∧(k d h').wp P C Qr Qo:=by
 unfold evalA at hw
 split at hw
 ·rename_i x ho
  exact⟨_,_,Fr.refl _,ya_pure fun h'' hf w0 S0 a w ρ ok hr=>⟨a.eval x,by simp [execOp,ho],hr x (by simp [ho,Op.operands])⟩,hw⟩
 ·rename_i x ho
  exact⟨_,_,Fr.refl _,ya_pure fun h'' hf w0 S0 a w ρ ok hr=>⟨a.eval x,by simp [execOp,ho],hr x (by simp [ho,Op.operands])⟩,hw⟩
 ·rename_i c x y ho
  split at hw
  ·rename_i t hg
   rcases of_br hw with ⟨e1,hw2⟩ | ⟨e1,hw2⟩<;>subst e1<;>clear hw
   ·refine⟨_,_,Fr.refl _,ya_pure fun h'' hf w0 S0 a w ρ ok hr=>⟨a.eval x,?_,hr x (by simp [ho,Op.operands])⟩,hw2⟩
    have hc:=hr c (by simp [ho,Op.operands])
    rw[hg] at hc
    simp [execOp,ho,hc.bool_inv,asBool]
   ·refine⟨_,_,Fr.refl _,ya_pure fun h'' hf w0 S0 a w ρ ok hr=>⟨a.eval y,?_,hr y (by simp [ho,Op.operands])⟩,hw2⟩
    have hc:=hr c (by simp [ho,Op.operands])
    rw[hg] at hc
    simp [execOp,ho,hc.bool_inv,asBool]
  ·exact hw.elim
 ·rename_i t parts ho
  obtain⟨v,hv,hw⟩:=go1_wp hw
  refine⟨_,_,Fr.refl _,ya_pure fun h'' hf w0 S0 a w ρ ok hr=>?_,hw⟩
  obtain⟨u,h1,h2⟩:=build_run hv (w:=w) (S:=stab S0 ρ h'') (ρ:=ρ) (ev:=a.eval) (fun x hx=>hr x.2 (by simp [ho,Op.operands];exact⟨x.1,by simpa using hx⟩))
  exact⟨u,by simp only [execOp,ho,Sem.run_bind,h1,Result.andThen_ok,Sem.run_pure],.val h2⟩
 ·rename_i t x ho
  obtain⟨v,hv,hw⟩:=go1_wp hw
  refine⟨_,_,Fr.refl _,ya_pure fun h'' hf w0 S0 a w ρ ok hr=>?_,hw⟩
  obtain⟨u,h1,h2⟩:=load_any hf hv ok (hr x (by simp [ho,Op.operands]))
  exact⟨u,by simp only [execOp,ho,Sem.run_bind,h1,Result.andThen_ok,Sem.run_pure],.val h2⟩
 ·rename_i op xt x y yt ho
  split at hw
  ·rename_i r hb
   obtain⟨kd,n,m,hr',hm,hw2⟩:=goW_wp hw
   clear hw
   cases hr'
   refine⟨_,_,Fr.refl _,ya_pure fun h'' hf w0 S0 a w ρ ok hr=>⟨.int kd m,?_,.val .int⟩,hw2⟩
   have h1:=binW_run (P:=P) (xt:=xt) (xo:=x) (yo:=y) hb (hr x (by simp [ho,Op.operands])) (hr y (by simp [ho,Op.operands]))
   simp only [execOp,ho]
   rw[Sem.run_bind,h1,hm]
   rfl
  ·obtain⟨v,hv,hw⟩:=go1_wp hw
   refine⟨_,_,Fr.refl _,ya_pure fun h'' hf w0 S0 a w ρ ok hr=>?_,hw⟩
   obtain⟨u,h1,h2⟩:=bin_run (xo:=x) (yo:=y) hv (hr x (by simp [ho,Op.operands])) (hr y (by simp [ho,Op.operands]))
   refine⟨u,?_,.val h2⟩
   simp only [execOp,ho]
   rw[Sem.run_bind,h1]
   rfl
 ·rename_i op t x ho
  split at hw
  ·rename_i r hb
   obtain⟨kd,n,m,hr',hm,hw2⟩:=goW_wp hw
   clear hw
   cases hr'
   refine⟨_,_,Fr.refl _,ya_pure fun h'' hf w0 S0 a w ρ ok hr=>⟨.int kd m,?_,.val .int⟩,hw2⟩
   have h1:=unW_run (P:=P) hb (hr x (by simp [ho,Op.operands]))
   simp only [execOp,ho,Sem.run_bind,h1,hm,Result.andThen_ok,Sem.run_pure]
  ·obtain⟨v,hv,hw⟩:=go1_wp hw
   refine⟨_,_,Fr.refl _,ya_pure fun h'' hf w0 S0 a w ρ ok hr=>?_,hw⟩
   obtain⟨u,h1,h2⟩:=un_run (P:=P) hv (hr x (by simp [ho,Op.operands]))
   exact⟨u,by simp only [execOp,ho,Sem.run_bind,h1,Result.andThen_ok,Sem.run_pure],.val h2⟩
 ·rename_i src dst x ho
  obtain⟨kd,n,m,hr',hm,hw⟩:=goW_wp hw
  refine⟨_,_,Fr.refl _,ya_pure fun h'' hf w0 S0 a w ρ ok hr=>⟨.int kd m,?_,.val .int⟩,hw⟩
  have h1:=convW_run hr' (hr x (by simp [ho,Op.operands]))
  simp only [execOp,ho,Sem.run_bind,h1,hm,Result.andThen_ok,Sem.run_pure]
 ·rename_i f first captured ho
  rcases of_cond hw with ⟨he,hw⟩ | ⟨_,hw⟩
  ·skip
   obtain⟨v,hv,hw⟩:=go3_wp hw
   refine⟨_,_,Fr.refl _,ya_pure fun h'' hf w0 S0 a w ρ ok hr=>?_,hw⟩
   have hfirst:first=#[]:=by simpa using he
   have hcap:∀ x∈captured.toList,RdD w (stab S0 ρ h'') ρ (a.eval x) (g x):=fun x hx=>hr x (by simp [ho,Op.operands,hfirst];simpa using hx)
   refine⟨.func (.func f) #[] (captured.map a.eval),by simp [execOp,ho,Instr.makeFunc,hfirst],?_⟩
   have e:captured.map a.eval=(captured.toList.map a.eval).toArray:=by apply Array.ext';simp
   rw[e]
   unfold makeFuncD at hv
   split at hv
   ·rename_i vs hvs
    cases hv
    exact .val (.clos (caps_rd hcap hvs))
   ·split at hv
    ·rename_i cs hcs
     cases hv
     obtain⟨h1,h2⟩:=owns_rd hcap hcs
     exact .clo h1 h2
    ·cases hv
  ·obtain⟨he,hw⟩:=of_chk hw
   obtain⟨v,hv,hw⟩:=go3_wp hw
   refine⟨_,_,Fr.refl _,ya_pure fun h'' hf w0 S0 a w ρ ok hr=>?_,hw⟩
   have hcapt:captured=#[]:=by simpa using he
   have hcap:∀ x∈first.toList,RdD w (stab S0 ρ h'') ρ (a.eval x) (g x):=fun x hx=>hr x (by simp [ho,Op.operands,hcapt];simpa using hx)
   refine⟨.func (.func f) (first.map a.eval) #[],by simp [execOp,ho,Instr.makeFunc,hcapt],?_⟩
   have e:first.map a.eval=(first.toList.map a.eval).toArray:=by apply Array.ext';simp
   rw[e]
   unfold bndD at hv
   split at hv
   ·rename_i vs hvs
    cases hv
    exact .val (.bnd (caps_rd hcap hvs))
   ·cases hv
 ·rename_i t x lo hi ho
  obtain⟨v,hv,hw⟩:=go2_wp hw
  refine⟨_,_,Fr.refl _,ya_pure fun h'' hf w0 S0 a w ρ ok hr=>?_,hw⟩
  obtain⟨r1,r2⟩:=opt_rd (w:=w) (S:=stab S0 ρ h'') (ρ:=ρ) (ev:=a.eval) (g:=g) (lo:=lo) (fun y hy=>hr y (by simp [ho,Op.operands,hy]))
  obtain⟨r3,r4⟩:=opt_rd (w:=w) (S:=stab S0 ρ h'') (ρ:=ρ) (ev:=a.eval) (g:=g) (lo:=hi) (fun y hy=>hr y (by simp [ho,Op.operands,hy]))
  obtain⟨u,h1,h2⟩:=slice_run hv (hr x (by simp [ho,Op.operands])) r1 r2 r3 r4
  exact⟨u,by simp only [execOp,ho,Sem.run_bind,Option.map_none,h1,Result.andThen_ok,Sem.run_pure],h2⟩
 ·rename_i s x f ho
  obtain⟨v,hv,hw⟩:=go3_wp hw
  refine⟨_,_,Fr.refl _,ya_pure fun h'' hf w0 S0 a w ρ ok hr=>?_,hw⟩
  obtain⟨u,h1,h2⟩:=fieldAddr_run hv (hr x (by simp [ho,Op.operands]))
  exact⟨u,by simp only [execOp,ho,Sem.run_bind,h1,Result.andThen_ok,Sem.run_pure],h2⟩
 ·rename_i s x f ho
  obtain⟨v,hv,hw⟩:=go1_wp hw
  refine⟨_,_,Fr.refl _,ya_pure fun h'' hf w0 S0 a w ρ ok hr=>?_,hw⟩
  obtain⟨u,h1,h2⟩:=field_run hv (hr x (by simp [ho,Op.operands]))
  exact⟨u,by simp only [execOp,ho,Sem.run_bind,h1,Result.andThen_ok,Sem.run_pure],.val h2⟩
 ·rename_i t x i ho
  obtain⟨v,hv,hw⟩:=go2_wp hw
  refine⟨_,_,Fr.refl _,ya_pure fun h'' hf w0 S0 a w ρ ok hr=>?_,hw⟩
  obtain⟨u,h1,h2⟩:=indexAddr_run hv (hr x (by simp [ho,Op.operands])) (hr i (by simp [ho,Op.operands]))
  exact⟨u,by simp only [execOp,ho,Sem.run_bind,h1,Result.andThen_ok,Sem.run_pure],h2⟩
 ·rename_i t x i ho
  obtain⟨v,hv,hw⟩:=goI_wp hw
  refine⟨_,_,Fr.refl _,ya_pure fun h'' hf w0 S0 a w ρ ok hr=>?_,hw⟩
  obtain⟨u,h1,h2⟩:=index_run hv (hr x (by simp [ho,Op.operands])) (hr i (by simp [ho,Op.operands]))
  exact⟨u,by simp only [execOp,ho,Sem.run_bind,h1,Result.andThen_ok,Sem.run_pure],.val h2⟩
 ·rename_i x i ho
  split at hw
  ·rename_i l hg
   obtain⟨hb,hw⟩:=of_chk hw
   refine⟨_,_,Fr.refl _,ya_pure fun h'' hf w0 S0 a w ρ ok hr=>?_,hw⟩
   have hx:=hr x (by simp [ho,Op.operands])
   rw[hg] at hx
   obtain⟨arr,ha,hl⟩:=hx.val_inv.tup_inv
   obtain⟨u,hu,hru⟩:=hl.get (nth_lt .unk (blt_iff.1 hb))
   refine⟨u,?_,.val hru⟩
   have hu':arr.toArray[i]?=some u:=by simpa using hu
   simp [execOp,ho,ha,Instr.extract,hu']
  ·exact hw.elim
 ·rename_i c ho
  split at hw
  ·rename_i fo hc
   split at hw
   ·rename_i f caps hg
    refine call_ya ho hc (Fr.refl h) ?_ hw
    intro h'' hf w0 w S0 ρ v hS ok hv
    rw[hg] at hv
    have hv:=hv.val_inv
    cases hv with
    | clos hl=>exact⟨_,rfl,hl⟩
   ·rename_i f caps hg
    obtain⟨hb,hw⟩:=of_chk hw
    refine call_ya ho hc (Fr.frz _ h) ?_ hw
    intro h'' hf w0 w S0 ρ v hS ok hv
    rw[hg] at hv
    have:=toV_rd ((Fr.frz (caps.map (·.1)) h).trans hf) (d:=.clo f caps) hb hS ok (fun b y hbm hy=>by
     obtain⟨z,hz,_,_,zf⟩:=hf.back hy
     exact zf (frz_frozen _ h b z hbm hz)) hv
    simp only [toV] at this
    cases this with
    | clos hl=>exact⟨_,rfl,hl⟩
   ·rename_i f first hg
    refine call_yb ho hc (Fr.refl h) ?_ hw
    intro h'' hf w0 w S0 ρ v hS ok hv
    rw[hg] at hv
    have hv:=hv.val_inv
    cases hv with
    | bnd hl=>exact⟨_,rfl,hl⟩
   ·exact hw.elim
  ·rename_i hc
   split at hw
   ·rename_i x t hargs hts
    split at hw
    ·rename_i e hu
     split at hw
     ·rename_i n hn
      refine⟨_,_,Fr.refl _,ya_pure fun h'' hf w0 S0 a w ρ ok hr=>?_,hw⟩
      have ha:c.args=#[x]:=by apply Array.ext';simpa using hargs
      have ht:c.argTypes=#[t]:=by apply Array.ext';simpa using hts
      obtain⟨ad,cap,hx⟩:=len_rd hn (hr x (by simp [ho,Op.operands,Call.operands,ha,hc]))
      refine⟨.int .i64 n,?_,.val .int⟩
      simp [execOp,ho,resolve,hc,ha,ht,invoke,builtin,Builtin.len_,run_under hu,hx,goInt]
     ·exact hw.elim
    ·rename_i n e hu
     refine⟨_,_,Fr.refl _,ya_pure fun h'' hf w0 S0 a w ρ ok hr=>?_,hw⟩
     have ha:c.args=#[x]:=by apply Array.ext';simpa using hargs
     have ht:c.argTypes=#[t]:=by apply Array.ext';simpa using hts
     refine⟨.int .i64 n,?_,.val .int⟩
     simp [execOp,ho,resolve,hc,ha,ht,invoke,builtin,Builtin.len_,run_under hu,goInt]
    ·exact hw.elim
   ·exact hw.elim
  ·rename_i hc
   split at hw
   ·rename_i kd x r hargs
    obtain⟨v,hv,hw⟩:=go1_wp hw
    refine⟨_,_,Fr.refl _,ya_pure fun h'' hf w0 S0 a w ρ ok hr=>?_,hw⟩
    cases hl:c.args.toList with
    | nil=>rw[hl] at hargs;cases hargs
    | cons y l =>
     rw[hl] at hargs
     simp only [List.map_cons,List.cons.injEq] at hargs
     obtain⟨hy,rfl⟩:=hargs
     have hall:∀ z∈c.args.toList,RdD w (stab S0 ρ h'') ρ (a.eval z) (g z):=fun z hz=>hr z (by simp [ho,Op.operands,Call.operands,hc];simpa using hz)
     have hy0:=hall y (by simp [hl])
     rw[hy] at hy0
     obtain⟨n,rfl,hn⟩:=fold_max (P:=P) (fun z hz=>hall z (by simp [hl,hz])) hv
     refine⟨.int kd n,?_,.val .int⟩
     have e:(c.args.map a.eval).toList=a.eval y::l.map a.eval:=by simp [hl]
     simp only [execOp,ho,resolve,hc,Sem.run_bind,Sem.run_pure,Result.andThen_ok,invoke,builtin,Builtin.max_,e,hy0.int_inv,hn]
   ·exact hw.elim
  ·rename_i hc
   split at hw
   ·rename_i kd x r hargs
    obtain⟨v,hv,hw⟩:=go1_wp hw
    refine⟨_,_,Fr.refl _,ya_pure fun h'' hf w0 S0 a w ρ ok hr=>?_,hw⟩
    cases hl:c.args.toList with
    | nil=>rw[hl] at hargs;cases hargs
    | cons y l =>
     rw[hl] at hargs
     simp only [List.map_cons,List.cons.injEq] at hargs
     obtain⟨hy,rfl⟩:=hargs
     have hall:∀ z∈c.args.toList,RdD w (stab S0 ρ h'') ρ (a.eval z) (g z):=fun z hz=>hr z (by simp [ho,Op.operands,Call.operands,hc];simpa using hz)
     have hy0:=hall y (by simp [hl])
     rw[hy] at hy0
     obtain⟨n,rfl,hn⟩:=fold_min (P:=P) (fun z hz=>hall z (by simp [hl,hz])) hv
     refine⟨.int kd n,?_,.val .int⟩
     have e:(c.args.map a.eval).toList=a.eval y::l.map a.eval:=by simp [hl]
     simp only [execOp,ho,resolve,hc,Sem.run_bind,Sem.run_pure,Result.andThen_ok,invoke,builtin,Builtin.min_,e,hy0.int_inv,hn]
   ·exact hw.elim
  ·exact hw.elim
 ·exact hw.elim
end Go.Proofs.YtkkbddkpggjgpaaGreatDoor

namespace Go.Proofs.YtkkbddkpggjgpaaGreatDoor
open Go.RowKit
variable {P:Program} {C:World→Prop} {Qr:V→Prop} {Qo:Ex→St→Prop}
def Post (P:Program)(C:World→Prop)(Qr:V→Prop)(Qo:Ex→St→Prop)(w0:Base)(S0:Nat→Prop)(o:Oper)(a:Act)(w:World)(ρ:List Nat)(h:List Box)(k:D→List Box→T)
  (a':Act) (w':World):Prop :=
 ∃ v d h' ρ',a'=a.put o.dst v∧OkH w0 S0 w' ρ' h'∧RdD w' (stab S0 ρ' h') ρ' v d∧(∀ u e,RdD w (stab S0 ρ h) ρ u e→RdD w' (stab S0 ρ' h') ρ' u e)∧(k d h').wp P C Qr Qo
theorem post_value {o:Oper}{a:Act}{w w':World}{v:Value}{next:Act→World→Prop}{Q:Exit→Act→World→Prop}(h:(execOp a.eval o).run P w=.ok (.value v) w')(hn:next (a.put o.dst v) w') :
  o.wp P a w next Q:=by unfold Oper.wp;rw[h];exact hn
theorem post_skip {o:Oper}{a:Act}{w w':World}{next:Act→World→Prop}{Q:Exit→Act→World→Prop}(h:(execOp a.eval o).run P w=.ok .skip w')(hn:next (a.put o.dst undef) w') :
  o.wp P a w next Q:=by unfold Oper.wp;rw[h];exact hn
def push (w:World)(vals:Array Value)(ty:TypeId):World:={ w with heap:=w.heap.push (.cells vals ty (0,0)) }
theorem get_snoc {α:Type}{l:List α}{x y:α}{i:Nat}(h:(l ++ [x])[i]?=some y):l[i]?=some y∨(i=l.length∧y=x):=by
 rw[List.getElem?_append] at h
 split at h
 ·exact .inl h
 ·rename_i hi
  cases hj:i-l.length with
  | zero=>rw[hj] at h;simp at h;exact .inr ⟨by omega,h.symm⟩
  | succ j=>rw[hj] at h;simp at h
theorem get_snoc_of {α:Type}{l:List α}{x y:α}{i:Nat}(h:l[i]?=some y):(l ++ [x])[i]?=some y:=by
 have:i<l.length:=by
  rcases Nat.lt_or_ge i l.length with q | q
  ·exact q
  ·rw[List.getElem?_eq_none q] at h;cases h
 rw[List.getElem?_append_left this];exact h
theorem lt_of_get {α:Type}{l:List α}{i:Nat}{x:α}(h:l[i]?=some x):i<l.length:=by
 rcases Nat.lt_or_ge i l.length with q | q
 ·exact q
 ·rw[List.getElem?_eq_none q] at h;cases h
theorem push_block (w:World)(vals:Array Value)(ty:TypeId){b:Nat}(hb:b<w.heap.size):(push w vals ty).heap[b]?=w.heap[b]?:=by
 show (w.heap.push _)[b]?=_
 rw[Array.getElem?_push,if_neg (by omega)]
theorem push_new (w:World)(vals:Array Value)(ty:TypeId):(push w vals ty).heap[w.heap.size]?=some (.cells vals ty (0,0)):=by
 show (w.heap.push _)[_]?=_
 rw[Array.getElem?_push,if_pos rfl]
theorem push_size (w:World)(vals:Array Value)(ty:TypeId):(push w vals ty).heap.size=w.heap.size+1:=by
 show (w.heap.push _).size=_
 simp
theorem push_below (w:World)(vals:Array Value)(ty:TypeId):Below w.heap.size w (push w vals ty) :=
 ⟨rfl,rfl,rfl,by rw[push_size];omega,fun _ hb=>push_block w vals ty hb⟩
theorem lasts_push {w0 S0 w ρ h}(ok:OkH w0 S0 w ρ h)(vals:Array Value)(ty:TypeId)(cells:List V) :
  Lasts w (push w vals ty) (stab S0 ρ h) (stab S0 (ρ ++ [w.heap.size]) (newB h cells)) :=
 ⟨by rw[push_size];omega,fun b hb hs=>⟨⟨hs.1,fun i x hx xa xf hi=>by
  rcases get_snoc hx with hx | ⟨rfl,rfl⟩
  ·rcases get_snoc hi with hi | ⟨rfl,hbe⟩
   ·exact hs.2 i x hx xa xf hi
   ·have:=lt_of_get hx;have:=ok.heap.len;omega
  ·rcases get_snoc hi with hi | ⟨_,hbe⟩
   ·have:=lt_of_get hi;have:=ok.heap.len;omega
   ·omega⟩,push_block w vals ty hb⟩⟩
theorem push_ok {w0 S0 w ρ h}(ok:OkH w0 S0 w ρ h){vals:Array Value}(ty:TypeId){cells:List V}(hle:cells.length≤vals.size)
  (hr:RdL w (stab S0 ρ h) (vals.toList.take cells.length) cells):OkH w0 S0 (push w vals ty) (ρ ++ [w.heap.size]) (newB h cells):=by
 have hb:=push_below w vals ty
 have hl:=lasts_push ok vals ty cells
 refine⟨ok.below.step hb,?_,?_,?_,?_⟩
 ·simp [newB,ok.heap.len]
 ·intro i β hi
  rw[push_size]
  rcases get_snoc hi with hi | ⟨_,rfl⟩
  ·exact⟨(ok.heap.low i β hi).1,by have:=(ok.heap.low i β hi).2;omega⟩
  ·exact⟨.inl ok.below.size,by omega⟩
 ·intro i j x y β hx hy xa ya hi hj
  have hlen:=ok.heap.len
  rcases get_snoc hi with hi | ⟨rfl,rfl⟩<;>rcases get_snoc hj with hj | ⟨rfl,hβ⟩
  ·rcases get_snoc hx with hx | ⟨rfl,_⟩
   ·rcases get_snoc hy with hy | ⟨rfl,_⟩
    ·exact ok.heap.inj i j x y β hx hy xa ya hi hj
    ·have:=lt_of_get hj;omega
   ·have:=lt_of_get hi;omega
  ·have:=(ok.heap.low i β hi).2;omega
  ·have:=(ok.heap.low j _ hj).2;omega
  ·rfl
 ·intro i x β hx xa hi
  have hlen:=ok.heap.len
  rcases get_snoc hi with hi | ⟨rfl,rfl⟩
  ·rcases get_snoc hx with hx | ⟨rfl,_⟩
   ·obtain⟨vs,t,h1,h2,h3⟩:=ok.heap.box i x β hx xa hi
    exact⟨vs,t,(push_block w vals ty (ok.heap.low i β hi).2).trans h1,h2,h3.lasts hl⟩
   ·have:=lt_of_get hi;omega
  ·rcases get_snoc hx with hx | ⟨_,rfl⟩
   ·have:=lt_of_get hx;omega
   ·exact⟨vals,ty,push_new w vals ty,hle,hr.lasts hl⟩
theorem push_keeps {w0 S0 w ρ h}(ok:OkH w0 S0 w ρ h)(vals:Array Value)(ty:TypeId)(cells:List V) :
  ∀ u e,RdD w (stab S0 ρ h) ρ u e→RdD (push w vals ty) (stab S0 (ρ ++ [w.heap.size]) (newB h cells)) (ρ ++ [w.heap.size]) u e:=fun _ _ hr =>
 hr.lasts (lasts_push ok vals ty cells) (Below.shapes (push_below w vals ty)) (fun _ _ hi=>get_snoc_of hi)
theorem push_own {w0 S0 w ρ h}(ok:OkH w0 S0 w ρ h):(ρ ++ [w.heap.size])[h.length]?=some w.heap.size:=by
 rw[← ok.heap.len];simp
theorem push_post {w0 S0 w ρ h}(ok:OkH w0 S0 w ρ h){o:Oper}{a:Act}{k:D→List Box→T}{vals:Array Value}{ty:TypeId}{cells:List V}(hle:cells.length≤vals.size)
  (hr:RdL w (stab S0 ρ h) (vals.toList.take cells.length) cells) {v:Value} {d:D} (hv:RdD (push w vals ty) (stab S0 (ρ ++ [w.heap.size]) (newB h cells)) (ρ ++ [w.heap.size]) v d)
  (hw:(k d (newB h cells)).wp P C Qr Qo):Post P C Qr Qo w0 S0 o a w ρ h k (a.put o.dst v) (push w vals ty) :=
 ⟨v,d,newB h cells,ρ ++ [w.heap.size],rfl,push_ok ok ty hle hr,hv,push_keeps ok vals ty cells,hw⟩
theorem setCells_heap (β:Nat):∀ (vs:List Value) (off:Nat) (w:World) (vals:Array Value) (ty:TypeId) (fr:Nat × Nat),w.heap[β]?=some (.cells vals ty fr) →
  ∃ vals',(w.setCells β off vs).heap[β]?=some (.cells vals' ty fr)∧vals'.toList=spliceW vals.toList off vs
 | [],off,w,vals,ty,fr,h=>⟨vals,h,rfl⟩
 | v::vs,off,w,vals,ty,fr,h=>by
  have h1:(w.setCell ⟨β,off,none⟩ v).heap[β]?=some (.cells (vals.setIfInBounds off v) ty fr):=by
   show (w.heap.modify β _)[β]?=_
   rw[Array.getElem?_modify,if_pos rfl,h]
   rfl
  obtain⟨vals',h2,h3⟩:=setCells_heap β vs (off+1) _ _ ty fr h1
  exact⟨vals',h2,by rw[h3];simp [spliceW]⟩
theorem setCells_other (β:Nat):∀ (vs:List Value) (off:Nat) (w:World) (b:Nat),b≠β→(w.setCells β off vs).heap[b]?=w.heap[b]?
 | [],_,_,_,_=>rfl
 | v::vs,off,w,b,h=>by
  rw[World.setCells,setCells_other β vs _ _ b h]
  exact Below.heap_setCell w ⟨β,off,none⟩ v b h
theorem setCells_size (β:Nat):∀ (vs:List Value) (off:Nat) (w:World),(w.setCells β off vs).heap.size=w.heap.size
 | [],_,_=>rfl
 | v::vs,off,w=>by rw[World.setCells,setCells_size β vs];simp [World.setCell]
theorem setCells_rest (β:Nat):∀ (vs:List Value) (off:Nat) (w:World),(w.setCells β off vs).os=w.os∧(w.setCells β off vs).tape=w.tape∧(w.setCells β off vs).output=w.output
 | [],_,_=>⟨rfl,rfl,rfl⟩
 | v::vs,off,w=>by rw[World.setCells];exact setCells_rest β vs _ _
theorem spliceW_len:∀ (vs c:List Value) (off:Nat),(spliceW c off vs).length=c.length
 | [],_,_=>rfl
 | v::vs,c,off=>by rw[spliceW,spliceW_len vs];simp
theorem splice_len:∀ (vs c:List V) (off:Nat),(splice c off vs).length=c.length
 | [],_,_=>rfl
 | v::vs,c,off=>by rw[splice,splice_len vs];simp
theorem spliceW_take:∀ (vs c:List Value) (off n:Nat),(spliceW c off vs).take n=spliceW (c.take n) off vs
 | [],_,_,_=>rfl
 | v::vs,c,off,n=>by rw[spliceW,spliceW,spliceW_take vs,List.take_set]
theorem cell_one {w:World}{S:Nat→Prop}{u:Value}{v:V}(h:Rd w S u v)(hc:isCell v=true):u.oneCell'=true:=by
 cases h<;>first | rfl | (simp [isCell] at hc)
theorem cells_one {w:World}{S:Nat→Prop}{us:List Value}{vs:List V}(h:RdL w S us vs)(hc:vs.all isCell=true):∀ u∈us,u.oneCell'=true:=by
 intro u hu
 obtain⟨i,hi⟩:=List.mem_iff_getElem?.1 hu
 obtain⟨x,hx,hr⟩:=h.get' hi
 exact cell_one hr (List.all_eq_true.1 hc x (List.mem_of_getElem? hx))
theorem cells_of {w:World}{S:Nat→Prop}{u:Value}{v:V}(h:Rd w S u v)(hc:(cellsV v).all isCell=true):RdL w S u.cells.toList (cellsV v):=by
 refine cells_rd h ?_
 cases v<;>first | rfl | (simp [cellsV,isCell] at hc)
theorem store_ok {w0 S0 w w' ρ h}(ok:OkH w0 S0 w ρ h){b β:Nat}(ha:(bx h b).alive=true)(hfz:(bx h b).frozen=false)(hβ:ρ[b]?=some β){cells:List V}
  (hos:w'.os=w.os) (htape:w'.tape=w.tape) (hout:w'.output=w.output) (hsz:w'.heap.size=w.heap.size) (hoth:∀ c,c≠β→w'.heap[c]?=w.heap[c]?)
  (hshp:∀ c e n,w.shape? c=some (e,n)→w'.shape? c=some (e,n))
  {vals':Array Value} {ty:TypeId} (hnew:w'.heap[β]?=some (.cells vals' ty (0,0))) (hle:cells.length≤vals'.size) (hr:RdL w (stab S0 ρ h) (vals'.toList.take cells.length) cells) :
  OkH w0 S0 w' ρ (setBox h b ⟨true,false,cells⟩)∧Lasts w w' (stab S0 ρ h) (stab S0 ρ (setBox h b ⟨true,false,cells⟩)):=by
 have hx:=bx_get ha
 have hbl:b<h.length:=lt_of_get hx
 have hst:∀ c,stab S0 ρ h c→stab S0 ρ (setBox h b ⟨true,false,cells⟩) c:=fun c hc=>⟨hc.1,fun i x hi xa xf hic=>by
  simp only [setBox,List.getElem?_set] at hi
  split at hi
  ·rename_i he
   subst he
   exact hc.2 b _ hx ha hfz hic
  ·exact hc.2 i x hi xa xf hic⟩
 have hl:Lasts w w' (stab S0 ρ h) (stab S0 ρ (setBox h b ⟨true,false,cells⟩)):=⟨by omega,fun c _ hs=>⟨hst c hs,hoth c (fun e=>hs.2 b _ hx ha hfz (e ▸ hβ))⟩⟩
 have hlow:=ok.heap.low b β hβ
 refine⟨⟨⟨hos.trans ok.below.os,htape.trans ok.below.tape,hout.trans ok.below.output,by rw[hsz];exact ok.below.size,fun c hc hx=>(hoth c (fun e=>hlow.1.elim (fun q=>by omega) (fun q=>hx (e ▸ q)))).trans (ok.below.block c hc hx),fun c e n q=>hshp c e n (ok.below.shape c e n q)⟩,?_,?_,?_,?_⟩,hl⟩
 ·simp [setBox,ok.heap.len]
 ·intro i γ hi;rw[hsz];exact ok.heap.low i γ hi
 ·intro i j x y γ hi hj xa ya gi gj
  have back:∀ (i:Nat) (x:Box),(setBox h b ⟨true,false,cells⟩)[i]?=some x→x.alive=true→∃ z:Box,h[i]?=some z∧z.alive=true:=by
   intro i x hi xa
   simp only [setBox,List.getElem?_set] at hi
   split at hi
   ·rename_i he;subst he;exact⟨_,hx,ha⟩
   ·exact⟨x,hi,xa⟩
  obtain⟨x',hx',xa'⟩:=back i x hi xa
  obtain⟨y',hy',ya'⟩:=back j y hj ya
  exact ok.heap.inj i j x' y' γ hx' hy' xa' ya' gi gj
 ·intro i x γ hi xa gi
  simp only [setBox,List.getElem?_set] at hi
  split at hi
  ·rename_i he
   subst he
   try rw[if_pos hbl] at hi
   cases hi
   rw[hβ] at gi
   cases gi
   exact⟨vals',ty,hnew,hle,hr.lasts hl⟩
  ·rename_i hne
   obtain⟨vs,t,h1,h2,h3⟩:=ok.heap.box i x γ hi xa gi
   refine⟨vs,t,(hoth γ ?_).trans h1,h2,h3.lasts hl⟩
   intro e
   subst e
   exact hne (ok.heap.inj b i _ x γ hx hi ha xa hβ gi)
theorem shape_of_cells {w:World}{b:Nat}{vals:Array Value}{ty:TypeId}{fr:Nat × Nat}(h:w.heap[b]?=some (.cells vals ty fr)):w.shape? b=some (ty,vals.size):=by
 simp [World.shape?,h]
theorem store_sound {w0 S0 w ρ h}(ok:OkH w0 S0 w ρ h){t:TypeId}{da dx:D}{h':List Box}(hs:storeH P t h da dx=some (true,h')){va vx:Value}
  (ra:RdD w (stab S0 ρ h) ρ va da) (rx:RdD w (stab S0 ρ h) ρ vx dx) :
  ∃ w',(Instr.storeAt t va vx).run P w=.ok () w'∧OkH w0 S0 w' ρ h'∧(∀ u e,RdD w (stab S0 ρ h) ρ u e→RdD w' (stab S0 ρ h') ρ u e) ∧
   (∀ c,(∀ b off,da=.own b off→ρ[b]?≠some c)→w'.heap[c]?=w.heap[c]?)∧w'.heap.size=w.heap.size:=by
 unfold storeH at hs
 split at hs
 ·rename_i b off v
  obtain⟨hc,hs⟩:=cond_some hs
  simp only [Bool.and_eq_true,Bool.not_eq_true',Nat.beq_eq] at hc
  obtain⟨⟨⟨⟨ha,hfz⟩,hpos⟩,hlen⟩,hall⟩:=hc
  simp only [Option.some.injEq,Prod.mk.injEq,Nat.ble_eq] at hs
  obtain⟨hle,rfl⟩:=hs
  obtain⟨β,hβ,rfl⟩:=ra.own_inv
  have hus:=cells_of rx.val_inv hall
  obtain⟨vals,ty,hb1,hb2,hb3⟩:=ok.heap.box b _ β (bx_get ha) ha hβ
  have hul:vx.cells.toList.length=(cellsV v).length:=hus.length
  have hrun:(Instr.storeAt t (.pointer (some ⟨β,off,none⟩)) vx).run P w=.ok () (w.setCells β off vx.cells.toList):=by
   have:=run_storeCells_cells (P:=P) β off vx.cells.toList 0 w
    (fun j hj=>by
     have hlt:off+j<vals.size:=by omega
     simp [World.cell?,hb1,Array.getElem?_eq_getElem hlt])
    (fun j hj=>by simp [World.frozen?,hb1]) (cells_one hus hall)
   simp only [Nat.add_zero] at this
   simp only [Instr.storeAt,Instr.sureAddr,Sem.run_bind,Sem.run_pure,Result.andThen_ok,storeVar,run_sizeOf (P:=P) (t:=t) rfl (blt_iff.1 hpos)]
   have hsz:vx.cells.size=sizeT P t:=by have:=hul;simp at this;omega
   rw[if_neg (by omega)]
   exact this
  obtain⟨vals',hv1,hv2⟩:=setCells_heap β vx.cells.toList off w vals ty (0,0) hb1
  have hvs:vals'.size=vals.size:=by
   have:=spliceW_len vx.cells.toList vals.toList off
   rw[← hv2] at this
   simpa using this
  obtain⟨q1,q2,q3⟩:=setCells_rest β vx.cells.toList off w
  have hshp:∀ c e n,w.shape? c=some (e,n)→(w.setCells β off vx.cells.toList).shape? c=some (e,n):=by
   intro c e n hsh
   by_cases hc:c=β
   ·subst hc
    rw[shape_of_cells hb1] at hsh
    rw[shape_of_cells hv1,hvs]
    exact hsh
   ·simpa [World.shape?,setCells_other β _ _ _ c hc] using hsh
  obtain⟨ok',hl⟩:=store_ok ok ha hfz hβ (w':=w.setCells β off vx.cells.toList) (cells:=splice (bx h b).cells off (cellsV v)) q1 q2 q3 (setCells_size β _ _ _)
   (fun c hc=>setCells_other β _ _ _ c hc) hshp hv1 (by rw[splice_len,hvs];exact hb2) (by rw[splice_len,hv2,spliceW_take];exact splice_rd hb3 hus)
  refine⟨_,hrun,ok',fun u e hr=>hr.lasts hl hshp (fun _ _ q=>q),fun c hc=>setCells_other β _ _ _ c (fun e=>hc b off rfl (e ▸ hβ)),setCells_size β _ _ _⟩
 ·cases hs
end Go.Proofs.YtkkbddkpggjgpaaGreatDoor
namespace Go.Proofs.YtkkbddkpggjgpaaGreatDoor
open Go.RowKit
variable {P:Program} {C:World→Prop} {Qr:V→Prop} {Qo:Ex→St→Prop}
theorem elemT_of {t e:TypeId}{sz:Nat}{zs:List V}(h:elemT P t=some (e,sz,zs)):P.underlying t=some (.slice e)∧zeroV P e=some zs∧zs.length=sz∧sizeT P e=sz∧0<sz∧P.bytesOf e≤1000:=by
 unfold elemT at h
 split at h
 ·rename_i e' hu
  split at h
  ·rename_i zs' hz
   obtain⟨hb,h⟩:=cond_some h
   simp only [Bool.and_eq_true,Nat.beq_eq,Nat.ble_eq] at hb
   obtain⟨⟨h1,h2⟩,h3⟩:=hb
   have h2:=blt_iff.1 h2
   simp only [Option.some.injEq,Prod.mk.injEq] at h
   obtain⟨rfl,rfl,rfl⟩:=h
   exact⟨hu,hz,h1,rfl,h2,h3⟩
  ·cases h
 ·cases h
theorem flat_get {α:Type}(zs:List α):∀ (n i:Nat),i<n*zs.length→(List.replicate n zs).flatten[i]?=zs[i%zs.length]?
 | 0,i,h=>by simp at h
 | n+1,i,h=>by
  rw[List.replicate_succ,List.flatten_cons,List.getElem?_append]
  split
  ·rename_i hi;rw[Nat.mod_eq_of_lt hi]
  ·rename_i hi
   have hlen:zs.length≤i:=Nat.le_of_not_lt hi
   rw[Nat.add_mul,Nat.one_mul] at h
   rw[flat_get zs n (i-zs.length) (by omega),Nat.mod_eq_sub_mod hlen]
theorem zrep_len (n:Nat)(zs:List V):(zrep n zs).length=n*zs.length:=by
 unfold zrep
 split
 ·simp
 ·simp
theorem zrep_get (n:Nat)(zs:List V)(i:Nat)(h:i<n*zs.length):(zrep n zs)[i]?=zs[i%zs.length]?:=by
 unfold zrep
 split
 ·rename_i z
  simp at h
  simp [h,Nat.mod_one]
 ·exact flat_get _ n i h
theorem rep_rd {w:World}{S:Nat→Prop}{sz:Nat}(z:Value)(n:Nat)(hz:z.cells.size=sz)(hpos:0<sz) :
  RdL w S ((Array.range (n*sz)).map (fun i=>z.cells[i%z.cells.size]!)).toList (zrep n (z.cells.toList.map cellV)):=by
 refine RdL.mk (by simp [zrep_len,hz]) fun i v x hv hx=>?_
 have hi:i<n*sz:=by have:=lt_of_get hv;simpa using this
 rw[zrep_get _ _ _ (by simpa [hz] using hi)] at hx
 have hm:i%sz<sz:=Nat.mod_lt _ hpos
 have hm':i%sz<z.cells.size:=by omega
 rw[List.length_map,Array.length_toList,hz,List.getElem?_map,Array.getElem?_toList,Array.getElem?_eq_getElem hm'] at hx
 cases hx
 rw[Array.getElem?_toList,Array.getElem?_map,Array.getElem?_range,if_pos hi,hz] at hv
 simp only [Option.map_some,Option.some.injEq] at hv
 rw[getElem!_pos z.cells (i%sz) hm'] at hv
 subst hv
 exact zero_rd _
theorem wrap_small {n:Int}(h0:0≤n)(h1:n≤1073741824):IntKind.i64.wrap n=n:=by
 unfold IntKind.wrap
 simp [IntKind.bits,IntKind.signed]
 omega
theorem make_run {t e:TypeId}{sz:Nat}{zs:List V}(h:elemT P t=some (e,sz,zs)){n:Int}{k k':IntKind}(h0:0≤n)(h1:n≤1073741824)(w:World) :
  ∃ z:Value,zs=z.cells.toList.map cellV∧z.cells.size=sz ∧
   (Instr.makeSlice t (.int k n) (.int k' n)).run P w=.ok (.slice (some ⟨w.heap.size,0,none⟩) n.toNat n.toNat) (push w ((Array.range (n.toNat*sz)).map (fun i=>z.cells[i%z.cells.size]!)) e):=by
 obtain⟨hu,hz,hl,hs,hpos,hb⟩:=elemT_of h
 obtain⟨z,hz1,rfl,i,hi,hiz⟩:=zeroV_run hz w
 refine⟨z,rfl,by simpa using hl,?_⟩
 have hbi:i.bytes=P.bytesOf e:=by simp [Program.bytesOf,hi]
 have hw:=wrap_small h0 h1
 have hprod:(i.bytes:Int)*n≤1000*1073741824:=by
  rw[hbi]
  have this:(P.bytesOf e:Int)≤1000:=by omega
  have h3:(P.bytesOf e:Int)*n≤1000*n:=Int.mul_le_mul_of_nonneg_right this h0
  omega
 unfold Instr.makeSlice
 simp only [Sem.run_bind,run_under hu,Result.andThen_ok,asInt,asIntOf,Sem.run_pure,typeInfo,run_program,hi,hw]
 have ht:¬ ((decide (n<0) || decide ((i.bytes:Int)*n > 2^48)) || decide (n<0) || decide (n > n))=true:=by
  simp only [Bool.or_eq_true,decide_eq_true_eq,not_or]
  omega
 rw[if_neg ht]
 simp only [Sem.run_bind,run_askRoom,Result.andThen_ok,run_sizeOf hs hpos]
 by_cases hn:n.toNat*sz=0
 ·rw[if_pos hn]
  simp only [Sem.run_bind,Sem.run_pure,Result.andThen_ok,newRow,run_newObj]
  rw[hn]
  have h0:∀ f:Nat→Value,(Array.range 0).map f=#[]:=fun f=>by apply Array.ext';simp
  rw[h0,h0]
  rfl
 ·rw[if_neg hn]
  simp only [Sem.run_bind,hz1,Sem.run_pure,Result.andThen_ok,newRow,run_newObj]
  rfl
theorem buildSlice_run {t:TypeId}{len sz:Nat}{cells:List V}{parts:Array (Nat × Operand)}{g:Operand→D}(h:buildSliceV P t len (parts.toList.map fun p=>(p.1,g p.2))=some (sz,cells)){w:World}{S:Nat→Prop}
  {ρ:List Nat} {ev:Operand→Value} (hx:∀ x∈parts.toList,RdD w S ρ (ev x.2) (g x.2)) :
  ∃ (vals:Array Value) (e:TypeId),(Instr.buildSlice t len (parts.map fun (i,x)=>(i,ev x))).run P w=.ok (.slice (some ⟨w.heap.size,0,none⟩) len len) (push w vals e)∧RdL w S vals.toList cells∧cells.length=len*sz:=by
 unfold buildSliceV at h
 split at h
 ·rename_i e sz' zs ps he hp
  obtain⟨hb,h⟩:=cond_some h
  rw[Nat.ble_eq] at hb
  split at h
  ·rename_i l hf
   simp only [Option.some.injEq,Prod.mk.injEq] at h
   obtain⟨rfl,rfl⟩:=h
   obtain⟨hu,hz,hl,hs,hpos,_⟩:=elemT_of he
   obtain⟨z,hz1,rfl,i,hi,hiz⟩:=zeroV_run hz w
   have hzs:z.cells.size=sz':=by simpa using hl
   have hps:=vals_rd hx hp
   obtain⟨cells',h1,h2⟩:=fill_run (fun i=>some (i*sz',sz')) (cells:=(Array.range (len*sz')).map (fun i=>z.cells[i%z.cells.size]!)) (rep_rd z len hzs hpos) hps hf
   have ep:(parts.map fun (i,x)=>(i,ev x)).toList=parts.toList.map fun p=>(p.1,ev p.2):=by simp
   have hlen:l.length=len*sz':=by
    have:∀ (place:Nat→Option (Nat × Nat)) (ps:List (Nat × V)) (zs l:List V),fillV place zs ps=some l→l.length=zs.length:=by
     intro place ps
     induction ps with
     | nil=>intro zs l h;cases h;rfl
     | cons p ps ih =>
      obtain⟨i,v⟩:=p
      intro zs l h
      unfold fillV at h
      split at h
      ·cases h
      ·obtain⟨_,h⟩:=cond_some h
       rw[ih _ _ h,splice_len]
    rw[this _ _ _ _ hf,zrep_len]
    simp [hzs]
   refine⟨cells',e,?_,h2,hlen⟩
   unfold Instr.buildSlice
   simp only [Sem.run_bind,run_under hu,Result.andThen_ok,run_sizeOf hs hpos]
   rw[if_neg (by omega)]
   by_cases hn:len*sz'=0
   ·rw[if_pos hn]
    simp only [Sem.run_bind,Sem.run_pure,Result.andThen_ok]
    have e0:((Array.range (len*sz')).map (fun i=>z.cells[i%z.cells.size]!))=(Array.range (len*sz')).map (fun i=>(#[]:Array Value)[i%(#[]:Array Value).size]!):=by rw[hn];simp
    rw[e0] at h1
    rw[ep,h1]
    simp only [Sem.run_bind,newRow,run_newObj,Sem.run_pure,Result.andThen_ok]
    rfl
   ·rw[if_neg hn]
    simp only [Sem.run_bind,hz1,Sem.run_pure,Result.andThen_ok]
    rw[ep,h1]
    simp only [Sem.run_bind,newRow,run_newObj,Sem.run_pure,Result.andThen_ok]
    rfl
  ·cases h
 ·cases h
end Go.Proofs.YtkkbddkpggjgpaaGreatDoor
namespace Go.Proofs.YtkkbddkpggjgpaaGreatDoor
open Go.RowKit
variable {P:Program} {C:World→Prop} {Qr:V→Prop} {Qo:Ex→St→Prop}
theorem src_run {w0 S0 w ρ h}(ok:OkH w0 S0 w ρ h){dx:D}{c:List V}{n sz:Nat}(hc:srcV h dx=some c)(hn:lenD dx=some n)(hs:srcOk h sz dx=true){x:Value}(hx:RdD w (stab S0 ρ h) ρ x dx) :
  ∃ (a:Option Addr) (cap:Nat) (us:List Value),x=.slice a n cap∧RdL w (stab S0 ρ h) us c∧c.length=n*sz ∧
   ∀ w1:World,w1.heap=w.heap→(Builtin.firstCells sz n x).run P w1=.ok us.toArray w1:=by
 unfold srcV at hc
 split at hc
 ·cases hc
  cases hn
  have:=hx.val_inv
  cases this
  exact⟨none,0,[],rfl,.nil,by simp,fun w1 _=>rfl⟩
 ·rename_i s cells
  cases hc
  simp only [srcOk,Nat.beq_eq] at hs
  subst hs
  obtain⟨hpos,rfl⟩:=lenD_sl hn
  have:=hx.val_inv
  cases this with
  | nilsl =>
   have e0:slen s ([]:List V)=0:=slen_eq hpos (by simp)
   rw[e0]
   exact⟨none,0,[],rfl,.nil,by simp,fun w1 _=>rfl⟩
  | sl g1 g2 g3 g4 g5 g6 =>
   rename_i b o m cap vals
   rw[slen_eq hpos g4]
   refine⟨_,cap,vals,rfl,g5,g4,fun w1 hw1=>?_⟩
   have:=run_loadCells_list (P:=P) w1 ⟨b,o,none⟩ vals (fun j v hv=>by
    rw[Addr.add_mid]
    have:=g6 j v hv
    unfold World.cell? at this ⊢
    rw[hw1];exact this)
   unfold Builtin.firstCells
   rw[← g4,← g5.length]
   exact this
 ·rename_i b off len s
  obtain⟨ha,hc⟩:=cond_some hc
  cases hc
  cases hn
  simp only [srcOk,Bool.and_eq_true,Nat.beq_eq,Nat.ble_eq,mul_cond] at hs
  obtain⟨rfl,hle⟩:=hs
  cases hx with
  | osl hβ hlc hsh hcap =>
   rename_i β cap e k
   obtain⟨vals,h1,h2⟩:=ok.cells ha hβ
   have hlen:=h1.length
   simp only [mul_cond]
   have hl2:((vals.drop off).take (n*s)).length=n*s:=by rw[List.length_take,List.length_drop];omega
   refine⟨_,cap,(vals.drop off).take (n*s),rfl,(h1.drop off).take _,by rw[List.length_take,List.length_drop];omega,fun w1 hw1=>?_⟩
   have:=run_loadCells_list (P:=P) w1 ⟨β,off,none⟩ ((vals.drop off).take (n*s)) (fun j v hv=>by
    rw[Addr.add_mid]
    rw[List.getElem?_take] at hv
    split at hv
    ·rw[List.getElem?_drop] at hv
     have:=(h2 _ _ hv).1
     unfold World.cell? at this ⊢
     rw[hw1];exact this
    ·cases hv)
   unfold Builtin.firstCells
   rw[hl2] at this
   exact this
 ·cases hc
theorem append_fits {t e:TypeId}{sz:Nat}{zs:List V}(he:elemT P t=some (e,sz,zs)){ty:TypeId}{β len cap n:Nat}{a:Option Addr}{xcap:Nat}
  {us:List Value} {w:World} (hf:(Builtin.firstCells sz n (.slice a n xcap)).run P w=.ok us.toArray w) (hfit:len+n≤cap)
  (hst:(storeCells ⟨β,len*sz,none⟩ us).run P w=.ok () (w.setCells β (len*sz) us)) :
  (Builtin.append_ #[t,t] ty #[.slice (some ⟨β,0,none⟩) len cap,.slice a n xcap]).run P w=.ok (.slice (some ⟨β,0,none⟩) (len+n) cap) (w.setCells β (len*sz) us):=by
 obtain⟨hu,hz,hl,hs,hpos,hb⟩:=elemT_of he
 simp [Builtin.append_,run_under hu,run_sizeOf hs hpos,Builtin.lenOf,hfit,hf,Addr.add_mid,hst]
theorem append_grows {t e:TypeId}{sz:Nat}{zs:List V}(he:elemT P t=some (e,sz,zs)){ty:TypeId}{base a:Option Addr}{len cap n xcap:Nat}
  {us os:List Value} {w:World} (hf:∀ w1:World,w1.heap=w.heap→(Builtin.firstCells sz n (.slice a n xcap)).run P w1=.ok us.toArray w1)
  (ho:∀ w1:World,w1.heap=w.heap→(Builtin.firstCells sz len (.slice base len cap)).run P w1=.ok os.toArray w1) (hg:cap<len+n) (hsm:len+n≤1073741824) :
  ∃ (newCap:Nat) (rest:List Value),len+n≤newCap∧rest.length=(newCap-(len+n))*sz ∧
   (Builtin.append_ #[t,t] ty #[.slice base len cap,.slice a n xcap]).run P w=.ok (.slice (some ⟨w.heap.size,0,none⟩) (len+n) newCap) (push w.drew (os ++ us ++ rest).toArray e):=by
 obtain⟨hu,hz,hl,hs,hpos,hb⟩:=elemT_of he
 obtain⟨z,hz1,rfl,i,hi,hiz⟩:=zeroV_run hz w
 have hzs:z.cells.size=sz:=by simpa using hl
 have hbi:i.bytes=P.bytesOf e:=by simp [Program.bytesOf,hi]
 have hsi:i.size=sz:=by rw[← hs];simp [sizeT,Program.cellsOf,hi]
 refine⟨grownCap w (len+n) cap e,(Builtin.zeroCells z.cells (grownCap w (len+n) cap e-(len+n))).toList,grownCap_ge _ _ _ _,by simp [size_zeroCells,hzs],?_⟩
 have h1:¬ (len+n≤cap):=by omega
 have h2:¬ ((9223372036854775807:Int)<(len:Int)+(n:Int)):=by omega
 have hfit:Builtin.nextslicecap (len+n) cap*i.bytes≤281474976710656:=growslice_fits hg (by
  rw[hbi]
  have:(len+n)*P.bytesOf e≤1073741824*1000:=Nat.mul_le_mul hsm hb
  omega)
 have h3:¬ (281474976710656<Builtin.nextslicecap (len+n) cap*i.bytes):=by omega
 have hf':=hf w.drew rfl
 have ho':=ho w.drew rfl
 simp [Builtin.append_,run_under hu,sizeOf,typeInfo,zeroValue,hi,hiz,hsi,Builtin.lenOf,h1,h2,h3,Question.forced,hf',ho',newRow,grownCap]
 show push w.drew _ e=push w.drew _ e
 congr 1
 apply Array.ext'
 simp
theorem take_splice:∀ (us vals:List Value) (off:Nat),off+us.length≤vals.length→(spliceW vals off us).take (off+us.length)=vals.take off ++ us
 | [],vals,off,_=>by simp [spliceW]
 | u::us,vals,off,h=>by
  simp only [List.length_cons] at h
  rw[spliceW,show off+(u::us).length=(off+1)+us.length by simp;omega,take_splice us (vals.set off u) (off+1) (by simp;omega)]
  rw[List.take_succ_eq_append_getElem (by simp;omega)]
  simp [List.take_set_of_le]
theorem kill_ok {w0 S0 w ρ h}(ok:OkH w0 S0 w ρ h)(b:Nat):OkH w0 S0 w ρ (setBox h b ⟨false,false,[]⟩)∧(∀ c,stab S0 ρ h c→stab S0 ρ (setBox h b ⟨false,false,[]⟩) c):=by
 have hst:∀ c,stab S0 ρ h c→stab S0 ρ (setBox h b ⟨false,false,[]⟩) c:=fun c hc=>⟨hc.1,fun i x hi xa xf hic=>by
  simp only [setBox,List.getElem?_set] at hi
  split at hi
  ·split at hi
   ·cases hi;cases xa
   ·cases hi
  ·exact hc.2 i x hi xa xf hic⟩
 have back:∀ (i:Nat) (x:Box),(setBox h b ⟨false,false,[]⟩)[i]?=some x→x.alive=true→h[i]?=some x:=by
  intro i x hi xa
  simp only [setBox,List.getElem?_set] at hi
  split at hi
  ·split at hi
   ·cases hi;cases xa
   ·cases hi
  ·exact hi
 refine⟨⟨ok.below,?_,ok.heap.low,?_,?_⟩,hst⟩
 ·simp [setBox,ok.heap.len]
 ·intro i j x y β hi hj xa ya gi gj
  exact ok.heap.inj i j x y β (back i x hi xa) (back j y hj ya) xa ya gi gj
 ·intro i x β hi xa gi
  obtain⟨vs,t,h1,h2,h3⟩:=ok.heap.box i x β (back i x hi xa) xa gi
  exact⟨vs,t,h1,h2,h3.lasts ⟨Nat.le_refl _,fun c _ hs=>⟨hst c hs,rfl⟩⟩⟩
end Go.Proofs.YtkkbddkpggjgpaaGreatDoor
namespace Go.Proofs.YtkkbddkpggjgpaaGreatDoor
open Go.RowKit
variable {P:Program} {C:World→Prop} {Qr:V→Prop} {Qo:Ex→St→Prop}
theorem readd_ok {w0 S0 w w' ρ h h1 β}(ok:OkH w0 S0 w ρ h1)(hno:∀ (i:Nat) (x:Box),h1[i]?=some x→x.alive=true→ρ[i]?≠some β)(hlow:w0.own β∧β<w.heap.size)
  (hos:w'.os=w.os) (htape:w'.tape=w.tape) (hout:w'.output=w.output) (hsz:w'.heap.size=w.heap.size) (hoth:∀ c,c≠β→w'.heap[c]?=w.heap[c]?)
  (hshp:∀ c e n,w.shape? c=some (e,n)→w'.shape? c=some (e,n))
  {vals':Array Value} {ty:TypeId} (hnew:w'.heap[β]?=some (.cells vals' ty (0,0))) {cells:List V} (hle:cells.length≤vals'.size)
  (hl:Lasts w w' (stab S0 ρ h) (stab S0 (ρ ++ [β]) (newB h1 cells))) (hl1:Lasts w w' (stab S0 ρ h1) (stab S0 (ρ ++ [β]) (newB h1 cells))∨∀ (i:Nat) (x:Box) γ,h1[i]?=some x→x.alive=true→ρ[i]?=some γ →
   ∃ vals ty,w.heap[γ]?=some (.cells vals ty (0,0))∧x.cells.length≤vals.size∧RdL w (stab S0 ρ h) (vals.toList.take x.cells.length) x.cells)
  (hr:RdL w (stab S0 ρ h) (vals'.toList.take cells.length) cells):OkH w0 S0 w' (ρ ++ [β]) (newB h1 cells):=by
 refine⟨⟨hos.trans ok.below.os,htape.trans ok.below.tape,hout.trans ok.below.output,by rw[hsz];exact ok.below.size,fun c hc hx=>(hoth c (fun e=>hlow.1.elim (fun q=>by omega) (fun q=>hx (e ▸ q)))).trans (ok.below.block c hc hx),fun c e n q=>hshp c e n (ok.below.shape c e n q)⟩,?_,?_,?_,?_⟩
 ·simp [newB,ok.heap.len]
 ·intro i γ hi
  rw[hsz]
  rcases get_snoc hi with hi | ⟨_,rfl⟩
  ·exact ok.heap.low i γ hi
  ·exact hlow
 ·intro i j x y γ hx hy xa ya hi hj
  have hlen:=ok.heap.len
  rcases get_snoc hi with gi | ⟨ei,fi⟩<;>rcases get_snoc hj with gj | ⟨ej,fj⟩
  ·rcases get_snoc hx with gx | ⟨ex,_⟩
   ·rcases get_snoc hy with gy | ⟨ey,_⟩
    ·exact ok.heap.inj i j x y γ gx gy xa ya gi gj
    ·have:=lt_of_get gj;omega
   ·have:=lt_of_get gi;omega
  ·rcases get_snoc hx with gx | ⟨ex,_⟩
   ·exact (hno i x gx xa (fj ▸ gi)).elim
   ·have:=lt_of_get gi;omega
  ·rcases get_snoc hy with gy | ⟨ey,_⟩
   ·exact (hno j y gy ya (fi ▸ gj)).elim
   ·have:=lt_of_get gj;omega
  ·rw[ei,ej]
 ·intro i x γ hx xa hi
  have hlen:=ok.heap.len
  rcases get_snoc hi with hi | ⟨rfl,rfl⟩
  ·rcases get_snoc hx with hx | ⟨rfl,_⟩
   ·have hne:γ≠β:=fun e=>hno i x hx xa (e ▸ hi)
    rcases hl1 with hl1 | hb
    ·obtain⟨vs,t,h1,h2,h3⟩:=ok.heap.box i x γ hx xa hi
     exact⟨vs,t,(hoth γ hne).trans h1,h2,h3.lasts hl1⟩
    ·obtain⟨vs,t,h1,h2,h3⟩:=hb i x γ hx xa hi
     exact⟨vs,t,(hoth γ hne).trans h1,h2,h3.lasts hl⟩
   ·have:=lt_of_get hi;omega
  ·rcases get_snoc hx with hx | ⟨_,rfl⟩
   ·have:=lt_of_get hx;omega
   ·exact⟨vals',ty,hnew,hle,hr.lasts hl⟩
theorem prim_any {w w':World}{S S':Nat→Prop}:∀ {vs:List Value} {xs:List V},RdL w S vs xs→xs.all isPrim=true→RdL w' S' vs xs
 | [],_,h,_=>by cases h;exact .nil
 | v::vs,_,h,hp=>by
  cases h with
  | cons h1 h2 =>
   rename_i x xs
   rw[List.all_cons,Bool.and_eq_true] at hp
   refine .cons ?_ (prim_any h2 hp.2)
   have hp1:=hp.1
   cases h1<;>first | exact .unk | exact .bool | exact .int | exact .nil | cases hp1
theorem adopt_ok {w0 S0 w w' ρ h β}(ok:OkH w0 S0 w ρ h)(hb:Below w.heap.size w w')(hge:w.heap.size≤β){vals:Array Value}{ty:TypeId}(hnew:w'.heap[β]?=some (.cells vals ty (0,0)))
  {cells:List V} (hle:cells.length≤vals.size) {S:Nat→Prop} (hr:RdL w' S (vals.toList.take cells.length) cells) (hp:cells.all isPrim=true) :
  OkH w0 S0 w' (ρ ++ [β]) (newB h cells)∧Lasts w w' (stab S0 ρ h) (stab S0 (ρ ++ [β]) (newB h cells)):=by
 have hlt:β<w'.heap.size:=by
  rcases Nat.lt_or_ge β w'.heap.size with q | q
  ·exact q
  ·rw[Array.getElem?_eq_none q] at hnew;cases hnew
 have hlen:=ok.heap.len
 have hl:Lasts w w' (stab S0 ρ h) (stab S0 (ρ ++ [β]) (newB h cells)):=by
  refine⟨hb.size,fun b hbl hs=>⟨⟨hs.1,fun i x hx xa xf hi=>?_⟩,hb.block b hbl⟩⟩
  rcases get_snoc hi with hi | ⟨_,rfl⟩
  ·rcases get_snoc hx with hx | ⟨rfl,_⟩
   ·exact hs.2 i x hx xa xf hi
   ·have:=lt_of_get hi;omega
  ·omega
 refine⟨⟨ok.below.step hb,?_,?_,?_,?_⟩,hl⟩
 ·simp [newB,hlen]
 ·intro i γ hi
  rcases get_snoc hi with hi | ⟨_,rfl⟩
  ·exact⟨(ok.heap.low i γ hi).1,by have:=(ok.heap.low i γ hi).2;have:=hb.size;omega⟩
  ·exact⟨.inl (by have:=ok.below.size;omega),hlt⟩
 ·intro i j x y γ hx hy xa ya hi hj
  rcases get_snoc hi with gi | ⟨ei,fi⟩<;>rcases get_snoc hj with gj | ⟨ej,fj⟩
  ·rcases get_snoc hx with gx | ⟨ex,_⟩
   ·rcases get_snoc hy with gy | ⟨ey,_⟩
    ·exact ok.heap.inj i j x y γ gx gy xa ya gi gj
    ·have:=lt_of_get gj;omega
   ·have:=lt_of_get gi;omega
  ·have:=(ok.heap.low i γ gi).2;omega
  ·have:=(ok.heap.low j γ gj).2;omega
  ·rw[ei,ej]
 ·intro i x γ hx xa hi
  rcases get_snoc hi with hi | ⟨rfl,rfl⟩
  ·rcases get_snoc hx with hx | ⟨rfl,_⟩
   ·obtain⟨vs,t,h1,h2,h3⟩:=ok.heap.box i x γ hx xa hi
    exact⟨vs,t,(hb.block γ (ok.heap.low i γ hi).2).trans h1,h2,h3.lasts hl⟩
   ·have:=lt_of_get hi;omega
  ·rcases get_snoc hx with hx | ⟨_,rfl⟩
   ·have:=lt_of_get hx;omega
   ·exact⟨vals,ty,hnew,hle,prim_any hr hp⟩
theorem mut_ok {w0 S0 w w' ρ h}(ok:OkH w0 S0 w ρ h){b β:Nat}(ha:(bx h b).alive=true)(hfz:(bx h b).frozen=false)(hβ:ρ[b]?=some β){cells:List V}
  (hk:Kept ⟨w,fun c=>c=β⟩ w') {vals':Array Value} {ty:TypeId} (hnew:w'.heap[β]?=some (.cells vals' ty (0,0))) (hle:cells.length≤vals'.size)
  {S:Nat→Prop} (hr:RdL w' S (vals'.toList.take cells.length) cells) (hp:cells.all isPrim=true) :
  OkH w0 S0 w' ρ (setBox h b ⟨true,false,cells⟩)∧Lasts w w' (stab S0 ρ h) (stab S0 ρ (setBox h b ⟨true,false,cells⟩)):=by
 have hx:=bx_get ha
 have hbl:b<h.length:=lt_of_get hx
 have hst:∀ c,stab S0 ρ h c→stab S0 ρ (setBox h b ⟨true,false,cells⟩) c:=fun c hc=>⟨hc.1,fun i x hi xa xf hic=>by
  simp only [setBox,List.getElem?_set] at hi
  split at hi
  ·rename_i he
   subst he
   exact hc.2 b _ hx ha hfz hic
  ·exact hc.2 i x hi xa xf hic⟩
 have hsz:w.heap.size≤w'.heap.size:=hk.size
 have hoth:∀ c,c<w.heap.size→c≠β→w'.heap[c]?=w.heap[c]?:=fun c hc hn=>hk.block c hc hn
 have hl:Lasts w w' (stab S0 ρ h) (stab S0 ρ (setBox h b ⟨true,false,cells⟩)):=⟨hsz,fun c hc hs=>⟨hst c hs,hoth c hc (fun e=>hs.2 b _ hx ha hfz (e ▸ hβ))⟩⟩
 have hlow:=ok.heap.low b β hβ
 refine⟨⟨ok.below.then hlow.1 hk,?_,?_,?_,?_⟩,hl⟩
 ·simp [setBox,ok.heap.len]
 ·intro i γ hi;exact⟨(ok.heap.low i γ hi).1,Nat.lt_of_lt_of_le (ok.heap.low i γ hi).2 hsz⟩
 ·intro i j x y γ hi hj xa ya gi gj
  have back:∀ (i:Nat) (x:Box),(setBox h b ⟨true,false,cells⟩)[i]?=some x→x.alive=true→∃ z:Box,h[i]?=some z∧z.alive=true:=by
   intro i x hi xa
   simp only [setBox,List.getElem?_set] at hi
   split at hi
   ·rename_i he;subst he;exact⟨_,hx,ha⟩
   ·exact⟨x,hi,xa⟩
  obtain⟨x',hx',xa'⟩:=back i x hi xa
  obtain⟨y',hy',ya'⟩:=back j y hj ya
  exact ok.heap.inj i j x' y' γ hx' hy' xa' ya' gi gj
 ·intro i x γ hi xa gi
  simp only [setBox,List.getElem?_set] at hi
  split at hi
  ·rename_i he
   subst he
   try rw[if_pos hbl] at hi
   cases hi
   rw[hβ] at gi
   cases gi
   exact⟨vals',ty,hnew,hle,prim_any hr hp⟩
  ·rename_i hne
   obtain⟨vs,t,h1,h2,h3⟩:=ok.heap.box i x γ hi xa gi
   exact⟨vs,t,(hoth γ (ok.heap.low i γ gi).2 (fun e=>hne (ok.heap.inj b i _ x β hx hi ha xa hβ (e ▸ gi)))).trans h1,h2,h3.lasts hl⟩
theorem kill_back {h:List Box}{b i:Nat}{x:Box}(hi:(setBox h b ⟨false,false,[]⟩)[i]?=some x)(xa:x.alive=true):h[i]?=some x∧i≠b:=by
 simp only [setBox,List.getElem?_set] at hi
 split at hi
 ·split at hi
  ·cases hi;cases xa
  ·cases hi
 ·rename_i hne;exact⟨hi,fun e=>hne e.symm⟩
theorem append_sound {w0 S0 w ρ h}(ok:OkH w0 S0 w ρ h){o:Oper}{a:Act}{t xt ty:TypeId}{ds dx:D}{k:D→List Box→T}(hw:(appendT P t xt h ds dx k).wp P C Qr Qo){vs vx:Value}
  (rs:RdD w (stab S0 ρ h) ρ vs ds) (rx:RdD w (stab S0 ρ h) ρ vx dx) :
  ∃ v w',(Builtin.append_ #[t,xt] ty #[vs,vx]).run P w=.ok v w'∧Post P C Qr Qo w0 S0 o a w ρ h k (a.put o.dst v) w':=by
 unfold appendT at hw
 split at hw
 ·rename_i e sz zs n c he hn hc
  obtain⟨htx,hn2⟩:=cond_some hn
  clear hn
  rw[Nat.beq_eq] at htx
  subst htx
  obtain⟨hu,hz,hzl,hsz,hpos,hb⟩:=elemT_of he
  split at hw
  ·-- onto nil
   obtain⟨hcheck,hw1⟩:=of_brk hw
   clear hw
   simp only [Bool.and_eq_true,Nat.ble_eq] at hcheck
   obtain⟨hso,hsm⟩:=hcheck
   have hvs:=rs.val_inv
   cases hvs
   obtain⟨ad,cap,us,rfl,hus,hcl,hfc⟩:=src_run (P:=P) ok hc hn2 hso rx
   rcases of_br hw1 with ⟨hn0,hw⟩ | ⟨hn0,hw⟩<;>clear hw1
   ·rw[Nat.beq_eq] at hn0
    subst hn0
    refine⟨.slice none 0 0,w,?_,.slice none 0 0,_,h,ρ,rfl,ok,.val .nil,fun _ _ q=>q,hw⟩
    have hf:=hfc w rfl
    simp [Builtin.append_,run_under hu,run_sizeOf hsz hpos,Builtin.lenOf,hf]
   ·have hn0:0<n:=by
     rcases Nat.eq_zero_or_pos n with q | q
     ·subst q;cases hn0
     ·exact q
    obtain⟨newCap,rest,h1,h2,h3⟩:=append_grows (P:=P) he (ty:=ty) (base:=none) (len:=0) (cap:=0) (os:=[]) hfc (fun _ _=>rfl) (by omega) (by omega)
    refine⟨_,_,h3,?_⟩
    have okd:OkH w0 S0 w.drew ρ h:=ok.grow ((Below.refl _ _).drew)
    have hul:=hus.length
    have hvs:(([]:List Value) ++ us ++ rest).toArray.size=newCap*sz:=by
     simp only [List.nil_append,List.size_toArray,List.length_append,h2,hul,hcl]
     rw[← Nat.add_mul]
     congr 1
     omega
    obtain⟨v,d,h',ρ',e1,e2,e3,e4,e5⟩:=push_post (P:=P) (C:=C) (Qr:=Qr) (Qo:=Qo) okd (o:=o) (a:=a) (k:=k) (vals:=(([]:List Value) ++ us ++ rest).toArray) (ty:=e) (cells:=c)
     (v:=.slice (some ⟨w.drew.heap.size,0,none⟩) (0+n) newCap) (d:=.osl h.length 0 n sz)
     (by rw[hvs,hcl];exact Nat.mul_le_mul_right sz (by omega)) (by simp [← hul];exact (hus.lasts (Lasts.of_below ((Below.refl _ _).drew) _)))
     (by rw[Nat.zero_add];exact .osl (push_own okd) (by omega) (shape_of_cells (push_new _ _ _)) (by rw[Nat.zero_add,hvs];exact Nat.le_refl _)) hw
    exact⟨v,d,h',ρ',e1,e2,e3,fun u x q=>e4 u x (q.grow ((Below.refl _ _).drew)),e5⟩
  ·-- onto a block of the call's own
   rename_i b off len s'
   obtain⟨hcheck1,hw1⟩:=of_chk hw
   clear hw
   simp only [Bool.and_eq_true,Bool.not_eq_true',Nat.beq_eq] at hcheck1
   obtain⟨⟨⟨e1,e2⟩,ha⟩,hfz⟩:=hcheck1
   subst e1 e2
   obtain⟨hcheck2,hw2⟩:=of_brk hw1
   clear hw1
   simp only [Bool.and_eq_true,Nat.ble_eq,Nat.beq_eq,mul_cond] at hcheck2
   obtain⟨⟨⟨hso,hall⟩,hsm⟩,hbl⟩:=hcheck2
   obtain⟨ad,xcap,us,rfl,hus,hcl,hfc⟩:=src_run (P:=P) ok hc hn2 hso rx
   have hul:=hus.length
   cases rs with
   | osl hβ hlc hsh hcap =>
    rename_i β cap ety n'
    obtain⟨vals,bty,hb1,hb2,hb3⟩:=ok.heap.box b _ β (bx_get ha) ha hβ
    have hshv:=shape_of_cells hb1
    rw[hsh] at hshv
    simp only [Option.some.injEq,Prod.mk.injEq] at hshv
    obtain⟨rfl,rfl⟩:=hshv
    rw[Nat.zero_add] at hcap
    obtain⟨okk,hstk⟩:=kill_ok ok b
    have hbn:¬ stab S0 ρ h β:=fun q=>q.2 b _ (bx_get ha) ha hfz hβ
    by_cases hfit:len+n≤cap
    ·-- in place
     have hroom:(len+n)*s'≤vals.size:=Nat.le_trans (Nat.mul_le_mul_right s' hfit) hcap
     rw[Nat.add_mul] at hroom
     have hst:(storeCells ⟨β,len*s',none⟩ us).run P w=.ok () (w.setCells β (len*s') us):=by
      have:=run_storeCells_cells (P:=P) β (len*s') us 0 w
       (fun j hj=>by
        have hlt:len*s'+j<vals.size:=by omega
        simp [World.cell?,hb1,Array.getElem?_eq_getElem hlt])
       (fun j hj=>by simp [World.frozen?,hb1]) (cells_one hus hall)
      simpa using this
     refine⟨_,_,append_fits he (hfc w rfl) hfit hst,?_⟩
     obtain⟨vals',hv1,hv2⟩:=setCells_heap β us (len*s') w vals ety (0,0) hb1
     have hvs:vals'.size=vals.size:=by
      have:=spliceW_len us vals.toList (len*s')
      rw[← hv2] at this
      simpa using this
     obtain⟨q1,q2,q3⟩:=setCells_rest β us (len*s') w
     have hl:Lasts w (w.setCells β (len*s') us) (stab S0 ρ h) (stab S0 (ρ ++ [β]) (newB (setBox h b ⟨false,false,[]⟩) ((bx h b).cells ++ c))) :=
      ⟨by rw[setCells_size];exact Nat.le_refl _,fun m _ hs=>⟨⟨hs.1,fun i x hx xa xf hi=>by
       have hlen:=ok.heap.len
       rcases get_snoc hx with hx | ⟨rfl,rfl⟩
       ·obtain⟨hx,hne⟩:=kill_back hx xa
        rcases get_snoc hi with hi | ⟨rfl,_⟩
        ·exact hs.2 i x hx xa xf hi
        ·have:=lt_of_get hx;omega
       ·rcases get_snoc hi with hi | ⟨_,rfl⟩
        ·have:=lt_of_get hi;simp [setBox] at this;omega
        ·exact hbn hs⟩,setCells_other β us _ w m (fun e=>hbn (e ▸ hs))⟩⟩
     have hshp:∀ c e n,w.shape? c=some (e,n)→(w.setCells β (len*s') us).shape? c=some (e,n):=by
      intro m ty' n' hsh'
      by_cases hm:m=β
      ·subst hm
       rw[shape_of_cells hb1] at hsh'
       rw[shape_of_cells hv1,hvs]
       exact hsh'
      ·simpa [World.shape?,setCells_other β us _ w m hm] using hsh'
     refine⟨_,_,_,ρ ++ [β],rfl,readd_ok (h:=h) okk ?_ (ok.heap.low b β hβ) q1 q2 q3 (setCells_size β _ _ _) (fun m hm=>setCells_other β us _ w m hm) hshp hv1 ?_ hl (.inr ?_) ?_,?_,?_,hw2⟩
     ·intro i x hx xa hi
      obtain⟨hx,hne⟩:=kill_back hx xa
      exact hne (ok.heap.inj i b x _ β hx (bx_get ha) xa ha hi hβ)
     ·rw[List.length_append,hbl,hvs,hcl];omega
     ·intro i x γ hx xa hi
      obtain⟨hx,_⟩:=kill_back hx xa
      exact ok.heap.box i x γ hx xa hi
     ·rw[List.length_append,hbl,hv2,show c.length=us.length from hul.symm,take_splice us vals.toList (len*s') (by simp;omega)]
      rw[hbl] at hb3
      exact hb3.append hus
     ·have e1:(setBox h b ⟨false,false,[]⟩).length=h.length:=by simp [setBox]
      refine .osl (β:=β) (by rw[← ok.heap.len];simp) hfit (shape_of_cells hv1) (by rw[hvs];omega)
     ·intro u x hr
      exact hr.lasts hl hshp (fun _ _ hi=>get_snoc_of hi)
    ·-- a new block
     have hfo:∀ w1:World,w1.heap=w.heap→(Builtin.firstCells s' len (.slice (some ⟨β,0,none⟩) len cap)).run P w1=.ok (vals.toList.take (len*s')).toArray w1:=by
      intro w1 hw1
      have hlt:(vals.toList.take (len*s')).length=len*s':=by simp;omega
      have:=run_loadCells_list (P:=P) w1 ⟨β,0,none⟩ (vals.toList.take (len*s')) (fun j v hv=>by
       rw[Addr.add_mid,Nat.zero_add]
       rw[List.getElem?_take] at hv
       split at hv
       ·unfold World.cell?
        rw[hw1]
        simp only [hb1]
        simpa using hv
       ·cases hv)
      rw[hlt] at this
      exact this
     obtain⟨newCap,rest,h1,h2,h3⟩:=append_grows (P:=P) he (ty:=ty) hfc hfo (by omega) hsm
     refine⟨_,_,h3,?_⟩
     have okd:OkH w0 S0 w.drew ρ (setBox h b ⟨false,false,[]⟩):=okk.grow ((Below.refl _ _).drew)
     have hos:(vals.toList.take (len*s')).length=len*s':=by simp;omega
     have hvs:(vals.toList.take (len*s') ++ us ++ rest).toArray.size=newCap*s':=by
      simp only [List.size_toArray,List.length_append,h2,hul,hcl,hos]
      rw[← Nat.add_mul,← Nat.add_mul]
      congr 1
      omega
     have hkill:Lasts w w (stab S0 ρ h) (stab S0 ρ (setBox h b ⟨false,false,[]⟩)):=⟨Nat.le_refl _,fun m _ hs=>⟨hstk m hs,rfl⟩⟩
     have hdrew:Lasts w w.drew (stab S0 ρ h) (stab S0 ρ (setBox h b ⟨false,false,[]⟩)):=hkill.trans (Lasts.of_below ((Below.refl _ _).drew) _)
     obtain⟨v,d,h',ρ',e1,e2,e3,e4,e5⟩:=push_post (P:=P) (C:=C) (Qr:=Qr) (Qo:=Qo) okd (o:=o) (a:=a) (k:=fun d h'=>k d h') (vals:=(vals.toList.take (len*s') ++ us ++ rest).toArray) (ty:=e)
      (cells:=(bx h b).cells ++ c)
      (v:=.slice (some ⟨w.drew.heap.size,0,none⟩) (len+n) newCap) (d:=.osl h.length 0 (len+n) s')
      (by rw[hvs,List.length_append,hbl,hcl,← Nat.add_mul];exact Nat.mul_le_mul_right s' (by omega))
      (by
       have e9:(vals.toList.take (len*s') ++ us ++ rest).toArray.toList.take ((bx h b).cells ++ c).length=vals.toList.take (len*s') ++ us:=by
        rw[List.length_append,hbl,← hul]
        rw[List.toList_toArray]
        rw[List.take_append_of_le_length (by simp;omega)]
        exact List.take_of_length_le (by simp;omega)
       rw[e9]
       rw[hbl] at hb3
       exact (hb3.append hus).lasts hdrew)
      (by
       have e8:(setBox h b ⟨false,false,[]⟩).length=h.length:=by simp [setBox]
       have:=push_own okd
       rw[e8] at this
       exact .osl this (by omega) (shape_of_cells (push_new _ _ _)) (by rw[Nat.zero_add,hvs];exact Nat.le_refl _)) hw2
     exact⟨v,d,h',ρ',e1,e2,e3,fun u x q=>e4 u x (q.lasts hdrew (Below.shapes ((Below.refl _ _).drew)) (fun _ _ q=>q)),e5⟩
  ·exact hw.elim
 ·exact hw.elim
end Go.Proofs.YtkkbddkpggjgpaaGreatDoor

namespace Go.Proofs.YtkkbddkpggjgpaaGreatDoor
open Go.RowKit
variable {P:Program} {C:World→Prop} {Qr:V→Prop} {Qo:Ex→St→Prop}
theorem nil_run {t e:TypeId}(hu:P.underlying t=some (.slice e))(xo:Operand)(a:Option Addr)(n c:Nat)(w:World) :
  (do eqGuard .eql t xo (.const (.slice none 0 0)) (.slice a n c) (.slice none 0 0);binOp .eql t (.slice a n c) (.slice none 0 0):Sem Value).run P w=.ok (.bool a.isNone) w:=by
 have h1:(eqGuard .eql t xo (.const (.slice none 0 0)) (.slice a n c) (.slice none 0 0)).run P w=.ok () w:=rfl
 rw[Sem.run_bind,h1,Result.andThen_ok]
 have hq:(Op.equal t (.slice a n c) (.slice none 0 0)).run P w=.ok a.isNone w:=by
  unfold Op.equal Op.maxDepth Op.equalIn
  rw[Sem.run_bind,run_under hu,Result.andThen_ok]
  cases a<;>rfl
 show (do pure (.bool (← Op.equal t (.slice a n c) (.slice none 0 0))):Sem Value).run P w=_
 rw[Sem.run_bind,hq]
 rfl
theorem post_same {w0 S0 w ρ h}(ok:OkH w0 S0 w ρ h){o:Oper}{a:Act}{k:D→List Box→T}{v:Value}{d:D}(hv:RdD w (stab S0 ρ h) ρ v d)(hw:(k d h).wp P C Qr Qo) :
  Post P C Qr Qo w0 S0 o a w ρ h k (a.put o.dst v) w:=⟨v,d,h,ρ,rfl,ok,hv,fun _ _ q=>q,hw⟩
theorem evalH_sound {w0 S0 w ρ h}(ok:OkH w0 S0 w ρ h){o:Oper}{a:Act}{g:Operand→D}{k:D→List Box→T}{Q:Exit→Act→World→Prop}(hw:(evalH P o g h k).wp P C Qr Qo)
  (hr:Reads w (stab S0 ρ h) ρ a o g):o.wp P a w (Post P C Qr Qo w0 S0 o a w ρ h k) Q:=by
 unfold evalH at hw
 split at hw
 ·rename_i t ho
  split at hw
  ·rename_i zs hz
   obtain⟨z,hz1,rfl,i,hi,hiz⟩:=zeroV_run hz w
   refine post_value (v:=.pointer (some ⟨w.heap.size,0,none⟩)) (w':=push w z.cells t) ?_ (push_post ok (by simp) (by rw[List.take_of_length_le (by simp)];exact zeros_rd _) (.own (push_own ok)) hw)
   simp only [execOp,ho,Instr.alloc,Sem.run_bind,hz1,Result.andThen_ok,newVar,newRow,run_newObj,Sem.run_pure]
   rfl
  ·exact hw.elim
 ·rename_i t x ho
  split at hw
  ·rename_i v hg
   obtain⟨hc,hw⟩:=of_chk hw
   have hx:=hr x (by simp [ho,Op.operands])
   rw[hg] at hx
   have hcs:=cells_rd hx.val_inv hc
   refine post_value (v:=.pointer (some ⟨w.heap.size,0,none⟩)) (w':=push w (a.eval x).cells t) ?_
    (push_post ok (by have:=hcs.length;simp at this;omega) (by rw[List.take_of_length_le (by have:=hcs.length;omega)];exact hcs) (.own (push_own ok)) hw)
   simp only [execOp,ho,Instr.box,Sem.run_bind,Result.andThen_ok,newVar,newRow,run_newObj,Sem.run_pure]
   rfl
  ·exact hw.elim
 ·rename_i t ad x ho
  split at hw
  ·rename_i c h' hs
   obtain⟨ec,hw2⟩:=of_brk hw
   subst ec
   clear hw
   obtain⟨w',h1,h2,h3,_⟩:=store_sound (P:=P) ok hs (hr ad (by simp [ho,Op.operands])) (hr x (by simp [ho,Op.operands]))
   refine post_skip (w':=w') ?_ ⟨undef,.unk,h',ρ,rfl,h2,.unk,h3,hw2⟩
   simp only [execOp,ho,Sem.run_bind,h1,Result.andThen_ok,Sem.run_pure]
  ·exact hw.elim
 ·rename_i t l c ho
  split at hw
  ·rename_i e sz zs k1 n k2 m he hl hc
   obtain⟨hchk,hw2⟩:=of_brk hw
   clear hw
   simp only [Bool.and_eq_true,iEq,iLe,beq_iff_eq,decide_eq_true_eq] at hchk
   obtain⟨⟨hnm,h0⟩,h1⟩:=hchk
   subst hnm
   have hl':=hr l (by simp [ho,Op.operands])
   have hc':=hr c (by simp [ho,Op.operands])
   rw[hl] at hl'
   rw[hc] at hc'
   obtain⟨hu,hz,hzl,hsz,hpos,hb⟩:=elemT_of he
   obtain⟨z,rfl,hzs,hrun⟩:=make_run (P:=P) he (k:=k1) (k':=k2) h0 h1 w
   have hrd:=rep_rd (w:=w) (S:=stab S0 ρ h) z n.toNat hzs hpos
   have hlen:=hrd.length
   refine post_value ?_ (push_post ok (vals:=(Array.range (n.toNat*sz)).map (fun i=>z.cells[i%z.cells.size]!)) (ty:=e) (v:=.slice (some ⟨w.heap.size,0,none⟩) n.toNat n.toNat)
    (by rw[← hlen];simp) (by rw[List.take_of_length_le (by omega)];exact hrd) (.osl (push_own ok) (Nat.le_refl _) (shape_of_cells (push_new _ _ _)) (by simp)) hw2)
   simp only [execOp,ho,Sem.run_bind,hl'.int_inv,hc'.int_inv,hrun,Result.andThen_ok,Sem.run_pure]
  ·exact hw.elim
 ·rename_i t len parts ho
  split at hw
  ·rename_i sz cells hb
   obtain⟨vals,e,h1,h2,h3⟩:=buildSlice_run hb (w:=w) (S:=stab S0 ρ h) (ρ:=ρ) (ev:=a.eval) (fun x hx=>hr x.2 (by simp [ho,Op.operands];exact⟨x.1,by simpa using hx⟩))
   have hlen:=h2.length
   refine post_value ?_ (push_post ok (vals:=vals) (ty:=e) (v:=.slice (some ⟨w.heap.size,0,none⟩) len len) (by rw[← hlen];simp) (by rw[List.take_of_length_le (by omega)];exact h2)
    (.osl (push_own ok) (Nat.le_refl _) (shape_of_cells (push_new _ _ _)) (by simp at hlen;omega)) hw)
   simp only [execOp,ho,Sem.run_bind,h1,Result.andThen_ok,Sem.run_pure]
  ·exact hw.elim
 ·rename_i args argTypes ho
  split at hw
  ·rename_i s x t xt hargs hts
   have ha:args=#[s,x]:=by apply Array.ext';simpa using hargs
   have ht:argTypes=#[t,xt]:=by apply Array.ext';simpa using hts
   have hops:o.op.operands.toList = [s,x]:=by simp [ho,Op.operands,Call.operands,ha]
   obtain⟨v,w',h1,h2⟩:=append_sound (P:=P) (C:=C) (Qr:=Qr) (Qo:=Qo) ok (o:=o) (a:=a) (ty:=o.type) hw (hr s (by simp [hops])) (hr x (by simp [hops]))
   refine post_value ?_ h2
   simp only [execOp,ho,resolve,ha,ht,Sem.run_bind,Sem.run_pure,Result.andThen_ok,invoke,builtin]
   have e:(#[s,x]:Array Operand).map a.eval=#[a.eval s,a.eval x]:=by apply Array.ext';simp
   rw[e,h1]
   rfl
  ·exact hw.elim
 ·rename_i t x yt ho
  split at hw
  ·rename_i e hu
   have hx:=hr x (by simp [ho,Op.operands])
   have key:∀ (a0:Option Addr) (n c:Nat),a.eval x=.slice a0 n c→(k (.val (.bool a0.isNone)) h).wp P C Qr Qo→o.wp P a w (Post P C Qr Qo w0 S0 o a w ρ h k) Q:=by
    intro a0 n c e1 hk
    refine post_value (v:=.bool a0.isNone) ?_ (post_same ok (.val .bool) hk)
    simp only [execOp,ho,e1]
    rw[Sem.run_bind,show a.eval (.const (.slice none 0 0))=.slice none 0 0 from rfl,nil_run hu]
    rfl
   generalize a.eval x=vx at hx key
   split at hw
   ·rename_i hg
    rw[hg] at hx
    cases hx with | val hx=>cases hx;exact key _ _ _ rfl hw
   ·rename_i sz cs hg
    rw[hg] at hx
    cases hx with
    | val hx =>
     cases hx with
     | nilsl =>
      rcases of_br hw with ⟨_,h2⟩ | ⟨h1,_⟩
      ·exact key _ _ _ rfl h2.1
      ·cases h1
     | sl =>
      rcases of_br hw with ⟨_,h2⟩ | ⟨_,h2⟩
      ·exact key _ _ _ rfl h2.2
      ·exact key _ _ _ rfl h2
   ·rename_i hg
    rw[hg] at hx
    cases hx;exact key _ _ _ rfl hw
   ·exact hw.elim
  ·exact hw.elim
 ·exact hw.elim
theorem evalA_sound {w0 S0 w ρ h}(ok:OkH w0 S0 w ρ h)(hC:C w)(hS:∀ b,w0.own b→S0 b){o:Oper}{a:Act}{g:Operand→D}{k:D→List Box→T}{Q:Exit→Act→World→Prop}
  (hw:(evalA P o g h k).wp P C Qr Qo) (hr:Reads w (stab S0 ρ h) ρ a o g):o.wp P a w (Post P C Qr Qo w0 S0 o a w ρ h k) Q:=by
 obtain⟨d,h',hf,hy,hw⟩:=evalA_yields hw
 refine Oper.wp_mono ?_ (hy h' (Fr.refl _) w0 S0 a w ρ Q hC (allS_of ok hS) (ok.fr hf) (fun x hx=>(hr x hx).fr hf))
 rintro a' w' ⟨v,rfl,h1,h2⟩
 exact⟨v,d,h',ρ,rfl,(ok.fr hf).grow h2,h1,fun u e q=>(q.fr hf).grow h2,hw⟩
theorem evalB_sound {w0 S0 w ρ h}(ok:OkH w0 S0 w ρ h)(hH:Hold C w0)(hS:∀ b,w0.own b→S0 b){o:Oper}{a:Act}{g:Operand→D}{k:D→List Box→T}{Q:Exit→Act→World→Prop}
  (hw:(evalB P o g h k).wp P C Qr Qo) (hr:Reads w (stab S0 ρ h) ρ a o g):o.wp P a w (Post P C Qr Qo w0 S0 o a w ρ h k) Q:=by
 have hC:C w:=hH w ok.below
 unfold evalB at hw
 split at hw
 ·rename_i c ho
  split at hw
  ·rename_i fo hc
   split at hw
   ·rename_i f caps hg
    unfold call2T at hw
    obtain⟨hall,hw⟩:=of_brk hw
    rcases hw with ⟨r,hi,hw2⟩ | ⟨sz,n,cs,hi,hw2⟩ | ⟨cs,off,len,dm,cs',r,hm,hi,hw2⟩
    ·refine evalA_sound (C:=C) (Qr:=Qr) (Qo:=Qo) ok hC hS ?_ hr
     simp only [evalA,ho,hc,hg]
     exact .inl ⟨hall,r,hi,hw2⟩
    ·have hf:=Fr.frz (h:=h) ((c.args.toList.map g).flatMap idsD)
     have okf:=ok.fr hf
     have hops:o.op.operands.toList=fo::c.args.toList:=by simp [ho,Op.operands,Call.operands,hc]
     have hfo:=(hr fo (by simp [hops])).fr hf
     have hargs:∀ x∈c.args.toList,RdD w (stab S0 ρ (frz h ((c.args.toList.map g).flatMap idsD))) ρ (a.eval x) (g x):=fun x hx=>(hr x (by simp [hops];exact .inr (by simpa using hx))).fr hf
     rw[hg] at hfo
     obtain⟨csv,hv,hcs⟩:∃ cs:List Value,a.eval fo=.func (.func f) #[] cs.toArray∧RdL w (stab S0 ρ (frz h ((c.args.toList.map g).flatMap idsD))) cs caps:=by
      have h1:=hfo.val_inv
      generalize a.eval fo=v at h1
      cases h1 with | clos h1=>exact⟨_,rfl,h1⟩
     have hA:RdL w (stab S0 ρ (frz h ((c.args.toList.map g).flatMap idsD))) (c.args.toList.map a.eval) ((c.args.toList.map g).map (toV h)):=args_rd fun x hx=>by
      refine toV_rd hf (List.all_eq_true.1 hall _ (List.mem_map_of_mem hx)) (allS_of okf hS) okf ?_ (hargs x hx)
      intro b y hb hy
      exact frz_frozen _ h b y (List.mem_flatMap.2 ⟨_,List.mem_map_of_mem hx,hb⟩) hy
     have hcall:=hi.2.2 w (stab S0 ρ (frz h ((c.args.toList.map g).flatMap idsD))) _ hC (stab_new okf (allS_of okf hS)) (hA.append hcs)
     have hrun:(execOp a.eval o).run P w=.ok (.enter f (c.args.toList.map a.eval ++ csv).toArray) w:=by
      simp only [execOp,ho,resolve,hc,hv,Deferred.ofValue,Sem.run_bind,Sem.run_pure,Result.andThen_ok,invoke]
      rw[callFunc_run hi.1]
      congr 2
      apply Array.ext'
      simp
     unfold Oper.wp
     rw[hrun]
     show Calls P f _ w _
     refine hcall.mono ?_
     rintro e w' ⟨β,cap,vals,ty,rfl,hge,hnew,hle,hcap,hfit,hrd,hb⟩
     obtain⟨ok',hl⟩:=adopt_ok okf hb hge hnew hle hrd hi.2.1
     have hβ:(ρ ++ [β])[(frz h ((c.args.toList.map g).flatMap idsD)).length]?=some β:=by rw[← okf.heap.len];simp
     exact⟨_,_,_,_,rfl,ok',.osl hβ hcap (shape_of_cells hnew) (by omega),fun u e q=>(q.fr hf).lasts hl (Below.shapes hb) (fun _ _ hi=>get_snoc_of hi),hw2⟩
    ·cases hal:c.args.toList with
     | nil=>rw[hal] at hm;cases hm
     | cons x0 xs =>
      rw[hal] at hm hw2 hall
      rw[List.map_cons] at hm hw2 hall
      cases hx0:g x0 with
      | osl b off1 len1 sz =>
       rw[hx0] at hm hw2 hall
       by_cases hsz:sz=1
       ·subst hsz
        cases hm
        obtain⟨hck,hw3⟩:=of_brk hw2
        rw[Bool.and_eq_true,Bool.and_eq_true,Bool.and_eq_true] at hck
        obtain⟨⟨⟨ha,hfz⟩,hno⟩,hce⟩:=hck
        have hfz:(bx h b).frozen=false:=by simpa using hfz
        have hno:b ∉ (xs.map g).flatMap idsD:=by
         intro hin
         have:((xs.map g).flatMap idsD).any (Nat.beq b)=true:=List.any_eq_true.2 ⟨b,hin,by simp⟩
         rw[this] at hno;cases hno
        have hcaps:caps = []:=by cases caps with | nil=>rfl | cons=>cases hce
        subst hcaps
        have hf:=Fr.frz (h:=h) ((xs.map g).flatMap idsD)
        have okf:=ok.fr hf
        have hops:o.op.operands.toList=fo::c.args.toList:=by simp [ho,Op.operands,Call.operands,hc]
        have hfo:=hr fo (by simp [hops])
        have hv0:=hr x0 (by simp [hops];exact .inr (by rw[← Array.mem_toList_iff,hal];simp))
        have hargs:∀ x∈xs,RdD w (stab S0 ρ (frz h ((xs.map g).flatMap idsD))) ρ (a.eval x) (g x):=fun x hx=>(hr x (by simp [hops];exact .inr (by rw[← Array.mem_toList_iff,hal];simp [hx]))).fr hf
        rw[hg] at hfo
        rw[hx0] at hv0
        obtain⟨csv,hv,hcs⟩:∃ cs:List Value,a.eval fo=.func (.func f) #[] cs.toArray∧RdL w (stab S0 ρ h) cs []:=by
         have h1:=hfo.val_inv
         generalize a.eval fo=v at h1
         cases h1 with | clos h1=>exact⟨_,rfl,h1⟩
        cases hcs
        generalize hev:a.eval x0=v0 at hv0
        cases hv0 with
        | osl hβ hcap hsh hfit =>
         rename_i β cap e nn
         have hbx:bx (frz h ((xs.map g).flatMap idsD)) b=bx h b:=by
          unfold bx;rw[nth_eq,nth_eq,frz_other _ _ _ hno]
         obtain⟨vals,ty,g1,g2,g3⟩:=okf.heap.box b _ β (by rw[← hbx] at ha;exact bx_get ha) (by rw[hbx];exact ha) hβ
         rw[hbx] at g2 g3
         have hs2:=shape_of_cells g1
         rw[hs2] at hsh
         have hnn:nn=vals.size:=by
          have:=Option.some.inj hsh
          exact (congrArg Prod.snd this).symm
         have hA:RdL w (stab S0 ρ (frz h ((xs.map g).flatMap idsD))) (xs.map a.eval) ((xs.map g).map (toV h)):=args_rd fun x hx=>by
          refine toV_rd hf (List.all_eq_true.1 hall _ (List.mem_cons_of_mem _ (List.mem_map_of_mem hx))) (allS_of okf hS) okf ?_ (hargs x hx)
          intro b y hb hy
          exact frz_frozen _ h b y (List.mem_flatMap.2 ⟨_,List.mem_map_of_mem hx,hb⟩) hy
         have hown:=(okf.heap.low b β hβ).1
         have hcall:=hi.2.2.2.2 w (stab S0 ρ (frz h ((xs.map g).flatMap idsD))) β cap vals ty _ (fun w' hk=>hH w' (ok.below.then hown hk)) (stab_new okf (allS_of okf hS))
          (fun hs=>hs.2 b (bx (frz h ((xs.map g).flatMap idsD)) b) (bx_get (by rw[hbx];exact ha)) (by rw[hbx];exact ha) (by rw[hbx];exact hfz) hβ) g1 g2 g3 hcap (by omega) hA
         have hrun:(execOp a.eval o).run P w=.ok (.enter f (.slice (some ⟨β,off,none⟩) len cap::xs.map a.eval).toArray) w:=by
          simp only [execOp,ho,resolve,hc,hv,Deferred.ofValue,Sem.run_bind,Sem.run_pure,Result.andThen_ok,invoke]
          rw[callFunc_run hi.1]
          congr 2
          apply Array.ext'
          simp [hal,hev]
         unfold Oper.wp
         rw[hrun]
         show Calls P f _ w _
         refine hcall.mono ?_
         rintro e w' ⟨v,vals',rfl,hrd,hnew,hvs,hcl,hk⟩
         obtain⟨ok',hl⟩:=mut_ok okf (cells:=cs') (by rw[hbx];exact ha) (by rw[hbx];exact hfz) hβ hk hnew (by rw[hvs,hi.2.2.2.1];exact g2) (by rw[hi.2.2.2.1];exact hcl) hi.2.2.1
         refine⟨_,_,_,_,rfl,ok',.val ?_,fun u e q=>(q.fr hf).lasts hl (fun c e n hsh=>?_) (fun _ _ hi=>hi),hw3⟩
         ·have hp:=hi.2.1
          cases hrd<;>first | exact .unk | exact .bool | exact .int | exact .nil | cases hp
         ·by_cases hcβ:c=β
          ·subst hcβ
           rw[shape_of_cells g1] at hsh
           rw[shape_of_cells hnew,hvs]
           exact hsh
          ·have hcw:c<w.heap.size:=by
            rcases Nat.lt_or_ge c w.heap.size with q | q
            ·exact q
            ·simp [World.shape?,Array.getElem?_eq_none q] at hsh
           simpa [World.shape?,hk.block c hcw hcβ] using hsh
       ·exfalso
        have:mArg h (D.osl b off1 len1 sz::xs.map g)=none:=by
         unfold mArg
         split
         ·rename_i heq;cases heq;exact absurd rfl hsz
         ·rfl
        rw[this] at hm;cases hm
      | _=>rw[hx0] at hm;cases hm
   ·exact evalA_sound ok hC hS hw hr
  ·exact evalA_sound ok hC hS hw hr
 ·exact evalA_sound ok hC hS hw hr
theorem evalOp_sound {w0 S0 w ρ h}(ok:OkH w0 S0 w ρ h)(hC:Hold C w0)(hS:∀ b,w0.own b→S0 b){o:Oper}{a:Act}{g:Operand→D}{k:D→List Box→T}{Q:Exit→Act→World→Prop}
  (hw:(evalOp P false o g h k).wp P C Qr Qo) (hr:Reads w (stab S0 ρ h) ρ a o g):o.wp P a w (Post P C Qr Qo w0 S0 o a w ρ h k) Q:=by
 unfold evalOp at hw
 rcases of_cond hw with ⟨h1,_⟩ | ⟨_,hw⟩
 ·cases h1
 ·rcases of_cond hw with ⟨_,hw⟩ | ⟨_,hw⟩
  ·exact evalH_sound ok hw hr
  ·exact evalB_sound ok hC hS hw hr
theorem unpin_rd {w:World}{S:Nat→Prop}{ρ:List Nat}{v:Value}{d:D}(h:RdD w S ρ v d):RdD w S ρ v (unpin d):=by
 cases h with
 | unk=>exact .unk
 | val h=>exact .val h
 | own h=>exact .own h
 | osl h1 h2 h3 h4=>exact .osl h1 h2 h3 h4
 | clo h1 h2=>exact .clo h1 h2
 | oslp h1 h2 h3 h4=>exact .osl h1 h2 h3 h4
theorem eval_get {w0 S0 st a w ρ}(ok:OkS w0 S0 st a w ρ)(x:Operand):RdD w (stab S0 ρ st.h) ρ (a.eval x) (getD st.s x):=by
 cases x with
 | tmp t=>exact unpin_rd (ok.slots t)
 | const v=>exact .val (const_rd v)
 | global g=>exact .unk
 | func f=>exact .val (@Rd.clos w _ f [] [] .nil)
theorem putO_len (s:List D)(dst:Option Tmp)(d:D):(putO s dst d).length=s.length:=by
 cases dst<;>simp [putO]
theorem put_ok {w0 S0 st a w ρ w' ρ' h'}(ok:OkS w0 S0 st a w ρ){dst:Option Tmp}{v:Value}{d:D}(hok:OkH w0 S0 w' ρ' h')(hv:RdD w' (stab S0 ρ' h') ρ' v d)
  (hk:∀ u e,RdD w (stab S0 ρ st.h) ρ u e→RdD w' (stab S0 ρ' h') ρ' u e):OkS w0 S0 ⟨putO st.s dst d,h'⟩ (a.put dst v) w' ρ':=by
 cases dst with
 | none=>exact⟨hok,ok.size,fun t=>hk _ _ (ok.slots t),ok.defers⟩
 | some t =>
  refine⟨hok,by simp [Act.put,putO,ok.size],fun m=>?_,ok.defers⟩
  have hsz:=ok.size
  simp only [Act.put,putO,Array.getD_eq_getD_getElem?]
  rw[nth_set]
  by_cases hm:t=m∧t<st.s.length
  ·rw[if_pos hm]
   obtain⟨rfl,hlt⟩:=hm
   rw[Array.getElem?_setIfInBounds_self_of_lt (by rw[hsz];exact hlt)]
   exact hv
  ·rw[if_neg hm]
   have:=hk _ _ (ok.slots m)
   rw[Array.getD_eq_getD_getElem?] at this
   by_cases ht:t=m
   ·subst ht
    have hge:¬ t<a.tmps.size:=fun q=>hm ⟨rfl,hsz ▸ q⟩
    rw[Array.getElem?_setIfInBounds,if_pos rfl,if_neg hge]
    rw[Array.getElem?_eq_none (Nat.le_of_not_lt hge)] at this
    exact this
   ·rw[Array.getElem?_setIfInBounds,if_neg ht]
    exact this
theorem lit_ok {w0 S0 st a w ρ}(ok:OkS w0 S0 st a w ρ){t:Nat}{b c:Bool}(ht:nth st.s t .unk=.val (.bool b))(hb:b=c):OkS w0 S0 ⟨st.s.set t (.val (.bool c)),st.h⟩ a w ρ:=by
 subst hb
 refine⟨ok.ok,by simp [ok.size],fun m=>?_,ok.defers⟩
 have hm:=ok.slots m
 simp only
 rw[nth_set]
 by_cases h:t=m∧t<st.s.length
 ·rw[if_pos h]
  obtain⟨rfl,_⟩:=h
  rw[ht] at hm
  exact hm
 ·rw[if_neg h];exact hm
theorem yielded_ok {w0 S0 st a w ρ}(ok:OkS w0 S0 st a w ρ){ops:Array Oper}{j t:Nat}{b:Bool}(hj:gslot ops j=some t)(ht:nth st.s t .unk=.val (.bool b)):yielded ops a.tmps j=some b:=by
 have hlt:t<st.s.length:=by
  rcases Nat.lt_or_ge t st.s.length with q | q
  ·exact q
  ·rw[nth_eq,List.getElem?_eq_none q] at ht;cases ht
 have hs:=ok.slots t
 rw[ht] at hs
 have hs:=hs.bool_inv
 rw[Array.getD_eq_getD_getElem?,Array.getElem?_eq_getElem (by rw[ok.size];exact hlt)] at hs
 simp only [Option.getD_some] at hs
 unfold yielded
 unfold gslot at hj
 rw[hj]
 simp only [Option.bind_some]
 rw[Array.getElem?_eq_getElem (by rw[ok.size];exact hlt),hs]
theorem undD_rd {w:World}{S:Nat→Prop}{ρ:List Nat}:RdD w S ρ undef undD:=.val (@Rd.tup w S [] [] .nil)
theorem yielded_no {w0 S0 st a w ρ}(ok:OkS w0 S0 st a w ρ){ops:Array Oper}{j t:Nat}(hj:gslot ops j=some t)(ht:nth st.s t .unk=undD):yielded ops a.tmps j=none:=by
 have hlt:t<st.s.length:=by
  rcases Nat.lt_or_ge t st.s.length with q | q
  ·exact q
  ·rw[nth_eq,List.getElem?_eq_none q] at ht;cases ht
 have hs:=ok.slots t
 rw[ht] at hs
 obtain⟨arr,hs,_⟩:=hs.val_inv.tup_inv
 rw[Array.getD_eq_getD_getElem?,Array.getElem?_eq_getElem (by rw[ok.size];exact hlt)] at hs
 simp only [Option.getD_some] at hs
 unfold yielded
 unfold gslot at hj
 rw[hj]
 simp only [Option.bind_some]
 rw[Array.getElem?_eq_getElem (by rw[ok.size];exact hlt),hs]
theorem below_C {w0:Base}{w:World}(_hst:Stable C)(hC:Hold C w0)(h:Kept w0 w):C w:=hC w h
theorem hold_base {w:World}(hst:Stable C)(hC:C w):Hold C (base w):=fun w' h=>hst w w' hC h.below
theorem evalOps_sound (hst:Stable C){ops:Array Oper}{w0:Base}{S0:Nat→Prop}(hC:Hold C w0)(hS:∀ b,w0.own b→S0 b){Q:Exit→Act→World→Prop}{k:St→T}
  (hQ:∀ st a w ρ,OkS w0 S0 st a w ρ→(k st).wp P C Qr Qo→Q .normal a w):∀ (l:List Oper) (i:Nat) (st:St) (a:Act) (w:World) (ρ:List Nat),ops.toList.drop i=l→OkS w0 S0 st a w ρ →
  (evalOps P ops false l st k).wp P C Qr Qo→wpOps P ops Q (List.range' i l.length) a w
 | [],i,st,a,w,ρ,_,ok,hw=>by
  simp only [List.length_nil,List.range'_zero,wpOps]
  exact hQ st a w ρ ok hw
 | o::rest,i,st,a,w,ρ,hl,ok,hw=>by
  have hi:ops[i]?=some o:=by
   have:(ops.toList.drop i)[0]?=some o:=by rw[hl];rfl
   rw[List.getElem?_drop] at this
   simpa using this
  have hrest:ops.toList.drop (i+1)=rest:=by
   have:(ops.toList.drop i).drop 1=rest:=by rw[hl];rfl
   rwa [List.drop_drop] at this
  have hCw:=below_C hst hC ok.ok.below
  simp only [List.length_cons,List.range'_succ,wpOps,hi]
  unfold evalOps at hw
  cases hg:o.guard with
  | none =>
   rw[hg] at hw
   simp only at hw
   rw[if_pos (by simp [Region.wanted,hg])]
   refine .inl (Oper.wp_mono ?_ (evalOp_sound ok.ok hC hS hw (fun x _=>eval_get ok x)))
   rintro a' w' ⟨v,d,h',ρ',rfl,h1,h2,h3,h4⟩
   exact evalOps_sound hst hC hS hQ rest (i+1) _ _ _ _ hrest (put_ok ok h1 h2 h3) h4
  | some jw =>
   obtain⟨j,want⟩:=jw
   rw[hg] at hw
   simp only at hw
   split at hw
   ·rename_i t hj
    split at hw
    ·rename_i b ht
     have hy:=yielded_ok ok hj ht
     have hwanted:Region.wanted o (yielded ops a.tmps)=(b == want):=by
      simp only [Region.wanted,hg,hy]
      cases b<;>cases want<;>rfl
     have run:∀ c:Bool,b=c→(evalOp P false o (getD (st.s.set t (.val (.bool c)))) st.h fun d h=>evalOps P ops false rest ⟨putO (st.s.set t (.val (.bool c))) o.dst d,h⟩ k).wp P C Qr Qo →
       o.wp P a w (wpOps P ops Q (List.range' (i+1) rest.length)) Q:=by
      intro c hc hw
      have ok':=lit_ok ok ht hc
      refine Oper.wp_mono ?_ (evalOp_sound ok'.ok hC hS hw (fun x _=>eval_get ok' x))
      rintro a' w' ⟨v,d,h',ρ',rfl,h1,h2,h3,h4⟩
      exact evalOps_sound hst hC hS hQ rest (i+1) _ _ _ _ hrest (put_ok ok' h1 h2 h3) h4
     have skip:∀ c:Bool,b=c→(evalOps P ops false rest ⟨putO (st.s.set t (.val (.bool c))) o.dst undD,st.h⟩ k).wp P C Qr Qo →
       wpOps P ops Q (List.range' (i+1) rest.length) (a.put o.dst undef) w:=by
      intro c hc hw
      have ok':=lit_ok ok ht hc
      exact evalOps_sound hst hC hS hQ rest (i+1) _ _ _ _ hrest (put_ok ok' ok'.ok undD_rd (fun _ _ q=>q)) hw
     rw[hwanted]
     rcases of_br hw with ⟨hb,hw2⟩ | ⟨hb,hw2⟩<;>clear hw<;>rcases of_cond hw2 with ⟨hwt,hw⟩ | ⟨hwt,hw⟩
     ·rw[if_pos (by simp [hb,hwt])];exact .inl (run _ hb hw)
     ·rw[if_neg (by simp [hb,hwt])];exact skip _ hb hw
     ·rw[if_neg (by simp [hb,hwt])];exact skip _ hb hw
     ·rw[if_pos (by simp [hb,hwt])];exact .inl (run _ hb hw)
    ·rename_i ht
     rw[if_neg (by simp [Region.wanted,hg,yielded_no ok hj ht])]
     exact evalOps_sound hst hC hS hQ rest (i+1) _ _ _ _ hrest (put_ok ok ok.ok undD_rd (fun _ _ q=>q)) hw
    ·exact hw.elim
   ·exact hw.elim
end Go.Proofs.YtkkbddkpggjgpaaGreatDoor
