/-
  Lower layers: what functions of the program compute, and plain facts. Conditions: as the theorems say.
-/
import Derived.Test.YtkkbddkpggjgpaaGreatDoorPkB
set_option linter.unusedVariables false
set_option linter.unusedSimpArgs false
namespace Go.Proofs.YtkkbddkpggjgpaaGreatDoor
open Go.RowKit
variable {P:Program} {C:World→Prop} {Qr:V→Prop} {Qo:Ex→St→Prop}
theorem YA.mono {o:Oper}{g:Operand→D}{d:D}{h h':List Box}(hf:Fr h h')(y:YA P C o g d h):YA P C o g d h':=fun h'' q=>y h'' (hf.trans q)
theorem evalDr_yields {o:Oper}{g:Operand→D}{h:List Box}{k:D→List Box→T}(hw:(evalDr P o g h k).wp P C Qr Qo) :
  ∃ d h',Fr h h'∧((isAS o=false∧YA P C o g d h')∨(isAS o=true∧d=.unk))∧(k d h').wp P C Qr Qo:=by
 unfold evalDr at hw
 split at hw
 ·rename_i t len parts ho
  split at hw
  ·rename_i sz cells hb
   obtain⟨hlen,hw⟩:=of_chk hw
   refine⟨_,_,Fr.refl _,.inl ⟨by unfold isAS;rw[ho],?_⟩,hw⟩
   intro h'' hf w0 S0 a w ρ Q hC hS ok hr
   obtain⟨vals,e,h1,h2,h3⟩:=buildSlice_run hb (w:=w) (S:=stab S0 ρ h'') (ρ:=ρ) (ev:=a.eval) (fun x hx=>hr x.2 (by simp [ho,Op.operands];exact⟨x.1,by simpa using hx⟩))
   have hrun:(execOp a.eval o).run P w=.ok (.value (.slice (some ⟨w.heap.size,0,none⟩) len len)) (push w vals e):=by
    simp only [execOp,ho,Sem.run_bind,h1,Result.andThen_ok,Sem.run_pure]
   have hb:=push_below w vals e
   refine post_value hrun ⟨_,rfl,.val (.sl (stab_new ok hS _ (Nat.le_refl _)) (by rw[push_size];omega) (Nat.le_refl _) h3 (h2.lasts (Lasts.of_below hb _)) ?_),hb⟩
   intro i v hv
   rw[Nat.zero_add]
   simp only [World.cell?,push_new]
   simpa using hv
  ·exact hw.elim
 ·rcases of_cond hw with ⟨ha,hw⟩ | ⟨ha,hw⟩
  ·exact⟨_,_,Fr.refl _,.inr ⟨ha,rfl⟩,hw⟩
  ·obtain⟨_,hw⟩:=of_chk' hw
   obtain⟨d,h',h1,h2,h3⟩:=evalA_yields hw
   exact⟨d,h',h1,.inl ⟨ha,h2⟩,h3⟩
theorem evalOp_dr (o:Oper)(g:Operand→D)(h:List Box)(k:D→List Box→T):evalOp P true o g h k=evalDr P o g h k:=rfl
def Ent (P:Program)(C:World→Prop)(ops:Array Oper)(S:List D)(o:Oper)(d:D)(h':List Box):Prop :=
 (o.guard=none∧((isAS o=false∧YA P C o (getD S) d h')∨(isAS o=true∧d=.unk))) ∨
 ∃ j want t,o.guard=some (j,want)∧gslot ops j=some t∧((∃ b,nth S t .unk=.val (.bool b)∧((b=want∧((isAS o=false∧YA P C o (getD S) d h')∨(isAS o=true∧d=.unk)))∨(b≠want∧d=undD)))∨(nth S t .unk=undD∧d=undD))
theorem Ent.mono {ops:Array Oper}{S:List D}{o:Oper}{d:D}{h h':List Box}(hf:Fr h h')(e:Ent P C ops S o d h):Ent P C ops S o d h':=by
 rcases e with ⟨h1,h2⟩ | ⟨j,want,t,h1,h2,⟨b,h3,h4⟩ | h3⟩
 ·exact .inl ⟨h1,h2.imp (fun y=>⟨y.1,y.2.mono hf⟩) id⟩
 ·refine .inr ⟨j,want,t,h1,h2,.inl ⟨b,h3,?_⟩⟩
  rcases h4 with ⟨h4,h5⟩ | h4
  ·exact .inl ⟨h4,h5.imp (fun y=>⟨y.1,y.2.mono hf⟩) id⟩
  ·exact .inr h4
 ·exact .inr ⟨j,want,t,h1,h2,.inr h3⟩
def SSf (ops:Array Oper):List D→Nat→List D→Nat→List D
 | S,_,_,0=>S
 | S,_,[],_+1=>S
 | S,i,d::ds,q+1=>SSf ops (putO S (gslot ops i) d) (i+1) ds q
theorem SSf_len (ops:Array Oper):∀ (q:Nat) (S:List D) (i:Nat) (ds:List D),(SSf ops S i ds q).length=S.length
 | 0,_,_,_=>by simp [SSf]
 | _+1,_,_,[]=>by simp [SSf]
 | q+1,S,i,d::ds=>by rw[SSf,SSf_len ops q,putO_len]
theorem set_same {s:List D}{t:Nat}{d:D}(h:nth s t .unk=d):s.set t d=s:=by
 apply List.ext_getElem?
 intro i
 rw[List.getElem?_set]
 split
 ·rename_i he
  subst he
  split
  ·rename_i hl
   rw[nth_lt .unk hl,h]
  ·rename_i hl
   rw[List.getElem?_eq_none (Nat.le_of_not_lt hl)]
 ·rfl
theorem extract (ops:Array Oper){k:St→T}:∀ (l:List Oper) (i:Nat) (S:List D) (h:List Box),(∀ q o,l[q]?=some o→ops[i+q]?=some o) →
  (evalOps P ops true l ⟨S,h⟩ k).wp P C Qr Qo→∃ ds h',ds.length=l.length∧Fr h h' ∧
   (∀ q o,l[q]?=some o→Ent P C ops (SSf ops S i ds q) o (nth ds q .unk) h')∧(k ⟨SSf ops S i ds l.length,h'⟩).wp P C Qr Qo
 | [],i,S,h,_,hw=>⟨[],h,rfl,Fr.refl _,(fun q o hq=>by simp at hq),by simpa [SSf,evalOps] using hw⟩
 | o::rest,i,S,h,hops,hw=>by
  have hi:ops[i]?=some o:=by simpa using hops 0 o rfl
  have hdst:gslot ops i=o.dst:=by simp [gslot,hi]
  have hrest:∀ q p,rest[q]?=some p→ops[(i+1)+q]?=some p:=fun q p hq=>by
   have:=hops (q+1) p (by simpa using hq)
   rwa [show i+(q+1)=(i+1)+q by omega] at this
  have go:∀ (d:D) (h1:List Box),Fr h h1→Ent P C ops S o d h1→(evalOps P ops true rest ⟨putO S o.dst d,h1⟩ k).wp P C Qr Qo →
    ∃ ds h',ds.length=(o::rest).length∧Fr h h'∧(∀ q p,(o::rest)[q]?=some p→Ent P C ops (SSf ops S i ds q) p (nth ds q .unk) h') ∧
     (k ⟨SSf ops S i ds (o::rest).length,h'⟩).wp P C Qr Qo:=by
   intro d h1 hf he hw
   obtain⟨ds,h',e1,e2,e3,e4⟩:=extract ops rest (i+1) _ h1 hrest hw
   refine⟨d::ds,h',by simp [e1],hf.trans e2,?_,?_⟩
   ·intro q p hq
    cases q with
    | zero =>
     simp at hq
     subst hq
     exact he.mono e2
    | succ q =>
     have:=e3 q p (by simpa using hq)
     simp only [SSf,nth]
     rw[hdst]
     exact this
   ·simp only [List.length_cons,SSf]
    rw[hdst]
    exact e4
  unfold evalOps at hw
  cases hg:o.guard with
  | none =>
   rw[hg] at hw
   simp only at hw
   rw[evalOp_dr] at hw
   obtain⟨d,h1,hf,hy,hw⟩:=evalDr_yields hw
   exact go d h1 hf (.inl ⟨hg,hy⟩) hw
  | some jw =>
   obtain⟨j,want⟩:=jw
   rw[hg] at hw
   simp only at hw
   split at hw
   ·rename_i t hj
    split at hw
    ·rename_i b ht
     have run:∀ c:Bool,b=c→c=want→(evalOp P true o (getD (S.set t (.val (.bool c)))) h fun d h=>evalOps P ops true rest ⟨putO (S.set t (.val (.bool c))) o.dst d,h⟩ k).wp P C Qr Qo →
       ∃ ds h',ds.length=(o::rest).length∧Fr h h'∧(∀ q p,(o::rest)[q]?=some p→Ent P C ops (SSf ops S i ds q) p (nth ds q .unk) h') ∧
        (k ⟨SSf ops S i ds (o::rest).length,h'⟩).wp P C Qr Qo:=by
      intro c hbc hcw hw
      subst hbc
      rw[set_same ht] at hw
      rw[evalOp_dr] at hw
      obtain⟨d,h1,hf,hy,hw⟩:=evalDr_yields hw
      exact go d h1 hf (.inr ⟨j,want,t,hg,hj,.inl ⟨b,ht,.inl ⟨hcw,hy⟩⟩⟩) hw
     have skip:∀ c:Bool,b=c→c≠want→(evalOps P ops true rest ⟨putO (S.set t (.val (.bool c))) o.dst undD,h⟩ k).wp P C Qr Qo →
       ∃ ds h',ds.length=(o::rest).length∧Fr h h'∧(∀ q p,(o::rest)[q]?=some p→Ent P C ops (SSf ops S i ds q) p (nth ds q .unk) h') ∧
        (k ⟨SSf ops S i ds (o::rest).length,h'⟩).wp P C Qr Qo:=by
      intro c hbc hcw hw
      subst hbc
      rw[set_same ht] at hw
      exact go undD h (Fr.refl _) (.inr ⟨j,want,t,hg,hj,.inl ⟨b,ht,.inr ⟨hcw,rfl⟩⟩⟩) hw
     rcases of_br hw with ⟨hb,hw2⟩ | ⟨hb,hw2⟩<;>clear hw<;>rcases of_cond hw2 with ⟨hwt,hw⟩ | ⟨hwt,hw⟩
     ·exact run true hb hwt.symm hw
     ·exact skip true hb (by rw[hwt];simp) hw
     ·exact skip false hb (by rw[hwt];simp) hw
     ·exact run false hb hwt.symm hw
    ·rename_i ht
     exact go undD h (Fr.refl _) (.inr ⟨j,want,t,hg,hj,.inr ⟨ht,rfl⟩⟩) hw
    ·exact hw.elim
   ·exact hw.elim
theorem SSf_other (ops:Array Oper)(t:Nat):∀ (q:Nat) (S:List D) (i:Nat) (ds:List D),(∀ j,j<q→gslot ops (i+j)≠some t)→nth (SSf ops S i ds q) t .unk=nth S t .unk
 | 0,_,_,_,_=>by simp [SSf]
 | _+1,_,_,[],_=>by simp [SSf]
 | q+1,S,i,d::ds,h=>by
  rw[SSf,SSf_other ops t q _ (i+1) ds (fun j hj=>by rw[show i+1+j=i+(j+1) by omega];exact h (j+1) (by omega))]
  have h0:=h 0 (by omega)
  simp only [Nat.add_zero] at h0
  cases hg:gslot ops i with
  | none=>rfl
  | some u =>
   simp only [putO]
   rw[nth_set,if_neg (fun e=>h0 (by rw[hg,e.1]))]
theorem SSf_at (ops:Array Oper)(t:Nat):∀ (q:Nat) (S:List D) (i:Nat) (ds:List D) (j:Nat),j<q→q≤ds.length→gslot ops (i+j)=some t→t<S.length →
  (∀ j',j'<q→j'≠j→gslot ops (i+j')≠some t)→nth (SSf ops S i ds q) t .unk=nth ds j .unk
 | 0,_,_,_,_,h,_,_,_,_=>by omega
 | _+1,_,_,[],_,_,h,_,_,_=>by simp at h
 | q+1,S,i,d::ds,j,hj,hq,hg,ht,hd=>by
  rw[SSf]
  cases j with
  | zero =>
   rw[SSf_other ops t q _ (i+1) ds (fun j' hj'=>by rw[show i+1+j'=i+(j'+1) by omega];exact hd (j'+1) (by omega) (by omega))]
   simp only [Nat.add_zero] at hg
   rw[hg]
   simp only [putO,nth]
   rw[nth_set,if_pos ⟨rfl,ht⟩]
  | succ j =>
   rw[SSf_at ops t q _ (i+1) ds j (by omega) (by simpa using hq) (by rw[show i+1+j=i+(j+1) by omega];exact hg) (by rw[putO_len];exact ht)
    (fun j' hj' hne=>by rw[show i+1+j'=i+(j'+1) by omega];exact hd (j'+1) (by omega) (by omega))]
   rfl
end Go.Proofs.YtkkbddkpggjgpaaGreatDoor
namespace Go.Proofs.YtkkbddkpggjgpaaGreatDoor
open Go.RowKit
variable {P:Program} {C:World→Prop} {Qr:V→Prop} {Qo:Ex→St→Prop}
theorem hasEdge_of {o:Oper}{i:Nat}(h:hasEdge o i=true):∃ e∈o.after.toList,e.on=i∧Region.binds .any e=true:=by
 unfold hasEdge at h
 rw[← Array.any_toList] at h
 obtain⟨e,he,hb⟩:=List.any_eq_true.1 h
 simp only [Bool.and_eq_true,Nat.beq_eq] at hb
 exact⟨e,he,hb.1,hb.2⟩
theorem mem_ready {ops:Array Oper}{listed:Array Bool}{i:Nat}:i∈Region.ready .any ops listed ↔
  i<ops.size∧listed.getD i true=false∧∃ o,ops[i]?=some o∧∀ e∈o.after.toList,Region.binds .any e=true→listed.getD e.on false=true:=by
 unfold Region.ready
 rw[List.mem_filter,List.mem_range]
 constructor
 ·rintro ⟨h1,h2⟩
  simp only [Bool.and_eq_true,Bool.not_eq_true'] at h2
  refine⟨h1,h2.1,?_⟩
  cases ho:ops[i]? with
  | none=>rw[ho] at h2;simp at h2
  | some o =>
   rw[ho] at h2
   simp only [Option.map_some,Option.getD_some] at h2
   refine⟨o,rfl,fun e he hb=>?_⟩
   have h3:=h2.2
   rw[← Array.all_toList] at h3
   have:=List.all_eq_true.1 h3 e he
   rw[hb] at this
   simpa using this
 ·rintro ⟨h1,h2,o,ho,h3⟩
  refine⟨h1,?_⟩
  simp only [Bool.and_eq_true,Bool.not_eq_true']
  refine⟨h2,?_⟩
  rw[ho]
  simp only [Option.map_some,Option.getD_some]
  rw[← Array.all_toList]
  refine List.all_eq_true.2 fun e he=>?_
  cases hb:Region.binds .any e with
  | false=>rfl
  | true=>simpa using h3 e he hb
theorem getD_set {listed:Array Bool}{i j:Nat}{d:Bool}(hi:i<listed.size):(listed.setIfInBounds i true).getD j d=if i=j then true else listed.getD j d:=by
 simp only [Array.getD_eq_getD_getElem?,Array.getElem?_setIfInBounds]
 split
 ·rename_i h;subst h;simp
 ·rfl
theorem getD_any {listed:Array Bool}{i:Nat}(d e:Bool)(hi:i<listed.size):listed.getD i d=listed.getD i e:=by
 simp [Array.getD_eq_getD_getElem?,Array.getElem?_eq_getElem hi]
theorem reach_succ {ops:Array Oper}{f j i:Nat}(h:reach ops (f+1) j i=true):∃ o,ops[j]?=some o∧(hasEdge o i=true∨∃ e∈o.after.toList,Region.binds .any e=true∧reach ops f e.on i=true):=by
 unfold reach at h
 cases ho:ops[j]? with
 | none=>rw[ho] at h;cases h
 | some o =>
  rw[ho] at h
  simp only [Bool.or_eq_true] at h
  refine⟨o,rfl,h.imp id fun h=>?_⟩
  rw[← Array.any_toList] at h
  obtain⟨e,he,hb⟩:=List.any_eq_true.1 h
  simp only [Bool.and_eq_true] at hb
  exact⟨e,he,hb.1,hb.2⟩
theorem edge_lt {ops:Array Oper}(hb:backOk ops=true){j:Nat}{o:Oper}(ho:ops[j]?=some o){e:Edge}(he:e∈o.after.toList)(hbd:Region.binds .any e=true):e.on<j:=by
 have hlt:j<ops.size:=by
  rcases Nat.lt_or_ge j ops.size with q | q
  ·exact q
  ·rw[Array.getElem?_eq_none q] at ho;cases ho
 have:=List.all_eq_true.1 hb j (List.mem_range.2 hlt)
 rw[ho] at this
 simp only at this
 rw[← Array.all_toList] at this
 have:=List.all_eq_true.1 this e he
 rw[hbd] at this
 exact blt_iff.1 (by simpa using this)
theorem reach_lt {ops:Array Oper}(hb:backOk ops=true):∀ (f j i:Nat),reach ops f j i=true→i<j
 | 0,_,_,h=>by unfold reach at h;cases h
 | f+1,j,i,h=>by
  obtain⟨o,ho,h | ⟨e,he,hbd,h⟩⟩:=reach_succ h
  ·obtain⟨e,he,hon,hbd⟩:=hasEdge_of h
   rw[← hon]
   exact edge_lt hb ho he hbd
  ·exact Nat.lt_trans (reach_lt hb f e.on i h) (edge_lt hb ho he hbd)
theorem reach_listed {ops:Array Oper}{listed:Array Bool}(hdep:∀ j o,ops[j]?=some o→listed.getD j false=true→∀ e∈o.after.toList,Region.binds .any e=true→listed.getD e.on false=true) :
  ∀ (f j i:Nat),reach ops f j i=true→(∀ o,ops[j]?=some o→∀ e∈o.after.toList,Region.binds .any e=true→listed.getD e.on false=true)→listed.getD i false=true
 | 0,_,_,h,_=>by unfold reach at h;cases h
 | f+1,j,i,h,hj=>by
  obtain⟨o,ho,h | ⟨e,he,hbd,h⟩⟩:=reach_succ h
  ·obtain⟨e,he,hon,hbd⟩:=hasEdge_of h
   rw[← hon]
   exact hj o ho e he hbd
  ·exact reach_listed hdep f e.on i h fun o' ho'=>hdep e.on o' ho' (hj o ho e he hbd)
theorem tail_any {ops:Array Oper}{Q:Exit→Act→World→Prop}{m:Nat}(ht:tailOk ops m=true)(hb:backOk ops=true):∀ (fuel j:Nat) (listed:Array Bool) (a:Act) (w:World),ops.size≤j+fuel→j≤ops.size→m≤j →
  listed.size=ops.size→(∀ i,i<ops.size→listed.getD i false=decide (i<j))→wpOps P ops Q (List.range' j (ops.size-j)) a w→wpAny P .any ops Q fuel listed a w:=by
 intro fuel
 have hready:∀ (j:Nat) (listed:Array Bool),m≤j→listed.size=ops.size→(∀ i,i<ops.size→listed.getD i false=decide (i<j))→∀ i∈Region.ready .any ops listed,i=j:=by
  intro j listed hm hsz hl i hi
  obtain⟨h1,h2,o,ho,h3⟩:=mem_ready.1 hi
  have h4:=hl i h1
  rw[getD_any false true (by omega),h2] at h4
  have h4:j≤i:=by
   have:=(of_decide_eq_false h4.symm)
   omega
  rcases Nat.lt_or_ge j i with hlt | hge
  ·have:=List.all_eq_true.1 ht i (List.mem_range.2 h1)
   simp only [Bool.or_eq_true] at this
   rcases this with q | q
   ·have:=blt_iff.1 q;omega
   ·have hr:=List.all_eq_true.1 q j (List.mem_range.2 hlt)
    obtain⟨o',ho',hr | ⟨e,he,hbd,hr⟩⟩:=reach_succ hr<;>(rw[ho] at ho';cases ho')
    ·obtain⟨e,he,hon,hbd⟩:=hasEdge_of hr
     have:=h3 e he hbd
     rw[hon,hl j (by omega)] at this
     simp at this
    ·have:=h3 e he hbd
     have h5:=edge_lt hb ho he hbd
     rw[hl e.on (by omega)] at this
     have h6:=reach_lt hb _ _ _ hr
     have h7:=of_decide_eq_true this
     omega
  ·omega
 induction fuel with
 | zero =>
  intro j listed a w hf hj hm hsz hl hw
  have:j=ops.size:=by omega
  subst this
  refine⟨?_,by simpa [wpOps] using hw⟩
  apply List.eq_nil_iff_forall_not_mem.2
  intro i hi
  have:=hready _ listed hm hsz hl i hi
  have:=(mem_ready.1 hi).1
  omega
 | succ fuel ih =>
  intro j listed a w hf hj hm hsz hl hw
  rcases Nat.lt_or_ge j ops.size with hlt | hge
  ·have hin:j∈Region.ready .any ops listed:=by
    refine mem_ready.2 ⟨hlt,?_,ops[j],Array.getElem?_eq_getElem hlt,?_⟩
    ·rw[getD_any true false (by omega),hl j hlt];simp
    ·intro e he hbd
     have:=List.all_eq_true.1 hb j (List.mem_range.2 hlt)
     rw[Array.getElem?_eq_getElem hlt] at this
     simp only at this
     rw[← Array.all_toList] at this
     have:=List.all_eq_true.1 this e he
     rw[hbd] at this
     have:=blt_iff.1 (by simpa using this)
     rw[hl e.on (by omega)]
     simpa using this
   refine⟨(fun h0=>by rw[h0] at hin;cases hin),fun i hi=>?_⟩
   have:=hready j listed hm hsz hl i hi
   subst this
   rw[show ops.size-i=(ops.size-(i+1))+1 by omega,List.range'_succ,wpOps_cons] at hw
   refine wpOp_mono (fun a w h=>ih (i+1) _ a w (by omega) (by omega) (by omega) (by simp [hsz]) ?_ h) hw
   intro q hq
   rw[getD_set (by omega),hl q hq]
   by_cases hqi:i=q
   ·subst hqi;simp
   ·rw[if_neg hqi];simp;omega
  ·have:j=ops.size:=by omega
   subst this
   refine⟨fun _=>by simpa [wpOps] using hw,fun i hi=>?_⟩
   have:=hready _ listed hm hsz hl i hi
   have:=(mem_ready.1 hi).1
   omega
theorem countP_lt {α:Type}{p q:α→Bool}:∀ {l:List α} {x:α},x∈l→p x=true→q x=false→(∀ y,q y=true→p y=true)→l.countP q<l.countP p
 | [],_,h,_,_,_=>nomatch h
 | y::l,x,h,hp,hq,hi=>by
  have hle:l.countP q≤l.countP p:=List.countP_mono_left fun z _=>hi z
  rcases List.mem_cons.1 h with rfl | h
  ·rw[List.countP_cons_of_pos hp,List.countP_cons_of_neg (by simp [hq])];omega
  ·have:=countP_lt h hp hq hi
   by_cases hy:q y=true
   ·rw[List.countP_cons_of_pos hy,List.countP_cons_of_pos (hi y hy)];omega
   ·rw[List.countP_cons_of_neg hy]
    have:l.countP p≤(y::l).countP p:=by simp [List.countP_cons]
    omega
structure Mid (w0:Base) (S0:Nat→Prop) (ops:Array Oper) (m:Nat) (S:List D) (ds:List D) (h':List Box) (ρ:List Nat) (listed:Array Bool) (a:Act) (w:World):Prop where
 ok:OkH w0 S0 w ρ h'
 size:a.tmps.size=S.length
 defers:a.defers = []
 lsize:listed.size=ops.size
 dep:∀ j o,ops[j]?=some o→listed.getD j false=true→∀ e∈o.after.toList,Region.binds .any e=true→listed.getD e.on false=true
 tail:∀ j,m≤j→j<ops.size→listed.getD j true=false
 yes:∀ t i,t<S.length→i<m→listed.getD i false=true→gslot ops i=some t→RdD w (stab S0 ρ h') ρ (a.tmps.getD t undef) (nth ds i .unk)
 no:∀ t,t<S.length→(∀ i,i<m→gslot ops i=some t→listed.getD i false=false)→RdD w (stab S0 ρ h') ρ (a.tmps.getD t undef) (nth S t .unk)
theorem tail_le (ops:Array Oper):tailAt ops≤ops.size:=by
 unfold tailAt
 have h1:=(List.takeWhile_sublist (fun o:Oper=>!isTail o.op) (l:=ops.toList)).length_le
 have h2:=(List.takeWhile_sublist (fun o:Oper=>!isStOp o.op) (l:=ops.toList)).length_le
 rw[Array.length_toList] at h1 h2
 cases headOk ops ops.size
 ·show cond _ (tailA ops) (tailB ops)≤_
  cases (tailOk ops (tailA ops) || (tailPlain ops (tailA ops) && tailOk3 ops (tailA ops)) || !headOk ops (tailB ops))
  ·exact h2
  ·exact h1
 ·exact Nat.le_refl _
theorem draw_gen (hst:Stable C){ops:Array Oper}(hna:ops.toList.any isAl=false)(fl:Nat→Bool)(hhead:headOk ops (tailAt ops)=true)(hback:backOk ops=true)
  (htail:∀ j i,tailAt ops≤j→j<ops.size→i<tailAt ops→fl i=false→reach ops 5 j i=true) {w0:Base} {S0:Nat→Prop} (hC:Hold C w0) (hS:∀ b,w0.own b→S0 b) {Q:Exit→Act→World→Prop} {S:List D} {ds:List D} {h':List Box} {ρ:List Nat}
  (hds:ds.length=tailAt ops) (hent:∀ q o,q<tailAt ops→ops[q]?=some o→Ent P C ops (SSf ops S 0 ds q) o (nth ds q .unk) h')
  (hend:∀ (fuel:Nat) (listed:Array Bool) (a:Act) (w:World),(List.range (tailAt ops)).countP (fun i=>!listed.getD i true)+(ops.size-tailAt ops)≤fuel→(∀ i,i<tailAt ops→fl i=false→listed.getD i true=true) →
   Mid w0 S0 ops (tailAt ops) S ds h' ρ listed a w→wpAny P .any ops Q fuel listed a w) :
  ∀ (fuel:Nat) (listed:Array Bool) (a:Act) (w:World),(List.range (tailAt ops)).countP (fun i=>!listed.getD i true)+(ops.size-tailAt ops)≤fuel →
   Mid w0 S0 ops (tailAt ops) S ds h' ρ listed a w→wpAny P .any ops Q fuel listed a w:=by
 have hmle:=tail_le ops
 generalize hm:tailAt ops=m at *
 have head:∀ i,i<m→∃ o d,ops[i]?=some o∧o.dst=some d∧(∀ j,j<m→j≠i→gslot ops j≠some d) ∧
   (∀ t∈namesT o,∀ j,j<m→gslot ops j=some t→j<i∧hasEdge o j=true)∧(∀ j want,o.guard=some (j,want)→j<i∧hasEdge o j=true):=by
  intro i hi
  have h1:=List.all_eq_true.1 hhead i (List.mem_range.2 hi)
  cases ho:ops[i]? with
  | none=>rw[ho] at h1;cases h1
  | some o =>
   rw[ho] at h1
   simp only [Bool.and_eq_true] at h1
   obtain⟨⟨h2,h3⟩,h4⟩:=h1
   cases hdst:o.dst with
   | none=>rw[hdst] at h2;cases h2
   | some d =>
    rw[hdst] at h2
    refine⟨o,d,rfl,hdst,?_,?_,?_⟩
    ·intro j hj hne hg
     have:=List.all_eq_true.1 h2 j (List.mem_range.2 hj)
     simp only [Bool.or_eq_true,Nat.beq_eq] at this
     rcases this with q | q
     ·exact hne q.symm
     ·unfold gslot at hg
      cases hp:ops[j]? with
      | none=>rw[hp] at q;cases q
      | some p =>
       rw[hp] at q hg
       simp only [Option.bind_some] at hg
       simp only [hg] at q
       simp at q
    ·intro t ht j hj hg
     have:=List.all_eq_true.1 (List.all_eq_true.1 h3 t ht) j (List.mem_range.2 hj)
     unfold gslot at hg
     cases hp:ops[j]? with
     | none=>rw[hp] at this;cases this
     | some p =>
      rw[hp] at this hg
      simp only [Option.bind_some] at hg
      simp only [hg,Bool.or_eq_true,Bool.and_eq_true,Bool.not_eq_true'] at this
      rcases this with q | q
      ·simp at q
      ·exact⟨blt_iff.1 q.1,q.2⟩
    ·intro j want hg
     rw[hg] at h4
     simp only [Bool.and_eq_true] at h4
     exact⟨blt_iff.1 h4.1,h4.2⟩
 intro fuel
 induction fuel with
 | zero =>
  intro listed a w hf mid
  have hc:(List.range m).countP (fun i=>!listed.getD i true)=0:=by omega
  have hall:∀ i,i<m→listed.getD i true=true:=by
   intro i hi
   have:=(List.countP_eq_zero.1 hc) i (List.mem_range.2 hi)
   simpa using this
  exact hend 0 listed a w hf (fun i hi _=>hall i hi) mid
 | succ fuel ih =>
  intro listed a w hf mid
  by_cases hall:∀ i,i<m→fl i=false→listed.getD i true=true
  ·exact hend (fuel+1) listed a w hf hall mid
  ·-- some operation of the first part is still to come
   obtain⟨i0,hi0,hfl0,hu0⟩:∃ i,i<m∧fl i=false∧listed.getD i true=false:=by
    refine Classical.byContradiction fun hn=>hall fun i hi hfl=>?_
    cases hq:listed.getD i true with
    | true=>rfl
    | false=>exact (hn ⟨i,hi,hfl,hq⟩).elim
   have hsome:∃ i,i∈Region.ready .any ops listed:=by
    -- the first that is not listed
    have key:∀ k,∀ i,i<m→i≤k→listed.getD i true=false→∃ q,q∈Region.ready .any ops listed:=by
     intro k
     induction k with
     | zero =>
      intro i hi hk hu
      have:i=0:=by omega
      subst this
      have hlt:0<ops.size:=by omega
      refine⟨0,mem_ready.2 ⟨hlt,hu,ops[0],Array.getElem?_eq_getElem hlt,fun e he hbd=>?_⟩⟩
      have:=List.all_eq_true.1 hback 0 (List.mem_range.2 hlt)
      rw[Array.getElem?_eq_getElem hlt] at this
      simp only at this
      rw[← Array.all_toList] at this
      have:=List.all_eq_true.1 this e he
      rw[hbd] at this
      simp at this
     | succ k ihk =>
      intro i hi hk hu
      by_cases hlow:∃ j,j<i∧listed.getD j true=false
      ·obtain⟨j,hj,hju⟩:=hlow
       exact ihk j (by omega) (by omega) hju
      ·have hlt:i<ops.size:=by omega
       refine⟨i,mem_ready.2 ⟨hlt,hu,ops[i],Array.getElem?_eq_getElem hlt,fun e he hbd=>?_⟩⟩
       have:=List.all_eq_true.1 hback i (List.mem_range.2 hlt)
       rw[Array.getElem?_eq_getElem hlt] at this
       simp only at this
       rw[← Array.all_toList] at this
       have:=List.all_eq_true.1 this e he
       rw[hbd] at this
       have hon:=blt_iff.1 (by simpa using this)
       rw[getD_any false true (by rw[mid.lsize];omega)]
       cases hq:listed.getD e.on true with
       | true=>rfl
       | false=>exact (hlow ⟨_,hon,hq⟩).elim
    exact key i0 i0 hi0 (Nat.le_refl _) hu0
   refine⟨(fun h0=>by obtain⟨i,hi⟩:=hsome;rw[h0] at hi;cases hi),fun i hi=>?_⟩
   obtain⟨hin,hiu,o',ho',hedges⟩:=mem_ready.1 hi
   have him:i<m:=by
    rcases Nat.lt_or_ge i m with q | q
    ·exact q
    ·exfalso
     have:=reach_listed mid.dep 5 i i0 (htail i i0 q hin hi0 hfl0) (fun o2 ho2=>by rw[ho'] at ho2;cases ho2;exact hedges)
     rw[getD_any false true (by rw[mid.lsize];omega),hu0] at this
     cases this
   obtain⟨o,d,ho,hdst,hdis,hnames,hguard⟩:=head i him
   rw[ho] at ho'
   have eoo:=Option.some.inj ho'
   subst eoo
   have hlisted:∀ j,hasEdge o j=true→listed.getD j false=true:=by
    intro j hj
    obtain⟨e,he,hon,hbd⟩:=hasEdge_of hj
    rw[← hon]
    exact hedges e he hbd
   have hgi:gslot ops i=some d:=by unfold gslot;rw[ho];simpa using hdst
   -- what a slot that the operation names holds
   have slot:∀ t:Nat,(∀ j:Nat,j<m→gslot ops j=some t→j<i∧hasEdge o j=true)→RdD w (stab S0 ρ h') ρ (a.tmps.getD t undef) (nth (SSf ops S 0 ds i) t .unk):=by
    intro t hx
    by_cases ht:t<S.length
    ·by_cases hex:∃ j,j<m∧gslot ops j=some t
     ·obtain⟨j,hjm,hg⟩:=hex
      obtain⟨hji,hje⟩:=hx j hjm hg
      obtain⟨oj,dj,hoj,hdj,hdisj,_,_⟩:=head j hjm
      have hgd:dj=t:=by unfold gslot at hg;rw[hoj] at hg;simp [hdj] at hg;exact hg
      rw[SSf_at ops t i S 0 ds j hji (by omega) (by simpa using hg) ht (fun j' hj' hne=>by simpa [hgd] using hdisj j' (by omega) hne)]
      exact mid.yes t j ht hjm (hlisted j hje) hg
     ·rw[SSf_other ops t i S 0 ds (fun j hj hg=>hex ⟨j,Nat.lt_trans hj him,by simpa using hg⟩)]
      exact mid.no t ht (fun j hj hg=>(hex ⟨j,hj,hg⟩).elim)
    ·have:nth (SSf ops S 0 ds i) t .unk=.unk:=by rw[nth_eq,List.getElem?_eq_none (by rw[SSf_len];omega)];rfl
     rw[this]
     exact .unk
   have hreads:Reads w (stab S0 ρ h') ρ a o (getD (SSf ops S 0 ds i)):=by
    intro x hx
    cases x with
    | tmp t =>
     refine unpin_rd (slot t (fun j hj hg=>hnames t ?_ j hj hg))
     unfold namesT
     rw[List.mem_filterMap]
     exact⟨_,hx,rfl⟩
    | const v=>exact .val (const_rd v)
    | global g=>exact .unk
    | func f=>exact .val (@Rd.clos w _ f [] [] .nil)
   have hCw:=below_C hst hC mid.ok.below
   -- behind the operation
   have next:∀ v w',RdD w' (stab S0 ρ h') ρ v (nth ds i .unk)→Below w.heap.size w w'→wpAny P .any ops Q fuel (listed.setIfInBounds i true) (a.put o.dst v) w':=by
    intro v w' hv hbw
    refine ih _ _ _ ?_ ?_
    ·have:=countP_lt (p:=fun q=>!listed.getD q true) (q:=fun q=>!(listed.setIfInBounds i true).getD q true) (List.mem_range.2 him) (by simp [hiu])
      (by simp only [Bool.not_eq_false'];rw[getD_set (by rw[mid.lsize];exact hin),if_pos rfl])
      (fun y hy=>by
       simp only [Bool.not_eq_true'] at hy ⊢
       rw[getD_set (by rw[mid.lsize];exact hin)] at hy
       split at hy
       ·cases hy
       ·exact hy)
     omega
    ·refine⟨mid.ok.grow hbw,by rw[hdst];simp [Act.put,mid.size],by rw[hdst];exact mid.defers,by simp [mid.lsize],?_,?_,?_,?_⟩
     ·intro j o2 ho2 hl e he hbd
      have up:listed.getD e.on false=true→(listed.setIfInBounds i true).getD e.on false=true:=by
       intro h
       rw[getD_set (by rw[mid.lsize];exact hin)]
       split
       ·rfl
       ·exact h
      rw[getD_set (by rw[mid.lsize];exact hin)] at hl
      split at hl
      ·rename_i eij
       subst eij
       rw[ho] at ho2
       cases ho2
       exact up (hedges e he hbd)
      ·exact up (mid.dep j o2 ho2 hl e he hbd)
     ·intro j hj hjn
      rw[getD_set (by rw[mid.lsize];exact hin),if_neg (by omega)]
      exact mid.tail j hj hjn
     ·intro t j ht hjm hl hg
      rw[hdst]
      simp only [Act.put,Array.getD_eq_getD_getElem?]
      by_cases hji:j=i
      ·subst hji
       rw[hgi] at hg
       cases hg
       rw[Array.getElem?_setIfInBounds_self_of_lt (by rw[mid.size];exact ht)]
       exact hv
      ·rw[getD_set (by rw[mid.lsize];exact hin),if_neg (fun e=>hji e.symm)] at hl
       have hne:d≠t:=fun e=>hdis j hjm hji (by rw[hg,e])
       rw[Array.getElem?_setIfInBounds,if_neg hne]
       have:=mid.yes t j ht hjm hl hg
       rw[Array.getD_eq_getD_getElem?] at this
       exact this.grow hbw
     ·intro t ht hno
      rw[hdst]
      simp only [Act.put,Array.getD_eq_getD_getElem?]
      have hne:d≠t:=fun e=>by
       have:=hno i him (by rw[hgi,e])
       rw[getD_set (by rw[mid.lsize];exact hin),if_pos rfl] at this
       cases this
      rw[Array.getElem?_setIfInBounds,if_neg hne]
      have:=mid.no t ht (fun j hj hg=>by
       have:=hno j hj hg
       rw[getD_set (by rw[mid.lsize];exact hin)] at this
       split at this
       ·cases this
       ·exact this)
      rw[Array.getD_eq_getD_getElem?] at this
      exact this.grow hbw
   have run:YA P C o (getD (SSf ops S 0 ds i)) (nth ds i .unk) h'→o.wp P a w (wpAny P .any ops Q fuel (listed.setIfInBounds i true)) Q:=by
    intro hy
    refine Oper.wp_mono ?_ (hy h' (Fr.refl _) w0 S0 a w ρ Q hCw (allS_of mid.ok hS) mid.ok hreads)
    rintro a' w' ⟨v,rfl,h1,h2⟩
    exact next v w' h1 h2
   have noAS:isAS o=true→False:=by
    intro hAS
    unfold isAS at hAS
    split at hAS
    ·rename_i t hop
     have hmem:o∈ops.toList:=by
      have h1:ops.toList[i]?=some o:=by rw[Array.getElem?_toList];exact ho
      exact List.mem_of_getElem? h1
     have:=List.any_eq_true.2 ⟨o,hmem,(show isAl o=true by unfold isAl;rw[hop])⟩
     rw[hna] at this
     cases this
    ·rw[hdst] at hAS;cases hAS
    ·cases hAS
   unfold wpOp
   rw[ho]
   simp only
   rcases hent i o him ho with ⟨hg,hy⟩ | ⟨j,want,t,hg,hj,hcase⟩
   ·rw[if_pos (by simp [Region.wanted,hg])]
    rcases hy with hy | hy
    ·exact .inl (run hy.2)
    ·exact (noAS hy.1).elim
   ·have hjg:=hguard j want hg
    have hs:=slot t (fun j' hj' hgj'=>by
     have hjm:j<m:=by omega
     by_cases e:j'=j
     ·subst e;exact hjg
     ·obtain⟨oj,dj,hoj,hdj,hdisj,_,_⟩:=head j hjm
      have hgd:dj=t:=by unfold gslot at hj;rw[hoj] at hj;simp [hdj] at hj;exact hj
      exact (hdisj j' hj' e (by rw[hgj',hgd])).elim)
    have hltof:nth (SSf ops S 0 ds i) t .unk≠.unk→t<S.length:=by
     intro hne
     rcases Nat.lt_or_ge t S.length with q | q
     ·exact q
     ·exact (hne (by rw[nth_eq,List.getElem?_eq_none (by rw[SSf_len];exact q)];rfl)).elim
    rcases hcase with ⟨b,ht,hcase⟩ | ⟨ht,hdu⟩
    ·have hlt:=hltof (by rw[ht];intro h;cases h)
     rw[ht] at hs
     have hs:=hs.bool_inv
     have hy:yielded ops a.tmps j=some b:=by
      unfold yielded
      unfold gslot at hj
      rw[hj]
      simp only [Option.bind_some]
      rw[Array.getD_eq_getD_getElem?,Array.getElem?_eq_getElem (by rw[mid.size];exact hlt)] at hs
      simp only [Option.getD_some] at hs
      rw[Array.getElem?_eq_getElem (by rw[mid.size];exact hlt),hs]
     have hwanted:Region.wanted o (yielded ops a.tmps)=(b == want):=by
      simp only [Region.wanted,hg,hy]
      cases b<;>cases want<;>rfl
     rw[hwanted]
     rcases hcase with ⟨rfl,hya⟩ | ⟨hne,hdu⟩
     ·rw[if_pos (by simp)]
      rcases hya with hya | hya
      ·exact .inl (run hya.2)
      ·exact (noAS hya.1).elim
     ·rw[if_neg (by simp [hne])]
      exact next undef w (by rw[hdu];exact undD_rd) (Below.refl _ _)
    ·have hlt:=hltof (by rw[ht];intro h;cases h)
     rw[ht] at hs
     obtain⟨arr,hs,_⟩:=hs.val_inv.tup_inv
     have hy:yielded ops a.tmps j=none:=by
      unfold yielded
      unfold gslot at hj
      rw[hj]
      simp only [Option.bind_some]
      rw[Array.getD_eq_getD_getElem?,Array.getElem?_eq_getElem (by rw[mid.size];exact hlt)] at hs
      simp only [Option.getD_some] at hs
      rw[Array.getElem?_eq_getElem (by rw[mid.size];exact hlt),hs]
     rw[if_neg (by simp [Region.wanted,hg,hy])]
     exact next undef w (by rw[hdu];exact undD_rd) (Below.refl _ _)
theorem mid_full {w0:Base}{S0:Nat→Prop}{ops:Array Oper}{S ds:List D}{h':List Box}{ρ:List Nat}{listed:Array Bool}{a:Act}{w:World}(hhead:headOk ops (tailAt ops)=true)(hds:ds.length=tailAt ops)
  (mid:Mid w0 S0 ops (tailAt ops) S ds h' ρ listed a w) (hall:∀ i,i<tailAt ops→listed.getD i true=true):OkS w0 S0 ⟨SSf ops S 0 ds (tailAt ops),h'⟩ a w ρ:=by
 have hmle:=tail_le ops
 generalize hm:tailAt ops=m at *
 have head:∀ i,i<m→∃ o d,ops[i]?=some o∧o.dst=some d∧(∀ j,j<m→j≠i→gslot ops j≠some d) ∧
   (∀ t∈namesT o,∀ j,j<m→gslot ops j=some t→j<i∧hasEdge o j=true)∧(∀ j want,o.guard=some (j,want)→j<i∧hasEdge o j=true):=by
  intro i hi
  have h1:=List.all_eq_true.1 hhead i (List.mem_range.2 hi)
  cases ho:ops[i]? with
  | none=>rw[ho] at h1;cases h1
  | some o =>
   rw[ho] at h1
   simp only [Bool.and_eq_true] at h1
   obtain⟨⟨h2,h3⟩,h4⟩:=h1
   cases hdst:o.dst with
   | none=>rw[hdst] at h2;cases h2
   | some d =>
    rw[hdst] at h2
    refine⟨o,d,rfl,hdst,?_,?_,?_⟩
    ·intro j hj hne hg
     have:=List.all_eq_true.1 h2 j (List.mem_range.2 hj)
     simp only [Bool.or_eq_true,Nat.beq_eq] at this
     rcases this with q | q
     ·exact hne q.symm
     ·unfold gslot at hg
      cases hp:ops[j]? with
      | none=>rw[hp] at q;cases q
      | some p =>
       rw[hp] at q hg
       simp only [Option.bind_some] at hg
       simp only [hg] at q
       simp at q
    ·intro t ht j hj hg
     have:=List.all_eq_true.1 (List.all_eq_true.1 h3 t ht) j (List.mem_range.2 hj)
     unfold gslot at hg
     cases hp:ops[j]? with
     | none=>rw[hp] at this;cases this
     | some p =>
      rw[hp] at this hg
      simp only [Option.bind_some] at hg
      simp only [hg,Bool.or_eq_true,Bool.and_eq_true,Bool.not_eq_true'] at this
      rcases this with q | q
      ·simp at q
      ·exact⟨blt_iff.1 q.1,q.2⟩
    ·intro j want hg
     rw[hg] at h4
     simp only [Bool.and_eq_true] at h4
     exact⟨blt_iff.1 h4.1,h4.2⟩
 refine⟨mid.ok,by rw[mid.size,SSf_len],fun t=>?_,mid.defers⟩
 by_cases ht:t<S.length
 ·by_cases hex:∃ i,i<m∧gslot ops i=some t
  ·obtain⟨i,him,hg⟩:=hex
   obtain⟨o,d,ho,hdst,hdis,_,_⟩:=head i him
   have hgd:d=t:=by unfold gslot at hg;rw[ho] at hg;simp [hdst] at hg;exact hg
   simp only
   rw[SSf_at ops t m S 0 ds i him (by omega) (by simpa using hg) ht (fun j hj hne=>by simpa [hgd] using hdis j hj hne)]
   exact mid.yes t i ht him (by rw[getD_any false true (by rw[mid.lsize];omega)];exact hall i him) hg
  ·simp only
   rw[SSf_other ops t m S 0 ds (fun j hj hg=>hex ⟨j,hj,by simpa using hg⟩)]
   exact mid.no t ht (fun i hi hg=>(hex ⟨i,hi,hg⟩).elim)
 ·have:nth (SSf ops S 0 ds m) t .unk=.unk:=by rw[nth_eq,List.getElem?_eq_none (by rw[SSf_len];omega)];rfl
  simp only
  rw[this]
  exact .unk
theorem draw_sound (hst:Stable C){ops:Array Oper}(hna:ops.toList.any isAl=false)(hd:drawOk ops=true){w0:Base}{S0:Nat→Prop}(hC:Hold C w0)(hS:∀ b,w0.own b→S0 b){Q:Exit→Act→World→Prop}{S:List D}{ds:List D}{h':List Box}{ρ:List Nat}
  (hds:ds.length=tailAt ops) (hent:∀ q o,q<tailAt ops→ops[q]?=some o→Ent P C ops (SSf ops S 0 ds q) o (nth ds q .unk) h')
  (hend:∀ a w,OkS w0 S0 ⟨SSf ops S 0 ds (tailAt ops),h'⟩ a w ρ→wpOps P ops Q (List.range' (tailAt ops) (ops.size-tailAt ops)) a w) :
  ∀ (fuel:Nat) (listed:Array Bool) (a:Act) (w:World),(List.range (tailAt ops)).countP (fun i=>!listed.getD i true)+(ops.size-tailAt ops)≤fuel →
   Mid w0 S0 ops (tailAt ops) S ds h' ρ listed a w→wpAny P .any ops Q fuel listed a w:=by
 unfold drawOk at hd
 simp only [Bool.and_eq_true] at hd
 obtain⟨⟨htail,hhead⟩,hback⟩:=hd
 have hmle:=tail_le ops
 refine draw_gen hst hna (fun _=>false) hhead hback ?_ hC hS hds hent ?_
 ·intro j i hj hjs hi _
  have:=List.all_eq_true.1 htail j (List.mem_range.2 hjs)
  simp only [Bool.or_eq_true] at this
  rcases this with q | q
  ·have:=blt_iff.1 q;omega
  ·exact List.all_eq_true.1 q i (List.mem_range.2 (by omega))
 ·intro fuel listed a w hf hall mid
  have hall:=fun i hi=>hall i hi rfl
  refine tail_any htail hback fuel (tailAt ops) listed a w (by omega) hmle (Nat.le_refl _) mid.lsize ?_ (hend a w (mid_full hhead hds mid hall))
  intro i hi
  rw[getD_any false true (by rw[mid.lsize];exact hi)]
  by_cases him:i<tailAt ops
  ·rw[hall i him];simp [him]
  ·rw[mid.tail i (by omega) hi];simp [him]
end Go.Proofs.YtkkbddkpggjgpaaGreatDoor
namespace Go.Proofs.YtkkbddkpggjgpaaGreatDoor
open Go.RowKit
variable {P:Program} {C:World→Prop} {Qr:V→Prop} {Qo:Ex→St→Prop}
structure FloatAt (ops:Array Oper) (m i:Nat) (o:Oper) (x:Operand) (d:Nat):Prop where
 lt:i<m
 op:o.op=.move x
 dst:o.dst=some d
 guard:o.guard=none
 src:∀ u,x=.tmp u→∀ (j:Nat) (p:Oper),ops[j]?=some p→p.dst≠some u
 kind:(∃ u,x=.tmp u)∨∃ c,x=.const c
 use:∀ (j:Nat) (p:Oper),m≤j→ops[j]?=some p→(hasEdge p i=true∨d ∉ namesT p)∧p.dst≠some d
theorem lt_op {ops:Array Oper}{j:Nat}{p:Oper}(h:ops[j]?=some p):j<ops.size:=by
 rcases Nat.lt_or_ge j ops.size with q | q
 ·exact q
 ·rw[Array.getElem?_eq_none q] at h;cases h
theorem float_of {ops:Array Oper}{m i:Nat}(h:isFloat ops m i=true):∃ o x d,ops[i]?=some o∧FloatAt ops m i o x d:=by
 unfold isFloat at h
 rw[Bool.and_eq_true] at h
 obtain⟨hlt,h⟩:=h
 split at h
 ·rename_i o ho
  rw[Bool.and_eq_true] at h
  obtain⟨hg,h⟩:=h
  split at h
  ·rename_i x d hop hdst
   rw[Bool.and_eq_true] at h
   obtain⟨hx,hu⟩:=h
   refine⟨o,x,d,ho,blt_iff.1 hlt,hop,hdst,by simpa using hg,?_,?_,?_⟩
   ·intro u hxu j p hp hd
    subst hxu
    have:=List.all_eq_true.1 hx j (List.mem_range.2 (lt_op hp))
    rw[hp] at this
    simp only [hd] at this
    simp at this
   ·cases x with
    | tmp u=>exact .inl ⟨u,rfl⟩
    | const c=>exact .inr ⟨c,rfl⟩
    | global g=>cases hx
    | func f=>cases hx
   ·intro j p hj hp
    have:=List.all_eq_true.1 hu j (List.mem_range.2 (lt_op hp))
    rw[Bool.or_eq_true] at this
    rcases this with q | q
    ·have:=blt_iff.1 q;omega
    ·rw[hp] at q
     simp only [Bool.and_eq_true,Bool.or_eq_true,Bool.not_eq_true'] at q
     refine⟨q.1.imp id fun hn hm=>?_,fun hd=>?_⟩
     ·have:=List.any_eq_false.1 hn d hm
      simp at this
     ·have h2:=q.2
      rw[hd] at h2
      simp at h2
  ·cases h
 ·cases h
theorem plain_of {ops:Array Oper}{m j:Nat}(h:tailPlain ops m=true)(hj:m≤j){o:Oper}(ho:ops[j]?=some o):o.guard=none∧((∃ t a x,o.op=.store t a x∧o.dst=none)∨∃ x,o.op=.assign x):=by
 have:=List.all_eq_true.1 h j (List.mem_range.2 (lt_op ho))
 rw[Bool.or_eq_true] at this
 rcases this with q | q
 ·have:=blt_iff.1 q;omega
 ·rw[ho] at q
  simp only [Bool.and_eq_true] at q
  refine⟨by simpa using q.1,?_⟩
  have q2:=q.2
  split at q2
  ·rename_i t a x e;exact .inl ⟨t,a,x,e,by simpa using q2⟩
  ·rename_i x e;exact .inr ⟨x,e⟩
  ·cases q2
theorem put_getD {a:Act}{d t:Nat}{v:Value}(hd:d<a.tmps.size):(a.put (some d) v).tmps.getD t undef=if d=t then v else a.tmps.getD t undef:=by
 simp only [Act.put,Array.getD_eq_getD_getElem?]
 by_cases h:d=t
 ·subst h
  rw[Array.getElem?_setIfInBounds_self_of_lt hd,if_pos rfl];rfl
 ·rw[Array.getElem?_setIfInBounds,if_neg h,if_neg h]
theorem put_out {a:Act}{d:Nat}{v:Value}(hd:¬ d<a.tmps.size):a.put (some d) v=a:=by
 simp only [Act.put]
 rw[Array.setIfInBounds_eq_of_size_le (by omega)]
structure Agree (ops:Array Oper) (m:Nat) (listed:Array Bool) (a a':Act):Prop where
 size:a.tmps.size=a'.tmps.size
 defers:a.defers=a'.defers
 same:∀ t,(∀ i,isFloat ops m i=true→listed.getD i false=false→gslot ops i≠some t)→a.tmps.getD t undef=a'.tmps.getD t undef
 pend:∀ (i:Nat) (o:Oper) (x:Operand) (d:Nat),FloatAt ops m i o x d→ops[i]?=some o→isFloat ops m i=true→listed.getD i false=false→d<a'.tmps.size→a'.tmps.getD d undef=a'.eval x
theorem gslot_mk {ops:Array Oper}{i d:Nat}{o:Oper}(ho:ops[i]?=some o)(hd:o.dst=some d):gslot ops i=some d:=by
 unfold gslot;rw[ho];exact hd
theorem float_unique {ops:Array Oper}{m i:Nat}{o o':Oper}{x x':Operand}{d d':Nat}(h:FloatAt ops m i o x d)(ho:ops[i]?=some o)(h':FloatAt ops m i o' x' d')(ho':ops[i]?=some o'):o=o'∧x=x'∧d=d':=by
 rw[ho] at ho'
 cases ho'
 refine⟨rfl,?_,?_⟩
 ·have:=h.op.symm.trans h'.op
  cases this;rfl
 ·have:=h.dst.symm.trans h'.dst
  cases this;rfl
theorem act_ext {a a':Act}(hs:a.tmps.size=a'.tmps.size)(hd:a.defers=a'.defers)(h:∀ t,a.tmps.getD t undef=a'.tmps.getD t undef):a=a':=by
 cases a with | mk t1 d1 =>
 cases a' with | mk t2 d2 =>
 simp only at hs hd h
 have:t1=t2:=by
  apply Array.ext hs
  intro i h1 h2
  have:=h i
  simpa [Array.getD_eq_getD_getElem?,h1,h2] using this
 rw[this,hd]
theorem exists_ready {ops:Array Oper}{listed:Array Bool}(hback:backOk ops=true)(hsz:listed.size=ops.size):∀ k,∀ i,i<ops.size→i≤k→listed.getD i true=false→∃ q,q∈Region.ready .any ops listed:=by
 intro k
 induction k with
 | zero =>
  intro i hi hk hu
  have:i=0:=by omega
  subst this
  refine⟨0,mem_ready.2 ⟨hi,hu,ops[0],Array.getElem?_eq_getElem hi,fun e he hbd=>?_⟩⟩
  have:=edge_lt hback (Array.getElem?_eq_getElem hi) he hbd
  omega
 | succ k ihk =>
  intro i hi hk hu
  by_cases hlow:∃ j,j<i∧listed.getD j true=false
  ·obtain⟨j,hj,hju⟩:=hlow
   exact ihk j (by omega) (by omega) hju
  ·refine⟨i,mem_ready.2 ⟨hi,hu,ops[i],Array.getElem?_eq_getElem hi,fun e he hbd=>?_⟩⟩
   have hon:=edge_lt hback (Array.getElem?_eq_getElem hi) he hbd
   rw[getD_any false true (by rw[hsz];omega)]
   cases hq:listed.getD e.on true with
   | true=>rfl
   | false=>exact (hlow ⟨_,hon,hq⟩).elim
theorem tail_float (hst:Stable C){ops:Array Oper}{m:Nat}(hpl:tailPlain ops m=true)(htl:tailOk3 ops m=true)(hhead:headOk ops m=true)(hback:backOk ops=true)(hms:m≤ops.size){w0:Base}{S0:Nat→Prop}(hC:Hold C w0)(hS:∀ b,w0.own b→S0 b)
  {Q:Exit→Act→World→Prop} {k:St→T} (hQ:∀ st a w ρ,OkS w0 S0 st a w ρ→(k st).wp P C Qr Qo→Q .normal a w) :
  ∀ (fuel j:Nat) (listed:Array Bool) (a a':Act) (w:World) (st:St) (ρ:List Nat),m≤j→j≤ops.size→listed.size=ops.size→(List.range ops.size).countP (fun i=>!listed.getD i true)≤fuel →
   (∀ i,i<ops.size→(isFloat ops m i=false∨m≤i)→listed.getD i false=decide (i<j)) →
   (∀ j o,ops[j]?=some o→listed.getD j false=true→∀ e∈o.after.toList,Region.binds .any e=true→listed.getD e.on false=true) →
   OkS w0 S0 st a' w ρ→Agree ops m listed a a'→(evalOps P ops false (ops.toList.drop j) st k).wp P C Qr Qo→wpAny P .any ops Q fuel listed a w:=by
 have floatlt:∀ i,isFloat ops m i=true→i<m:=fun i h=>by obtain⟨o,x,d,_,hf⟩:=float_of h;exact hf.lt
 have fin:∀ (j:Nat) (listed:Array Bool) (a a':Act) (w:World) (st:St) (ρ:List Nat),m≤j→j≤ops.size→listed.size=ops.size→(∀ i,i<ops.size→listed.getD i true=true) →
   (∀ i,i<ops.size→(isFloat ops m i=false∨m≤i)→listed.getD i false=decide (i<j)) →
   OkS w0 S0 st a' w ρ→Agree ops m listed a a'→(evalOps P ops false (ops.toList.drop j) st k).wp P C Qr Qo→Q .normal a w:=by
  intro j listed a a' w st ρ hmj hjs hsz hall hl ok hag hw
  have hj:j=ops.size:=by
   rcases Nat.lt_or_ge j ops.size with q | q
   ·have h1:=hl j q (.inr hmj)
    rw[getD_any false true (by omega),hall j q] at h1
    have:=of_decide_eq_true h1.symm
    omega
   ·omega
  subst hj
  rw[List.drop_of_length_le (by simp)] at hw
  have:a=a':=act_ext hag.size hag.defers fun t=>hag.same t fun i hfi hli=>by
   have hi:=Nat.lt_of_lt_of_le (floatlt i hfi) hms
   rw[getD_any false true (by omega),hall i hi] at hli
   cases hli
  rw[this]
  exact hQ st a' w ρ ok (by simpa [evalOps] using hw)
 have nil:∀ (listed:Array Bool),(∀ i,i<ops.size→listed.getD i true=true)→Region.ready .any ops listed = []:=by
  intro listed hall
  apply List.eq_nil_iff_forall_not_mem.2
  intro i hi
  obtain⟨h1,h2,_⟩:=mem_ready.1 hi
  rw[hall i h1] at h2
  cases h2
 intro fuel
 induction fuel with
 | zero =>
  intro j listed a a' w st ρ hmj hjs hsz hf hl hdep ok hag hw
  have hall:∀ i,i<ops.size→listed.getD i true=true:=by
   intro i hi
   have:=(List.countP_eq_zero.1 (Nat.le_zero.1 hf)) i (List.mem_range.2 hi)
   simpa using this
  exact⟨nil listed hall,fin j listed a a' w st ρ hmj hjs hsz hall hl ok hag hw⟩
 | succ fuel ih =>
  intro j listed a a' w st ρ hmj hjs hsz hf hl hdep ok hag hw
  refine⟨fun h0=>fin j listed a a' w st ρ hmj hjs hsz (fun i0 hi0=>?_) hl ok hag hw,fun i hi=>?_⟩
  ·cases hu:listed.getD i0 true with
   | true=>rfl
   | false =>
    exfalso
    obtain⟨q,hq⟩:=exists_ready hback hsz i0 i0 hi0 (Nat.le_refl _) hu
    rw[h0] at hq
    cases hq
  obtain⟨hin,hiu,o,ho,hedges⟩:=mem_ready.1 hi
  have hil:i<listed.size:=by omega
  have hiu':listed.getD i false=false:=by rw[getD_any false true hil];exact hiu
  have hcnt:(List.range ops.size).countP (fun q=>!(listed.setIfInBounds i true).getD q true)≤fuel:=by
   have:=countP_lt (p:=fun q=>!listed.getD q true) (q:=fun q=>!(listed.setIfInBounds i true).getD q true) (List.mem_range.2 hin) (by simp [hiu])
    (by simp only [Bool.not_eq_false'];rw[getD_set hil,if_pos rfl])
    (fun y hy=>by
     simp only [Bool.not_eq_true'] at hy ⊢
     rw[getD_set hil] at hy
     split at hy
     ·cases hy
     ·exact hy)
   omega
  have hdep':∀ q p,ops[q]?=some p→(listed.setIfInBounds i true).getD q false=true→∀ e∈p.after.toList,Region.binds .any e=true→(listed.setIfInBounds i true).getD e.on false=true:=by
   intro q p hp hlq e he hbd
   have up:listed.getD e.on false=true→(listed.setIfInBounds i true).getD e.on false=true:=by
    intro h
    rw[getD_set hil]
    split
    ·rfl
    ·exact h
   rw[getD_set hil] at hlq
   split at hlq
   ·rename_i eq
    subst eq
    rw[ho] at hp
    cases hp
    exact up (hedges e he hbd)
   ·exact up (hdep q p hp hlq e he hbd)
  unfold wpOp
  rw[ho]
  simp only
  rcases Nat.lt_or_ge i m with him | him
  ·-- a move that was pending
   have hfi:isFloat ops m i=true:=by
    cases hq:isFloat ops m i with
    | true=>rfl
    | false =>
     have:=hl i hin (.inl hq)
     rw[hiu'] at this
     have:=of_decide_eq_false this.symm
     omega
   obtain⟨o2,x,d,ho2,hfl⟩:=float_of hfi
   rw[ho] at ho2
   cases ho2
   rw[if_pos (by simp [Region.wanted,hfl.guard])]
   have hev:a.eval x=a'.eval x:=by
    rcases hfl.kind with ⟨u,rfl⟩ | ⟨c,rfl⟩
    ·refine hag.same u fun q hq hlq hg=>?_
     obtain⟨p,_,_,hp,_⟩:=float_of hq
     unfold gslot at hg
     rw[hp] at hg
     exact hfl.src u rfl q p hp (by simpa using hg)
    ·rfl
   refine .inl (post_value (v:=a.eval x) (w':=w) (by simp only [execOp,hfl.op,Sem.run_pure]) ?_)
   rw[hfl.dst]
   refine ih j _ _ a' w st ρ hmj hjs (by simp [hsz]) hcnt ?_ hdep' ok ⟨?_,?_,?_,?_⟩ hw
   ·intro q hq hor
    have hqi:i≠q:=fun e=>by
     subst e
     rcases hor with h | h
     ·rw[hfi] at h;cases h
     ·omega
    rw[getD_set hil,if_neg hqi]
    exact hl q hq hor
   ·simp [Act.put,hag.size]
   ·exact hag.defers
   ·intro t ht
    by_cases hd:d<a.tmps.size
    ·rw[put_getD hd]
     split
     ·rename_i e
      subst e
      rw[hag.pend i o x d hfl ho hfi hiu' (by rw[← hag.size];exact hd),hev]
     ·rename_i hne
      refine hag.same t fun q hq hlq hg=>?_
      by_cases hqi:i=q
      ·subst hqi
       have:=gslot_mk ho hfl.dst
       rw[hg] at this
       cases this
       exact hne rfl
      ·exact ht q hq (by rw[getD_set hil,if_neg hqi];exact hlq) hg
    ·rw[put_out hd]
     by_cases hdt:d=t
     ·subst hdt
      simp only [Array.getD_eq_getD_getElem?]
      rw[Array.getElem?_eq_none (by omega),Array.getElem?_eq_none (by rw[← hag.size];omega)]
     ·refine hag.same t fun q hq hlq hg=>?_
      by_cases hqi:i=q
      ·subst hqi
       have:=gslot_mk ho hfl.dst
       rw[hg] at this
       cases this
       exact hdt rfl
      ·exact ht q hq (by rw[getD_set hil,if_neg hqi];exact hlq) hg
   ·intro q p y e hq hp hfq hlq he
    have hqi:i≠q:=fun eq=>by subst eq;rw[getD_set hil,if_pos rfl] at hlq;cases hlq
    rw[getD_set hil,if_neg hqi] at hlq
    exact hag.pend q p y e hq hp hfq hlq he
  ·-- the next of the last part
   have hij:i=j:=by
    have h1:=hl i hin (.inr him)
    rw[hiu'] at h1
    have h1:=of_decide_eq_false h1.symm
    rcases Nat.lt_or_ge j i with h2 | h2
    ·exfalso
     have hr:=List.all_eq_true.1 htl i (List.mem_range.2 hin)
     rw[Bool.or_eq_true] at hr
     rcases hr with q | q
     ·have:=blt_iff.1 q;omega
     ·have:=List.all_eq_true.1 q j (List.mem_range.2 h2)
      rw[Bool.or_eq_true] at this
      rcases this with q | q
      ·have:=floatlt j q;omega
      ·have:=reach_listed hdep 5 i j q (fun o2 ho2=>by rw[ho] at ho2;cases ho2;exact hedges)
       rw[hl j (by omega) (.inr hmj)] at this
       have:=of_decide_eq_true this
       omega
    ·omega
   subst hij
   obtain⟨hg,hkind⟩:=plain_of hpl him ho
   rw[if_pos (by simp [Region.wanted,hg])]
   have hdrop:ops.toList.drop i=o::ops.toList.drop (i+1):=by
    rw[List.drop_eq_getElem_cons (by simpa using hin)]
    congr 1
    rw[Array.getElem_toList]
    have:=Array.getElem?_eq_getElem hin
    rw[ho] at this
    exact (Option.some.inj this).symm
   rw[hdrop] at hw
   unfold evalOps at hw
   rw[hg] at hw
   simp only at hw
   have hev:∀ x,(∀ t,x=.tmp t→t∈namesT o)→a.eval x=a'.eval x:=by
    intro x hx
    cases x with
    | tmp t =>
     refine hag.same t fun q hq hlq hgq=>?_
     obtain⟨p,y,d,hp,hf⟩:=float_of hq
     have hd:d=t:=by
      have:=gslot_mk hp hf.dst
      rw[hgq] at this
      cases this;rfl
     subst hd
     rcases (hf.use i o him ho).1 with h | h
     ·obtain⟨e,he,hon,hbd⟩:=hasEdge_of h
      have:=hedges e he hbd
      rw[hon,hlq] at this
      cases this
     ·exact h (hx d rfl)
    | const v=>rfl
    | global g=>rfl
    | func f=>rfl
   have hl':∀ q,q<ops.size→(isFloat ops m q=false∨m≤q)→(listed.setIfInBounds i true).getD q false=decide (q<i+1):=by
    intro q hq hor
    rw[getD_set hil]
    by_cases e:i=q
    ·subst e;simp
    ·rw[if_neg e,hl q hq hor];simp;omega
   have hlq':∀ q,isFloat ops m q=true→(listed.setIfInBounds i true).getD q false=false→listed.getD q false=false:=by
    intro q hq h
    have:=floatlt q hq
    rw[getD_set hil,if_neg (by omega)] at h
    exact h
   have hlq2:∀ q,isFloat ops m q=true→listed.getD q false=false→(listed.setIfInBounds i true).getD q false=false:=by
    intro q hq h
    have:=floatlt q hq
    rw[getD_set hil,if_neg (by omega)]
    exact h
   rcases hkind with ⟨t,ad,x,hop,hdst⟩ | ⟨x,hop⟩
   ·have hh:heapOp o.op=true:=by rw[hop];rfl
    unfold evalOp at hw
    rw[hh] at hw
    simp only [cond_false,cond_true] at hw
    unfold evalH at hw
    rw[hop] at hw
    simp only at hw
    split at hw
    ·rename_i c h' hs
     obtain⟨ec,hw2⟩:=of_brk hw
     subst ec
     clear hw
     have n1:∀ u,ad=.tmp u→u∈namesT o:=fun u e=>by subst e;unfold namesT;rw[hop];simp [Op.operands]
     have n2:∀ u,x=.tmp u→u∈namesT o:=fun u e=>by subst e;unfold namesT;rw[hop];simp [Op.operands]
     obtain⟨w',h1,h2,h3,_⟩:=store_sound (P:=P) ok.ok hs (eval_get ok ad) (eval_get ok x)
     refine .inl (post_skip (w':=w') ?_ ?_)
     ·simp only [execOp,hop,Sem.run_bind,hev ad n1,hev x n2,h1,Result.andThen_ok,Sem.run_pure]
     ·rw[hdst] at hw2 ⊢
      exact ih (i+1) _ a a' w' ⟨st.s,h'⟩ ρ (by omega) (by omega) (by simp [hsz]) hcnt hl' hdep' ⟨h2,ok.size,fun t=>h3 _ _ (ok.slots t),ok.defers⟩
       ⟨hag.size,hag.defers,fun t ht=>hag.same t fun q hq hlq=>ht q hq (hlq2 q hq hlq),fun q p y e hq hp hfq hlq=>hag.pend q p y e hq hp hfq (hlq' q hfq hlq)⟩ hw2
    ·exact hw.elim
   ·have hh:heapOp o.op=false:=by rw[hop];rfl
    unfold evalOp at hw
    rw[hh] at hw
    simp only [cond_false] at hw
    have hw2:(evalOps P ops false (ops.toList.drop (i+1)) ⟨putO st.s o.dst (getD st.s x),st.h⟩ k).wp P C Qr Qo:=by
     unfold evalB at hw
     rw[hop] at hw
     simp only at hw
     unfold evalA at hw
     rw[hop] at hw
     exact hw
    have n1:∀ u,x=.tmp u→u∈namesT o:=fun u e=>by subst e;unfold namesT;rw[hop];simp [Op.operands]
    refine .inl (post_value (v:=a.eval x) (w':=w) (by simp only [execOp,hop,Sem.run_pure]) ?_)
    have ok2:=put_ok (dst:=o.dst) ok ok.ok (eval_get ok x) (fun _ _ q=>q)
    rw[hev x n1]
    refine ih (i+1) _ _ _ w _ ρ (by omega) (by omega) (by simp [hsz]) hcnt hl' hdep' ok2 ?_ hw2
    cases hdst:o.dst with
    | none=>exact⟨hag.size,hag.defers,fun t ht=>hag.same t fun q hq hlq=>ht q hq (hlq2 q hq hlq),fun q p y e hq hp hfq hlq=>hag.pend q p y e hq hp hfq (hlq' q hfq hlq)⟩
    | some dd =>
     refine⟨by simp [Act.put,hag.size],hag.defers,?_,?_⟩
     ·intro t ht
      by_cases hd:dd<a.tmps.size
      ·rw[put_getD hd,put_getD (by rw[← hag.size];exact hd)]
       split
       ·rfl
       ·exact hag.same t fun q hq hlq=>ht q hq (hlq2 q hq hlq)
      ·rw[put_out hd,put_out (by rw[← hag.size];exact hd)]
       exact hag.same t fun q hq hlq=>ht q hq (hlq2 q hq hlq)
     ·intro q p y e hq hp hfq hlq he
      have h1:=hag.pend q p y e hq hp hfq (hlq' q hfq hlq) (by simpa [Act.put] using he)
      by_cases hd:dd<a'.tmps.size
      ·have hde:dd≠e:=fun h=>(hq.use i o him ho).2 (by rw[hdst,h])
       rw[put_getD hd,if_neg hde,h1]
       rcases hq.kind with ⟨u,rfl⟩ | ⟨c,rfl⟩
       ·have hdu:dd≠u:=fun h=>hq.src u rfl i o ho (by rw[hdst,h])
        show a'.tmps.getD u undef=(a'.put (some dd) _).tmps.getD u undef
        rw[put_getD hd,if_neg hdu]
       ·rfl
      ·rw[put_out hd];exact h1
noncomputable def ahead (ops : Array Oper) (m : Nat) (listed : Array Bool) (a : Act) : Act :=
  open Classical in
  { tmps := Array.ofFn fun t : Fin a.tmps.size =>
      if h : ∃ x, ∃ (i : Nat) (o : Oper), FloatAt ops m i o x t.val ∧ ops[i]? = some o ∧ isFloat ops m i = true ∧ listed.getD i false = false then a.eval h.choose else a.tmps.getD t.val undef
    defers := a.defers }
theorem ahead_size {ops m listed a}:(ahead ops m listed a).tmps.size=a.tmps.size:=by simp [ahead]
theorem ahead_no {ops:Array Oper}{m:Nat}{listed:Array Bool}{a:Act}{t:Nat}(h:¬ ∃ x,∃ (i:Nat) (o:Oper),FloatAt ops m i o x t∧ops[i]?=some o∧isFloat ops m i=true∧listed.getD i false=false):(ahead ops m listed a).tmps.getD t undef=a.tmps.getD t undef:=by
 simp only [Array.getD_eq_getD_getElem?]
 by_cases ht:t<a.tmps.size
 ·rw[Array.getElem?_eq_getElem (by rw[ahead_size];exact ht),Array.getElem?_eq_getElem ht]
  simp only [ahead,Array.getElem_ofFn,Option.getD_some]
  rw[dif_neg h,Array.getD_eq_getD_getElem?,Array.getElem?_eq_getElem ht]
  rfl
 ·rw[Array.getElem?_eq_none (by rw[ahead_size];omega),Array.getElem?_eq_none (by omega)]
theorem ahead_yes {ops:Array Oper}{m:Nat}{listed:Array Bool}{a:Act}{t i:Nat}{o:Oper}{x:Operand}(hlone:∀ j,j<m→j≠i→gslot ops j≠some t)(hf:FloatAt ops m i o x t)(ho:ops[i]?=some o)(hfi:isFloat ops m i=true)
  (hl:listed.getD i false=false) (ht:t<a.tmps.size):(ahead ops m listed a).tmps.getD t undef=a.eval x:=by
 have h:∃ x,∃ (i:Nat) (o:Oper),FloatAt ops m i o x t∧ops[i]?=some o∧isFloat ops m i=true∧listed.getD i false=false:=⟨x,i,o,hf,ho,hfi,hl⟩
 have hc:h.choose=x:=by
  obtain⟨i',o',hf',ho',_⟩:=h.choose_spec
  have:i'=i:=Classical.byContradiction fun hne=>hlone i' hf'.lt hne (gslot_mk ho' hf'.dst)
  subst this
  exact (float_unique hf' ho' hf ho).2.1
 simp only [Array.getD_eq_getD_getElem?]
 rw[Array.getElem?_eq_getElem (by rw[ahead_size];exact ht)]
 simp only [ahead,Array.getElem_ofFn,Option.getD_some]
 rw[dif_pos h,hc]
theorem draw3_sound (hst:Stable C){ops:Array Oper}(hna:ops.toList.any isAl=false)(hd:drawOk3 ops=true){w0:Base}{S0:Nat→Prop}(hC:Hold C w0)(hS:∀ b,w0.own b→S0 b){Q:Exit→Act→World→Prop}{S:List D}{ds:List D}{h':List Box}{ρ:List Nat}{k:St→T}
  (hQ:∀ st a w ρ,OkS w0 S0 st a w ρ→(k st).wp P C Qr Qo→Q .normal a w)
  (hds:ds.length=tailAt ops) (hent:∀ q o,q<tailAt ops→ops[q]?=some o→Ent P C ops (SSf ops S 0 ds q) o (nth ds q .unk) h')
  (hw:(evalOps P ops false (ops.toList.drop (tailAt ops)) ⟨SSf ops S 0 ds (tailAt ops),h'⟩ k).wp P C Qr Qo) :
  ∀ (listed:Array Bool) (a:Act) (w:World),(List.range (tailAt ops)).countP (fun i=>!listed.getD i true)+(ops.size-tailAt ops)≤ops.size →
   Mid w0 S0 ops (tailAt ops) S ds h' ρ listed a w→wpAny P .any ops Q ops.size listed a w:=by
 unfold drawOk3 at hd
 simp only [Bool.and_eq_true] at hd
 obtain⟨⟨⟨hpl,htl⟩,hhead⟩,hback⟩:=hd
 have hmle:=tail_le ops
 intro listed a w hcount
 refine draw_gen hst hna (fun i=>isFloat ops (tailAt ops) i) hhead hback ?_ hC hS hds hent ?_ ops.size listed a w hcount
 ·intro j i hj hjs hi hfl
  have:=List.all_eq_true.1 htl j (List.mem_range.2 hjs)
  simp only [Bool.or_eq_true] at this
  rcases this with q | q
  ·have:=blt_iff.1 q;omega
  ·have:=List.all_eq_true.1 q i (List.mem_range.2 (by omega))
   rw[Bool.or_eq_true] at this
   rcases this with q | q
   ·rw[hfl] at q;cases q
   ·exact q
 ·intro fuel listed a w hf hall mid
  have head:∀ i,i<tailAt ops→∃ o d,ops[i]?=some o∧o.dst=some d∧(∀ j,j<tailAt ops→j≠i→gslot ops j≠some d) ∧
    (∀ t∈namesT o,∀ j,j<tailAt ops→gslot ops j=some t→j<i∧hasEdge o j=true)∧(∀ j want,o.guard=some (j,want)→j<i∧hasEdge o j=true):=by
   intro i hi
   have h1:=List.all_eq_true.1 hhead i (List.mem_range.2 hi)
   cases ho:ops[i]? with
   | none=>rw[ho] at h1;cases h1
   | some o =>
    rw[ho] at h1
    simp only [Bool.and_eq_true] at h1
    obtain⟨⟨h2,h3⟩,h4⟩:=h1
    cases hdst:o.dst with
    | none=>rw[hdst] at h2;cases h2
    | some d =>
     rw[hdst] at h2
     refine⟨o,d,rfl,hdst,?_,?_,?_⟩
     ·intro j hj hne hg
      have:=List.all_eq_true.1 h2 j (List.mem_range.2 hj)
      simp only [Bool.or_eq_true,Nat.beq_eq] at this
      rcases this with q | q
      ·exact hne q.symm
      ·unfold gslot at hg
       cases hp:ops[j]? with
       | none=>rw[hp] at q;cases q
       | some p =>
        rw[hp] at q hg
        simp only [Option.bind_some] at hg
        simp only [hg] at q
        simp at q
     ·intro t ht j hj hg
      have:=List.all_eq_true.1 (List.all_eq_true.1 h3 t ht) j (List.mem_range.2 hj)
      unfold gslot at hg
      cases hp:ops[j]? with
      | none=>rw[hp] at this;cases this
      | some p =>
       rw[hp] at this hg
       simp only [Option.bind_some] at hg
       simp only [hg,Bool.or_eq_true,Bool.and_eq_true,Bool.not_eq_true'] at this
       rcases this with q | q
       ·simp at q
       ·exact⟨blt_iff.1 q.1,q.2⟩
     ·intro j want hg
      rw[hg] at h4
      simp only [Bool.and_eq_true] at h4
      exact⟨blt_iff.1 h4.1,h4.2⟩
  have hlone:∀ i,i<tailAt ops→∀ t,gslot ops i=some t→∀ j,j<tailAt ops→j≠i→gslot ops j≠some t:=by
   intro i hi t hg
   obtain⟨o,d,ho,hdst,hdis,_,_⟩:=head i hi
   have hgd:d=t:=by unfold gslot at hg;rw[ho] at hg;simp [hdst] at hg;exact hg
   subst hgd
   exact hdis
  have hlist:∀ i,i<tailAt ops→isFloat ops (tailAt ops) i=false→listed.getD i false=true:=fun i hi hfl=>by
   rw[getD_any false true (by rw[mid.lsize];omega)];exact hall i hi hfl
  have hCw:=below_C hst hC mid.ok.below
  -- what a pending move will give
  have pendRd:∀ i o x d,FloatAt ops (tailAt ops) i o x d→ops[i]?=some o→d<S.length→RdD w (stab S0 ρ h') ρ (a.eval x) (nth ds i .unk):=by
   intro i o x d hfl ho hd
   have hent:=hent i o hfl.lt ho
   have hil:=hfl.lt
   have hsrc:∀ u,x=.tmp u→RdD w (stab S0 ρ h') ρ (a.tmps.getD u undef) (nth (SSf ops S 0 ds i) u .unk):=by
    intro u hu
    have hno:∀ j,gslot ops j≠some u:=fun j hg=>by
     unfold gslot at hg
     cases hp:ops[j]? with
     | none=>rw[hp] at hg;cases hg
     | some p=>rw[hp] at hg;exact hfl.src u hu j p hp (by simpa using hg)
    by_cases ht:u<S.length
    ·rw[SSf_other ops u i S 0 ds (fun j _ hg=>hno _ hg)]
     exact mid.no u ht (fun j _ hg=>(hno j hg).elim)
    ·have:nth (SSf ops S 0 ds i) u .unk=.unk:=by rw[nth_eq,List.getElem?_eq_none (by rw[SSf_len];exact Nat.le_of_not_lt ht)];rfl
     rw[this]
     exact .unk
   have hreads:Reads w (stab S0 ρ h') ρ a o (getD (SSf ops S 0 ds i)):=by
    intro y hy
    rw[hfl.op] at hy
    have:y=x:=by simpa [Op.operands] using hy
    subst this
    rcases hfl.kind with ⟨u,rfl⟩ | ⟨c,rfl⟩
    ·exact unpin_rd (hsrc u rfl)
    ·exact .val (const_rd c)
   rcases hent with ⟨_,hy⟩ | ⟨j,want,t,hg,_⟩
   ·rcases hy with ⟨_,hy⟩ | ⟨has,_⟩
    ·have h1:=hy h' (Fr.refl _) w0 S0 a w ρ (fun _ _ _=>False) hCw (allS_of mid.ok hS) mid.ok hreads
     unfold Oper.wp at h1
     have hrun:(execOp a.eval o).run P w=.ok (.value (a.eval x)) w:=by simp only [execOp,hfl.op,Sem.run_pure]
     rw[hrun] at h1
     obtain⟨v,hv,hr,_⟩:=h1
     rw[hfl.dst] at hv
     have h2:(a.put (some d) (a.eval x)).tmps.getD d undef=(a.put (some d) v).tmps.getD d undef:=congrArg (fun b:Act=>b.tmps.getD d undef) hv
     rw[put_getD (by rw[mid.size];exact hd),put_getD (by rw[mid.size];exact hd),if_pos rfl,if_pos rfl] at h2
     rw[h2]
     exact hr
    ·unfold isAS at has
     rw[hfl.op] at has
     cases has
   ·rw[hfl.guard] at hg;cases hg
  -- all of the head,ahead of time
  have hall2:∀ i,(Array.ofFn fun i:Fin ops.size=>decide (i.val<tailAt ops)).getD i false=decide (i<tailAt ops):=by
   intro i
   rw[Array.getD_eq_getD_getElem?]
   by_cases hi:i<ops.size
   ·rw[Array.getElem?_eq_getElem (by simpa using hi)];simp
   ·rw[Array.getElem?_eq_none (by simp;omega)];simp;omega
  have hmid:Mid w0 S0 ops (tailAt ops) S ds h' ρ (Array.ofFn fun i:Fin ops.size=>decide (i.val<tailAt ops)) (ahead ops (tailAt ops) listed a) w:=by
   refine⟨mid.ok,by rw[ahead_size];exact mid.size,mid.defers,by simp,?_,?_,?_,?_⟩
   ·intro j o ho hl e he hbd
    rw[hall2] at hl ⊢
    have:=of_decide_eq_true hl
    have:=edge_lt hback ho he hbd
    exact decide_eq_true (by omega)
   ·intro j hj hjs
    rw[getD_any true false (by simpa using hjs),hall2]
    exact decide_eq_false (by omega)
   ·intro t i ht hi _ hg
    cases hli:listed.getD i false with
    | true =>
     rw[ahead_no]
     ·exact mid.yes t i ht hi hli hg
     ·rintro ⟨x,i',o',hf',ho',hfi',hl'⟩
      by_cases e:i'=i
      ·subst e;rw[hli] at hl';cases hl'
      ·exact hlone i hi t hg i' hf'.lt e (gslot_mk ho' hf'.dst)
    | false =>
     have hfi:isFloat ops (tailAt ops) i=true:=by
      cases hq:isFloat ops (tailAt ops) i with
      | true=>rfl
      | false=>rw[hlist i hi hq] at hli;cases hli
     obtain⟨o,x,d,ho,hfl⟩:=float_of hfi
     have hd:d=t:=by
      have:=gslot_mk ho hfl.dst
      rw[hg] at this
      cases this;rfl
     subst hd
     rw[ahead_yes (hlone i hi d hg) hfl ho hfi hli (by rw[mid.size];exact ht)]
     exact pendRd i o x d hfl ho ht
   ·intro t ht hno
    rw[ahead_no]
    ·refine mid.no t ht fun i hi hg=>?_
     have:=hno i hi hg
     rw[hall2] at this
     have:=of_decide_eq_false this
     omega
    ·rintro ⟨x,i',o',hf',ho',_⟩
     have:=hno i' hf'.lt (gslot_mk ho' hf'.dst)
     rw[hall2] at this
     have:=of_decide_eq_false this
     have:=hf'.lt
     omega
  have hok:=mid_full hhead hds hmid fun i hi=>by
   rw[getD_any true false (by simp;omega),hall2]
   exact decide_eq_true hi
  refine tail_float hst hpl htl hhead hback hmle hC hS hQ fuel (tailAt ops) listed a (ahead ops (tailAt ops) listed a) w _ ρ (Nat.le_refl _) hmle mid.lsize ?_ ?_ mid.dep hok ⟨by rw[ahead_size],rfl,?_,?_⟩ hw
  ·have h1:(List.range ops.size).countP (fun i=>!listed.getD i true)≤(List.range (tailAt ops)).countP (fun i=>!listed.getD i true)+(ops.size-tailAt ops):=by
    have e:List.range ops.size=List.range (tailAt ops) ++ List.range' (tailAt ops) (ops.size-tailAt ops):=by
     rw[List.range_eq_range',List.range_eq_range']
     have:=List.range'_append_1 (s:=0) (m:=tailAt ops) (n:=ops.size-tailAt ops)
     rw[show 0+tailAt ops=tailAt ops by omega,show tailAt ops+(ops.size-tailAt ops)=ops.size by omega] at this
     exact this.symm
    rw[e,List.countP_append]
    have:=List.countP_le_length (p:=fun i=>!listed.getD i true) (l:=List.range' (tailAt ops) (ops.size-tailAt ops))
    rw[List.length_range'] at this
    omega
   omega
  ·intro i hi hor
   rcases Nat.lt_or_ge i (tailAt ops) with h | h
   ·rw[hlist i h (hor.resolve_right (by omega))];simp [h]
   ·rw[getD_any false true (by rw[mid.lsize];exact hi),mid.tail i h hi];simp;omega
  ·intro t ht
   rw[ahead_no]
   rintro ⟨x,i',o',hf',ho',hfi',hl'⟩
   exact ht i' hfi' hl' (gslot_mk ho' hf'.dst)
  ·intro i o x d hfl ho hfi hli hd
   rw[ahead_size] at hd
   rw[ahead_yes (hlone i hfl.lt d (gslot_mk ho hfl.dst)) hfl ho hfi hli hd]
   rcases hfl.kind with ⟨u,rfl⟩ | ⟨c,rfl⟩
   ·show a.tmps.getD u undef=(ahead ops (tailAt ops) listed a).tmps.getD u undef
    rw[ahead_no]
    rintro ⟨y,i',o',hf',ho',_⟩
    exact hfl.src u rfl i' o' ho' hf'.dst
   ·rfl
end Go.Proofs.YtkkbddkpggjgpaaGreatDoor
namespace Go.Proofs.YtkkbddkpggjgpaaGreatDoor
open Go.RowKit
variable {P:Program} {C:World→Prop} {Qr:V→Prop} {Qo:Ex→St→Prop}
def Lone (ops:Array Oper)(i d:Nat):Prop:=∀ j p,j≠i→ops[j]?=some p→p.dst≠some d
def Fed (ops:Array Oper)(i:Nat)(o:Oper)(u:Nat):Prop:=∀ j p,ops[j]?=some p→p.dst=some u→j<i∧hasEdge o j=true∧isAl p=false
theorem lone_of {ops:Array Oper}{i d:Nat}(h:((List.range ops.size).all fun j=>Nat.beq i j || match ops[j]? with | some p=>(match p.dst with | some e=>!Nat.beq d e | none=>isAS p) | none=>false)=true):Lone ops i d:=by
 intro j p hj hp hd
 have hlt:j<ops.size:=by
  rcases Nat.lt_or_ge j ops.size with q | q
  ·exact q
  ·rw[Array.getElem?_eq_none q] at hp;cases hp
 have:=List.all_eq_true.1 h j (List.mem_range.2 hlt)
 simp only [Bool.or_eq_true] at this
 rcases this with q | q
 ·exact hj (Nat.eq_of_beq_eq_true q).symm
 ·rw[hp] at q
  simp only [hd] at q
  simp at q
theorem fed_of {ops:Array Oper}{i u:Nat}{o:Oper}(h:((List.range ops.size).all fun j=>match ops[j]? with | some p=>(match p.dst with | some e=>!Nat.beq u e || (Nat.blt j i && hasEdge o j && !isAl p) | none=>true) | none=>false)=true):Fed ops i o u:=by
 intro j p hp hd
 have hlt:j<ops.size:=by
  rcases Nat.lt_or_ge j ops.size with q | q
  ·exact q
  ·rw[Array.getElem?_eq_none q] at hp;cases hp
 have:=List.all_eq_true.1 h j (List.mem_range.2 hlt)
 rw[hp] at this
 simp only [hd,Bool.or_eq_true,Bool.and_eq_true,Bool.not_eq_true'] at this
 rcases this with q | ⟨⟨q1,q2⟩,q3⟩
 ·simp at q
 ·exact⟨blt_iff.1 q1,q2,q3⟩
inductive Kind (ops:Array Oper) (i:Nat) (o:Oper):Prop
 | al (t d:Nat) (h1:o.op=.alloc t) (h2:o.guard=none) (h3:o.dst=some d) (h4:Lone ops i d)
 | st (t a:Nat) (x:Operand) (j:Nat) (p:Oper) (h1:o.op=.store t (.tmp a) x) (h2:o.guard=none) (h3:o.dst=none) (h4:ops[j]?=some p) (h5:j<i) (h6:hasEdge o j=true)
   (h7:p.op=.alloc t) (h8:p.dst=some a) (h9:∀ k q t' x',k≠i→ops[k]?=some q→q.op≠.store t' (.tmp a) x') (h10:∀ u,x=.tmp u→Fed ops i o u)
 | pu (d:Nat) (h0:isAS o=false) (h1:o.dst=some d) (h2:Lone ops i d) (h3:∀ t∈namesT o,Fed ops i o t) (h4:∀ j want,o.guard=some (j,want)→j<i∧hasEdge o j=true) (h5:∀ t a x,o.op≠.store t (.tmp a) x)
theorem kind_of {ops:Array Oper}(hd:drawOk2 ops=true){i:Nat}{o:Oper}(ho:ops[i]?=some o):Kind ops i o:=by
 have hlt:i<ops.size:=by
  rcases Nat.lt_or_ge i ops.size with q | q
  ·exact q
  ·rw[Array.getElem?_eq_none q] at ho;cases ho
 unfold drawOk2 at hd
 rw[Bool.and_eq_true] at hd
 have h:=List.all_eq_true.1 hd.1 i (List.mem_range.2 hlt)
 rw[ho] at h
 simp only at h
 split at h
 ·rename_i t hop
  rw[Bool.and_eq_true] at h
  cases hdst:o.dst with
  | none=>rw[hdst] at h;simp at h
  | some d =>
   rw[hdst] at h
   exact .al t d hop (by simpa using h.1) hdst (lone_of h.2)
 ·rename_i t a x hop
  simp only [Bool.and_eq_true] at h
  obtain⟨⟨⟨⟨h1,h2⟩,h3⟩,h4⟩,h5⟩:=h
  obtain⟨j,hj,h3⟩:=List.any_eq_true.1 h3
  cases hp:ops[j]? with
  | none=>rw[hp] at h3;cases h3
  | some p =>
   rw[hp] at h3
   simp only [Bool.and_eq_true] at h3
   obtain⟨⟨g1,g2⟩,g3⟩:=h3
   split at g3
   ·rename_i u d e1 e2
    rw[Bool.and_eq_true] at g3
    have eu:=Nat.eq_of_beq_eq_true g3.1
    have ed:=Nat.eq_of_beq_eq_true g3.2
    subst eu;subst ed
    refine .st _ _ x j p hop (by simpa using h1) (by simpa using h2) hp (blt_iff.1 g1) g2 e1 e2 ?_ ?_
    ·intro k q t' x' hk hq he
     have hkl:k<ops.size:=by
      rcases Nat.lt_or_ge k ops.size with r | r
      ·exact r
      ·rw[Array.getElem?_eq_none r] at hq;cases hq
     have:=List.all_eq_true.1 h4 k (List.mem_range.2 hkl)
     rw[Bool.or_eq_true] at this
     rcases this with r | r
     ·exact hk (Nat.eq_of_beq_eq_true r).symm
     ·rw[hq] at r
      simp only [he] at r
      simp at r
    ·intro u hu
     subst hu
     exact fed_of h5
   ·cases g3
 ·rename_i hn1 hn2
  simp only [Bool.and_eq_true] at h
  obtain⟨⟨h1,h2⟩,h3⟩:=h
  cases hdst:o.dst with
  | none=>rw[hdst] at h1;cases h1
  | some d =>
   rw[hdst] at h1
   refine .pu d ?_ hdst (lone_of h1) (fun t ht=>fed_of (List.all_eq_true.1 h2 t ht)) ?_ (fun t a x e=>(hn2 t a x e).elim)
   ·unfold isAS
    split
    ·rename_i t e;exact (hn1 t e).elim
    ·rename_i t a x e;exact (hn2 t a x e).elim
    ·rfl
   ·intro j want hg
    rw[hg] at h3
    simp only [Bool.and_eq_true] at h3
    exact⟨blt_iff.1 h3.1,h3.2⟩
theorem adoptX {w0:Base}{S1:Nat→Prop}{w:World}{ρ:List Nat}{h:List Box}{β:Nat}(ok:OkH w0 S1 w ρ h)(hlow:w0.own β)(hS:¬ S1 β)(hρ:∀ k:Nat,ρ[k]?≠some β)
  {vals:Array Value} {ty:TypeId} (hb:w.heap[β]?=some (.cells vals ty (0,0))) {cells:List V} (hle:cells.length≤vals.size) (hr:RdL w (stab S1 ρ h) (vals.toList.take cells.length) cells) :
  OkH w0 (fun b=>S1 b∨b=β) w (ρ ++ [β]) (newB h cells)∧Lasts w w (stab S1 ρ h) (stab (fun b=>S1 b∨b=β) (ρ ++ [β]) (newB h cells)):=by
 have hlt:β<w.heap.size:=by
  rcases Nat.lt_or_ge β w.heap.size with q | q
  ·exact q
  ·rw[Array.getElem?_eq_none q] at hb;cases hb
 have hlen:=ok.heap.len
 have hl:Lasts w w (stab S1 ρ h) (stab (fun b=>S1 b∨b=β) (ρ ++ [β]) (newB h cells)):=by
  refine⟨Nat.le_refl _,fun b _ hs=>⟨⟨.inl hs.1,fun i x hx xa xf hi=>?_⟩,rfl⟩⟩
  rcases get_snoc hi with hi | ⟨_,e⟩
  ·rcases get_snoc hx with hx | ⟨e,_⟩
   ·exact hs.2 i x hx xa xf hi
   ·have:=lt_of_get hi;omega
  ·exact hS (e ▸ hs.1)
 refine⟨⟨ok.below,?_,?_,?_,?_⟩,hl⟩
 ·simp [newB,hlen]
 ·intro i γ hi
  rcases get_snoc hi with hi | ⟨_,rfl⟩
  ·exact ok.heap.low i γ hi
  ·exact⟨hlow,hlt⟩
 ·intro i j x y γ hx hy xa ya hi hj
  rcases get_snoc hi with gi | ⟨ei,fi⟩<;>rcases get_snoc hj with gj | ⟨ej,fj⟩
  ·rcases get_snoc hx with gx | ⟨ex,_⟩
   ·rcases get_snoc hy with gy | ⟨ey,_⟩
    ·exact ok.heap.inj i j x y γ gx gy xa ya gi gj
    ·have:=lt_of_get gj;omega
   ·have:=lt_of_get gi;omega
  ·exact (hρ i (fj ▸ gi)).elim
  ·exact (hρ j (fi ▸ gj)).elim
  ·rw[ei,ej]
 ·intro i x γ hx xa hi
  rcases get_snoc hi with hi | ⟨rfl,rfl⟩
  ·rcases get_snoc hx with hx | ⟨rfl,_⟩
   ·obtain⟨vs,t,h1,h2,h3⟩:=ok.heap.box i x γ hx xa hi
    exact⟨vs,t,h1,h2,h3.lasts hl⟩
   ·have:=lt_of_get hi;omega
  ·rcases get_snoc hx with hx | ⟨_,rfl⟩
   ·have:=lt_of_get hx;omega
   ·exact⟨vals,ty,hb,hle,hr.lasts hl⟩
theorem unadoptX {w0:Base}{S1:Nat→Prop}{w:World}{ρ:List Nat}{h:List Box}{β:Nat}(hS:¬ S1 β){cells:List V}(hlen:ρ.length=h.length)
  (ok:OkH w0 (fun b=>S1 b∨b=β) w (ρ ++ [β]) (newB h cells)) :
  OkH w0 S1 w ρ h∧Lasts w w (stab (fun b=>S1 b∨b=β) (ρ ++ [β]) (newB h cells)) (stab S1 ρ h):=by
 have hβ:(ρ ++ [β])[h.length]?=some β:=by rw[← hlen];simp
 have hx:(newB h cells)[h.length]?=some ⟨true,false,cells⟩:=by simp [newB]
 have up:∀ {i γ:Nat},ρ[i]?=some γ→(ρ ++ [β])[i]?=some γ:=fun hi=>get_snoc_of hi
 have hl:Lasts w w (stab (fun b=>S1 b∨b=β) (ρ ++ [β]) (newB h cells)) (stab S1 ρ h):=by
  refine⟨Nat.le_refl _,fun b _ hs=>⟨⟨?_,fun i x hx xa xf hi=>hs.2 i x (get_snoc_of hx) xa xf (up hi)⟩,rfl⟩⟩
  rcases hs.1 with q | q
  ·exact q
  ·subst q;exact (hs.2 h.length _ hx rfl rfl hβ).elim
 refine⟨⟨ok.below,hlen,fun i γ hi=>ok.heap.low i γ (up hi),fun i j x y γ hx hy xa ya hi hj=>ok.heap.inj i j x y γ (get_snoc_of hx) (get_snoc_of hy) xa ya (up hi) (up hj),?_⟩,hl⟩
 intro i x γ hx xa hi
 obtain⟨vs,t,h1,h2,h3⟩:=ok.heap.box i x γ (get_snoc_of hx) xa (up hi)
 exact⟨vs,t,h1,h2,h3.lasts hl⟩
theorem splice_at:∀ (d c p:List V),c.length=d.length→splice (p ++ c) p.length d=p ++ d
 | [],c,p,h=>by
  have:c = []:=List.eq_nil_of_length_eq_zero (by simpa using h)
  subst this;rfl
 | y::d,[],p,h=>by simp at h
 | y::d,x::c,p,h=>by
  have:=splice_at d c (p ++ [y]) (by simpa using h)
  simp only [splice]
  rw[show (p ++ x::c).set p.length y=(p ++ [y]) ++ c by simp,show p.length+1=(p ++ [y]).length by simp,this]
  simp
theorem splice_all (c d:List V)(h:c.length=d.length):splice c 0 d=d:=splice_at d c [] h
theorem store_pend {w0:Base}{S1:Nat→Prop}{w:World}{ρ:List Nat}{h:List Box}{β:Nat}(ok:OkH w0 S1 w ρ h)(hlow:w0.own β)(hS:¬ S1 β)(hρ:∀ k:Nat,ρ[k]?≠some β)
  {vals:Array Value} {ty:TypeId} (hb:w.heap[β]?=some (.cells vals ty (0,0))) {zs:List V} (hle:zs.length≤vals.size) (hr:RdL w (stab S1 ρ h) (vals.toList.take zs.length) zs)
  {t:TypeId} {v:V} {vx:Value} (rx:Rd w (stab S1 ρ h) vx v) (hc:(Nat.blt 0 (sizeT P t) && Nat.beq (cellsV v).length (sizeT P t) && (cellsV v).all isCell)=true) (hz:zs.length=sizeT P t) :
  ∃ w' vals' ty',(Instr.storeAt t (.pointer (some ⟨β,0,none⟩)) vx).run P w=.ok () w'∧OkH w0 S1 w' ρ h∧w'.heap[β]?=some (.cells vals' ty' (0,0))∧(cellsV v).length≤vals'.size ∧
   RdL w' (stab S1 ρ h) (vals'.toList.take (cellsV v).length) (cellsV v)∧(∀ u e,RdD w (stab S1 ρ h) ρ u e→RdD w' (stab S1 ρ h) ρ u e)∧(∀ c,c≠β→w'.heap[c]?=w.heap[c]?)∧w'.heap.size=w.heap.size:=by
 obtain⟨okA,hlA⟩:=adoptX ok hlow hS hρ hb hle hr
 have hlen:=ok.heap.len
 simp only [Bool.and_eq_true] at hc
 obtain⟨⟨c1,c2⟩,c3⟩:=hc
 have hcl:(cellsV v).length=sizeT P t:=Nat.eq_of_beq_eq_true c2
 have hbx:bx (newB h zs) h.length=⟨true,false,zs⟩:=bx_of (by simp [newB])
 have hst:storeH P t (newB h zs) (.own h.length 0) (.val v)=some (true,newB h (cellsV v)):=by
  unfold storeH
  simp only [hbx,c1,c2,c3,Bool.not_false,Bool.and_self,cond_true]
  rw[splice_all _ _ (by omega)]
  congr 2
  ·simp [hz,hcl]
  ·simp [setBox,newB]
 have hβ:(ρ ++ [β])[h.length]?=some β:=by rw[← hlen];simp
 obtain⟨w',h1,h2,h3,h4,h5⟩:=store_sound (P:=P) okA hst (.own hβ) (.val (rx.lasts hlA))
 obtain⟨okB,hlB⟩:=unadoptX hS hlen h2
 obtain⟨vals',ty',g1,g2,g3⟩:=h2.heap.box h.length ⟨true,false,cellsV v⟩ β (by simp [newB]) rfl hβ
 refine⟨w',vals',ty',h1,okB,g1,g2,g3.lasts hlB,?_,?_,h5⟩
 ·intro u e hr
  have hA:RdD w (stab (fun b=>S1 b∨b=β) (ρ ++ [β]) (newB h zs)) (ρ ++ [β]) u e:=hr.lasts hlA (fun _ _ _ q=>q) (fun _ _ q=>get_snoc_of q)
  have hB:=h3 u e hA
  -- the numbers of boxes in e are old ones
  cases hr with
  | unk=>exact .unk
  | val _=>cases hB with | val hv=>exact .val (hv.lasts hlB)
  | own q=>exact .own q
  | osl q q1 q2 q3 =>
   cases hB with
   | osl p1 p2 p3 p4 =>
    rw[get_snoc_of q] at p1
    cases p1
    exact .osl q p2 p3 p4
  | clo q1 q2=>exact .clo q1 q2
  | oslp q q1 q2 q3 =>
   cases hB with
   | oslp p1 p2 p3 p4=>exact .oslp q p2 p3 p4
 ·intro c hcne
  refine h4 c fun b off e=>?_
  cases e
  rw[hβ]
  exact fun q=>hcne (Option.some.inj q).symm
def Cont (P:Program)(ops:List Oper)(S:List D)(t d:Nat)(cells:List V):Prop :=
 d<S.length∧∃ zs,zeroV P t=some zs∧((storeOf d ops=none∧cells=zs) ∨
  ∃ x v,storeOf d ops=some x∧getD S x=.val v∧cells=cellsV v∧(okC v && Nat.blt 0 (sizeT P t) && Nat.beq (cellsV v).length (sizeT P t) && (cellsV v).all isCell && Nat.beq zs.length (sizeT P t))=true)
def AllB (P:Program)(ops:List Oper)(S:List D):List Oper→List (Nat × List V)→Prop
 | [],cs=>cs = []
 | o::rest,cs =>
  match o.op,o.dst with
  | .alloc t,some d=>∃ cells cs',cs=(d,cells)::cs'∧Cont P ops S t d cells∧AllB P ops S rest cs'
  | _,_=>AllB P ops S rest cs
def addB:List (Nat × List V)→St→St
 | [],st=>st
 | (d,c)::cs,st=>addB cs ⟨st.s.set d (.own st.h.length 0),newB st.h c⟩
theorem getD_set_ne {s:List D}{d:Nat}{e:D}{x:Operand}(h:x≠.tmp d):getD (s.set d e) x=getD s x:=by
 cases x with
 | tmp t =>
  show unpin (nth (s.set d e) t .unk)=unpin (nth s t .unk)
  rw[nth_set,if_neg (fun q=>h (by rw[q.1]))]
 | _=>rfl
theorem finA_wp {ops:List Oper}{S:List D}{k:St→T}:∀ (l:List Oper) (st:St),st.s.length=S.length→(∀ d x,storeOf d ops=some x→getD st.s x=getD S x∧∀ o∈l,∀ t e,o.op=.alloc t→o.dst=some e→x≠.tmp e) →
  (finA P ops l st k).wp P C Qr Qo→∃ cs,AllB P ops S l cs∧(k (addB cs st)).wp P C Qr Qo
 | [],st,_,_,hw=>⟨[],rfl,hw⟩
 | o::rest,st,hl,hx,hw=>by
  have hx':∀ d x,storeOf d ops=some x→getD st.s x=getD S x∧∀ p∈rest,∀ t e,p.op=.alloc t→p.dst=some e→x≠.tmp e :=
   fun d x h=>⟨(hx d x h).1,fun p hp=>(hx d x h).2 p (List.mem_cons_of_mem _ hp)⟩
  unfold finA at hw
  split at hw
  ·rename_i t d hop hdst
   have hset:∀ D',∀ d' x,storeOf d' ops=some x→getD (st.s.set d D') x=getD S x∧∀ p∈rest,∀ t e,p.op=.alloc t→p.dst=some e→x≠.tmp e:=fun D' d' x h =>
    ⟨(getD_set_ne ((hx d' x h).2 o (by simp) t d hop hdst)).trans (hx d' x h).1,(hx' d' x h).2⟩
   split at hw
   ·rename_i zs hz
    obtain⟨hdl,hw⟩:=of_chk hw
    have hdl:=blt_iff.1 hdl
    rw[hl] at hdl
    split at hw
    ·rename_i x hs
     split at hw
     ·rename_i v hg
      obtain⟨hc,hw⟩:=of_chk hw
      obtain⟨cs,h1,h2⟩:=finA_wp rest _ (by simp [hl]) (hset _) hw
      refine⟨(d,cellsV v)::cs,?_,h2⟩
      unfold AllB
      rw[hop,hdst]
      exact⟨_,_,rfl,⟨hdl,zs,hz,.inr ⟨x,v,hs,((hx d x hs).1.symm.trans hg),rfl,hc⟩⟩,h1⟩
     ·exact hw.elim
    ·rename_i hs
     obtain⟨cs,h1,h2⟩:=finA_wp rest _ (by simp [hl]) (hset _) hw
     refine⟨(d,zs)::cs,?_,h2⟩
     unfold AllB
     rw[hop,hdst]
     exact⟨_,_,rfl,⟨hdl,zs,hz,.inl ⟨hs,rfl⟩⟩,h1⟩
   ·exact hw.elim
  ·rename_i hn
   obtain⟨cs,h1,h2⟩:=finA_wp rest st hl hx' hw
   refine⟨cs,?_,h2⟩
   unfold AllB
   split
   ·rename_i t d e1 e2;exact (hn t d e1 e2).elim
   ·exact h1
theorem alloc_pend {w0:Base}{S1:Nat→Prop}{w:World}{ρ:List Nat}{h:List Box}(ok:OkH w0 S1 w ρ h)(hA:AllS w S1 ρ){t:TypeId}{zs:List V}(hz:zeroV P t=some zs)
  {o:Oper} (ho:o.op=.alloc t) (a:Act) :
  ∃ w' vals,(execOp a.eval o).run P w=.ok (.value (.pointer (some ⟨w.heap.size,0,none⟩))) w'∧w'.heap[w.heap.size]?=some (.cells vals t (0,0))∧Below w.heap.size w w'∧w'.heap.size=w.heap.size+1 ∧
   zs.length≤vals.size∧OkH w0 (fun b=>S1 b∧b≠w.heap.size) w' ρ h∧AllS w' (fun b=>S1 b∧b≠w.heap.size) ρ ∧
   Lasts w w' (stab S1 ρ h) (stab (fun b=>S1 b∧b≠w.heap.size) ρ h)∧(∀ S:Nat→Prop,RdL w' S (vals.toList.take zs.length) zs):=by
 obtain⟨z,hz1,rfl,i,hi,hiz⟩:=zeroV_run hz w
 have hb:=push_below w z.cells t
 have hl:Lasts w (push w z.cells t) (stab S1 ρ h) (stab (fun b=>S1 b∧b≠w.heap.size) ρ h) :=
  ⟨hb.size,fun b hbl hs=>⟨⟨⟨hs.1,by omega⟩,hs.2⟩,hb.block b hbl⟩⟩
 refine⟨push w z.cells t,z.cells,?_,push_new _ _ _,hb,push_size _ _ _,by simp,?_,?_,hl,?_⟩
 ·simp only [execOp,ho,Instr.alloc,Sem.run_bind,hz1,Result.andThen_ok,newVar,newRow,run_newObj,Sem.run_pure]
  rfl
 ·have k:=ok.grow hb
  refine⟨k.below,k.heap.len,k.heap.low,k.heap.inj,?_⟩
  intro i x γ hx xa hi
  obtain⟨vs,ty,h1,h2,h3⟩:=ok.heap.box i x γ hx xa hi
  exact⟨vs,ty,(hb.block γ (ok.heap.low i γ hi).2).trans h1,h2,h3.lasts hl⟩
 ·refine⟨fun b hbl=>⟨hA.1 b ?_,?_⟩,fun i β hi=>⟨hA.2 i β hi,?_⟩⟩
  ·rw[push_size] at hbl;omega
  ·rw[push_size] at hbl;omega
  ·have:=(ok.heap.low i β hi).2;omega
 ·intro S
  rw[List.take_of_length_le (by simp)]
  exact zeros_rd _
def Now (P:Program)(ops:Array Oper)(Send:List D)(listed:Array Bool)(t d:Nat)(cells:List V):Prop :=
 ((∀ j p u x,ops[j]?=some p→p.op=.store u (.tmp d) x→listed.getD j false=false)∧zeroV P t=some cells) ∨
 ∃ j p u x v,ops[j]?=some p∧p.op=.store u (.tmp d) x∧listed.getD j false=true∧getD Send x=.val v∧cells=cellsV v
structure Mid2 (P:Program) (w0:Base) (S0 S1:Nat→Prop) (ops:Array Oper) (S ds:List D) (h':List Box) (ρ:List Nat) (listed:Array Bool) (a:Act) (w:World):Prop where
 ok:OkH w0 S1 w ρ h'
 sub:∀ b,S1 b→S0 b
 alls:AllS w S1 ρ
 size:a.tmps.size=S.length
 defers:a.defers = []
 lsize:listed.size=ops.size
 dep:∀ i o,ops[i]?=some o→listed.getD i false=true→∀ k,hasEdge o k=true→listed.getD k false=true
 yes:∀ t i,t<S.length→i<ops.size→listed.getD i false=true→gslot ops i=some t→RdD w (stab S1 ρ h') ρ (a.tmps.getD t undef) (nth ds i .unk)
 no:∀ t,t<S.length→(∀ i,i<ops.size→gslot ops i=some t→listed.getD i false=false)→RdD w (stab S1 ρ h') ρ (a.tmps.getD t undef) (nth S t .unk)
 al:∀ i o t d,ops[i]?=some o→o.op=.alloc t→o.dst=some d→listed.getD i false=true→d<S.length →
  ∃ β vals ty cells,a.tmps.getD d undef=.pointer (some ⟨β,0,none⟩)∧w.heap[β]?=some (.cells vals ty (0,0))∧w0.own β∧S0 β∧¬ S1 β∧(∀ k:Nat,ρ[k]?≠some β) ∧
   cells.length≤vals.size∧RdL w (stab S1 ρ h') (vals.toList.take cells.length) cells∧Now P ops (SSf ops S 0 ds ops.size) listed t d cells
 dis:∀ i i' o o' t t' d d' β,ops[i]?=some o→ops[i']?=some o'→o.op=.alloc t→o'.op=.alloc t'→o.dst=some d→o'.dst=some d'→listed.getD i false=true→listed.getD i' false=true →
  i≠i'→d<S.length→d'<S.length→a.tmps.getD d undef=.pointer (some ⟨β,0,none⟩)→a.tmps.getD d' undef≠.pointer (some ⟨β,0,none⟩)
end Go.Proofs.YtkkbddkpggjgpaaGreatDoor
namespace Go.Proofs.YtkkbddkpggjgpaaGreatDoor
open Go.RowKit
variable {P:Program} {C:World→Prop} {Qr:V→Prop} {Qo:Ex→St→Prop}
theorem OkH.sub {w0:Base}{S1 S0:Nat→Prop}{w:World}{ρ:List Nat}{h:List Box}(ok:OkH w0 S1 w ρ h)(hs:∀ b,S1 b→S0 b):OkH w0 S0 w ρ h∧Lasts w w (stab S1 ρ h) (stab S0 ρ h):=by
 have hl:Lasts w w (stab S1 ρ h) (stab S0 ρ h):=⟨Nat.le_refl _,fun b _ q=>⟨⟨hs b q.1,q.2⟩,rfl⟩⟩
 refine⟨⟨ok.below,ok.heap.len,ok.heap.low,ok.heap.inj,?_⟩,hl⟩
 intro i x γ hx xa hi
 obtain⟨vs,t,h1,h2,h3⟩:=ok.heap.box i x γ hx xa hi
 exact⟨vs,t,h1,h2,h3.lasts hl⟩
theorem storeOf_some:∀ {l:List Oper} {d:Nat} {x:Operand},storeOf d l=some x→∃ o∈l,∃ t,o.op=.store t (.tmp d) x
 | [],d,x,h=>by cases h
 | o::rest,d,x,h=>by
  unfold storeOf at h
  split at h
  ·rename_i u t y ho
   cases hb:Nat.beq t d with
   | true =>
    rw[hb] at h
    have:=Nat.eq_of_beq_eq_true hb
    subst this
    cases h
    exact⟨o,by simp,u,ho⟩
   | false =>
    rw[hb] at h
    obtain⟨p,hp,q⟩:=storeOf_some (show storeOf d rest=some x from h)
    exact⟨p,List.mem_cons_of_mem _ hp,q⟩
  ·obtain⟨p,hp,q⟩:=storeOf_some h
   exact⟨p,List.mem_cons_of_mem _ hp,q⟩
theorem storeOf_none:∀ {l:List Oper} {d:Nat},storeOf d l=none→∀ o∈l,∀ t x,o.op≠.store t (.tmp d) x
 | [],d,h,o,ho,_,_=>nomatch ho
 | o::rest,d,h,p,hp,t,x=>by
  intro e
  unfold storeOf at h
  rcases List.mem_cons.1 hp with rfl | hp
  ·rw[e] at h
   simp at h
  ·split at h
   ·rename_i u t' y ho
    cases hb:Nat.beq t' d with
    | true=>rw[hb] at h;cases h
    | false=>rw[hb] at h;exact storeOf_none (show storeOf d rest=none from h) p hp t x e
   ·exact storeOf_none h p hp t x e
theorem gslot_some {ops:Array Oper}{j t:Nat}(h:gslot ops j=some t):∃ p,ops[j]?=some p∧p.dst=some t:=by
 unfold gslot at h
 cases hp:ops[j]? with
 | none=>rw[hp] at h;cases h
 | some p=>rw[hp] at h;exact⟨p,rfl,h⟩
theorem gslot_of {ops:Array Oper}{j t:Nat}{p:Oper}(h:ops[j]?=some p)(hd:p.dst=some t):gslot ops j=some t:=by
 unfold gslot;rw[h];exact hd
theorem lt_of_op {ops:Array Oper}{j:Nat}{p:Oper}(h:ops[j]?=some p):j<ops.size:=by
 rcases Nat.lt_or_ge j ops.size with q | q
 ·exact q
 ·rw[Array.getElem?_eq_none q] at h;cases h
theorem adopt_all {w0:Base}{S0:Nat→Prop}{ops:List Oper}{S:List D}{a:Act}{w:World}:∀ (l:List Oper) (cs:List (Nat × List V)) (st:St) (S1:Nat→Prop) (ρ:List Nat),
  AllB P ops S l cs→OkH w0 S1 w ρ st.h→(∀ b,S1 b→S0 b)→st.s.length=S.length→a.tmps.size=st.s.length→a.defers = [] →
  (∀ t,RdD w (stab S1 ρ st.h) ρ (a.tmps.getD t undef) (nth st.s t .unk)) →
  (∀ o∈l,∀ t d,o.op=.alloc t→o.dst=some d→∀ cells,Cont P ops S t d cells→∃ β vals ty,a.tmps.getD d undef=.pointer (some ⟨β,0,none⟩)∧w.heap[β]?=some (.cells vals ty (0,0))∧w0.own β∧S0 β∧¬ S1 β ∧
   (∀ k:Nat,ρ[k]?≠some β)∧cells.length≤vals.size∧RdL w (stab S1 ρ st.h) (vals.toList.take cells.length) cells) →
  l.Pairwise (fun o o'=>∀ t d t' d' β,o.op=.alloc t→o.dst=some d→o'.op=.alloc t'→o'.dst=some d'→d<S.length→d'<S.length→a.tmps.getD d undef=.pointer (some ⟨β,0,none⟩)→a.tmps.getD d' undef≠.pointer (some ⟨β,0,none⟩)) →
  ∃ ρ',OkS w0 S0 (addB cs st) a w ρ'
 | [],cs,st,S1,ρ,hA,ok,hs,hl,hsz,hdf,hr,_,_=>by
  have:cs = []:=hA
  subst this
  obtain⟨ok',hl'⟩:=ok.sub hs
  exact⟨ρ,ok',hsz,fun t=>(hr t).lasts hl' (fun _ _ _ q=>q) (fun _ _ q=>q),hdf⟩
 | o::rest,cs,st,S1,ρ,hA,ok,hs,hl,hsz,hdf,hr,hp,hd=>by
  have hrest:∀ p∈rest,p∈o::rest:=fun p hp=>List.mem_cons_of_mem _ hp
  unfold AllB at hA
  split at hA
  ·rename_i t d hop hdst
   obtain⟨cells,cs',rfl,hc,hA⟩:=hA
   obtain⟨β,vals,ty,h1,h2,h3,h4,h5,h6,h7,h8⟩:=hp o (by simp) t d hop hdst cells hc
   have hdl:d<S.length:=hc.1
   obtain⟨ok',hl'⟩:=adoptX ok h3 h5 h6 h2 h7 h8
   have hlen:=ok.heap.len
   refine adopt_all rest cs' ⟨st.s.set d (.own st.h.length 0),newB st.h cells⟩ (fun b=>S1 b∨b=β) (ρ ++ [β]) hA ok' ?_ (by simp [hl]) (by simp [hsz]) hdf ?_ ?_ (List.pairwise_cons.1 hd).2
   ·intro b hb
    rcases hb with hb | rfl
    ·exact hs b hb
    ·exact h4
   ·intro t'
    simp only
    rw[nth_set]
    split
    ·rename_i e
     obtain⟨rfl,_⟩:=e
     rw[h1]
     exact .own (by rw[← hlen];simp)
    ·exact (hr t').lasts hl' (fun _ _ _ q=>q) (fun _ _ q=>get_snoc_of q)
   ·intro p hp' t' d' hop' hdst' cells' hc'
    obtain⟨β',vals',ty',g1,g2,g3,g4,g5,g6,g7,g8⟩:=hp p (hrest p hp') t' d' hop' hdst' cells' hc'
    have hne:β'≠β:=fun e=>(List.pairwise_cons.1 hd).1 p hp' t d t' d' β hop hdst hop' hdst' hdl hc'.1 h1 (e ▸ g1)
    refine⟨β',vals',ty',g1,g2,g3,g4,?_,?_,g7,g8.lasts hl'⟩
    ·intro q
     rcases q with q | q
     ·exact g5 q
     ·exact hne q
    ·intro k q
     rcases get_snoc q with q | ⟨_,q⟩
     ·exact g6 k q
     ·exact hne q
  ·exact adopt_all rest cs st S1 ρ hA ok hs hl hsz hdf hr (fun p hp'=>hp p (hrest p hp')) (List.pairwise_cons.1 hd).2
theorem mid2_slot {w0:Base}{S0 S1:Nat→Prop}{ops:Array Oper}{S ds:List D}{h':List Box}{ρ:List Nat}{listed:Array Bool}{a:Act}{w:World}(hd:drawOk2 ops=true)(hds:ds.length=ops.size)
  (mid:Mid2 P w0 S0 S1 ops S ds h' ρ listed a w) {i:Nat} {o:Oper} (hi:i<ops.size) (hl:∀ k,hasEdge o k=true→listed.getD k false=true) {u:Nat} (hf:Fed ops i o u) {q:Nat} (hq:i≤q) (hq':q≤ops.size) :
  RdD w (stab S1 ρ h') ρ (a.tmps.getD u undef) (nth (SSf ops S 0 ds q) u .unk):=by
 by_cases hu:u<S.length
 ·by_cases hex:∃ j,j<ops.size∧gslot ops j=some u
  ·obtain⟨j,hj,hg⟩:=hex
   obtain⟨p,hp,hpd⟩:=gslot_some hg
   obtain⟨hji,hje,hal⟩:=hf j p hp hpd
   have hlone:Lone ops j u:=by
    cases kind_of hd hp with
    | al t d k1 k2 k3 k4=>unfold isAl at hal;rw[k1] at hal;cases hal
    | st t b x j' p' k1 k2 k3=>rw[k3] at hpd;cases hpd
    | pu d k0 k1 k2=>rw[k1] at hpd;cases hpd;exact k2
   rw[SSf_at ops u q S 0 ds j (by omega) (by omega) (by simpa using hg) hu (fun j' hj' hne hg'=>by
    rw[Nat.zero_add] at hg'
    obtain⟨p',hp',hpd'⟩:=gslot_some hg'
    exact hlone j' p' hne hp' hpd')]
   exact mid.yes u j hu hj (hl j hje) hg
  ·rw[SSf_other ops u q S 0 ds (fun j hj hg=>hex ⟨j,by omega,by simpa using hg⟩)]
   exact mid.no u hu (fun j hj hg=>(hex ⟨j,hj,hg⟩).elim)
 ·have:nth (SSf ops S 0 ds q) u .unk=.unk:=by rw[nth_eq,List.getElem?_eq_none (by rw[SSf_len];omega)];rfl
  rw[this]
  exact .unk
theorem mid2_end {w0:Base}{S0 S1:Nat→Prop}{ops:Array Oper}{S ds:List D}{h':List Box}{ρ:List Nat}{listed:Array Bool}{a:Act}{w:World}(hd:drawOk2 ops=true)(hds:ds.length=ops.size)
  (mid:Mid2 P w0 S0 S1 ops S ds h' ρ listed a w) (hall:∀ i,i<ops.size→listed.getD i false=true) {cs:List (Nat × List V)} (hcs:AllB P ops.toList (SSf ops S 0 ds ops.size) ops.toList cs) :
  ∃ ρ',OkS w0 S0 (addB cs ⟨SSf ops S 0 ds ops.size,h'⟩) a w ρ':=by
 have memof:∀ {o:Oper},o∈ops.toList→∃ i:Nat,ops[i]?=some o:=fun {o} ho=>by
  obtain⟨i,hi,e⟩:=List.mem_iff_getElem.1 ho
  exact⟨i,by rw[← Array.getElem?_toList,List.getElem?_eq_getElem hi,e]⟩
 have tomem:∀ {i:Nat} {o:Oper},ops[i]?=some o→o∈ops.toList:=fun {i o} h=>List.mem_of_getElem? (by rw[Array.getElem?_toList];exact h)
 refine adopt_all ops.toList cs ⟨SSf ops S 0 ds ops.size,h'⟩ S1 ρ hcs mid.ok mid.sub rfl (by simp only;rw[mid.size,SSf_len]) mid.defers ?_ ?_ ?_
 ·intro t
  simp only
  by_cases ht:t<S.length
  ·by_cases hex:∃ j,j<ops.size∧gslot ops j=some t
   ·obtain⟨j,hj,hg⟩:=hex
    obtain⟨p,hp,hpd⟩:=gslot_some hg
    have hlone:Lone ops j t:=by
     cases kind_of hd hp with
     | al t' d k1 k2 k3 k4=>rw[k3] at hpd;cases hpd;exact k4
     | st t' b x j' p' k1 k2 k3=>rw[k3] at hpd;cases hpd
     | pu d k0 k1 k2=>rw[k1] at hpd;cases hpd;exact k2
    rw[SSf_at ops t ops.size S 0 ds j hj (by omega) (by simpa using hg) ht (fun j' hj' hne hg'=>by
     rw[Nat.zero_add] at hg'
     obtain⟨p',hp',hpd'⟩:=gslot_some hg'
     exact hlone j' p' hne hp' hpd')]
    exact mid.yes t j ht hj (hall j hj) hg
   ·rw[SSf_other ops t ops.size S 0 ds (fun j hj hg=>hex ⟨j,hj,by simpa using hg⟩)]
    exact mid.no t ht (fun j hj hg=>(hex ⟨j,hj,hg⟩).elim)
  ·have:nth (SSf ops S 0 ds ops.size) t .unk=.unk:=by rw[nth_eq,List.getElem?_eq_none (by rw[SSf_len];omega)];rfl
   rw[this]
   exact .unk
 ·intro o ho t d hop hdst cells hc
  obtain⟨i,hi⟩:=memof ho
  have hdl:d<S.length:=by have:=hc.1;rwa [SSf_len] at this
  obtain⟨β,vals,ty,cells',h1,h2,h3,h4,h5,h6,h7,h8,h9⟩:=mid.al i o t d hi hop hdst (hall i (lt_of_op hi)) hdl
  have e:cells=cells':=by
   obtain⟨_,zs,hz,hc⟩:=hc
   rcases h9 with ⟨n1,n2⟩ | ⟨j,p,u,x,v,n1,n2,n3,n4,n5⟩
   ·rcases hc with ⟨_,rfl⟩ | ⟨x,v,c1,c2,c3,c4⟩
    ·exact (Option.some.inj (hz.symm.trans n2))
    ·obtain⟨p,hp,u,hu⟩:=storeOf_some c1
     obtain⟨j,hj⟩:=memof hp
     have:=n1 j p u x hj hu
     rw[hall j (lt_of_op hj)] at this
     cases this
   ·rcases hc with ⟨c0,_⟩ | ⟨x',v',c1,c2,c3,c4⟩
    ·exact (storeOf_none c0 p (tomem n1) u x n2).elim
    ·obtain⟨p',hp',u',hu'⟩:=storeOf_some c1
     obtain⟨j',hj'⟩:=memof hp'
     have hex:x'=x:=by
      cases kind_of hd n1 with
      | al t' d' k1=>rw[k1] at n2;cases n2
      | pu d' k0 k1 k2 k3 k4 k5=>exact (k5 u d x n2).elim
      | st t' b y j1 p1 k1 k2 k3 k4 k5 k6 k7 k8 k9 k10 =>
       rw[n2] at k1;cases k1
       by_cases hjj:j'=j
       ·subst hjj
        rw[n1] at hj';cases hj'
        rw[n2] at hu';cases hu';rfl
       ·exact (k9 j' p' u' x' hjj hj' hu').elim
     subst hex
     rw[c2] at n4
     cases n4
     rw[c3,n5]
  subst e
  exact⟨β,vals,ty,h1,h2,h3,h4,h5,h6,h7,h8⟩
 ·rw[List.pairwise_iff_getElem]
  intro i j hi hj hij t d t' d' β h1 h2 h3 h4 h5 h6 h7
  have gi:ops[i]?=some ops.toList[i]:=by rw[← Array.getElem?_toList];exact List.getElem?_eq_getElem hi
  have gj:ops[j]?=some ops.toList[j]:=by rw[← Array.getElem?_toList];exact List.getElem?_eq_getElem hj
  rw[SSf_len] at h5 h6
  exact mid.dis i j _ _ t t' d d' β gi gj h1 h3 h2 h4 (hall i (lt_of_op gi)) (hall j (lt_of_op gj)) (by omega) h5 h6 h7
theorem draw2_sound (hst:Stable C){ops:Array Oper}(hd:drawOk2 ops=true){w0:Base}{S0:Nat→Prop}(hC:Hold C w0){Q:Exit→Act→World→Prop}{S:List D}{ds:List D}{h':List Box}{ρ:List Nat}
  (hds:ds.length=ops.size) (hent:∀ q o,ops[q]?=some o→Ent P C ops (SSf ops S 0 ds q) o (nth ds q .unk) h') {cs:List (Nat × List V)} (hcs:AllB P ops.toList (SSf ops S 0 ds ops.size) ops.toList cs)
  (hend:∀ a w ρ,OkS w0 S0 (addB cs ⟨SSf ops S 0 ds ops.size,h'⟩) a w ρ→Q .normal a w) :
  ∀ (fuel:Nat) (listed:Array Bool) (S1:Nat→Prop) (a:Act) (w:World),(List.range ops.size).countP (fun i=>!listed.getD i true)≤fuel →
   Mid2 P w0 S0 S1 ops S ds h' ρ listed a w→wpAny P .any ops Q fuel listed a w:=by
 have tomem:∀ {i:Nat} {o:Oper},ops[i]?=some o→o∈ops.toList:=fun {i o} h=>List.mem_of_getElem? (by rw[Array.getElem?_toList];exact h)
 have fin:∀ (listed:Array Bool) (S1:Nat→Prop) (a:Act) (w:World),Mid2 P w0 S0 S1 ops S ds h' ρ listed a w→(∀ i,i<ops.size→listed.getD i true=true)→Q .normal a w:=by
  intro listed S1 a w mid hall
  obtain⟨ρ',ok⟩:=mid2_end hd hds mid (fun i hi=>by rw[getD_any false true (by rw[mid.lsize];exact hi)];exact hall i hi) hcs
  exact hend a w ρ' ok
 have nil:∀ (listed:Array Bool),(∀ i,i<ops.size→listed.getD i true=true)→Region.ready .any ops listed = []:=by
  intro listed hall
  apply List.eq_nil_iff_forall_not_mem.2
  intro i hi
  obtain⟨h1,h2,_⟩:=mem_ready.1 hi
  rw[hall i h1] at h2
  cases h2
 have hback:backOk ops=true:=by
  unfold drawOk2 at hd
  rw[Bool.and_eq_true] at hd
  exact hd.2
 intro fuel
 induction fuel with
 | zero =>
  intro listed S1 a w hf mid
  have hall:∀ i,i<ops.size→listed.getD i true=true:=by
   intro i hi
   have:=(List.countP_eq_zero.1 (Nat.le_zero.1 hf)) i (List.mem_range.2 hi)
   simpa using this
  exact⟨nil listed hall,fin listed S1 a w mid hall⟩
 | succ fuel ih =>
  intro listed S1 a w hf mid
  refine⟨fun h0=>fin listed S1 a w mid ?_,fun i hi=>?_⟩
  ·intro i0 hi0
   cases hu:listed.getD i0 true with
   | true=>rfl
   | false =>
    exfalso
    have key:∀ k,∀ i,i<ops.size→i≤k→listed.getD i true=false→∃ q,q∈Region.ready .any ops listed:=by
     intro k
     induction k with
     | zero =>
      intro i hi hk hu
      have:i=0:=by omega
      subst this
      refine⟨0,mem_ready.2 ⟨hi,hu,ops[0],Array.getElem?_eq_getElem hi,fun e he hbd=>?_⟩⟩
      have:=List.all_eq_true.1 hback 0 (List.mem_range.2 hi)
      rw[Array.getElem?_eq_getElem hi] at this
      simp only at this
      rw[← Array.all_toList] at this
      have:=List.all_eq_true.1 this e he
      rw[hbd] at this
      simp at this
     | succ k ihk =>
      intro i hi hk hu
      by_cases hlow:∃ j,j<i∧listed.getD j true=false
      ·obtain⟨j,hj,hju⟩:=hlow
       exact ihk j (by omega) (by omega) hju
      ·refine⟨i,mem_ready.2 ⟨hi,hu,ops[i],Array.getElem?_eq_getElem hi,fun e he hbd=>?_⟩⟩
       have:=List.all_eq_true.1 hback i (List.mem_range.2 hi)
       rw[Array.getElem?_eq_getElem hi] at this
       simp only at this
       rw[← Array.all_toList] at this
       have:=List.all_eq_true.1 this e he
       rw[hbd] at this
       have hon:=blt_iff.1 (by simpa using this)
       rw[getD_any false true (by rw[mid.lsize];omega)]
       cases hq:listed.getD e.on true with
       | true=>rfl
       | false=>exact (hlow ⟨_,hon,hq⟩).elim
    obtain⟨q,hq⟩:=key i0 i0 hi0 (Nat.le_refl _) hu
    rw[h0] at hq
    cases hq
  obtain⟨hin,hiu,o,ho,hedges⟩:=mem_ready.1 hi
  have hil:i<listed.size:=by rw[mid.lsize];exact hin
  have hiu':listed.getD i false=false:=by rw[getD_any false true hil];exact hiu
  have hlisted:∀ j,hasEdge o j=true→listed.getD j false=true:=by
   intro j hj
   obtain⟨e,he,hon,hbd⟩:=hasEdge_of hj
   rw[← hon]
   exact hedges e he hbd
  have hcnt:(List.range ops.size).countP (fun q=>!(listed.setIfInBounds i true).getD q true)≤fuel:=by
   have:=countP_lt (p:=fun q=>!listed.getD q true) (q:=fun q=>!(listed.setIfInBounds i true).getD q true) (List.mem_range.2 hin) (by simp [hiu])
    (by simp only [Bool.not_eq_false'];rw[getD_set hil,if_pos rfl])
    (fun y hy=>by
     simp only [Bool.not_eq_true'] at hy ⊢
     rw[getD_set hil] at hy
     split at hy
     ·cases hy
     ·exact hy)
   omega
  have hdep:∀ j p,ops[j]?=some p→(listed.setIfInBounds i true).getD j false=true→∀ k,hasEdge p k=true→(listed.setIfInBounds i true).getD k false=true:=by
   intro j p hp hl k hk
   have up:listed.getD k false=true→(listed.setIfInBounds i true).getD k false=true:=by
    intro h
    rw[getD_set hil]
    split
    ·rfl
    ·exact h
   rw[getD_set hil] at hl
   split at hl
   ·rename_i e
    subst e
    rw[ho] at hp
    cases hp
    exact up (hlisted k hk)
   ·exact up (mid.dep j p hp hl k hk)
  have old:∀ {j:Nat},(listed.setIfInBounds i true).getD j false=true→j≠i→listed.getD j false=true:=by
   intro j h hne
   rw[getD_set hil,if_neg (fun e=>hne e.symm)] at h
   exact h
  have fresh:∀ {j:Nat},(listed.setIfInBounds i true).getD j false=false→listed.getD j false=false:=by
   intro j h
   rw[getD_set hil] at h
   split at h
   ·cases h
   ·exact h
  have newer:∀ {j:Nat},listed.getD j false=true→(listed.setIfInBounds i true).getD j false=true:=by
   intro j h
   rw[getD_set hil]
   split
   ·rfl
   ·exact h
  have hself:(listed.setIfInBounds i true).getD i false=true:=by rw[getD_set hil,if_pos rfl]
  have put_ne:∀ {d t:Nat} {v:Value},d≠t→(a.put (some d) v).tmps.getD t undef=a.tmps.getD t undef:=by
   intro d t v hne
   simp only [Act.put,Array.getD_eq_getD_getElem?]
   rw[Array.getElem?_setIfInBounds,if_neg hne]
  have put_eq:∀ {d:Nat} {v:Value},d<S.length→(a.put (some d) v).tmps.getD d undef=v:=by
   intro d v hd
   simp only [Act.put,Array.getD_eq_getD_getElem?]
   rw[Array.getElem?_setIfInBounds_self_of_lt (by rw[mid.size];exact hd)]
   rfl
  have hCw:=below_C hst hC mid.ok.below
  have now_up:∀ {t d:Nat} {cells:List V},(∀ u x,o.op≠.store u (.tmp d) x)→Now P ops (SSf ops S 0 ds ops.size) listed t d cells→Now P ops (SSf ops S 0 ds ops.size) (listed.setIfInBounds i true) t d cells:=by
   intro t d cells hns hn
   rcases hn with ⟨n1,n2⟩ | ⟨j,p,u,x,v,n1,n2,n3,n4,n5⟩
   ·refine .inl ⟨fun j p u x hp hop=>?_,n2⟩
    have hji:j≠i:=fun e=>by
     subst e
     rw[ho] at hp
     cases hp
     exact hns u x hop
    rw[getD_set hil,if_neg (fun e=>hji e.symm)]
    exact n1 j p u x hp hop
   ·exact .inr ⟨j,p,u,x,v,n1,n2,newer n3,n4,n5⟩
  -- behind an operation that makes no block and writes nothing
  have next:∀ d v w',o.dst=some d→Lone ops i d→(∀ t,o.op≠.alloc t)→(∀ u e x,o.op≠.store u (.tmp e) x)→RdD w' (stab S1 ρ h') ρ v (nth ds i .unk)→Below w.heap.size w w'→wpAny P .any ops Q fuel (listed.setIfInBounds i true) (a.put o.dst v) w':=by
   intro d v w' hdst hlone hna hns hv hbw
   have hl:Lasts w w' (stab S1 ρ h') (stab S1 ρ h'):=Lasts.of_below hbw _
   rw[hdst]
   refine ih _ S1 _ _ hcnt ⟨mid.ok.grow hbw,mid.sub,⟨fun b hb=>mid.alls.1 b (Nat.le_trans hbw.size hb),mid.alls.2⟩,by simp [Act.put,mid.size],mid.defers,by simp [mid.lsize],hdep,?_,?_,?_,?_⟩
   ·intro t j ht hj hlj hg
    by_cases hji:j=i
    ·subst hji
     have:=gslot_of ho hdst
     rw[hg] at this
     cases this
     rw[put_eq ht]
     exact hv
    ·obtain⟨p,hp,hpd⟩:=gslot_some hg
     rw[put_ne (fun e=>hlone j p hji hp (by rw[hpd,e]))]
     exact (mid.yes t j ht hj (old hlj hji) hg).grow hbw
   ·intro t ht hno
    rw[put_ne (fun e=>by have:=hno i hin (gslot_of ho (e ▸ hdst));rw[hself] at this;cases this)]
    exact (mid.no t ht (fun j hj hg=>fresh (hno j hj hg))).grow hbw
   ·intro j p t e hp hop hpd hlj he
    have hji:j≠i:=fun q=>by subst q;rw[ho] at hp;cases hp;exact hna t hop
    obtain⟨β,vals,ty,cells,g1,g2,g3,g4,g5,g6,g7,g8,g9⟩:=mid.al j p t e hp hop hpd (old hlj hji) he
    have hβ:β<w.heap.size:=by
     rcases Nat.lt_or_ge β w.heap.size with q | q
     ·exact q
     ·rw[Array.getElem?_eq_none q] at g2;cases g2
    refine⟨β,vals,ty,cells,?_,(hbw.block β hβ).trans g2,g3,g4,g5,g6,g7,g8.lasts hl,now_up (fun u x=>hns u e x) g9⟩
    rw[put_ne (fun q=>hlone j p hji hp (by rw[hpd,q]))]
    exact g1
   ·intro j j' p p' t t' e e' β hp hp' hop hop' hpd hpd' hlj hlj' hne he he' h1
    have hji:j≠i:=fun q=>by subst q;rw[ho] at hp;cases hp;exact hna t hop
    have hji':j'≠i:=fun q=>by subst q;rw[ho] at hp';cases hp';exact hna t' hop'
    rw[put_ne (fun q=>hlone j p hji hp (by rw[hpd,q]))] at h1
    rw[put_ne (fun q=>hlone j' p' hji' hp' (by rw[hpd',q]))]
    exact mid.dis j j' p p' t t' e e' β hp hp' hop hop' hpd hpd' (old hlj hji) (old hlj' hji') hne he he' h1
  unfold wpOp
  rw[ho]
  simp only
  have hent':=hent
  have hent:=hent i o ho
  cases kind_of hd ho with
  | al t d k1 k2 k3 k4 =>
   rw[if_pos (by simp [Region.wanted,k2])]
   have hunk:nth ds i .unk=.unk:=by
    rcases hent with ⟨_,hy⟩ | ⟨j,want,t,hg,_⟩
    ·rcases hy with hy | hy
     ·have:=hy.1
      unfold isAS at this
      rw[k1] at this
      cases this
     ·exact hy.2
    ·rw[k2] at hg;cases hg
   -- the zero of the type: from the end's list
   obtain⟨zs,hz⟩:∃ zs,zeroV P t=some zs:=by
    have:∀ (l:List Oper) (cs:List (Nat × List V)),AllB P ops.toList (SSf ops S 0 ds ops.size) l cs→o∈l→∃ zs,zeroV P t=some zs:=by
     intro l
     induction l with
     | nil=>intro cs _ hm;cases hm
     | cons p l ihl =>
      intro cs hA hm
      unfold AllB at hA
      split at hA
      ·rename_i t' d' e1 e2
       obtain⟨cells,cs',_,hc,hA⟩:=hA
       rcases List.mem_cons.1 hm with rfl | hm
       ·rw[k1] at e1;cases e1
        obtain⟨_,zs,hz,_⟩:=hc
        exact⟨zs,hz⟩
       ·exact ihl cs' hA hm
      ·rename_i hn
       rcases List.mem_cons.1 hm with rfl | hm
       ·exact (hn t d k1 k3).elim
       ·exact ihl cs hA hm
    exact this _ _ hcs (tomem ho)
   obtain⟨w',vals,hrun,hblk,hbw,hsz,hzl,hok,halls,hl,hrd⟩:=alloc_pend (P:=P) mid.ok mid.alls hz k1 a
   refine .inl (post_value hrun ?_)
   rw[k3]
   have hgrow:∀ {u:Value} {e:D},RdD w (stab S1 ρ h') ρ u e→RdD w' (stab (fun b=>S1 b∧b≠w.heap.size) ρ h') ρ u e:=fun q=>q.lasts hl (Below.shapes hbw) (fun _ _ q=>q)
   refine ih _ (fun b=>S1 b∧b≠w.heap.size) _ _ hcnt ⟨hok,fun b hb=>mid.sub b hb.1,halls,by simp [Act.put,mid.size],mid.defers,by simp [mid.lsize],hdep,?_,?_,?_,?_⟩
   ·intro t' j ht hj hlj hg
    by_cases hji:j=i
    ·subst hji
     rw[hunk]
     exact .unk
    ·obtain⟨p,hp,hpd⟩:=gslot_some hg
     rw[put_ne (fun e=>k4 j p hji hp (by rw[hpd,e]))]
     exact hgrow (mid.yes t' j ht hj (old hlj hji) hg)
   ·intro t' ht hno
    rw[put_ne (fun e=>by have:=hno i hin (gslot_of ho (e ▸ k3));rw[hself] at this;cases this)]
    exact hgrow (mid.no t' ht (fun j hj hg=>fresh (hno j hj hg)))
   ·intro j p t' e hp hop hpd hlj he
    by_cases hji:j=i
    ·subst hji
     rw[ho] at hp;cases hp
     rw[k1] at hop;cases hop
     rw[k3] at hpd;cases hpd
     refine⟨w.heap.size,vals,t,zs,put_eq he,hblk,.inl mid.ok.below.size,mid.sub _ (mid.alls.1 _ (Nat.le_refl _)),fun q=>q.2 rfl,fun k hk=>?_,hzl,hrd _,.inl ⟨fun j' p' u x hp' hop'=>?_,hz⟩⟩
     ·have:=(mid.ok.heap.low k _ hk).2;omega
     ·have hne:j'≠j:=fun q=>by subst q;rw[ho] at hp';cases hp';rw[k1] at hop';cases hop'
      rw[getD_set hil,if_neg (fun e=>hne e.symm)]
      cases hq:listed.getD j' false with
      | false=>rfl
      | true =>
       exfalso
       cases kind_of hd hp' with
       | al t2 d2 m1=>rw[m1] at hop';cases hop'
       | pu d2 m0 m1 m2 m3 m4 m5=>exact m5 u d x hop'
       | st t2 b2 y2 j2 p2 m1 m2 m3 m4 m5 m6 m7 m8 m9 m10 =>
        rw[m1] at hop';cases hop'
        have hj2:j2=j:=Classical.byContradiction fun hne=>k4 j2 p2 hne m4 m8
        subst hj2
        have:=mid.dep j' p' hp' hq j2 m6
        rw[hiu'] at this
        cases this
    ·obtain⟨β,vals',ty,cells,g1,g2,g3,g4,g5,g6,g7,g8,g9⟩:=mid.al j p t' e hp hop hpd (old hlj hji) he
     have hβ:β<w.heap.size:=by
      rcases Nat.lt_or_ge β w.heap.size with q | q
      ·exact q
      ·rw[Array.getElem?_eq_none q] at g2;cases g2
     refine⟨β,vals',ty,cells,?_,(hbw.block β hβ).trans g2,g3,g4,fun q=>g5 q.1,g6,g7,g8.lasts hl,now_up (fun u x=>by rw[k1];intro h;cases h) g9⟩
     rw[put_ne (fun q=>k4 j p hji hp (by rw[hpd,q]))]
     exact g1
   ·intro j j' p p' t1 t1' e e' β hp hp' hop hop' hpd hpd' hlj hlj' hne he he' h1
    have bound:∀ (j:Nat) (p:Oper) (t' e:Nat),ops[j]?=some p→p.op=.alloc t'→p.dst=some e→j≠i→(listed.setIfInBounds i true).getD j false=true→e<S.length→(a.put (some d) (.pointer (some ⟨w.heap.size,0,none⟩))).tmps.getD e undef≠.pointer (some ⟨w.heap.size,0,none⟩):=by
     intro j p t' e hp hop hpd hji hlj he
     rw[put_ne (fun q=>k4 j p hji hp (by rw[hpd,q]))]
     obtain⟨β,vals',ty,cells,g1,g2,_⟩:=mid.al j p t' e hp hop hpd (old hlj hji) he
     rw[g1]
     intro q
     simp only [Value.pointer.injEq,Option.some.injEq,Addr.mk.injEq] at q
     rw[q.1,Array.getElem?_eq_none (Nat.le_refl _)] at g2
     cases g2
    by_cases hji:j=i
    ·subst hji
     rw[ho] at hp;cases hp
     rw[k3] at hpd;cases hpd
     rw[put_eq he] at h1
     cases h1
     exact bound j' p' t1' e' hp' hop' hpd' (fun q=>hne q.symm) hlj' he'
    ·by_cases hji':j'=i
     ·subst hji'
      rw[ho] at hp';cases hp'
      rw[k3] at hpd';cases hpd'
      rw[put_eq he']
      intro q
      cases q
      exact bound j p t1 e hp hop hpd hji hlj he h1
     ·rw[put_ne (fun q=>k4 j p hji hp (by rw[hpd,q]))] at h1
      rw[put_ne (fun q=>k4 j' p' hji' hp' (by rw[hpd',q]))]
      exact mid.dis j j' p p' t1 t1' e e' β hp hp' hop hop' hpd hpd' (old hlj hji) (old hlj' hji') hne he he' h1
  | st t d x j p k1 k2 k3 k4 k5 k6 k7 k8 k9 k10 =>
   rw[if_pos (by simp [Region.wanted,k2])]
   have hjl:listed.getD j false=true:=hlisted j k6
   have hpal:=kind_of hd k4
   have hplone:Lone ops j d:=by
    cases hpal with
    | al t' d' m1 m2 m3 m4=>rw[k8] at m3;cases m3;exact m4
    | st t' b y j' p' m1=>rw[k7] at m1;cases m1
    | pu d' m0 m1 m2=>rw[k8] at m1;cases m1;exact m2
   -- what the end's list says
   obtain⟨hdl,zs,hz,v,hv,hchk⟩:d<S.length∧∃ zs,zeroV P t=some zs∧∃ v,getD (SSf ops S 0 ds ops.size) x=.val v∧(okC v && Nat.blt 0 (sizeT P t) && Nat.beq (cellsV v).length (sizeT P t) && (cellsV v).all isCell && Nat.beq zs.length (sizeT P t))=true:=by
    have hcont:∀ (l:List Oper) (cs:List (Nat × List V)),AllB P ops.toList (SSf ops S 0 ds ops.size) l cs→p∈l→∃ cells,Cont P ops.toList (SSf ops S 0 ds ops.size) t d cells:=by
     intro l
     induction l with
     | nil=>intro cs _ hm;cases hm
     | cons q l ihl =>
      intro cs hA hm
      unfold AllB at hA
      split at hA
      ·rename_i t' d' e1 e2
       obtain⟨cells,cs',_,hc,hA⟩:=hA
       rcases List.mem_cons.1 hm with rfl | hm
       ·rw[k7] at e1;cases e1
        rw[k8] at e2;cases e2
        exact⟨cells,hc⟩
       ·exact ihl cs' hA hm
      ·rename_i hn
       rcases List.mem_cons.1 hm with rfl | hm
       ·exact (hn t d k7 k8).elim
       ·exact ihl cs hA hm
    obtain⟨cells,hdl,zs,hz,hc⟩:=hcont _ _ hcs (tomem k4)
    rw[SSf_len] at hdl
    refine⟨hdl,zs,hz,?_⟩
    rcases hc with ⟨c0,_⟩ | ⟨x',v',c1,c2,c3,c4⟩
    ·exact (storeOf_none c0 o (tomem ho) t x k1).elim
    ·obtain⟨p',hp',u',hu'⟩:=storeOf_some c1
     obtain⟨i',hi',e⟩:=List.mem_iff_getElem.1 hp'
     have hi'':ops[i']?=some p':=by rw[← Array.getElem?_toList,List.getElem?_eq_getElem hi',e]
     have:x'=x:=by
      by_cases hii:i'=i
      ·subst hii
       rw[ho] at hi'';cases hi''
       rw[k1] at hu';cases hu';rfl
      ·exact (k9 i' p' u' x' hii hi'' hu').elim
     subst this
     exact⟨v',c2,c4⟩
   obtain⟨β,vals,ty,cells,g1,g2,g3,g4,g5,g6,g7,g8,g9⟩:=mid.al j p t d k4 k7 k8 hjl hdl
   have hcz:cells=zs:=by
    rcases g9 with ⟨_,n2⟩ | ⟨j',p',u,y,v',n1,n2,n3,_⟩
    ·exact Option.some.inj (n2.symm.trans hz)
    ·have hne:j'≠i:=fun q=>by subst q;rw[hiu'] at n3;cases n3
     exact (k9 j' p' u y hne n1 n2).elim
   subst hcz
   have hrx:Rd w (stab S1 ρ h') (a.eval x) v:=by
    cases x with
    | tmp u =>
     have:=unpin_rd (mid2_slot hd hds mid hin hlisted (k10 u rfl) (q:=ops.size) (Nat.le_of_lt hin) (Nat.le_refl _))
     have hv':unpin (nth (SSf ops S 0 ds ops.size) u .unk)=.val v:=hv
     rw[hv'] at this
     exact this.val_inv
    | const c =>
     have hv':D.val (constV c)=.val v:=hv
     cases hv'
     exact const_rd c
    | global g=>have hv':D.unk=.val v:=hv;cases hv'
    | func f =>
     have hv':D.val (.clos f [])=.val v:=hv
     cases hv'
     exact @Rd.clos w _ f [] [] .nil
   simp only [Bool.and_eq_true] at hchk
   obtain⟨⟨⟨⟨q1,q2⟩,q3⟩,q4⟩,q5⟩:=hchk
   obtain⟨w',vals',ty',hrun,hok,hblk,hle,hrd,hgrow,hothers,hsz⟩:=store_pend (P:=P) mid.ok g3 g5 g6 g2 g7 g8 hrx (by simp [q2,q3,q4]) (t:=t) (Nat.eq_of_beq_eq_true q5)
   refine .inl (post_skip (w':=w') ?_ ?_)
   ·simp only [execOp,k1,Sem.run_bind]
    rw[show a.eval (.tmp d)=.pointer (some ⟨β,0,none⟩) from g1]
    rw[hrun]
    rfl
   rw[k3]
   show wpAny P .any ops Q fuel (listed.setIfInBounds i true) a w'
   have hgrowL:∀ {us:List Value} {es:List V},RdL w (stab S1 ρ h') us es→RdL w' (stab S1 ρ h') us es:=by
    intro us es q
    have:=(hgrow _ _ (.val (.agg q))).val_inv
    obtain⟨arr,e1,e2⟩:=this.agg_inv
    simp only [Value.agg.injEq] at e1
    have:us=arr:=by
     have:=congrArg Array.toList e1
     simpa using this
    rw[this]
    exact e2
   refine ih _ S1 _ _ hcnt ⟨hok,mid.sub,⟨fun b hb=>mid.alls.1 b (by rw[hsz] at hb;exact hb),mid.alls.2⟩,mid.size,mid.defers,by simp [mid.lsize],hdep,?_,?_,?_,?_⟩
   ·intro t' j' ht hj hlj hg
    have hji:j'≠i:=fun q=>by
     subst q
     obtain⟨p',hp',hpd'⟩:=gslot_some hg
     rw[ho] at hp';cases hp'
     rw[k3] at hpd';cases hpd'
    exact hgrow _ _ (mid.yes t' j' ht hj (old hlj hji) hg)
   ·intro t' ht hno
    exact hgrow _ _ (mid.no t' ht (fun j hj hg=>fresh (hno j hj hg)))
   ·intro j' p' t' e hp hop hpd hlj he
    have hji:j'≠i:=fun q=>by subst q;rw[ho] at hp;cases hp;rw[k1] at hop;cases hop
    obtain⟨β',vals2,ty2,cells',r1,r2,r3,r4,r5,r6,r7,r8,r9⟩:=mid.al j' p' t' e hp hop hpd (old hlj hji) he
    by_cases hjj:j'=j
    ·subst hjj
     rw[k4] at hp;cases hp
     rw[k8] at hpd;cases hpd
     rw[k7] at hop;cases hop
     rw[g1] at r1
     cases r1
     exact⟨β,vals',ty',cellsV v,g1,hblk,g3,g4,g5,g6,hle,hrd,.inr ⟨i,o,t,x,v,ho,k1,hself,hv,rfl⟩⟩
    ·have hne:β'≠β:=fun q=>by
      subst q
      exact mid.dis j j' p p' t t' d e β' k4 hp k7 hop k8 hpd hjl (old hlj hji) (fun q=>hjj q.symm) hdl he g1 r1
     have hde:d≠e:=fun q=>hplone j' p' hjj hp (by rw[hpd,q])
     exact⟨β',vals2,ty2,cells',r1,(hothers β' hne).trans r2,r3,r4,r5,r6,r7,hgrowL r8,now_up (fun u y=>by rw[k1];intro h;cases h;exact hde rfl) r9⟩
   ·intro j1 j' p1 p' t1 t' e e' β hp hp' hop hop' hpd hpd' hlj hlj' hne he he' h1
    have hji:j1≠i:=fun q=>by subst q;rw[ho] at hp;cases hp;rw[k1] at hop;cases hop
    have hji':j'≠i:=fun q=>by subst q;rw[ho] at hp';cases hp';rw[k1] at hop';cases hop'
    exact mid.dis j1 j' p1 p' t1 t' e e' β hp hp' hop hop' hpd hpd' (old hlj hji) (old hlj' hji') hne he he' h1
  | pu d k0 k1 k2 k3 k4 k5 =>
   have hna:∀ t,o.op≠.alloc t:=fun t e=>by unfold isAS at k0;rw[e] at k0;cases k0
   have hreads:Reads w (stab S1 ρ h') ρ a o (getD (SSf ops S 0 ds i)):=by
    intro x hx
    cases x with
    | tmp t =>
     refine unpin_rd (mid2_slot hd hds mid hin hlisted (k3 t ?_) (Nat.le_refl _) (Nat.le_of_lt hin))
     unfold namesT
     rw[List.mem_filterMap]
     exact⟨_,hx,rfl⟩
    | const v=>exact .val (const_rd v)
    | global g=>exact .unk
    | func f=>exact .val (@Rd.clos w _ f [] [] .nil)
   have run:YA P C o (getD (SSf ops S 0 ds i)) (nth ds i .unk) h'→o.wp P a w (wpAny P .any ops Q fuel (listed.setIfInBounds i true)) Q:=by
    intro hy
    refine Oper.wp_mono ?_ (hy h' (Fr.refl _) w0 S1 a w ρ Q hCw mid.alls mid.ok hreads)
    rintro a' w' ⟨v,rfl,h1,h2⟩
    exact next d v w' k1 k2 hna k5 h1 h2
   rcases hent with ⟨hg,hy⟩ | ⟨j,want,t,hg,hj,hcase⟩
   ·rw[if_pos (by simp [Region.wanted,hg])]
    rcases hy with hy | hy
    ·exact .inl (run hy.2)
    ·rw[k0] at hy;cases hy.1
   ·have hjg:=k4 j want hg
    obtain⟨pj,hpj,hpjd⟩:=gslot_some hj
    have hne0:nth (SSf ops S 0 ds i) t .unk≠.unk:=by
     rcases hcase with ⟨b,ht,_⟩ | ⟨ht,_⟩<;>(rw[ht];intro h;cases h)
    have hlt:t<S.length:=by
     rcases Nat.lt_or_ge t S.length with q | q
     ·exact q
     ·exact (hne0 (by rw[nth_eq,List.getElem?_eq_none (by rw[SSf_len];exact q)];rfl)).elim
    have hs:=mid2_slot hd hds mid hin hlisted (u:=t) (i:=i) (fun j' p' hp' hpd'=>by
     by_cases e:j'=j
     ·subst e
      refine⟨hjg.1,hjg.2,?_⟩
      rw[hpj] at hp';cases hp'
      cases hq:isAl pj with
      | false=>rfl
      | true =>
       exfalso
       cases kind_of hd hpj with
       | st t' b' y j1 p1 m1 m2 m3=>rw[hpjd] at m3;cases m3
       | pu d' m0 m1 m2 =>
        unfold isAl at hq
        unfold isAS at m0
        split at hq
        ·rename_i u hu
         rw[hu] at m0
         cases m0
        ·cases hq
       | al t' d' m1 m2 m3 m4 =>
        rw[hpjd] at m3;cases m3
        have hunk:nth ds j' .unk=.unk:=by
         rcases hent' j' pj hpj with ⟨_,hy⟩ | ⟨_,_,_,hg2,_⟩
         ·rcases hy with hy | hy
          ·have:=hy.1
           unfold isAS at this
           rw[m1] at this
           cases this
          ·exact hy.2
         ·rw[m2] at hg2;cases hg2
        rw[SSf_at ops t i S 0 ds j' hjg.1 (by omega) (by simpa using hj) hlt (fun j2 hj2 hne hg2=>by
         rw[Nat.zero_add] at hg2
         obtain⟨p2,hp2,hpd2⟩:=gslot_some hg2
         exact m4 j2 p2 hne hp2 hpd2),hunk] at hne0
        exact hne0 rfl
     ·exfalso
      cases kind_of hd hpj with
      | al t' d' m1 m2 m3 m4=>rw[hpjd] at m3;cases m3;exact m4 j' p' e hp' hpd'
      | st t' b' y j1 p1 m1 m2 m3=>rw[hpjd] at m3;cases m3
      | pu d' m0 m1 m2=>rw[hpjd] at m1;cases m1;exact m2 j' p' e hp' hpd') (q:=i) (Nat.le_refl _) (Nat.le_of_lt hin)
    rcases hcase with ⟨b,ht,hcase⟩ | ⟨ht,hdu⟩
    ·rw[ht] at hs
     have hs:=hs.bool_inv
     have hy:yielded ops a.tmps j=some b:=by
      unfold yielded
      unfold gslot at hj
      rw[hj]
      simp only [Option.bind_some]
      rw[Array.getD_eq_getD_getElem?,Array.getElem?_eq_getElem (by rw[mid.size];exact hlt)] at hs
      simp only [Option.getD_some] at hs
      rw[Array.getElem?_eq_getElem (by rw[mid.size];exact hlt),hs]
     have hwanted:Region.wanted o (yielded ops a.tmps)=(b == want):=by
      simp only [Region.wanted,hg,hy]
      cases b<;>cases want<;>rfl
     rw[hwanted]
     rcases hcase with ⟨rfl,hya⟩ | ⟨hne,hdu⟩
     ·rw[if_pos (by simp)]
      rcases hya with hya | hya
      ·exact .inl (run hya.2)
      ·rw[k0] at hya;cases hya.1
     ·rw[if_neg (by simp [hne])]
      exact next d undef w k1 k2 hna k5 (by rw[hdu];exact undD_rd) (Below.refl _ _)
    ·rw[ht] at hs
     obtain⟨arr,hs,_⟩:=hs.val_inv.tup_inv
     have hy:yielded ops a.tmps j=none:=by
      unfold yielded
      unfold gslot at hj
      rw[hj]
      simp only [Option.bind_some]
      rw[Array.getD_eq_getD_getElem?,Array.getElem?_eq_getElem (by rw[mid.size];exact hlt)] at hs
      simp only [Option.getD_some] at hs
      rw[Array.getElem?_eq_getElem (by rw[mid.size];exact hlt),hs]
     rw[if_neg (by simp [Region.wanted,hg,hy])]
     exact next d undef w k1 k2 hna k5 (by rw[hdu];exact undD_rd) (Below.refl _ _)
end Go.Proofs.YtkkbddkpggjgpaaGreatDoor
