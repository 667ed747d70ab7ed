/-
  Lower layers: what functions of the program compute, and plain facts. Conditions: as the theorems say.
-/
import Derived.KernelRfl
import Derived.Test.YtkkbddkpggjgpaaGreatDoorPkC
set_option linter.unusedVariables false
set_option linter.unusedSimpArgs false
namespace Go.Proofs.YtkkbddkpggjgpaaGreatDoor
open Go.RowKit
variable {P:Program} {C:World→Prop} {Qr:V→Prop} {Qo:Ex→St→Prop}
def HeadF (ops : Array Oper) (m : Nat) : Prop := ∀ i, i < m → ∃ o d, ops[i]? = some o ∧ o.dst = some d ∧ (∀ j, j < m → j ≠ i → gslot ops j ≠ some d) ∧
      (∀ t ∈ namesT o, ∀ j, j < m → gslot ops j = some t → j < i ∧ hasEdge o j = true) ∧ (∀ j want, o.guard = some (j, want) → j < i ∧ hasEdge o j = true)
theorem head_f {ops:Array Oper}{m:Nat}(hhead:headOk ops m=true):HeadF ops m:=by
  intro i hi
  have h1:=List.all_eq_true.1 hhead i (List.mem_range.2 hi)
  cases ho:ops[i]? with
  | none=>rw[ho] at h1;cases h1
  | some o =>
   rw[ho] at h1
   simp only [Bool.and_eq_true] at h1
   obtain⟨⟨h2,h3⟩,h4⟩:=h1
   cases hdst:o.dst with
   | none=>rw[hdst] at h2;cases h2
   | some d =>
    rw[hdst] at h2
    refine⟨o,d,rfl,hdst,?_,?_,?_⟩
    ·intro j hj hne hg
     have:=List.all_eq_true.1 h2 j (List.mem_range.2 hj)
     simp only [Bool.or_eq_true,Nat.beq_eq] at this
     rcases this with q | q
     ·exact hne q.symm
     ·unfold gslot at hg
      cases hp:ops[j]? with
      | none=>rw[hp] at q;cases q
      | some p =>
       rw[hp] at q hg
       simp only [Option.bind_some] at hg
       simp only [hg] at q
       simp at q
    ·intro t ht j hj hg
     have:=List.all_eq_true.1 (List.all_eq_true.1 h3 t ht) j (List.mem_range.2 hj)
     unfold gslot at hg
     cases hp:ops[j]? with
     | none=>rw[hp] at this;cases this
     | some p =>
      rw[hp] at this hg
      simp only [Option.bind_some] at hg
      simp only [hg,Bool.or_eq_true,Bool.and_eq_true,Bool.not_eq_true'] at this
      rcases this with q | q
      ·simp at q
      ·exact⟨blt_iff.1 q.1,q.2⟩
    ·intro j want hg
     rw[hg] at h4
     simp only [Bool.and_eq_true] at h4
     exact⟨blt_iff.1 h4.1,h4.2⟩
theorem getD_set' {listed:Array Bool}{i j:Nat}{d:Bool}(hi:i<listed.size):(listed.setIfInBounds i true).getD j d=if i=j then true else listed.getD j d:=getD_set hi
structure Mid4 (w0:Base) (S0:Nat→Prop) (ops:Array Oper) (m k:Nat) (fl:Nat→Bool) (S:List D) (ds:List D) (h':List Box) (ρ:List Nat) (listed:Array Bool) (a:Act) (w:World):Prop where
 ok:OkH w0 S0 w ρ h'
 size:a.tmps.size=S.length
 defers:a.defers = []
 lsize:listed.size=ops.size
 dep:∀ j o,ops[j]?=some o→listed.getD j false=true→∀ e∈o.after.toList,Region.binds .any e=true→listed.getD e.on false=true
 tail:∀ j,m≤j→j<ops.size→listed.getD j true=decide (j<m+k)
 nf:∀ i,i<m→fl i=false→listed.getD i true=true
 yes:∀ t i,t<S.length→i<m→listed.getD i false=true→gslot ops i=some t→RdD w (stab S0 ρ h') ρ (a.tmps.getD t undef) (nth ds i .unk)
 no:∀ t,t<S.length→(∀ i,i<m→gslot ops i=some t→listed.getD i false=false)→RdD w (stab S0 ρ h') ρ (a.tmps.getD t undef) (nth S t .unk)
theorem slot4 {w0:Base}{S0:Nat→Prop}{ops:Array Oper}{m k:Nat}{fl:Nat→Bool}{S ds:List D}{h':List Box}{ρ:List Nat}{listed:Array Bool}{a:Act}{w:World}(head:HeadF ops m)(hds:ds.length=m)
  (mid:Mid4 w0 S0 ops m k fl S ds h' ρ listed a w) (t:Nat) (hall:∀ i,i<m→gslot ops i=some t→listed.getD i false=true):RdD w (stab S0 ρ h') ρ (a.tmps.getD t undef) (nth (SSf ops S 0 ds m) t .unk):=by
 by_cases ht:t<S.length
 ·by_cases hex:∃ i,i<m∧gslot ops i=some t
  ·obtain⟨i,him,hg⟩:=hex
   obtain⟨o,d,ho,hdst,hdis,_,_⟩:=head i him
   have hgd:d=t:=by unfold gslot at hg;rw[ho] at hg;simp [hdst] at hg;exact hg
   rw[SSf_at ops t m S 0 ds i him (by omega) (by simpa using hg) ht (fun j hj hne=>by simpa [hgd] using hdis j hj hne)]
   exact mid.yes t i ht him (hall i him hg) hg
  ·rw[SSf_other ops t m S 0 ds (fun j hj hg=>hex ⟨j,hj,by simpa using hg⟩)]
   exact mid.no t ht (fun i hi hg=>(hex ⟨i,hi,hg⟩).elim)
 ·have:nth (SSf ops S 0 ds m) t .unk=.unk:=by rw[nth_eq,List.getElem?_eq_none (by rw[SSf_len];omega)];rfl
  rw[this]
  exact .unk
structure StoreAt (P:Program) (ops:Array Oper) (m r:Nat) (Sm:List D) (H:Nat→List Box) (o:Oper) (t:TypeId) (p x:Operand):Prop where
 at_:ops[m+r]?=some o
 op:o.op=.store t p x
 guard:o.guard=none
 dst:o.dst=none
 eff:storeH P t (H r) (getD Sm p) (getD Sm x)=some (true,H (r+1))
 use:∀ u∈namesT o,∀ i,i<m→gslot ops i=some u→reach ops 5 (m+r) i=true
 seq:∀ q,q<r→reach ops 5 (m+r) (m+q)=true
theorem late_end (hst:Stable C){ops:Array Oper}(hna:ops.toList.any isAl=false){m s:Nat}(fl:Nat→Bool)(head:HeadF ops m)(hback:backOk ops=true)(hms:m+s≤ops.size)(htail:tailOk ops (m+s)=true)
  {w0:Base} {S0:Nat→Prop} (hC:Hold C w0) (hS:∀ b,w0.own b→S0 b) {Q:Exit→Act→World→Prop} {S ds:List D} {H:Nat→List Box} {ρ:List Nat} (hds:ds.length=m)
  (hsto:∀ r,r<s→∃ o t p x,StoreAt P ops m r (SSf ops S 0 ds m) H o t p x)
  (hent:∀ k,k≤s→∀ i,i<m→fl i=true→∀ o,ops[i]?=some o→Ent P C ops (SSf ops S 0 ds i) o (nth ds i .unk) (H k))
  (hend:∀ a w,OkS w0 S0 ⟨SSf ops S 0 ds m,H s⟩ a w ρ→wpOps P ops Q (List.range' (m+s) (ops.size-(m+s))) a w) :
  ∀ (fuel:Nat) (listed:Array Bool) (a:Act) (w:World) (k:Nat),k≤s→(List.range m).countP (fun i=>!listed.getD i true)+(ops.size-(m+k))≤fuel →
   Mid4 w0 S0 ops m k fl S ds (H k) ρ listed a w→wpAny P .any ops Q fuel listed a w:=by
 have whole:∀ (fuel:Nat) (listed:Array Bool) (a:Act) (w:World),ops.size≤(m+s)+fuel→(∀ i,i<m→listed.getD i true=true)→Mid4 w0 S0 ops m s fl S ds (H s) ρ listed a w→wpAny P .any ops Q fuel listed a w:=by
  intro fuel listed a w hf hall mid
  refine tail_any htail hback fuel (m+s) listed a w hf hms (Nat.le_refl _) mid.lsize ?_ (hend a w ⟨mid.ok,by rw[mid.size,SSf_len],fun t=>slot4 head hds mid t fun i hi _=>by rw[getD_any false true (by rw[mid.lsize];omega)];exact hall i hi,mid.defers⟩)
  intro i hi
  rw[getD_any false true (by rw[mid.lsize];exact hi)]
  by_cases him:i<m
  ·rw[hall i him];simp;omega
  ·rw[mid.tail i (by omega) hi]
 intro fuel
 induction fuel with
 | zero =>
  intro listed a w k hk hf mid
  have hc:(List.range m).countP (fun i=>!listed.getD i true)=0:=by omega
  have hall:∀ i,i<m→listed.getD i true=true:=by
   intro i hi
   have:=(List.countP_eq_zero.1 hc) i (List.mem_range.2 hi)
   simpa using this
  have:k=s:=by omega
  subst this
  exact whole 0 listed a w (by omega) hall mid
 | succ fuel ih =>
  intro listed a w k hk hf mid
  by_cases hfull:k=s∧∀ i,i<m→listed.getD i true=true
  ·obtain⟨rfl,hall⟩:=hfull
   by_cases h0:ops.size≤(m+k)+(fuel+1)
   ·exact whole _ listed a w h0 hall mid
   ·exfalso;omega
  ·have hsome:∃ i,i∈Region.ready .any ops listed:=by
    have key:∀ q,∀ i,i<ops.size→i≤q→listed.getD i true=false→∃ q,q∈Region.ready .any ops listed:=by
     intro q
     induction q with
     | zero =>
      intro i hi hq hu
      have:i=0:=by omega
      subst this
      refine⟨0,mem_ready.2 ⟨hi,hu,ops[0],Array.getElem?_eq_getElem hi,fun e he hbd=>?_⟩⟩
      have:=edge_lt hback (Array.getElem?_eq_getElem hi) he hbd
      omega
     | succ q ihq =>
      intro i hi hq hu
      by_cases hlow:∃ j,j<i∧listed.getD j true=false
      ·obtain⟨j,hj,hju⟩:=hlow
       exact ihq j (by omega) (by omega) hju
      ·refine⟨i,mem_ready.2 ⟨hi,hu,ops[i],Array.getElem?_eq_getElem hi,fun e he hbd=>?_⟩⟩
       have hon:=edge_lt hback (Array.getElem?_eq_getElem hi) he hbd
       rw[getD_any false true (by rw[mid.lsize];omega)]
       cases hq:listed.getD e.on true with
       | true=>rfl
       | false=>exact (hlow ⟨_,hon,hq⟩).elim
    rcases Nat.lt_or_ge k s with q | q
    ·exact key (m+k) (m+k) (by omega) (Nat.le_refl _) (by rw[mid.tail _ (by omega) (by omega)];simp)
    ·have:¬ ∀ i,i<m→listed.getD i true=true:=fun h=>hfull ⟨by omega,h⟩
     obtain⟨i,hi,hu⟩:∃ i,i<m∧listed.getD i true=false:=by
      refine Classical.byContradiction fun hn=>this fun i hi=>?_
      cases hq:listed.getD i true with
      | true=>rfl
      | false=>exact (hn ⟨i,hi,hq⟩).elim
     exact key i i (by omega) (Nat.le_refl _) hu
   refine⟨(fun h0=>by obtain⟨i,hi⟩:=hsome;rw[h0] at hi;cases hi),fun i hi=>?_⟩
   obtain⟨hin,hiu,o',ho',hedges⟩:=mem_ready.1 hi
   have hreach:∀ j,reach ops 5 i j=true→listed.getD j false=true:=fun j hj=>reach_listed mid.dep 5 i j hj (fun o2 ho2=>by rw[ho'] at ho2;cases ho2;exact hedges)
   rcases Nat.lt_or_ge i m with him | him
   ·have hfli:fl i=true:=by
     cases hq:fl i with
     | true=>rfl
     | false=>have:=mid.nf i him hq;rw[hiu] at this;cases this
    have hCw':=hC
    obtain⟨o,d,ho,hdst,hdis,hnames,hguard⟩:=head i him
    rw[ho] at ho'
    have eoo:=Option.some.inj ho'
    subst eoo
    have hlisted:∀ j,hasEdge o j=true→listed.getD j false=true:=by
     intro j hj
     obtain⟨e,he,hon,hbd⟩:=hasEdge_of hj
     rw[← hon]
     exact hedges e he hbd
    have hgi:gslot ops i=some d:=by unfold gslot;rw[ho];simpa using hdst
    -- what a slot that the operation names holds
    have slot:∀ t:Nat,(∀ j:Nat,j<m→gslot ops j=some t→j<i∧hasEdge o j=true)→RdD w (stab S0 ρ (H k)) ρ (a.tmps.getD t undef) (nth (SSf ops S 0 ds i) t .unk):=by
     intro t hx
     by_cases ht:t<S.length
     ·by_cases hex:∃ j,j<m∧gslot ops j=some t
      ·obtain⟨j,hjm,hg⟩:=hex
       obtain⟨hji,hje⟩:=hx j hjm hg
       obtain⟨oj,dj,hoj,hdj,hdisj,_,_⟩:=head j hjm
       have hgd:dj=t:=by unfold gslot at hg;rw[hoj] at hg;simp [hdj] at hg;exact hg
       rw[SSf_at ops t i S 0 ds j hji (by omega) (by simpa using hg) ht (fun j' hj' hne=>by simpa [hgd] using hdisj j' (by omega) hne)]
       exact mid.yes t j ht hjm (hlisted j hje) hg
      ·rw[SSf_other ops t i S 0 ds (fun j hj hg=>hex ⟨j,Nat.lt_trans hj him,by simpa using hg⟩)]
       exact mid.no t ht (fun j hj hg=>(hex ⟨j,hj,hg⟩).elim)
     ·have:nth (SSf ops S 0 ds i) t .unk=.unk:=by rw[nth_eq,List.getElem?_eq_none (by rw[SSf_len];omega)];rfl
      rw[this]
      exact .unk
    have hreads:Reads w (stab S0 ρ (H k)) ρ a o (getD (SSf ops S 0 ds i)):=by
     intro x hx
     cases x with
     | tmp t =>
      refine unpin_rd (slot t (fun j hj hg=>hnames t ?_ j hj hg))
      unfold namesT
      rw[List.mem_filterMap]
      exact⟨_,hx,rfl⟩
     | const v=>exact .val (const_rd v)
     | global g=>exact .unk
     | func f=>exact .val (@Rd.clos w _ f [] [] .nil)
    have hCw:=below_C hst hC mid.ok.below
    -- behind the operation
    have next:∀ v w',RdD w' (stab S0 ρ (H k)) ρ v (nth ds i .unk)→Below w.heap.size w w'→wpAny P .any ops Q fuel (listed.setIfInBounds i true) (a.put o.dst v) w':=by
     intro v w' hv hbw
     refine ih _ _ _ k hk ?_ ?_
     ·have:=countP_lt (p:=fun q=>!listed.getD q true) (q:=fun q=>!(listed.setIfInBounds i true).getD q true) (List.mem_range.2 him) (by simp [hiu])
       (by simp only [Bool.not_eq_false'];rw[getD_set (by rw[mid.lsize];exact hin),if_pos rfl])
       (fun y hy=>by
        simp only [Bool.not_eq_true'] at hy ⊢
        rw[getD_set (by rw[mid.lsize];exact hin)] at hy
        split at hy
        ·cases hy
        ·exact hy)
      omega
     ·refine⟨mid.ok.grow hbw,by rw[hdst];simp [Act.put,mid.size],by rw[hdst];exact mid.defers,by simp [mid.lsize],?_,?_,?_,?_,?_⟩
      ·intro j o2 ho2 hl e he hbd
       have up:listed.getD e.on false=true→(listed.setIfInBounds i true).getD e.on false=true:=by
        intro h
        rw[getD_set (by rw[mid.lsize];exact hin)]
        split
        ·rfl
        ·exact h
       rw[getD_set (by rw[mid.lsize];exact hin)] at hl
       split at hl
       ·rename_i eij
        subst eij
        rw[ho] at ho2
        cases ho2
        exact up (hedges e he hbd)
       ·exact up (mid.dep j o2 ho2 hl e he hbd)
      ·intro j hj hjn
       rw[getD_set (by rw[mid.lsize];exact hin),if_neg (by omega)]
       exact mid.tail j hj hjn
      ·intro j hj hfj
       rw[getD_set' (by rw[mid.lsize];exact hin)]
       split
       ·rfl
       ·exact mid.nf j hj hfj
      ·intro t j ht hjm hl hg
       rw[hdst]
       simp only [Act.put,Array.getD_eq_getD_getElem?]
       by_cases hji:j=i
       ·subst hji
        rw[hgi] at hg
        cases hg
        rw[Array.getElem?_setIfInBounds_self_of_lt (by rw[mid.size];exact ht)]
        exact hv
       ·rw[getD_set (by rw[mid.lsize];exact hin),if_neg (fun e=>hji e.symm)] at hl
        have hne:d≠t:=fun e=>hdis j hjm hji (by rw[hg,e])
        rw[Array.getElem?_setIfInBounds,if_neg hne]
        have:=mid.yes t j ht hjm hl hg
        rw[Array.getD_eq_getD_getElem?] at this
        exact this.grow hbw
      ·intro t ht hno
       rw[hdst]
       simp only [Act.put,Array.getD_eq_getD_getElem?]
       have hne:d≠t:=fun e=>by
        have:=hno i him (by rw[hgi,e])
        rw[getD_set (by rw[mid.lsize];exact hin),if_pos rfl] at this
        cases this
       rw[Array.getElem?_setIfInBounds,if_neg hne]
       have:=mid.no t ht (fun j hj hg=>by
        have:=hno j hj hg
        rw[getD_set (by rw[mid.lsize];exact hin)] at this
        split at this
        ·cases this
        ·exact this)
       rw[Array.getD_eq_getD_getElem?] at this
       exact this.grow hbw
    have run:YA P C o (getD (SSf ops S 0 ds i)) (nth ds i .unk) (H k)→o.wp P a w (wpAny P .any ops Q fuel (listed.setIfInBounds i true)) Q:=by
     intro hy
     refine Oper.wp_mono ?_ (hy (H k) (Fr.refl _) w0 S0 a w ρ Q hCw (allS_of mid.ok hS) mid.ok hreads)
     rintro a' w' ⟨v,rfl,h1,h2⟩
     exact next v w' h1 h2
    have noAS:isAS o=true→False:=by
     intro hAS
     unfold isAS at hAS
     split at hAS
     ·rename_i t hop
      have hmem:o∈ops.toList:=by
       have h1:ops.toList[i]?=some o:=by rw[Array.getElem?_toList];exact ho
       exact List.mem_of_getElem? h1
      have:=List.any_eq_true.2 ⟨o,hmem,(show isAl o=true by unfold isAl;rw[hop])⟩
      rw[hna] at this
      cases this
     ·rw[hdst] at hAS;cases hAS
     ·cases hAS
    unfold wpOp
    rw[ho]
    simp only
    rcases hent k hk i him hfli o ho with ⟨hg,hy⟩ | ⟨j,want,t,hg,hj,hcase⟩
    ·rw[if_pos (by simp [Region.wanted,hg])]
     rcases hy with hy | hy
     ·exact .inl (run hy.2)
     ·exact (noAS hy.1).elim
    ·have hjg:=hguard j want hg
     have hs:=slot t (fun j' hj' hgj'=>by
      have hjm:j<m:=by omega
      by_cases e:j'=j
      ·subst e;exact hjg
      ·obtain⟨oj,dj,hoj,hdj,hdisj,_,_⟩:=head j hjm
       have hgd:dj=t:=by unfold gslot at hj;rw[hoj] at hj;simp [hdj] at hj;exact hj
       exact (hdisj j' hj' e (by rw[hgj',hgd])).elim)
     have hltof:nth (SSf ops S 0 ds i) t .unk≠.unk→t<S.length:=by
      intro hne
      rcases Nat.lt_or_ge t S.length with q | q
      ·exact q
      ·exact (hne (by rw[nth_eq,List.getElem?_eq_none (by rw[SSf_len];exact q)];rfl)).elim
     rcases hcase with ⟨b,ht,hcase⟩ | ⟨ht,hdu⟩
     ·have hlt:=hltof (by rw[ht];intro h;cases h)
      rw[ht] at hs
      have hs:=hs.bool_inv
      have hy:yielded ops a.tmps j=some b:=by
       unfold yielded
       unfold gslot at hj
       rw[hj]
       simp only [Option.bind_some]
       rw[Array.getD_eq_getD_getElem?,Array.getElem?_eq_getElem (by rw[mid.size];exact hlt)] at hs
       simp only [Option.getD_some] at hs
       rw[Array.getElem?_eq_getElem (by rw[mid.size];exact hlt),hs]
      have hwanted:Region.wanted o (yielded ops a.tmps)=(b == want):=by
       simp only [Region.wanted,hg,hy]
       cases b<;>cases want<;>rfl
      rw[hwanted]
      rcases hcase with ⟨rfl,hya⟩ | ⟨hne,hdu⟩
      ·rw[if_pos (by simp)]
       rcases hya with hya | hya
       ·exact .inl (run hya.2)
       ·exact (noAS hya.1).elim
      ·rw[if_neg (by simp [hne])]
       exact next undef w (by rw[hdu];exact undD_rd) (Below.refl _ _)
     ·have hlt:=hltof (by rw[ht];intro h;cases h)
      rw[ht] at hs
      obtain⟨arr,hs,_⟩:=hs.val_inv.tup_inv
      have hy:yielded ops a.tmps j=none:=by
       unfold yielded
       unfold gslot at hj
       rw[hj]
       simp only [Option.bind_some]
       rw[Array.getD_eq_getD_getElem?,Array.getElem?_eq_getElem (by rw[mid.size];exact hlt)] at hs
       simp only [Option.getD_some] at hs
       rw[Array.getElem?_eq_getElem (by rw[mid.size];exact hlt),hs]
      rw[if_neg (by simp [Region.wanted,hg,hy])]
      exact next undef w (by rw[hdu];exact undD_rd) (Below.refl _ _)
   ·-- a store
    have hik:m+k≤i:=by
     rcases Nat.lt_or_ge i (m+k) with q | q
     ·have:=mid.tail i him hin;rw[hiu,decide_eq_true q] at this;cases this
     ·exact q
    have hlt:i<m+s:=by
     rcases Nat.lt_or_ge i (m+s) with q | q
     ·exact q
     ·exfalso
      have hr:∀ j,j<i→listed.getD j true=true:=fun j hj=>by
       have h1:=List.all_eq_true.1 htail i (List.mem_range.2 hin)
       simp only [Bool.or_eq_true] at h1
       rcases h1 with h1 | h1
       ·have:=blt_iff.1 h1;omega
       ·have:=hreach j (List.all_eq_true.1 h1 j (List.mem_range.2 hj))
        rwa [getD_any false true (by rw[mid.lsize];omega)] at this
      refine hfull ⟨?_,fun j hj=>hr j (by omega)⟩
      rcases Nat.lt_or_ge k s with q2 | q2
      ·have:=hr (m+k) (by omega)
       rw[mid.tail _ (by omega) (by omega)] at this
       simp at this
      ·omega
    obtain⟨o,t,p,x,sa⟩:=hsto (i-m) (by omega)
    have him2:m+(i-m)=i:=by omega
    have hii:i=m+k:=by
     rcases Nat.lt_or_ge (m+k) i with q | q
     ·exfalso
      have:=sa.seq k (by omega)
      rw[him2] at this
      have:=hreach _ this
      rw[getD_any false true (by rw[mid.lsize];omega),mid.tail _ (by omega) (by omega)] at this
      simp at this
     ·omega
    subst hii
    have ek:m+k-m=k:=by omega
    rw[ek] at sa
    have ho:=sa.at_
    have hrd:∀ y,y∈o.op.operands.toList→RdD w (stab S0 ρ (H k)) ρ (a.eval y) (getD (SSf ops S 0 ds m) y):=by
     intro y hy
     cases y with
     | tmp u =>
      refine unpin_rd (slot4 head hds mid u fun j hj hg=>hreach j (sa.use u ?_ j hj hg))
      unfold namesT
      rw[List.mem_filterMap]
      exact⟨_,hy,rfl⟩
     | const v=>exact .val (const_rd v)
     | global g=>exact .unk
     | func f=>exact .val (@Rd.clos w _ f [] [] .nil)
    obtain⟨w',h1,h2,h3,_⟩:=store_sound (P:=P) mid.ok sa.eff (hrd p (by simp [sa.op,Op.operands])) (hrd x (by simp [sa.op,Op.operands]))
    unfold wpOp
    rw[ho]
    simp only
    rw[if_pos (by simp [Region.wanted,sa.guard])]
    refine .inl (post_skip (w':=w') ?_ ?_)
    ·simp only [execOp,sa.op,Sem.run_bind,h1,Result.andThen_ok,Sem.run_pure]
    ·refine ih _ _ _ (k+1) (by omega) ?_ ?_
     ·have:(List.range m).countP (fun q=>!(listed.setIfInBounds (m+k) true).getD q true)≤(List.range m).countP (fun q=>!listed.getD q true):=by
       refine List.countP_mono_left fun q hq h=>?_
       rw[getD_set (by rw[mid.lsize];exact hin)] at h
       split at h
       ·simp at h
       ·exact h
      omega
     ·refine⟨h2,by rw[sa.dst];exact mid.size,by rw[sa.dst];exact mid.defers,by simp [mid.lsize],?_,?_,?_,?_,?_⟩
      ·intro j o2 ho2 hl e he hbd
       have up:listed.getD e.on false=true→(listed.setIfInBounds (m+k) true).getD e.on false=true:=by
        intro h
        rw[getD_set (by rw[mid.lsize];exact hin)]
        split
        ·rfl
        ·exact h
       rw[getD_set (by rw[mid.lsize];exact hin)] at hl
       split at hl
       ·rename_i eij
        subst eij
        rw[ho'] at ho2
        cases ho2
        exact up (hedges e he hbd)
       ·exact up (mid.dep j o2 ho2 hl e he hbd)
      ·intro j hj hjn
       rw[getD_set (by rw[mid.lsize];exact hin)]
       split
       ·rename_i e;subst e;simp
       ·rw[mid.tail j hj hjn];simp;omega
      ·intro j hj hfj
       rw[getD_set (by rw[mid.lsize];exact hin)]
       split
       ·rfl
       ·exact mid.nf j hj hfj
      ·intro u j hu hj hl hg
       rw[getD_set (by rw[mid.lsize];exact hin),if_neg (by omega)] at hl
       rw[sa.dst]
       exact h3 _ _ (mid.yes u j hu hj hl hg)
      ·intro u hu hno
       rw[sa.dst]
       refine h3 _ _ (mid.no u hu fun j hj hg=>?_)
       have:=hno j hj hg
       rw[getD_set (by rw[mid.lsize];exact hin),if_neg (by omega)] at this
       exact this
end Go.Proofs.YtkkbddkpggjgpaaGreatDoor
namespace Go.Proofs.YtkkbddkpggjgpaaGreatDoor
open Go.RowKit
variable {P:Program} {C:World→Prop} {Qr:V→Prop} {Qo:Ex→St→Prop}
theorem loadV_fr {t:TypeId}{h h':List Box}(hf:Fr h h'){d:D}{r:Bool × V}(hl:loadV P t h d=some r):loadV P t h' d=some r:=by
 unfold loadV at hl ⊢
 split at hl
 ·obtain⟨hb,hl⟩:=cond_some hl
  obtain⟨ha,hc⟩:=hf.bx hb
  rw[ha,hc]
  exact hl
 ·exact hl
 ·cases hl
def Lt (P:Program)(C:World→Prop)(o:Oper)(g:Operand→D)(d:D)(h':List Box):Prop :=
 isLate o=true→∀ h2,(∀ t x,o.op=.load t x→∀ r,loadV P t h' (g x)=some r→loadV P t h2 (g x)=some r)→YA P C o g d h2
def YA4 (P:Program)(C:World→Prop)(o:Oper)(g:Operand→D)(d:D)(h':List Box):Prop:=YA P C o g d h'∧Lt P C o g d h'
theorem YA4.mono {o:Oper}{g:Operand→D}{d:D}{h h':List Box}(hf:Fr h h')(y:YA4 P C o g d h):YA4 P C o g d h' :=
 ⟨y.1.mono hf,fun hl h2 ha=>y.2 hl h2 fun t x ho r hr=>ha t x ho r (loadV_fr hf hr)⟩
theorem evalA_yields4 {o:Oper}{g:Operand→D}{h:List Box}{k:D→List Box→T}(hw:(evalA P o g h k).wp P C Qr Qo) :
  ∃ d h',Fr h h'∧YA4 P C o g d h'∧(k d h').wp P C Qr Qo:=by
 cases hl:isLate o with
 | false =>
  obtain⟨d,h',h1,h2,h3⟩:=evalA_yields hw
  exact⟨d,h',h1,⟨h2,fun q=>by rw[hl] at q;cases q⟩,h3⟩
 | true =>
  have key:∀ d,(∀ h2,(∀ t x,o.op=.load t x→∀ r,loadV P t h (g x)=some r→loadV P t h2 (g x)=some r)→YA P C o g d h2)→YA4 P C o g d h:=fun d hd=>⟨hd h fun _ _ _ _ hr=>hr,fun _=>hd⟩
  unfold evalA at hw
  unfold isLate at hl
  split at hl
  ·rename_i x ho
   rw[ho] at hw
   refine⟨_,_,Fr.refl _,key _ fun h2 _=>ya_pure fun h'' hf w0 S0 a w ρ ok hr=>⟨a.eval x,by simp [execOp,ho],hr x (by simp [ho,Op.operands])⟩,hw⟩
  ·rename_i c x y ho
   rw[ho] at hw
   simp only at hw
   split at hw
   ·rename_i t hg
    rcases of_br hw with ⟨e1,hw2⟩ | ⟨e1,hw2⟩<;>subst e1<;>clear hw
    ·refine⟨_,_,Fr.refl _,key _ fun h2 _=>ya_pure fun h'' hf w0 S0 a w ρ ok hr=>⟨a.eval x,?_,hr x (by simp [ho,Op.operands])⟩,hw2⟩
     have hc:=hr c (by simp [ho,Op.operands])
     rw[hg] at hc
     simp [execOp,ho,hc.bool_inv,asBool]
    ·refine⟨_,_,Fr.refl _,key _ fun h2 _=>ya_pure fun h'' hf w0 S0 a w ρ ok hr=>⟨a.eval y,?_,hr y (by simp [ho,Op.operands])⟩,hw2⟩
     have hc:=hr c (by simp [ho,Op.operands])
     rw[hg] at hc
     simp [execOp,ho,hc.bool_inv,asBool]
   ·exact hw.elim
  ·rename_i x i ho
   rw[ho] at hw
   simp only at hw
   split at hw
   ·rename_i l hg
    obtain⟨hb,hw⟩:=of_chk hw
    refine⟨_,_,Fr.refl _,key _ fun h2 _=>ya_pure fun h'' hf w0 S0 a w ρ ok hr=>?_,hw⟩
    have hx:=hr x (by simp [ho,Op.operands])
    rw[hg] at hx
    obtain⟨arr,ha,hl⟩:=hx.val_inv.tup_inv
    obtain⟨u,hu,hru⟩:=hl.get (nth_lt .unk (blt_iff.1 hb))
    refine⟨u,?_,.val hru⟩
    have hu':arr.toArray[i]?=some u:=by simpa using hu
    simp [execOp,ho,ha,Instr.extract,hu']
   ·exact hw.elim
  ·rename_i s x f ho
   rw[ho] at hw
   obtain⟨v,hv,hw⟩:=go3_wp hw
   refine⟨_,_,Fr.refl _,key _ fun h2 _=>ya_pure fun h'' hf w0 S0 a w ρ ok hr=>?_,hw⟩
   obtain⟨u,h1,h2⟩:=fieldAddr_run hv (hr x (by simp [ho,Op.operands]))
   exact⟨u,by simp only [execOp,ho,Sem.run_bind,h1,Result.andThen_ok,Sem.run_pure],h2⟩
  ·rename_i t x ho
   rw[ho] at hw
   obtain⟨v,hv,hw⟩:=go1_wp hw
   refine⟨_,_,Fr.refl _,key _ fun h2 ha=>ya_pure fun h'' hf w0 S0 a w ρ ok hr=>?_,hw⟩
   obtain⟨u,h1,h2⟩:=load_any hf (ha t x ho _ hv) ok (hr x (by simp [ho,Op.operands]))
   exact⟨u,by simp only [execOp,ho,Sem.run_bind,h1,Result.andThen_ok,Sem.run_pure],.val h2⟩
  ·rename_i op xt x y yt ho
   rw[ho] at hw
   simp only at hw
   split at hw
   ·rename_i r hb
    obtain⟨kd,n,m,hr',hm,hw2⟩:=goW_wp hw
    clear hw
    cases hr'
    refine⟨_,_,Fr.refl _,key _ fun h2 _=>ya_pure fun h'' hf w0 S0 a w ρ ok hr=>⟨.int kd m,?_,.val .int⟩,hw2⟩
    have h1:=binW_run (P:=P) (xt:=xt) (xo:=x) (yo:=y) hb (hr x (by simp [ho,Op.operands])) (hr y (by simp [ho,Op.operands]))
    simp only [execOp,ho]
    rw[Sem.run_bind,h1,hm]
    rfl
   ·obtain⟨v,hv,hw⟩:=go1_wp hw
    refine⟨_,_,Fr.refl _,key _ fun h2 _=>ya_pure fun h'' hf w0 S0 a w ρ ok hr=>?_,hw⟩
    obtain⟨u,h1,h2⟩:=bin_run (xo:=x) (yo:=y) hv (hr x (by simp [ho,Op.operands])) (hr y (by simp [ho,Op.operands]))
    refine⟨u,?_,.val h2⟩
    simp only [execOp,ho]
    rw[Sem.run_bind,h1]
    rfl
  ·cases hl
theorem evalDr_yields4 {o:Oper}{g:Operand→D}{h:List Box}{k:D→List Box→T}(hw:(evalDr P o g h k).wp P C Qr Qo) :
  ∃ d h',Fr h h'∧((isAS o=false∧YA4 P C o g d h')∨(isAS o=true∧d=.unk))∧(k d h').wp P C Qr Qo:=by
 cases hl:isLate o with
 | false =>
  obtain⟨d,h',h1,h2,h3⟩:=evalDr_yields hw
  exact⟨d,h',h1,h2.imp (fun y=>⟨y.1,y.2,fun q=>by rw[hl] at q;cases q⟩) id,h3⟩
 | true =>
  unfold evalDr at hw
  split at hw
  ·rename_i t len parts ho
   unfold isLate at hl;rw[ho] at hl;cases hl
  ·rcases of_cond hw with ⟨ha,hw⟩ | ⟨ha,hw⟩
   ·exact⟨_,_,Fr.refl _,.inr ⟨ha,rfl⟩,hw⟩
   ·obtain⟨_,hw⟩:=of_chk' hw
    obtain⟨d,h',h1,h2,h3⟩:=evalA_yields4 hw
    exact⟨d,h',h1,.inl ⟨ha,h2⟩,h3⟩
def Ent4 (P:Program)(C:World→Prop)(ops:Array Oper)(S:List D)(o:Oper)(d:D)(h':List Box):Prop :=
 (o.guard=none∧((isAS o=false∧YA4 P C o (getD S) d h')∨(isAS o=true∧d=.unk))) ∨
 ∃ j want t,o.guard=some (j,want)∧gslot ops j=some t∧((∃ b,nth S t .unk=.val (.bool b)∧((b=want∧((isAS o=false∧YA4 P C o (getD S) d h')∨(isAS o=true∧d=.unk)))∨(b≠want∧d=undD)))∨(nth S t .unk=undD∧d=undD))
theorem Ent4.mono {ops:Array Oper}{S:List D}{o:Oper}{d:D}{h h':List Box}(hf:Fr h h')(e:Ent4 P C ops S o d h):Ent4 P C ops S o d h':=by
 rcases e with ⟨h1,h2⟩ | ⟨j,want,t,h1,h2,⟨b,h3,h4⟩ | h3⟩
 ·exact .inl ⟨h1,h2.imp (fun y=>⟨y.1,y.2.mono hf⟩) id⟩
 ·refine .inr ⟨j,want,t,h1,h2,.inl ⟨b,h3,?_⟩⟩
  rcases h4 with ⟨h4,h5⟩ | h4
  ·exact .inl ⟨h4,h5.imp (fun y=>⟨y.1,y.2.mono hf⟩) id⟩
  ·exact .inr h4
 ·exact .inr ⟨j,want,t,h1,h2,.inr h3⟩
theorem extract4 (ops:Array Oper){k:St→T}:∀ (l:List Oper) (i:Nat) (S:List D) (h:List Box),(∀ q o,l[q]?=some o→ops[i+q]?=some o) →
  (evalOps P ops true l ⟨S,h⟩ k).wp P C Qr Qo→∃ ds h',ds.length=l.length∧Fr h h' ∧
   (∀ q o,l[q]?=some o→Ent4 P C ops (SSf ops S i ds q) o (nth ds q .unk) h')∧(k ⟨SSf ops S i ds l.length,h'⟩).wp P C Qr Qo
 | [],i,S,h,_,hw=>⟨[],h,rfl,Fr.refl _,(fun q o hq=>by simp at hq),by simpa [SSf,evalOps] using hw⟩
 | o::rest,i,S,h,hops,hw=>by
  have hi:ops[i]?=some o:=by simpa using hops 0 o rfl
  have hdst:gslot ops i=o.dst:=by simp [gslot,hi]
  have hrest:∀ q p,rest[q]?=some p→ops[(i+1)+q]?=some p:=fun q p hq=>by
   have:=hops (q+1) p (by simpa using hq)
   rwa [show i+(q+1)=(i+1)+q by omega] at this
  have go:∀ (d:D) (h1:List Box),Fr h h1→Ent4 P C ops S o d h1→(evalOps P ops true rest ⟨putO S o.dst d,h1⟩ k).wp P C Qr Qo →
    ∃ ds h',ds.length=(o::rest).length∧Fr h h'∧(∀ q p,(o::rest)[q]?=some p→Ent4 P C ops (SSf ops S i ds q) p (nth ds q .unk) h') ∧
     (k ⟨SSf ops S i ds (o::rest).length,h'⟩).wp P C Qr Qo:=by
   intro d h1 hf he hw
   obtain⟨ds,h',e1,e2,e3,e4⟩:=extract4 ops rest (i+1) _ h1 hrest hw
   refine⟨d::ds,h',by simp [e1],hf.trans e2,?_,?_⟩
   ·intro q p hq
    cases q with
    | zero =>
     simp at hq
     subst hq
     exact he.mono e2
    | succ q =>
     have:=e3 q p (by simpa using hq)
     simp only [SSf,nth]
     rw[hdst]
     exact this
   ·simp only [List.length_cons,SSf]
    rw[hdst]
    exact e4
  unfold evalOps at hw
  cases hg:o.guard with
  | none =>
   rw[hg] at hw
   simp only at hw
   rw[evalOp_dr] at hw
   obtain⟨d,h1,hf,hy,hw⟩:=evalDr_yields4 hw
   exact go d h1 hf (.inl ⟨hg,hy⟩) hw
  | some jw =>
   obtain⟨j,want⟩:=jw
   rw[hg] at hw
   simp only at hw
   split at hw
   ·rename_i t hj
    split at hw
    ·rename_i b ht
     have run:∀ c:Bool,b=c→c=want→(evalOp P true o (getD (S.set t (.val (.bool c)))) h fun d h=>evalOps P ops true rest ⟨putO (S.set t (.val (.bool c))) o.dst d,h⟩ k).wp P C Qr Qo →
       ∃ ds h',ds.length=(o::rest).length∧Fr h h'∧(∀ q p,(o::rest)[q]?=some p→Ent4 P C ops (SSf ops S i ds q) p (nth ds q .unk) h') ∧
        (k ⟨SSf ops S i ds (o::rest).length,h'⟩).wp P C Qr Qo:=by
      intro c hbc hcw hw
      subst hbc
      rw[set_same ht] at hw
      rw[evalOp_dr] at hw
      obtain⟨d,h1,hf,hy,hw⟩:=evalDr_yields4 hw
      exact go d h1 hf (.inr ⟨j,want,t,hg,hj,.inl ⟨b,ht,.inl ⟨hcw,hy⟩⟩⟩) hw
     have skip:∀ c:Bool,b=c→c≠want→(evalOps P ops true rest ⟨putO (S.set t (.val (.bool c))) o.dst undD,h⟩ k).wp P C Qr Qo →
       ∃ ds h',ds.length=(o::rest).length∧Fr h h'∧(∀ q p,(o::rest)[q]?=some p→Ent4 P C ops (SSf ops S i ds q) p (nth ds q .unk) h') ∧
        (k ⟨SSf ops S i ds (o::rest).length,h'⟩).wp P C Qr Qo:=by
      intro c hbc hcw hw
      subst hbc
      rw[set_same ht] at hw
      exact go undD h (Fr.refl _) (.inr ⟨j,want,t,hg,hj,.inl ⟨b,ht,.inr ⟨hcw,rfl⟩⟩⟩) hw
     rcases of_br hw with ⟨hb,hw2⟩ | ⟨hb,hw2⟩<;>clear hw<;>rcases of_cond hw2 with ⟨hwt,hw⟩ | ⟨hwt,hw⟩
     ·exact run true hb hwt.symm hw
     ·exact skip true hb (by rw[hwt];simp) hw
     ·exact skip false hb (by rw[hwt];simp) hw
     ·exact run false hb hwt.symm hw
    ·rename_i ht
     exact go undD h (Fr.refl _) (.inr ⟨j,want,t,hg,hj,.inr ⟨ht,rfl⟩⟩) hw
    ·exact hw.elim
   ·exact hw.elim
theorem Ent4.ent {ops:Array Oper}{S:List D}{o:Oper}{d:D}{h:List Box}(e:Ent4 P C ops S o d h):Ent P C ops S o d h:=by
 rcases e with ⟨h1,h2⟩ | ⟨j,want,t,h1,h2,⟨b,h3,h4⟩ | h3⟩
 ·exact .inl ⟨h1,h2.imp (fun y=>⟨y.1,y.2.1⟩) id⟩
 ·refine .inr ⟨j,want,t,h1,h2,.inl ⟨b,h3,?_⟩⟩
  rcases h4 with ⟨h4,h5⟩ | h4
  ·exact .inl ⟨h4,h5.imp (fun y=>⟨y.1,y.2.1⟩) id⟩
  ·exact .inr h4
 ·exact .inr ⟨j,want,t,h1,h2,.inr h3⟩
theorem Ent4.at {ops:Array Oper}{S:List D}{o:Oper}{d:D}{h h2:List Box}(e:Ent4 P C ops S o d h)(hl:isLate o=true)(ha:∀ t x,o.op=.load t x→∀ r,loadV P t h (getD S x)=some r→loadV P t h2 (getD S x)=some r):Ent P C ops S o d h2:=by
 rcases e with ⟨h1,h3⟩ | ⟨j,want,t,h1,h2',⟨b,h3,h4⟩ | h3⟩
 ·exact .inl ⟨h1,h3.imp (fun y=>⟨y.1,y.2.2 hl h2 ha⟩) id⟩
 ·refine .inr ⟨j,want,t,h1,h2',.inl ⟨b,h3,?_⟩⟩
  rcases h4 with ⟨h4,h5⟩ | h4
  ·exact .inl ⟨h4,h5.imp (fun y=>⟨y.1,y.2.2 hl h2 ha⟩) id⟩
  ·exact .inr h4
 ·exact .inr ⟨j,want,t,h1,h2',.inr h3⟩
end Go.Proofs.YtkkbddkpggjgpaaGreatDoor
namespace Go.Proofs.YtkkbddkpggjgpaaGreatDoor
open Go.RowKit
variable {P:Program} {C:World→Prop} {Qr:V→Prop} {Qo:Ex→St→Prop}
theorem isStore_of {o:Oper}(h:isStore o=true):∃ t p x,o.op=.store t p x∧o.guard=none∧o.dst=none:=by
 unfold isStore at h
 split at h
 ·rename_i t p x ho
  simp only [Bool.and_eq_true,Option.isNone_iff_eq_none] at h
  exact⟨t,p,x,ho,h.1,h.2⟩
 ·cases h
theorem extractS {ops:Array Oper}{k:St→T}:∀ (n j:Nat) (st:St),(∀ r,r<n→∃ o t p x,ops[j+r]?=some o∧o.op=.store t p x∧o.guard=none∧o.dst=none) →
  (evalOps P ops false (ops.toList.drop j) st k).wp P C Qr Qo→∃ H:Nat→List Box,H 0=st.h ∧
   (∀ r,r<n→∀ o t p x,ops[j+r]?=some o→o.op=.store t p x→storeH P t (H r) (getD st.s p) (getD st.s x)=some (true,H (r+1))) ∧
   (evalOps P ops false (ops.toList.drop (j+n)) ⟨st.s,H n⟩ k).wp P C Qr Qo
 | 0,j,st,_,hw=>⟨fun _=>st.h,rfl,fun r hr=>by omega,hw⟩
 | n+1,j,st,hs,hw=>by
  obtain⟨o,t,p,x,h0,h1,h2,h3⟩:=hs 0 (by omega)
  rw[Nat.add_zero] at h0
  have hd:ops.toList.drop j=o::ops.toList.drop (j+1):=by
   have hlt:=lt_op h0
   rw[List.drop_eq_getElem_cons (by simpa using hlt)]
   congr 1
   rw[Array.getElem?_eq_getElem hlt] at h0
   simpa using Option.some.inj h0
  rw[hd] at hw
  unfold evalOps at hw
  rw[h2] at hw
  simp only at hw
  unfold evalOp at hw
  rw[show heapOp o.op=true by rw[h1];rfl] at hw
  replace hw:(evalH P o (getD st.s) st.h fun d h=>evalOps P ops false (ops.toList.drop (j+1)) ⟨putO st.s o.dst d,h⟩ k).wp P C Qr Qo:=hw
  unfold evalH at hw
  rw[h1] at hw
  simp only at hw
  split at hw
  ·rename_i c h' hst
   obtain⟨ec,hw2⟩:=of_brk hw
   clear hw
   subst ec
   rw[h3] at hw2
   obtain⟨H,e1,e2,e3⟩:=extractS n (j+1) ⟨st.s,h'⟩ (fun r hr=>by
    have:=hs (r+1) (by omega)
    rwa [show j+(r+1)=j+1+r by omega] at this) hw2
   refine⟨fun r=>match r with | 0=>st.h | r+1=>H r,rfl,?_,?_⟩
   ·intro r hr o' t' p' x' g1 g2
    cases r with
    | zero =>
     rw[Nat.add_zero,h0] at g1
     cases g1
     rw[h1] at g2
     cases g2
     show storeH P t st.h (getD st.s p) (getD st.s x)=some (true,H 0)
     rw[e1]
     exact hst
    | succ r=>exact e2 r (by omega) o' t' p' x' (by rwa [show j+(r+1)=j+1+r by omega] at g1) g2
   ·show (evalOps P ops false (ops.toList.drop (j+(n+1))) ⟨st.s,H n⟩ k).wp P C Qr Qo
    rw[show j+(n+1)=j+1+n by omega]
    exact e3
  ·exact hw.elim
theorem storeH_bx {t:TypeId}{h h':List Box}{c off:Nat}{dx:D}{q:Bool}(hs:storeH P t h (.own c off) dx=some (q,h')){b:Nat}(hb:b≠c):bx h' b=bx h b:=by
 unfold storeH at hs
 split at hs
 ·rename_i b' off' v e
  cases e
  obtain⟨_,hs⟩:=cond_some hs
  cases hs
  unfold bx setBox
  rw[nth_eq,List.getElem?_set,if_neg (fun e=>hb e.symm),nth_eq]
 ·cases hs
theorem getD_end {ops:Array Oper}{m:Nat}(head:HeadF ops m){S ds:List D}(hds:ds.length=m){i:Nat}(hi:i<m){o:Oper}(ho:ops[i]?=some o){x:Operand}(hx:x∈o.op.operands.toList) :
  getD (SSf ops S 0 ds i) x=getD (SSf ops S 0 ds m) x:=by
 cases x with
 | tmp u =>
  show unpin _=unpin _
  congr 1
  obtain⟨o',d,ho',hdst,hdis,hn,_⟩:=head i hi
  rw[ho] at ho'
  cases ho'
  have hu:u∈namesT o:=by
   unfold namesT
   rw[List.mem_filterMap]
   exact⟨_,hx,rfl⟩
  by_cases ht:u<S.length
  ·by_cases hex:∃ j,j<m∧gslot ops j=some u
   ·obtain⟨j,hj,hg⟩:=hex
    obtain⟨hji,_⟩:=hn u hu j hj hg
    obtain⟨oj,dj,hoj,hdj,hdisj,_,_⟩:=head j hj
    have hgd:dj=u:=by unfold gslot at hg;rw[hoj] at hg;simp [hdj] at hg;exact hg
    rw[SSf_at ops u i S 0 ds j hji (by omega) (by simpa using hg) ht (fun j' hj' hne=>by simpa [hgd] using hdisj j' (by omega) hne),
     SSf_at ops u m S 0 ds j hj (by omega) (by simpa using hg) ht (fun j' hj' hne=>by simpa [hgd] using hdisj j' hj' hne)]
   ·rw[SSf_other ops u i S 0 ds (fun j hj hg=>hex ⟨j,by omega,by simpa using hg⟩),SSf_other ops u m S 0 ds (fun j hj hg=>hex ⟨j,hj,by simpa using hg⟩)]
  ·have e:∀ q,nth (SSf ops S 0 ds q) u .unk=.unk:=fun q=>by rw[nth_eq,List.getElem?_eq_none (by rw[SSf_len];exact Nat.le_of_not_lt ht)];rfl
   rw[e,e]
 | const v=>rfl
 | global g=>rfl
 | func f=>rfl
theorem late_sound (hst:Stable C){ops:Array Oper}(hna:ops.toList.any isAl=false)(hd:lateOk ops (tailAt ops) (storesN ops)=true){w0:Base}{S0:Nat→Prop}(hC:Hold C w0)(hS:∀ b,w0.own b→S0 b){Q:Exit→Act→World→Prop}{S:List D}{ds:List D}{h':List Box}{ρ:List Nat}{k:St→T}
  (hQ:∀ st a w ρ,OkS w0 S0 st a w ρ→(k st).wp P C Qr Qo→Q .normal a w)
  (hds:ds.length=tailAt ops) (hent:∀ q o,q<tailAt ops→ops[q]?=some o→Ent4 P C ops (SSf ops S 0 ds q) o (nth ds q .unk) h')
  (hld:ldOk ops (tailAt ops) (storesN ops) (SSf ops S 0 ds (tailAt ops))=true)
  (hw:(evalOps P ops false (ops.toList.drop (tailAt ops)) ⟨SSf ops S 0 ds (tailAt ops),h'⟩ k).wp P C Qr Qo) :
  ∀ (fuel:Nat) (listed:Array Bool) (a:Act) (w:World),(List.range (tailAt ops)).countP (fun i=>!listed.getD i true)+(ops.size-tailAt ops)≤fuel →
   Mid w0 S0 ops (tailAt ops) S ds h' ρ listed a w→wpAny P .any ops Q fuel listed a w:=by
 generalize hs:storesN ops=s at *
 unfold lateOk at hd
 simp only [Bool.and_eq_true] at hd
 obtain⟨⟨⟨⟨⟨htail,hhead⟩,hback⟩,hms⟩,hsto⟩,hlate⟩:=hd
 have hms:tailAt ops+s≤ops.size:=by simpa using hms
 have head:=head_f hhead
 have hst0:∀ r,r<s→∃ o t p x,ops[tailAt ops+r]?=some o∧o.op=.store t p x∧o.guard=none∧o.dst=none ∧
   (∀ u∈namesT o,∀ i,i<tailAt ops→gslot ops i=some u→reach ops 5 (tailAt ops+r) i=true)∧∀ q,q<r→reach ops 5 (tailAt ops+r) (tailAt ops+q)=true:=by
  intro r hr
  have h1:=List.all_eq_true.1 hsto r (List.mem_range.2 hr)
  simp only [Bool.and_eq_true] at h1
  obtain⟨h1,h2⟩:=h1
  split at h1
  ·rename_i o ho
   simp only [Bool.and_eq_true] at h1
   obtain⟨t,p,x,g1,g2,g3⟩:=isStore_of h1.1
   refine⟨o,t,p,x,ho,g1,g2,g3,fun u hu i hi hg=>?_,fun q hq=>List.all_eq_true.1 h2 q (List.mem_range.2 hq)⟩
   have:=List.all_eq_true.1 (List.all_eq_true.1 h1.2 u hu) i (List.mem_range.2 hi)
   rw[hg] at this
   simpa using this
  ·cases h1
 obtain⟨H,e0,e1,e2⟩:=extractS s (tailAt ops) _ (fun r hr=>by obtain⟨o,t,p,x,a,b,c,d,_⟩:=hst0 r hr;exact⟨o,t,p,x,a,b,c,d⟩) hw
 simp only at e0 e1
 refine draw_gen hst hna (fun i=>!allSt ops (tailAt ops) s i) hhead hback ?_ hC hS hds (fun q o hq ho=>(hent q o hq ho).ent) ?_
 ·intro j i hj hjs hi hfl
  simp only [Bool.not_eq_false'] at hfl
  rcases Nat.lt_or_ge j (tailAt ops+s) with q | q
  ·have:=List.all_eq_true.1 hfl (j-tailAt ops) (List.mem_range.2 (by omega))
   rwa [show tailAt ops+(j-tailAt ops)=j by omega] at this
  ·have:=List.all_eq_true.1 htail j (List.mem_range.2 hjs)
   simp only [Bool.or_eq_true] at this
   rcases this with q2 | q2
   ·have:=blt_iff.1 q2;omega
   ·exact List.all_eq_true.1 q2 i (List.mem_range.2 (by omega))
 ·intro fuel listed a w hf hall mid
  subst e0
  refine late_end hst hna (m:=tailAt ops) (s:=s) (H:=H) (S:=S) (ρ:=ρ) (fun i=>!allSt ops (tailAt ops) s i) head hback hms htail hC hS hds ?_ ?_ ?_ fuel listed a w 0 (Nat.zero_le _) (by simpa using hf) ?_
  ·intro r hr
   obtain⟨o,t,p,x,a1,a2,a3,a4,a5,a6⟩:=hst0 r hr
   exact⟨o,t,p,x,a1,a2,a3,a4,e1 r hr o t p x a1 a2,a5,a6⟩
  ·intro k hk i hi hfl o ho
   have hl:=List.all_eq_true.1 hlate i (List.mem_range.2 hi)
   simp only [Bool.not_eq_true'] at hfl
   rw[hfl,ho] at hl
   have hl:isLate o=true:=by simpa using hl
   refine (hent i o hi ho).at hl fun t x hop r hr=>?_
   have h1:=List.all_eq_true.1 hld i (List.mem_range.2 hi)
   rw[hfl,ho] at h1
   simp only [hop,Bool.false_or] at h1
   rw[getD_end head hds hi ho (x:=x) (by simp [hop,Op.operands])] at hr ⊢
   split at h1
   ·rename_i b off hb
    rw[hb] at hr ⊢
    have hbx:∀ q,q≤s→bx (H q) b=bx (H 0) b:=by
     intro q
     induction q with
     | zero=>exact fun _=>rfl
     | succ q ihq =>
      intro hq
      obtain⟨o2,t2,p2,x2,a1,a2,_⟩:=hst0 q (by omega)
      have g:=List.all_eq_true.1 h1 q (List.mem_range.2 (by omega))
      rw[a1] at g
      simp only [a2] at g
      split at g
      ·rename_i c off2 hc
       have:=e1 q (by omega) o2 t2 p2 x2 a1 a2
       rw[hc] at this
       rw[storeH_bx this (fun e=>by subst e;simp at g)]
       exact ihq (by omega)
      ·cases g
    unfold loadV at hr ⊢
    simp only at hr ⊢
    rw[hbx k hk]
    exact hr
   ·cases h1
  ·intro a w ok
   have:=evalOps_sound hst (ops:=ops) hC hS (Q:=Q) hQ (ops.toList.drop (tailAt ops+s)) (tailAt ops+s) _ a w ρ rfl ok e2
   simpa using this
  ·refine⟨mid.ok,mid.size,mid.defers,mid.lsize,mid.dep,?_,?_,mid.yes,mid.no⟩
   ·intro j hj hjn
    rw[mid.tail j hj hjn]
    simp;omega
   ·intro i hi hfl
    exact hall i hi hfl
end Go.Proofs.YtkkbddkpggjgpaaGreatDoor

namespace Go.Proofs.YtkkbddkpggjgpaaGreatDoor
open Go.RowKit
variable {P:Program} {C:World→Prop} {Qr:V→Prop} {Qo:Ex→St→Prop}
theorem OkS.drew {w0 S0 st a w ρ}(ok:OkS w0 S0 st a w ρ):OkS w0 S0 st a { w with drawn:=w.drawn+1 } ρ:=by
 have hb:Below w.heap.size w { w with drawn:=w.drawn+1 }:=⟨rfl,rfl,rfl,Nat.le_refl _,fun _ _=>rfl⟩
 exact⟨ok.ok.grow hb,ok.size,fun t=>(ok.slots t).grow hb,ok.defers⟩
theorem evalR_sound (hP:P.follows .mixedOrders=true)(hst:Stable C){ops:Array Oper}{draw:Bool}{id:Nat}{w0:Base}{S0:Nat→Prop}(hC:Hold C w0)(hS:∀ b,w0.own b→S0 b)
  {Q:Exit→Act→World→Prop} {k:St→T} (hQ:∀ st a w ρ,OkS w0 S0 st a w ρ→(k st).wp P C Qr Qo→Q .normal a w) {st:St} {a:Act} {w:World} {ρ:List Nat} (ok:OkS w0 S0 st a w ρ)
  (hw:(evalR P ops draw st k).wp P C Qr Qo):(Code.region id ops draw).wp P Q a w:=by
 unfold evalR at hw
 cases draw with
 | false =>
  refine wp_region ?_
  rw[List.range_eq_range']
  have:=evalOps_sound hst (ops:=ops) hC hS (Q:=Q) hQ ops.toList 0 st a w ρ (by simp) ok hw
  simpa using this
 | true =>
  rcases of_cond (show (cond (ops.toList.any isAl) _ _:T).wp P C Qr Qo from hw) with ⟨hal,hw⟩ | ⟨hal,hw⟩
  ·obtain⟨hd,hw⟩:=of_chk (show (cond (drawOk2 ops) _ T.fail).wp P C Qr Qo from hw)
   refine wp_region_any hP ?_
   have ok:=ok.drew
   obtain⟨ds,h',e1,e2,e3,e4⟩:=extract ops ops.toList 0 st.s st.h (fun q o hq=>by simpa using hq) hw
   have e1:ds.length=ops.size:=by simpa using e1
   rw[Array.length_toList] at e4
   obtain⟨cs,h1,h2⟩:=finA_wp (ops:=ops.toList) (S:=SSf ops st.s 0 ds ops.size) ops.toList _ rfl (fun d x hs=>⟨rfl,fun o ho t e hop hdst hx=>by
    obtain⟨p,hp,u,hu⟩:=storeOf_some hs
    obtain⟨i,hi,ei⟩:=List.mem_iff_getElem.1 hp
    have gi:ops[i]?=some p:=by rw[← Array.getElem?_toList,List.getElem?_eq_getElem hi,ei]
    obtain⟨j,hj,ej⟩:=List.mem_iff_getElem.1 ho
    have gj:ops[j]?=some o:=by rw[← Array.getElem?_toList,List.getElem?_eq_getElem hj,ej]
    cases kind_of hd gi with
    | al t2 d2 m1=>rw[m1] at hu;cases hu
    | pu d2 m0 m1 m2 m3 m4 m5=>exact m5 u d x hu
    | st t2 b2 y2 j2 p2 m1 m2 m3 m4 m5 m6 m7 m8 m9 m10 =>
     rw[m1] at hu;cases hu
     have:=(m10 e hx j o gj hdst).2.2
     unfold isAl at this
     rw[hop] at this
     cases this⟩) e4
   refine draw2_sound hst hd hC (S:=st.s) (ds:=ds) (h':=h') (ρ:=ρ) e1 (fun q o ho=>e3 q o (by rw[Array.getElem?_toList];exact ho)) h1 (fun a w ρ ok=>hQ _ a w ρ ok h2) _ _ S0 _ _ ?_ ?_
   ·have:(List.range ops.size).countP (fun i=>!(Array.replicate ops.size false).getD i true)≤(List.range ops.size).length:=List.countP_le_length
    simp only [List.length_range] at this
    omega
   ·have hno:∀ i,(Array.replicate ops.size false).getD i false=false:=by
     intro i
     rw[Array.getD_eq_getD_getElem?,Array.getElem?_replicate]
     split<;>rfl
    refine⟨ok.ok.fr e2,fun _ q=>q,allS_of ok.ok hS,ok.size,ok.defers,by simp,?_,?_,?_,?_,?_⟩
    ·intro i o _ hl;rw[hno] at hl;cases hl
    ·intro t i _ _ hl _;rw[hno] at hl;cases hl
    ·intro t _ _;exact (ok.slots t).fr e2
    ·intro i o t d _ _ _ hl;rw[hno] at hl;cases hl
    ·intro i i' o o' t t' d d' β _ _ _ _ _ _ hl;rw[hno] at hl;cases hl
  ·rcases of_cond (show (cond (drawOk ops || drawOk3 ops) _ _:T).wp P C Qr Qo from hw) with ⟨hd,hw⟩ | ⟨_,hw⟩
   ·refine wp_region_any hP ?_
    have ok:=ok.drew
    have hle:=tail_le ops
    obtain⟨ds,h',e1,e2,e3,e4⟩:=extract ops (ops.toList.take (tailAt ops)) 0 st.s st.h (fun q o hq=>by
     rw[List.getElem?_take] at hq
     split at hq
     ·simpa using hq
     ·cases hq) hw
    have hlen:(ops.toList.take (tailAt ops)).length=tailAt ops:=by simp;omega
    rw[hlen] at e1 e4
    have hent:∀ q o,q<tailAt ops→ops[q]?=some o→Ent P C ops (SSf ops st.s 0 ds q) o (nth ds q .unk) h':=fun q o hq ho =>
     e3 q o (by rw[List.getElem?_take,if_pos hq];simpa using ho)
    have hcount:(List.range (tailAt ops)).countP (fun i=>!(Array.replicate ops.size false).getD i true)+(ops.size-tailAt ops)≤ops.size:=by
     have:(List.range (tailAt ops)).countP (fun i=>!(Array.replicate ops.size false).getD i true)≤(List.range (tailAt ops)).length:=List.countP_le_length
     simp only [List.length_range] at this
     omega
    have hmid:Mid w0 S0 ops (tailAt ops) st.s ds h' ρ (Array.replicate ops.size false) a { w with drawn:=w.drawn+1 }:=by
     refine⟨ok.ok.fr e2,ok.size,ok.defers,by simp,(fun j o _ hl=>by
      rw[Array.getD_eq_getD_getElem?,Array.getElem?_replicate] at hl
      split at hl<;>cases hl),?_,?_,?_⟩
     ·intro j _ hj
      simp [Array.getD_eq_getD_getElem?,hj]
     ·intro t i _ _ hl _
      exfalso
      rw[Array.getD_eq_getD_getElem?] at hl
      by_cases hi:i<ops.size
      ·simp [hi] at hl
      ·simp [hi] at hl
     ·intro t _ _
      exact (ok.slots t).fr e2
    rw[Bool.or_eq_true] at hd
    rcases hd with hd | hd
    ·refine draw_sound hst hal hd hC hS (S:=st.s) (ds:=ds) (h':=h') (ρ:=ρ) e1 hent ?_ _ _ _ _ hcount hmid
     intro a w ok'
     have:=evalOps_sound hst (ops:=ops) hC hS (Q:=Q) hQ (ops.toList.drop (tailAt ops)) (tailAt ops) _ a w ρ rfl ok' e4
     simpa using this
    ·exact draw3_sound hst hal hd hC hS hQ e1 hent e4 _ _ _ hcount hmid
   ·obtain⟨hd,hw⟩:=of_chk (show (cond (lateOk ops (tailAt ops) (storesN ops)) _ T.fail).wp P C Qr Qo from hw)
    refine wp_region_any hP ?_
    have ok:=ok.drew
    have hle:=tail_le ops
    obtain⟨ds,h',e1,e2,e3,e4⟩:=extract4 ops (ops.toList.take (tailAt ops)) 0 st.s st.h (fun q o hq=>by
     rw[List.getElem?_take] at hq
     split at hq
     ·simpa using hq
     ·cases hq) hw
    have hlen:(ops.toList.take (tailAt ops)).length=tailAt ops:=by simp;omega
    rw[hlen] at e1 e4
    have hent:∀ q o,q<tailAt ops→ops[q]?=some o→Ent4 P C ops (SSf ops st.s 0 ds q) o (nth ds q .unk) h':=fun q o hq ho =>
     e3 q o (by rw[List.getElem?_take,if_pos hq];simpa using ho)
    have hcount:(List.range (tailAt ops)).countP (fun i=>!(Array.replicate ops.size false).getD i true)+(ops.size-tailAt ops)≤ops.size:=by
     have:(List.range (tailAt ops)).countP (fun i=>!(Array.replicate ops.size false).getD i true)≤(List.range (tailAt ops)).length:=List.countP_le_length
     simp only [List.length_range] at this
     omega
    have hmid:Mid w0 S0 ops (tailAt ops) st.s ds h' ρ (Array.replicate ops.size false) a { w with drawn:=w.drawn+1 }:=by
     refine⟨ok.ok.fr e2,ok.size,ok.defers,by simp,(fun j o _ hl=>by
      rw[Array.getD_eq_getD_getElem?,Array.getElem?_replicate] at hl
      split at hl<;>cases hl),?_,?_,?_⟩
     ·intro j _ hj
      simp [Array.getD_eq_getD_getElem?,hj]
     ·intro t i _ _ hl _
      exfalso
      rw[Array.getD_eq_getD_getElem?] at hl
      by_cases hi:i<ops.size
      ·simp [hi] at hl
      ·simp [hi] at hl
     ·intro t _ _
      exact (ok.slots t).fr e2
    obtain⟨hl,hw⟩:=of_chk e4
    exact late_sound hst hal hd hC hS hQ e1 hent hl hw _ _ _ _ hcount hmid
def After (P:Program)(C:World→Prop)(Qr:V→Prop)(Qo:Ex→St→Prop)(w0:Base)(S0:Nat→Prop)(k:Ex→St→T)(e:Exit)(a:Act)(w:World):Prop :=
 ∃ ex st ρ,e=Ex.to ex∧OkS w0 S0 st a w ρ∧(k ex st).wp P C Qr Qo
theorem evalC_sound (hP:P.follows .mixedOrders=true)(hst:Stable C){w0:Base}{S0:Nat→Prop}(hC:Hold C w0)(hS:∀ b,w0.own b→S0 b):∀ (c:Code) (st:St) (k:Ex→St→T) (a:Act) (w:World) (ρ:List Nat),
  OkS w0 S0 st a w ρ→(evalC P c st k).wp P C Qr Qo→c.wp P (After P C Qr Qo w0 S0 k) a w:=by
 intro c
 induction c with
 | skip=>exact fun st k a w ρ ok hw=>wp_skip ⟨.normal,st,ρ,rfl,ok,hw⟩
 | region id ops draw=>exact fun st k a w ρ ok hw=>evalR_sound hP hst hC hS (fun st' a' w' ρ' ok' hw'=>⟨.normal,st',ρ',rfl,ok',hw'⟩) ok hw
 | seq x y ihx ihy =>
  intro st k a w ρ ok hw
  refine wp_seq (wp_mono (ihx st _ a w ρ ok hw) ?_)
  rintro e a' w' ⟨ex,st',ρ',rfl,ok',hw'⟩
  cases ex with
  | normal=>exact ihy st' k a' w' ρ' ok' hw'
  | exit id=>exact⟨.exit id,st',ρ',rfl,ok',hw'⟩
  | ret=>exact⟨.ret,st',ρ',rfl,ok',hw'⟩
 | cond c x y ihx ihy =>
  intro st k a w ρ ok hw
  unfold evalC at hw
  split at hw
  ·rename_i t hc
   have hv:=eval_get ok c
   rw[hc] at hv
   rcases of_br hw with ⟨e1,hw2⟩ | ⟨e1,hw2⟩<;>subst e1
   ·exact wp_cond_true hv.bool_inv (ihx st k a w ρ ok hw2)
   ·exact wp_cond_false hv.bool_inv (ihy st k a w ρ ok hw2)
  ·exact hw.elim
 | block id c ih =>
  intro st k a w ρ ok hw
  refine wp_block (wp_mono (ih st _ a w ρ ok hw) ?_)
  rintro e a' w' ⟨ex,st',ρ',rfl,ok',hw'⟩
  cases ex with
  | normal=>exact⟨.normal,st',ρ',rfl,ok',hw'⟩
  | exit i =>
   simp only [Ex.to,Exit.inBlock]
   rcases of_cond (show (cond (Nat.beq i id) (k .normal st') (k (.exit i) st')).wp P C Qr Qo from hw') with ⟨hb,hw'⟩ | ⟨hb,hw'⟩
   ·rw[if_pos (Nat.eq_of_beq_eq_true hb)]
    exact⟨.normal,st',ρ',rfl,ok',hw'⟩
   ·rw[if_neg (fun e=>by rw[e,Nat.beq_refl] at hb;cases hb)]
    exact⟨.exit i,st',ρ',rfl,ok',hw'⟩
  | ret=>exact⟨.ret,st',ρ',rfl,ok',hw'⟩
 | loop body ih =>
  rintro st k a w ρ ok ⟨R,hR,hw⟩
  refine wp_mono (hR w0 S0 hC hS a w ρ ok) ?_
  rintro e a' w' ⟨ex,st',ρ',rfl,hr,ok'⟩
  exact⟨ex,st',ρ',rfl,ok',hw ex st' hr⟩
 | exit id=>exact fun st k a w ρ ok hw=>wp_exit ⟨.exit id,st,ρ,rfl,ok,hw⟩
 | ret=>exact fun st k a w ρ ok hw=>wp_ret ⟨.ret,st,ρ,rfl,ok,hw⟩
 | rangeFunc=>exact fun st k a w ρ ok hw=>hw.elim
 | scope=>exact fun st k a w ρ ok hw=>hw.elim
 | label=>exact fun st k a w ρ ok hw=>hw.elim
 | goto=>exact fun st k a w ρ ok hw=>hw.elim
 | refuse=>exact fun st k a w ρ ok hw=>hw.elim
theorem res_run {w0 S0 st a w ρ}(ok:OkS w0 S0 st a w ρ)(hS:∀ b,w0.own b→S0 b){r:ResultVar}{v:V}(hr:resD P st r=some (true,v)) :
  ∃ x,(match r with
   | .tmp t=>pure (a.tmps.getD t undef)
   | .cell ad t=>do loadVar t (← asAddr (a.tmps.getD ad undef)):Sem Value).run P w=.ok x w∧Rd w S0 x v:=by
 have toS0:∀ {h:List Box} {x:Value} {v:V},Rd w (stab S0 ρ h) x v→Rd w S0 x v:=fun q=>q.lasts ⟨Nat.le_refl _,fun _ _ hs=>⟨hs.1,rfl⟩⟩
 have hall:∀ (b:Nat) (x:Box),(frz st.h (List.range st.h.length))[b]?=some x→x.frozen=true:=fun b x hx =>
  frz_frozen _ _ b x (List.mem_range.2 (by have:=lt_of_get hx;rwa [(Fr.frz _ _).len] at this)) hx
 cases r with
 | tmp t =>
  simp only [resD,Option.some.injEq,Prod.mk.injEq] at hr
  obtain⟨h1,rfl⟩:=hr
  refine⟨_,rfl,?_⟩
  exact toS0 (toV_rd (Fr.frz (List.range st.h.length) st.h) h1 (allS_of ok.ok hS) (ok.ok.fr (Fr.frz _ _)) (fun b x _ hx=>hall b x hx) ((ok.slots t).fr (Fr.frz _ _)))
 | cell ad t =>
  simp only [resD] at hr
  split at hr
  ·rename_i b off hg
   obtain⟨hb,hl⟩:=cond_some hr
   have hs:=ok.slots ad
   rw[hg] at hs
   obtain⟨β,hβ,hv⟩:=hs.own_inv
   obtain⟨vals,h1,h2⟩:=ok.ok.cells hb hβ
   obtain⟨x,hx1,hx2⟩:=load_run (b:=β) (o:=0) hl h1 (fun j u hu=>by rw[Nat.zero_add];exact (h2 j u hu).1)
   rw[Nat.zero_add] at hx1
   refine⟨x,?_,toS0 hx2⟩
   simp only [Sem.run_bind,hv,asAddr,Sem.run_pure,Result.andThen_ok]
   simpa [Instr.loadAt,Instr.sureAddr] using hx1
  ·cases hr
theorem resL_run {w0 S0 st a w ρ}(ok:OkS w0 S0 st a w ρ)(hS:∀ b,w0.own b→S0 b):∀ {rs:List ResultVar} {vs:List V},resL P st rs=some (true,vs) →
  ∃ xs,(rs.mapM (fun r=>match r with
   | .tmp t=>pure (a.tmps.getD t undef)
   | .cell ad t=>do loadVar t (← asAddr (a.tmps.getD ad undef)):ResultVar→Sem Value)).run P w=.ok xs w∧RdL w S0 xs vs
 | [],vs,h=>by cases h;exact⟨[],rfl,.nil⟩
 | r::rs,vs,h=>by
  unfold resL at h
  split at h
  ·rename_i c v d vs' h1 h2
   simp only [Option.some.injEq,Prod.mk.injEq,Bool.and_eq_true] at h
   obtain⟨⟨rfl,rfl⟩,rfl⟩:=h
   obtain⟨x,hx1,hx2⟩:=res_run (P:=P) ok hS h1
   obtain⟨xs,hy1,hy2⟩:=resL_run ok hS h2
   refine⟨x::xs,?_,.cons hx2 hy2⟩
   rw[List.mapM_cons,Sem.run_bind]
   erw[hx1]
   rw[Result.andThen_ok,Sem.run_bind,hy1]
   rfl
  ·cases h
theorem resT_run {w0 S0 st a w ρ}(ok:OkS w0 S0 st a w ρ)(hS:∀ b,w0.own b→S0 b){fn:Func}(hw:(resT P fn.results st).wp P C Qr Qo) :
  ∃ x v,(results fn a.tmps).run P w=.ok x w∧Rd w S0 x v∧Qr v:=by
 have hm:∀ xs,(fn.results.toList.mapM (fun r=>match r with
   | .tmp t=>pure (a.tmps.getD t undef)
   | .cell ad t=>do loadVar t (← asAddr (a.tmps.getD ad undef)):ResultVar→Sem Value)).run P w=.ok xs w→(results fn a.tmps).run P w=.ok (if h:xs.length=1 then xs[0] else .tuple xs.toArray) w:=by
  intro xs hx
  unfold results
  rw[Sem.run_bind,Array.mapM_eq_mapM_toList,Sem.run_map]
  erw[hx]
  rfl
 unfold resT at hw
 split at hw
 ·rename_i c v hr
  obtain⟨ec,hw2⟩:=of_brk hw
  subst ec
  clear hw
  obtain⟨xs,h1,h2⟩:=resL_run ok hS hr
  cases h2 with
  | cons hx hn =>
   cases hn
   exact⟨_,v,hm _ h1,hx,hw2⟩
 ·rename_i c vs hne hr
  obtain⟨ec,hw2⟩:=of_brk hw
  subst ec
  clear hw
  obtain⟨xs,h1,h2⟩:=resL_run ok hS hr
  refine⟨_,.tup vs,hm _ h1,?_,hw2⟩
  have hl:=h2.length
  rw[dif_neg (fun e=>?_)]
  ·exact .tup h2
  ·have:vs.length=1:=by omega
   obtain⟨v,rfl⟩:∃ v,vs = [v]:=by
    cases vs with
    | nil=>simp at this
    | cons v vs=>cases vs with
     | nil=>exact⟨v,rfl⟩
     | cons=>simp at this
   exact hne v rfl
 ·exact hw.elim
def vsub (v r:V):Prop:=∀ (w:World) (S:Nat→Prop) (x:Value),Rd w S x v→Rd w S x r
theorem vsub_refl (v:V):vsub v v:=fun _ _ _ h=>h
theorem vsub_of {v r:V}(h:v=r):vsub v r:=h ▸ vsub_refl v
theorem vsub_nil (sz:Nat):vsub .nil (.sl sz []):=fun _ _ _ h=>by cases h;exact .nilsl
theorem vsub_tup2 {a b c d:V}(h:vsub a c)(k:vsub b d):vsub (.tup [a,b]) (.tup [c,d]):=fun w S x hx=>by
 obtain⟨arr,rfl,hr⟩:=hx.tup_inv
 cases hr with | cons h1 hr=>cases hr with | cons h2 hr=>cases hr with | nil=>exact .tup (.cons (h _ _ _ h1) (.cons (k _ _ _ h2) .nil))
theorem vsub_tup3 {a b c d e f:V}(h:vsub a d)(k:vsub b e)(m:vsub c f):vsub (.tup [a,b,c]) (.tup [d,e,f]):=fun w S x hx=>by
 obtain⟨arr,rfl,hr⟩:=hx.tup_inv
 cases hr with | cons h1 hr=>cases hr with | cons h2 hr=>cases hr with | cons h3 hr=>cases hr with | nil=>exact .tup (.cons (h _ _ _ h1) (.cons (k _ _ _ h2) (.cons (m _ _ _ h3) .nil)))
theorem impl_ofW (hP:P.follows .mixedOrders=true)(hst:Stable C){f:FuncId}{fn:Func}(hf:P.funcs[f]?=some fn)(hok:okFn P f=true){ds:List V}{r:V}
  (hw:(evalF P fn ds).wp P C (fun v=>vsub v r) (fun _ _=>False)):Impl P C f ds r:=by
 refine⟨hok,fun w S args hC hS hargs=>?_⟩
 unfold evalF at hw
 split at hw
 ·rename_i c hb
  refine calls_of_wp hf hb ?_
  have hlen:=hargs.length
  have hSS:Lasts w w S (stab S [] []):=⟨Nat.le_refl _,fun b _ hs=>⟨⟨hs,fun i x hx=>by simp at hx⟩,rfl⟩⟩
  have ok:OkS (base w) S (initS fn ds) { tmps:=args.toArray ++ Array.replicate (fn.ntmps-args.toArray.size) undef,defers:=[] } w []:=by
   refine⟨⟨Kept.refl _ _,rfl,fun i β hi=>by simp at hi,fun i j x y β hx=>by simp [initS] at hx,fun i x β hx=>by simp [initS] at hx⟩,by simp [initS,hlen],fun t=>?_,rfl⟩
   show RdD w (stab S [] []) [] _ (nth (ds.map D.val ++ List.replicate (fn.ntmps-ds.length) D.unk) t .unk)
   rw[nth_eq]
   by_cases ht:t<ds.length
   ·rw[List.getElem?_append_left (by simpa using ht),List.getElem?_map,List.getElem?_eq_getElem ht]
    obtain⟨u,hu,hr⟩:=hargs.get (List.getElem?_eq_getElem ht)
    have:(args.toArray ++ Array.replicate (fn.ntmps-args.toArray.size) undef).getD t undef=u:=by
     rw[Array.getD_eq_getD_getElem?,Array.getElem?_append_left (by simp;omega)]
     simp [hu]
    rw[this]
    exact .val (hr.lasts hSS)
   ·rw[List.getElem?_append_right (by simp;omega)]
    have:((List.replicate (fn.ntmps-ds.length) D.unk)[t-(ds.map D.val).length]?).getD D.unk=D.unk:=by
     rw[List.getElem?_replicate]
     split<;>rfl
    rw[this]
    exact .unk
  have hS:∀ b,(base w).own b→S b:=fun b hb=>hS b (hb.elim id False.elim)
  refine wp_mono (evalC_sound hP hst (hold_base hst hC) hS c _ _ _ w [] ok hw) ?_
  rintro e a' w' ⟨ex,st',ρ',rfl,ok',hw'⟩
  cases ex with
  | normal =>
   obtain⟨x,v,h1,h2,h3⟩:=resT_run ok' hS hw'
   exact⟨ok'.defers,x,h1,x,rfl,h3 _ _ _ h2,ok'.ok.below.below⟩
  | ret =>
   obtain⟨x,v,h1,h2,h3⟩:=resT_run ok' hS hw'
   exact⟨ok'.defers,x,h1,x,rfl,h3 _ _ _ h2,ok'.ok.below.below⟩
  | exit id=>exact hw'.elim
 ·exact hw.elim
def Weak (st st':St):Prop:=∀ w0 S0 a w ρ,OkS w0 S0 st a w ρ→∃ ρ',OkS w0 S0 st' a w ρ'
theorem Weak.refl (st:St):Weak st st:=fun _ _ _ _ ρ h=>⟨ρ,h⟩
theorem wp_loop_ix {c:Code}{Q:Exit→Act→World→Prop}(I:Nat→Act→World→Prop)(round:∀ n a w,I n a w→c.wp P (Exit.then (fun a' w'=>∃ m,m<n∧I m a' w') Q) a w)(n:Nat)(a:Act)(w:World)(h0:I n a w) :
  (Code.loop c).wp P Q a w:=by
 intro b k cs
 have key:∀ n a w,I n a w→∃ e a' w',Q e a' w'∧Arrives P (lone (b.at a (.code c::.inLoop c::k)) cs w) b k cs e a' w':=by
  intro n
  induction n using Nat.strongRecOn with
  | _ n ih =>
   intro a w hI
   obtain⟨e,a₁,w₁,hq,harr⟩:=round n a w hI b (.inLoop c::k) cs
   cases e with
   | normal =>
    obtain⟨m,hlt,hI₁⟩:=hq
    obtain⟨e₂,a₂,w₂,hq₂,harr₂⟩:=ih m hlt a₁ w₁ hI₁
    exact⟨e₂,a₂,w₂,hq₂,.of_steps (Steps.trans harr (.one step_inLoop)) harr₂⟩
   | exit id=>exact⟨_,a₁,w₁,hq,.pass (x:=.inLoop c) rfl (fun _ _=>.inl (by simp)) harr⟩
   | goto l=>exact⟨_,a₁,w₁,hq,.pass (x:=.inLoop c) rfl (fun _ _=>.inl (by simp)) harr⟩
   | ret=>exact⟨_,a₁,w₁,hq,.pass (x:=.inLoop c) rfl (fun _ _=>.inl (by simp)) harr⟩
   | panic ch=>exact⟨_,a₁,w₁,hq,.pass (x:=.inLoop c) rfl (fun _ _=>.inl (by simp)) harr⟩
   | outgrown=>exact⟨_,a₁,w₁,hq,.pass (x:=.inLoop c) rfl (fun _ _=>.inl (by simp)) harr⟩
 obtain⟨e,a',w',hq,harr⟩:=key n a w h0
 exact⟨e,a',w',hq,.of_steps (.one step_loop) harr⟩
theorem loop_ok (hP:P.follows .mixedOrders=true)(hst:Stable C){body:Code}{X:Type}(mk:X→St)(I:X→Prop)(μ:X→Nat)(R:Ex→St→Prop){st:St}(x0:X)(h0:Weak st (mk x0))(hI:I x0)
  (round:∀ x,I x→(evalC P body (mk x) T.out).wp P C (fun _=>False) fun e st'=>match e with
   | .normal=>∃ x',Weak st' (mk x')∧I x'∧μ x'<μ x
   | e=>∃ st'',Weak st' st''∧R e st''):LoopOk P C body st R:=by
 intro w0 S0 hC hS a w ρ ok
 obtain⟨ρ0,ok0⟩:=h0 w0 S0 a w ρ ok
 refine wp_loop_ix (fun n a w=>∃ x ρ,I x∧OkS w0 S0 (mk x) a w ρ∧μ x=n) ?_ (μ x0) a w ⟨x0,ρ0,hI,ok0,rfl⟩
 rintro n a w ⟨x,ρ,hx,okx,rfl⟩
 refine wp_mono (evalC_sound hP hst hC hS body _ _ a w ρ okx (round x hx)) ?_
 rintro e a' w' ⟨ex,st',ρ',rfl,ok',hw'⟩
 cases ex with
 | normal =>
  obtain⟨x',h1,h2,h3⟩:=hw'
  obtain⟨ρ'',ok''⟩:=h1 w0 S0 a' w' ρ' ok'
  exact⟨μ x',h3,x',ρ'',h2,ok'',rfl⟩
 | exit id =>
  obtain⟨st'',h1,h2⟩:=hw'
  obtain⟨ρ'',ok''⟩:=h1 w0 S0 a' w' ρ' ok'
  exact⟨_,st'',ρ'',rfl,h2,ok''⟩
 | ret =>
  obtain⟨st'',h1,h2⟩:=hw'
  obtain⟨ρ'',ok''⟩:=h1 w0 S0 a' w' ρ' ok'
  exact⟨_,st'',ρ'',rfl,h2,ok''⟩
theorem LoopOk.weak {body:Code}{st st':St}{R:Ex→St→Prop}(hw:Weak st st')(h:LoopOk P C body st' R):LoopOk P C body st R:=by
 intro w0 S0 hC hS a w ρ ok
 obtain⟨ρ',ok'⟩:=hw w0 S0 a w ρ ok
 exact h w0 S0 hC hS a w ρ' ok'
end Go.Proofs.YtkkbddkpggjgpaaGreatDoor

namespace Go.Proofs.YtkkbddkpggjgpaaGreatDoor
open Go.RowKit
variable {P:Program} {C:World→Prop} {Qr:V→Prop} {Qo:Ex→St→Prop}
def cutL (keep:List Nat):Nat→List D→List D
 | _,[]=>[]
 | i,d::r=>cond (keep.any (Nat.beq i)) d .unk::cutL keep (i+1) r
def cutS (keep:List Nat)(n:Nat)(fz:List Nat)(st:St):St:=⟨cutL keep 0 st.s,(frz st.h fz).take n⟩
def idsOk (n:Nat):D→Bool
 | .unk=>true
 | .val _=>true
 | .own b _=>Nat.blt b n
 | .osl b _ _ _=>Nat.blt b n
 | .oslp b _ _ _ _=>Nat.blt b n
 | .clo _ caps=>caps.all fun c=>Nat.blt c.1 n
def cutOk (keep:List Nat)(n:Nat)(st:St):Bool:=(cutL keep 0 st.s).all (idsOk n)
theorem cutL_len (keep:List Nat):∀ (i:Nat) (l:List D),(cutL keep i l).length=l.length
 | _,[]=>rfl
 | i,d::r=>by simp [cutL,cutL_len keep (i+1) r]
theorem cutL_get (keep:List Nat):∀ (l:List D) (i t:Nat),nth (cutL keep i l) t .unk=nth l t .unk∨nth (cutL keep i l) t .unk=.unk
 | [],_,_=>.inl rfl
 | d::r,i,0=>by
  simp only [cutL,nth]
  cases keep.any (Nat.beq i)
  ·exact .inr rfl
  ·exact .inl rfl
 | d::r,i,t+1=>by simpa only [cutL,nth] using cutL_get keep r (i+1) t
theorem take_get {α:Type}{l:List α}{n i:Nat}{x:α}(h:(l.take n)[i]?=some x):l[i]?=some x∧i<n:=by
 rw[List.getElem?_take] at h
 split at h
 ·rename_i hi;exact⟨h,hi⟩
 ·cases h
theorem weak_cut (keep:List Nat)(n:Nat)(fz:List Nat){st:St}(h:cutOk keep n st=true):Weak st (cutS keep n fz st):=by
 intro w0 S0 a w ρ ok
 have hf:=Fr.frz fz st.h
 have okf:=ok.ok.fr hf
 refine⟨ρ.take n,?_⟩
 have hstab:∀ b,stab S0 ρ (frz st.h fz) b→stab S0 (ρ.take n) ((frz st.h fz).take n) b:=fun b hb=>⟨hb.1,fun i x hx xa xf hi=>hb.2 i x (take_get hx).1 xa xf (take_get hi).1⟩
 have hl:Lasts w w (stab S0 ρ (frz st.h fz)) (stab S0 (ρ.take n) ((frz st.h fz).take n)):=⟨Nat.le_refl _,fun b _ hb=>⟨hstab b hb,rfl⟩⟩
 refine⟨⟨okf.below,?_,?_,?_,?_⟩,by simp [cutS,cutL_len,ok.size],fun t=>?_,ok.defers⟩
 ·simp [cutS,okf.heap.len]
 ·intro i β hi;exact okf.heap.low i β (take_get hi).1
 ·intro i j x y β hx hy xa ya hi hj
  exact okf.heap.inj i j x y β (take_get hx).1 (take_get hy).1 xa ya (take_get hi).1 (take_get hj).1
 ·intro i x β hx xa hi
  obtain⟨vs,t,h1,h2,h3⟩:=okf.heap.box i x β (take_get hx).1 xa (take_get hi).1
  exact⟨vs,t,h1,h2,h3.lasts hl⟩
 ·have hs:=(ok.slots t).fr hf
  show RdD w (stab S0 (ρ.take n) ((frz st.h fz).take n)) (ρ.take n) _ (nth (cutL keep 0 st.s) t .unk)
  have hid:idsOk n (nth (cutL keep 0 st.s) t .unk)=true:=by
   by_cases ht:t<(cutL keep 0 st.s).length
   ·exact List.all_eq_true.1 h _ (List.mem_of_getElem? (nth_lt .unk ht))
   ·rw[nth_eq,List.getElem?_eq_none (by omega)];rfl
  rcases cutL_get keep st.s 0 t with he | he
  ·rw[he] at hid ⊢
   generalize nth st.s t D.unk=d at hs hid
   generalize a.tmps.getD t undef=u at hs
   have tk:∀ {b β:Nat},Nat.blt b n=true→ρ[b]?=some β→(ρ.take n)[b]?=some β:=fun hb hβ=>by
    rw[List.getElem?_take,if_pos (blt_iff.1 hb)];exact hβ
   cases hs with
   | unk=>exact .unk
   | val hv=>exact .val (hv.lasts hl)
   | own hβ=>exact .own (tk hid hβ)
   | osl hβ h1 h2 h3=>exact .osl (tk hid hβ) h1 h2 h3
   | oslp hβ h1 h2 h3=>exact .oslp (tk hid hβ) h1 h2 h3
   | clo h1 h2 =>
    refine .clo h1 fun i b off hc=>?_
    obtain⟨β,hβ,ha⟩:=h2 i b off hc
    exact⟨β,tk (List.all_eq_true.1 hid _ (List.mem_of_getElem? hc)) hβ,ha⟩
  ·rw[he];exact .unk
def posN (b:Nat):List Nat→Nat→Option Nat
 | [],_=>none
 | c::r,k=>cond (Nat.beq b c) (some k) (posN b r (k+1))
def ren (sel:List Nat):D→D
 | .unk=>.unk
 | .val v=>.val v
 | .own b off=>match posN b sel 0 with | some j=>.own j off | none=>.unk
 | .osl b off len sz=>match posN b sel 0 with | some j=>.osl j off len sz | none=>.unk
 | .clo _ _=>.unk
 | .oslp b off len sz β=>match posN b sel 0 with | some j=>.oslp j off len sz β | none=>.unk
def cutR (keep sel:List Nat):Nat→List D→List D
 | _,[]=>[]
 | i,d::r=>cond (keep.any (Nat.beq i)) (ren sel d) .unk::cutR keep sel (i+1) r
structure Cut3 where
 keep:List Nat
 sel:List Nat
def nodupN:List Nat→Bool
 | []=>true
 | x::r=>!(r.any (Nat.beq x)) && nodupN r
def cutS3 (v:Cut3)(st:St):St:=⟨cutR v.keep v.sel 0 st.s,v.sel.map (bx st.h)⟩
def cutOk3 (v:Cut3)(st:St):Bool:=nodupN v.sel && v.sel.all fun i=>Nat.blt i st.h.length
theorem posN_spec {b:Nat}:∀ {l:List Nat} {k j:Nat},posN b l k=some j→k≤j∧l[j-k]?=some b
 | [],k,j,h=>by cases h
 | c::r,k,j,h=>by
  unfold posN at h
  cases hb:Nat.beq b c with
  | true =>
   rw[hb] at h
   cases h
   have:=Nat.eq_of_beq_eq_true hb
   subst this
   simp
  | false =>
   rw[hb] at h
   obtain⟨h1,h2⟩:=posN_spec (show posN b r (k+1)=some j from h)
   refine⟨by omega,?_⟩
   rw[show j-k=(j-(k+1))+1 by omega]
   simpa using h2
theorem nodupN_spec:∀ {l:List Nat},nodupN l=true→∀ (i j x:Nat),l[i]?=some x→l[j]?=some x→i=j
 | [],_,i,j,x,h,_=>by simp at h
 | c::r,hd,i,j,x,h,k=>by
  unfold nodupN at hd
  simp only [Bool.and_eq_true,Bool.not_eq_true'] at hd
  have no:∀ m:Nat,r[m]?≠some c:=by
   intro m hm
   have:=List.any_eq_false.1 hd.1 c (List.mem_of_getElem? hm)
   simp at this
  cases i with
  | zero =>
   cases j with
   | zero=>rfl
   | succ j=>simp at h k;subst h;exact (no j k).elim
  | succ i =>
   cases j with
   | zero=>simp at h k;subst k;exact (no i h).elim
   | succ j=>simp at h k;rw[nodupN_spec hd.2 i j x h k]
theorem cutR_len (keep sel:List Nat):∀ (i:Nat) (l:List D),(cutR keep sel i l).length=l.length
 | _,[]=>rfl
 | i,d::r=>by simp [cutR,cutR_len keep sel (i+1) r]
theorem cutR_get (keep sel:List Nat):∀ (l:List D) (i t:Nat),nth (cutR keep sel i l) t .unk=ren sel (nth l t .unk)∨nth (cutR keep sel i l) t .unk=.unk
 | [],_,_=>.inl rfl
 | d::r,i,0=>by
  simp only [cutR,nth]
  cases keep.any (Nat.beq i)
  ·exact .inr rfl
  ·exact .inl rfl
 | d::r,i,t+1=>by simpa only [cutR,nth] using cutR_get keep sel r (i+1) t
theorem weak_cut3 (v:Cut3){st:St}(h:cutOk3 v st=true):Weak st (cutS3 v st):=by
 intro w0 S0 a w ρ ok
 unfold cutOk3 at h
 rw[Bool.and_eq_true] at h
 obtain⟨hnd,hall⟩:=h
 have hlt:∀ (i c:Nat),v.sel[i]?=some c→c<st.h.length:=fun i c hc=>blt_iff.1 (List.all_eq_true.1 hall c (List.mem_of_getElem? hc))
 have hlen:=ok.ok.heap.len
 -- the numbers
 have hρ:∀ (i β:Nat),(v.sel.map fun c=>nth ρ c 0)[i]?=some β→∃ c:Nat,v.sel[i]?=some c∧ρ[c]?=some β:=by
  intro i β hi
  rw[List.getElem?_map] at hi
  cases hc:v.sel[i]? with
  | none=>rw[hc] at hi;cases hi
  | some c =>
   rw[hc] at hi
   simp only [Option.map_some,Option.some.injEq] at hi
   exact⟨c,rfl,by rw[nth_lt 0 (by rw[hlen];exact hlt i c hc),hi]⟩
 have hρ':∀ (i c β:Nat),v.sel[i]?=some c→ρ[c]?=some β→(v.sel.map fun c=>nth ρ c 0)[i]?=some β:=by
  intro i c β hc hβ
  rw[List.getElem?_map,hc]
  simp only [Option.map_some,Option.some.injEq]
  rw[nth_eq,hβ]
  rfl
 have hh:∀ (i:Nat) (x:Box),(v.sel.map (bx st.h))[i]?=some x→∃ c:Nat,v.sel[i]?=some c∧st.h[c]?=some x:=by
  intro i x hi
  rw[List.getElem?_map] at hi
  cases hc:v.sel[i]? with
  | none=>rw[hc] at hi;cases hi
  | some c =>
   rw[hc] at hi
   simp only [Option.map_some,Option.some.injEq] at hi
   refine⟨c,rfl,?_⟩
   have:=hlt i c hc
   rw[← hi,List.getElem?_eq_getElem this,bx_of (List.getElem?_eq_getElem this)]
 have hstab:∀ b,stab S0 ρ st.h b→stab S0 (v.sel.map fun c=>nth ρ c 0) (v.sel.map (bx st.h)) b:=fun b hb=>⟨hb.1,fun i x hx xa xf hi=>by
  obtain⟨c,hc,hx'⟩:=hh i x hx
  obtain⟨c',hc',hi'⟩:=hρ i b hi
  rw[hc] at hc';cases hc'
  exact hb.2 c x hx' xa xf hi'⟩
 have hl:Lasts w w (stab S0 ρ st.h) (stab S0 (v.sel.map fun c=>nth ρ c 0) (v.sel.map (bx st.h))):=⟨Nat.le_refl _,fun b _ hb=>⟨hstab b hb,rfl⟩⟩
 refine⟨v.sel.map fun c=>nth ρ c 0,⟨ok.ok.below,?_,?_,?_,?_⟩,by simp [cutS3,cutR_len,ok.size],fun t=>?_,ok.defers⟩
 ·simp [cutS3]
 ·intro i β hi
  obtain⟨c,_,hc⟩:=hρ i β hi
  exact ok.ok.heap.low c β hc
 ·intro i j x y β hx hy xa ya hi hj
  obtain⟨c,hc,hx'⟩:=hh i x hx
  obtain⟨d,hd,hy'⟩:=hh j y hy
  obtain⟨c',hc',hi'⟩:=hρ i β hi
  obtain⟨d',hd',hj'⟩:=hρ j β hj
  rw[hc] at hc';cases hc'
  rw[hd] at hd';cases hd'
  have:=ok.ok.heap.inj c d x y β hx' hy' xa ya hi' hj'
  subst this
  exact nodupN_spec hnd i j c hc hd
 ·intro i x β hx xa hi
  obtain⟨c,hc,hx'⟩:=hh i x hx
  obtain⟨c',hc',hi'⟩:=hρ i β hi
  rw[hc] at hc';cases hc'
  obtain⟨vs,t,h1,h2,h3⟩:=ok.ok.heap.box c x β hx' xa hi'
  exact⟨vs,t,h1,h2,h3.lasts hl⟩
 ·have hs:=ok.slots t
  show RdD w (stab S0 (v.sel.map fun c=>nth ρ c 0) (v.sel.map (bx st.h))) (v.sel.map fun c=>nth ρ c 0) _ (nth (cutR v.keep v.sel 0 st.s) t .unk)
  rcases cutR_get v.keep v.sel st.s 0 t with he | he
  ·rw[he]
   generalize nth st.s t D.unk=d at hs
   generalize a.tmps.getD t undef=u at hs
   cases hs with
   | unk=>exact .unk
   | val hv=>exact .val (hv.lasts hl)
   | own hβ =>
    unfold ren
    simp only
    split
    ·rename_i j hj
     obtain⟨_,h2⟩:=posN_spec hj
     exact .own (hρ' j _ _ (by simpa using h2) hβ)
    ·exact .unk
   | osl hβ h1 h2 h3 =>
    unfold ren
    simp only
    split
    ·rename_i j hj
     obtain⟨_,h4⟩:=posN_spec hj
     exact .osl (hρ' j _ _ (by simpa using h4) hβ) h1 h2 h3
    ·exact .unk
   | clo h1 h2=>exact .unk
   | oslp hβ h1 h2 h3 =>
    unfold ren
    simp only
    split
    ·rename_i j hj
     obtain⟨_,h4⟩:=posN_spec hj
     exact .oslp (hρ' j _ _ (by simpa using h4) hβ) h1 h2 h3
    ·exact .unk
  ·rw[he];exact .unk
structure Cut where
 keep:List Nat
 n:Nat
 fz:List Nat
inductive Ch:Type 1 where
 | ret
 | fin (s:St)
 | fin2 (v:Cut)
 | fin3 (v:Cut3)
 | call (r:V) (c:Ch)
 | callO (sz n:Nat) (cells:List V) (c:Ch)
 | callM (cells:List V) (r:V) (c:Ch)
 | lit (c:Ch)
 | yes (c:Ch)
 | no (c:Ch)
 | both (c d:Ch)
 | loop (u:Cut) (s0:St) (E:Type) (ex:E→Ex × St) (J:E→Prop) (c:E→Ch)
 | loop2 (u:Cut) (s0:St) (E F:Type) (ex:E⊕F→Ex × St) (J:E⊕F→Prop) (c:E→Ch) (d:F→Ch)
def MOk (P:Program)(C:World→Prop)(f:FuncId)(cs':List V)(r:V):Option (List V × Nat × Nat × List V)→Prop
 | some (cs,off,len,dm)=>ImplM P C f cs off len dm cs' r
 | none=>False
def ob (P:Program)(C:World→Prop)(Qr:V→Prop)(Qo:Ex→St→Prop)(u:Cut):Ch→T→Prop
 | .ret,.ret v=>Qr v
 | .fin s,.out e st=>cutOk u.keep u.n st=true∧cutS u.keep u.n u.fz st=s∧Qo e s
 | .fin2 v,.out e st=>cutOk v.keep v.n st=true∧Qo e (cutS v.keep v.n v.fz st)
 | .fin3 v,.out e st=>cutOk3 v st=true∧Qo e (cutS3 v st)
 | .call r c,.call f ds k=>Impl P C f ds r∧ob P C Qr Qo u c (k r)
 | .call r c,.call2 f ds k _ _ _=>Impl P C f ds r∧ob P C Qr Qo u c (k r)
 | .callO sz n cs c,.call2 f ds _ k _ _=>ImplO P C f ds sz n cs∧ob P C Qr Qo u c (k sz n cs)
 | .callM cs' r c,.call2 f _ _ _ m k=>MOk P C f cs' r m∧ob P C Qr Qo u c (k cs' r)
 | .lit c,.br b x y=>ob P C Qr Qo u c (match b with | true=>x | false=>y)
 | .yes c,.br b x _=>b=true∧ob P C Qr Qo u c x
 | .no c,.br b _ y=>b=false∧ob P C Qr Qo u c y
 | .both c d,.br b x y=>(b=true→ob P C Qr Qo u c x)∧(b=false→ob P C Qr Qo u d y)
 | .both c d,.any x y=>ob P C Qr Qo u c x∧ob P C Qr Qo u d y
 | .yes c,.alt b x _=>b=true∧ob P C Qr Qo u c x
 | .no c,.alt _ _ y=>ob P C Qr Qo u c y
 | .loop v s0 _ ex J c,.loop body st k=>cutOk v.keep v.n st=true∧cutS v.keep v.n v.fz st=s0∧LoopOk P C body s0 (fun e st'=>∃ x,J x∧ex x=(e,st'))∧∀ x,J x→ob P C Qr Qo u (c x) (k (ex x).1 (ex x).2)
 | .loop2 v s0 _ _ ex J c d,.loop body st k=>cutOk v.keep v.n st=true∧cutS v.keep v.n v.fz st=s0∧LoopOk P C body s0 (fun e st'=>∃ x,J x∧ex x=(e,st')) ∧
  (∀ x,J (.inl x)→ob P C Qr Qo u (c x) (k (ex (.inl x)).1 (ex (.inl x)).2))∧∀ x,J (.inr x)→ob P C Qr Qo u (d x) (k (ex (.inr x)).1 (ex (.inr x)).2)
 | _,_=>False
def QW (Qo:Ex→St→Prop)(e:Ex)(st:St):Prop:=∃ s,Weak st s∧Qo e s
theorem wp_of_ob {u:Cut}:∀ (c:Ch) (t:T),ob P C Qr Qo u c t→t.wp P C Qr (QW Qo):=by
 intro c
 induction c with
 | ret=>intro t h;cases t<;>first | exact h | exact h.elim
 | fin s=>intro t h;cases t<;>first | exact⟨s,h.2.1 ▸ weak_cut u.keep u.n u.fz h.1,h.2.2⟩ | exact h.elim
 | fin2 v=>intro t h;cases t<;>first | exact⟨_,weak_cut v.keep v.n v.fz h.1,h.2⟩ | exact h.elim
 | fin3 v=>intro t h;cases t<;>first | exact⟨_,weak_cut3 v h.1,h.2⟩ | exact h.elim
 | call r c ih=>intro t h;cases t<;>first | exact⟨r,h.1,ih _ h.2⟩ | exact .inl ⟨r,h.1,ih _ h.2⟩ | exact h.elim
 | callO sz n cs c ih=>intro t h;cases t<;>first | exact .inr (.inl ⟨sz,n,cs,h.1,ih _ h.2⟩) | exact h.elim
 | callM cs' r c ih =>
  intro t h
  cases t with
  | call2 f ds k kO m kM =>
   obtain⟨h1,h2⟩:=(h:MOk P C f cs' r m∧ob P C Qr Qo u c (kM cs' r))
   cases m with
   | none=>exact h1.elim
   | some x =>
    obtain⟨cs,off,len,dm⟩:=x
    exact .inr (.inr ⟨cs,off,len,dm,cs',r,rfl,h1,ih _ h2⟩)
  | _=>exact h.elim
 | lit c ih =>
  intro t h
  cases t with
  | br b x y =>
   cases b
   ·exact .inr ⟨rfl,ih y h⟩
   ·exact .inl ⟨rfl,ih x h⟩
  | _=>exact h.elim
 | yes c ih=>intro t h;cases t<;>first | exact .inl ⟨h.1,ih _ h.2⟩ | exact h.elim
 | no c ih=>intro t h;cases t<;>first | exact .inr ⟨h.1,ih _ h.2⟩ | exact .inr (ih _ h) | exact h.elim
 | both c d ihc ihd =>
  intro t h
  cases t with
  | br b x y =>
   cases b
   ·exact .inr ⟨rfl,ihd y (h.2 rfl)⟩
   ·exact .inl ⟨rfl,ihc x (h.1 rfl)⟩
  | any x y=>exact⟨ihc x h.1,ihd y h.2⟩
  | _=>exact h.elim
 | loop v s0 E ex J c ih =>
  intro t h
  cases t with
  | loop body st k =>
   refine⟨_,LoopOk.weak (h.2.1 ▸ weak_cut v.keep v.n v.fz h.1) h.2.2.1,?_⟩
   rintro e st' ⟨x,hx,he⟩
   have:=ih x _ (h.2.2.2 x hx)
   rw[he] at this
   exact this
  | _=>exact h.elim
 | loop2 v s0 E F ex J c d ihc ihd =>
  intro t h
  cases t with
  | loop body st k =>
   refine⟨_,LoopOk.weak (h.2.1 ▸ weak_cut v.keep v.n v.fz h.1) h.2.2.1,?_⟩
   rintro e st' ⟨x,hx,he⟩
   cases x with
   | inl x =>
    have:=ihc x _ (h.2.2.2.1 x hx)
    rw[he] at this
    exact this
   | inr x =>
    have:=ihd x _ (h.2.2.2.2 x hx)
    rw[he] at this
    exact this
  | _=>exact h.elim
theorem cast_ob {A B:Prop}(a:A)(h:A=B):B:=h ▸ a
theorem impl_ob (hP:P.follows .mixedOrders=true)(hst:Stable C){f:FuncId}{fn:Func}(hf:P.funcs[f]?=some fn)(hok:okFn P f=true){ds:List V}{r:V}(c:Ch)
  (h:True∧ob P C (fun v=>vsub v r) (fun _ _=>False) ⟨[],0,[]⟩ c (evalF P fn ds)):Impl P C f ds r:=by
 refine impl_ofW hP hst hf hok ?_
 have:=wp_of_ob (Qr:=fun v=>vsub v r) c _ h.2
 have e:QW (fun _ _=>False)=fun _ _=>False:=by
  funext e st
  exact propext ⟨fun ⟨_,_,h⟩=>h,False.elim⟩
 rwa [e] at this
def EndO (rs:Array ResultVar)(sz n:Nat)(cells:List V)(e:Ex)(st:St):Prop :=
 (e=.ret∨e=.normal)∧∃ b t,rs=#[.tmp t]∧nth st.s t .unk=.osl b 0 n sz∧(bx st.h b).alive=true∧∃ rest,(bx st.h b).cells=cells ++ rest
def evalFO (P:Program)(fn:Func)(ds:List V):T:=match fn.body with | some c=>evalC P c (initS fn ds) T.out | none=>.fail
theorem init_ok {w:World}{S:Nat→Prop}{fn:Func}{args:List Value}{ds:List V}(hargs:RdL w S args ds) :
  OkS (base w) S (initS fn ds) { tmps:=args.toArray ++ Array.replicate (fn.ntmps-args.toArray.size) undef,defers:=[] } w []:=by
 have hlen:=hargs.length
 have hSS:Lasts w w S (stab S [] []):=⟨Nat.le_refl _,fun b _ hs=>⟨⟨hs,fun i x hx=>by simp at hx⟩,rfl⟩⟩
 refine⟨⟨Kept.refl _ _,rfl,fun i β hi=>by simp at hi,fun i j x y β hx=>by simp [initS] at hx,fun i x β hx=>by simp [initS] at hx⟩,by simp [initS,hlen],fun t=>?_,rfl⟩
 show RdD w (stab S [] []) [] _ (nth (ds.map D.val ++ List.replicate (fn.ntmps-ds.length) D.unk) t .unk)
 rw[nth_eq]
 by_cases ht:t<ds.length
 ·rw[List.getElem?_append_left (by simpa using ht),List.getElem?_map,List.getElem?_eq_getElem ht]
  obtain⟨u,hu,hr⟩:=hargs.get (List.getElem?_eq_getElem ht)
  have:(args.toArray ++ Array.replicate (fn.ntmps-args.toArray.size) undef).getD t undef=u:=by
   rw[Array.getD_eq_getD_getElem?,Array.getElem?_append_left (by simp;omega)]
   simp [hu]
  rw[this]
  exact .val (hr.lasts hSS)
 ·rw[List.getElem?_append_right (by simp;omega)]
  have:((List.replicate (fn.ntmps-ds.length) D.unk)[t-(ds.map D.val).length]?).getD D.unk=D.unk:=by
   rw[List.getElem?_replicate]
   split<;>rfl
  rw[this]
  exact .unk
theorem implO_ob (hP:P.follows .mixedOrders=true)(hst:Stable C){f:FuncId}{fn:Func}(hf:P.funcs[f]?=some fn)(hok:okFn P f=true){ds:List V}{sz n:Nat}{cells:List V}(hp:cells.all isPrim=true)(c:Ch)
  (h:True∧ob P C (fun _=>False) (EndO fn.results sz n cells) ⟨[],0,[]⟩ c (evalFO P fn ds)):ImplO P C f ds sz n cells:=by
 refine⟨hok,hp,fun w S args hC hS hargs=>?_⟩
 have hw:=wp_of_ob (Qr:=fun _=>False) c _ h.2
 unfold evalFO at hw
 split at hw
 ·rename_i cd hb
  refine calls_of_wp hf hb ?_
  have hS:∀ b,(base w).own b→S b:=fun b hb=>hS b (hb.elim id False.elim)
  refine wp_mono (evalC_sound hP hst (hold_base hst hC) hS cd _ _ _ w [] (init_ok hargs) hw) ?_
  rintro e a' w' ⟨ex,st',ρ',rfl,ok',hw'⟩
  obtain⟨s,hws,he,b,t,hrs,hsl,hal,rest,hcs⟩:=hw'
  obtain⟨ρ2,ok2⟩:=hws (base w) S a' w' ρ' ok'
  have h1:=ok2.slots t
  rw[hsl] at h1
  generalize hv:a'.tmps.getD t undef=v at h1
  cases h1 with
  | osl hβ hcap hsh hfit =>
   rename_i β cap e nn
   have hbx:=bx_get hal
   obtain⟨vals,ty,g1,g2,g3⟩:=ok2.ok.heap.box b _ β hbx hal hβ
   have hlow:w.heap.size≤β:=(ok2.ok.heap.low b β hβ).1.elim id False.elim
   rw[hcs] at g2 g3
   have g3:=g3.take cells.length
   rw[List.take_take,List.take_left,Nat.min_eq_left (by simp)] at g3
   rw[List.length_append] at g2
   have hs2:=shape_of_cells g1
   rw[hs2] at hsh
   have hnn:nn=vals.size:=by
    have:=Option.some.inj hsh
    exact (congrArg Prod.snd this).symm
   have hres:(results fn a'.tmps).run P w'=.ok (.slice (some ⟨β,0,none⟩) n cap) w':=by
    rw[← hv]
    unfold results
    rw[hrs,Sem.run_bind,Array.mapM_eq_mapM_toList,Sem.run_map]
    have hx:([ResultVar.tmp t].mapM (fun r=>match r with
     | .tmp t=>pure (a'.tmps.getD t undef)
     | .cell ad t=>do loadVar t (← asAddr (a'.tmps.getD ad undef)):ResultVar→Sem Value)).run P w'=.ok [a'.tmps.getD t undef] w':=by
     simp [List.mapM_cons]
    erw[hx]
    rfl
   rcases he with rfl | rfl
   ·exact⟨ok'.defers,_,hres,β,cap,vals,ty,rfl,hlow,g1,by omega,hcap,by omega,prim_any g3 hp,ok'.ok.below.below⟩
   ·exact⟨ok'.defers,_,hres,β,cap,vals,ty,rfl,hlow,g1,by omega,hcap,by omega,prim_any g3 hp,ok'.ok.below.below⟩
 ·exact hw.elim
def EndM (rs:Array ResultVar)(β off len:Nat)(cs:List V)(r:V)(e:Ex)(st:St):Prop :=
 (e=.ret∨e=.normal)∧∃ b t,rs=#[.tmp t]∧nth st.s t .unk=.val r∧nth st.s 0 .unk=.oslp b off len 1 β∧(bx st.h b).alive=true∧(bx st.h b).cells=cs
def initM (fn:Func)(β:Nat)(cs:List V)(off len:Nat)(ds:List V):St :=
 ⟨D.oslp 0 off len 1 β::(ds.map D.val ++ List.replicate (fn.ntmps-(ds.length+1)) D.unk),[⟨true,false,cs⟩]⟩
def evalFM (P:Program)(fn:Func)(β:Nat)(cs:List V)(off len:Nat)(ds:List V):T:=match fn.body with | some c=>evalC P c (initM fn β cs off len ds) T.out | none=>.fail
theorem initM_ok {w : World} {S : Nat → Prop} {fn : Func} {args : List Value} {ds : List V} {β off len cap : Nat} {cs : List V} {vals : Array Value} {ty : TypeId} (hargs : RdL w S args ds)
    (hS : ¬ S β) (hβ : w.heap[β]? = some (.cells vals ty (0, 0))) (hlen : cs.length ≤ vals.size) (hr : RdL w S (vals.toList.take cs.length) cs) (hc : len ≤ cap) (hf : off + cap ≤ vals.size) :
    OkS ⟨w, fun b => b = β⟩ (fun b => S b ∨ b = β) (initM fn β cs off len ds)
      { tmps := (Value.slice (some ⟨β, off, none⟩) len cap :: args).toArray ++ Array.replicate (fn.ntmps - (Value.slice (some ⟨β, off, none⟩) len cap :: args).toArray.size) undef, defers := [] } w [β] := by
  have hl := hargs.length
  have hlt : β < w.heap.size := by
    rcases Nat.lt_or_ge β w.heap.size with q | q
    · exact q
    · rw [Array.getElem?_eq_none q] at hβ; cases hβ
  have hSS : Lasts w w S (stab (fun b => S b ∨ b = β) [β] [⟨true, false, cs⟩]) := ⟨Nat.le_refl _, fun b _ hs => ⟨⟨.inl hs, fun i x hx _ _ hi => by
    cases i with
    | zero => simp at hi; subst hi; exact hS hs
    | succ i => simp at hi⟩, rfl⟩⟩
  refine ⟨⟨Kept.refl _ _, rfl, fun i γ hi => ?_, fun i j x y γ hx hy _ _ hi hj => ?_, fun i x γ hx xa hi => ?_⟩, by simp [initM, hl]; omega, fun t => ?_, rfl⟩
  · cases i with
    | zero => simp at hi; subst hi; exact ⟨.inr rfl, hlt⟩
    | succ i => simp at hi
  · cases i with
    | zero => cases j with
      | zero => rfl
      | succ j => simp at hj
    | succ i => simp at hi
  · cases i with
    | zero =>
      simp [initM] at hx hi
      subst hx; subst hi
      exact ⟨vals, ty, hβ, hlen, hr.lasts hSS⟩
    | succ i => simp at hi
  · cases t with
    | zero =>
      show RdD w _ [β] _ (D.oslp 0 off len 1 β)
      have : ((Value.slice (some ⟨β, off, none⟩) len cap :: args).toArray ++ Array.replicate (fn.ntmps - (Value.slice (some ⟨β, off, none⟩) len cap :: args).toArray.size) undef).getD 0 undef = .slice (some ⟨β, off, none⟩) len cap := by
        rw [Array.getD_eq_getD_getElem?, Array.getElem?_append_left (by simp)]
        simp
      rw [this]
      exact .oslp rfl hc (shape_of_cells hβ) (by omega)
    | succ t =>
      show RdD w _ [β] _ (nth (ds.map D.val ++ List.replicate (fn.ntmps - (ds.length + 1)) D.unk) t .unk)
      rw [nth_eq]
      by_cases ht : t < ds.length
      · rw [List.getElem?_append_left (by simpa using ht), List.getElem?_map, List.getElem?_eq_getElem ht]
        obtain ⟨u, hu, hr⟩ := hargs.get (List.getElem?_eq_getElem ht)
        have : ((Value.slice (some ⟨β, off, none⟩) len cap :: args).toArray ++ Array.replicate (fn.ntmps - (Value.slice (some ⟨β, off, none⟩) len cap :: args).toArray.size) undef).getD (t + 1) undef = u := by
          rw [Array.getD_eq_getD_getElem?, Array.getElem?_append_left (by simp; omega)]
          simp [hu]
        rw [this]
        exact .val (hr.lasts hSS)
      · rw [List.getElem?_append_right (by simp; omega)]
        have : ((List.replicate (fn.ntmps - (ds.length + 1)) D.unk)[t - (ds.map D.val).length]?).getD D.unk = D.unk := by
          rw [List.getElem?_replicate]
          split <;> rfl
        rw [this]
        exact .unk
theorem implM_ob (hP:P.follows .mixedOrders=true)(hst:Stable C){f:FuncId}{fn:Func}(hf:P.funcs[f]?=some fn)(hok:okFn P f=true){cs cs':List V}{off len:Nat}{ds:List V}{r:V}
  (hpr:isPrim r=true) (hp:cs'.all isPrim=true) (hl:cs'.length=cs.length) (c:Nat→Ch)
  (h:∀ β,True∧ob P C (fun _=>False) (EndM fn.results β off len cs' r) ⟨[],0,[]⟩ (c β) (evalFM P fn β cs off len ds)):ImplM P C f cs off len ds cs' r:=by
 refine⟨hok,hpr,hp,hl,fun w S β cap vals ty args hH hS hnS hβ hle hr hcap hfit hargs=>?_⟩
 have hw:=wp_of_ob (Qr:=fun _=>False) (c β) _ (h β).2
 unfold evalFM at hw
 split at hw
 ·rename_i cd hb
  refine calls_of_wp hf hb ?_
  have hS0:∀ b,(⟨w,fun b=>b=β⟩:Base).own b→S b∨b=β:=fun b hb=>hb.elim (fun q=>.inl (hS b q)) .inr
  refine wp_mono (evalC_sound hP hst hH hS0 cd _ _ _ w [β] (initM_ok hargs hnS hβ hle hr hcap hfit) hw) ?_
  rintro e a' w' ⟨ex,st',ρ',rfl,ok',hw'⟩
  obtain⟨s,hws,he,b,t,hrs,hsl,hs0,hal,hcs⟩:=hw'
  obtain⟨ρ2,ok2⟩:=hws _ _ a' w' ρ' ok'
  have h0:=ok2.slots 0
  rw[hs0] at h0
  generalize a'.tmps.getD 0 undef=v0 at h0
  cases h0 with
  | oslp hβ2 _ _ _ =>
   have h1:=ok2.slots t
   rw[hsl] at h1
   obtain⟨vals',ty',g1,g2,g3⟩:=ok2.ok.heap.box b _ β (bx_get hal) hal hβ2
   rw[hcs] at g2 g3
   have hsh:=ok'.ok.below.shape β _ _ (shape_of_cells hβ)
   rw[shape_of_cells g1] at hsh
   have hty:ty'=ty∧vals'.size=vals.size:=by
    have:=Option.some.inj hsh
    exact⟨congrArg Prod.fst this,congrArg Prod.snd this⟩
   obtain⟨rfl,hvs⟩:=hty
   have hres:(results fn a'.tmps).run P w'=.ok (a'.tmps.getD t undef) w':=by
    unfold results
    rw[hrs,Sem.run_bind,Array.mapM_eq_mapM_toList,Sem.run_map]
    have hx:([ResultVar.tmp t].mapM (fun r=>match r with
     | .tmp t=>pure (a'.tmps.getD t undef)
     | .cell ad t=>do loadVar t (← asAddr (a'.tmps.getD ad undef)):ResultVar→Sem Value)).run P w'=.ok [a'.tmps.getD t undef] w':=by
     simp [List.mapM_cons]
    erw[hx]
    rfl
   have hrv:=h1.val_inv
   have hrr:Rd w' S (a'.tmps.getD t undef) r:=by
    generalize a'.tmps.getD t undef=u at hrv
    cases hrv<;>first | exact .unk | exact .bool | exact .int | exact .nil | cases hpr
   have g3:=prim_any (w':=w') (S':=S) g3 hp
   rw[hl] at g3
   rcases he with rfl | rfl
   ·exact⟨ok'.defers,_,hres,_,vals',rfl,hrr,g1,hvs,g3,ok'.ok.below⟩
   ·exact⟨ok'.defers,_,hres,_,vals',rfl,hrr,g1,hvs,g3,ok'.ok.below⟩
 ·exact hw.elim
def loops:Code→List Code
 | .seq a b=>loops a ++ loops b
 | .cond _ a b=>loops a ++ loops b
 | .block _ b=>loops b
 | .loop b=>b::loops b
 | _=>[]
def loopN (fn:Func)(n:Nat):Code:=match fn.body with | some c=>nth (loops c) n .skip | none=>.skip
def lookD (l:List (Nat × D))(i:Nat):D :=
 match l with
 | []=>.unk
 | (j,d)::r=>cond (Nat.beq i j) d (lookD r i)
def mkS (n:Nat)(l:List (Nat × D)):List D:=(List.range n).map (lookD l)
def NX {X E:Type}(mk:X→St)(I:X→Prop)(μ:X→Nat)(ex:E→Ex × St)(J:E→Prop)(x:X)(e:Ex)(s:St):Prop :=
 match e with
 | .normal=>∃ x',s=mk x'∧I x'∧μ x'<μ x
 | e=>∃ y,J y∧ex y=(e,s)
theorem nx_next {X E:Type}{mk:X→St}{I:X→Prop}{μ:X→Nat}{ex:E→Ex × St}{J:E→Prop}{x:X}(x':X)(h:I x')(hm:μ x'<μ x):NX mk I μ ex J x .normal (mk x'):=⟨x',rfl,h,hm⟩
theorem nx_exit {X E:Type}{mk:X→St}{I:X→Prop}{μ:X→Nat}{ex:E→Ex × St}{J:E→Prop}{x:X}(id:Nat)(s:St)(y:E)(h:J y)(he:ex y=(.exit id,s)):NX mk I μ ex J x (.exit id) s:=⟨y,h,he⟩
theorem nx_ret {X E:Type}{mk:X→St}{I:X→Prop}{μ:X→Nat}{ex:E→Ex × St}{J:E→Prop}{x:X}(s:St)(y:E)(h:J y)(he:ex y=(.ret,s)):NX mk I μ ex J x .ret s:=⟨y,h,he⟩
theorem loop_ob (hP:P.follows .mixedOrders=true)(hst:Stable C){body:Code}{X E:Type}(u:Cut)(mk:X→St)(I:X→Prop)(μ:X→Nat)(ex:E→Ex × St)(J:E→Prop)(x0:X)(hI:I x0)(c:X→Ch)
  (round:∀ x,I x→True∧ob P C (fun _=>False) (NX mk I μ ex J x) u (c x) (evalC P body (mk x) T.out)):LoopOk P C body (mk x0) (fun e st'=>∃ y,J y∧ex y=(e,st')):=by
 refine loop_ok hP hst mk I μ _ x0 (Weak.refl _) hI fun x hx=>?_
 have hw:=wp_of_ob _ _ (round x hx).2
 have mono:∀ (t:T) {Q Q':Ex→St→Prop},(∀ e st',Q e st'→Q' e st')→t.wp P C (fun _=>False) Q→t.wp P C (fun _=>False) Q':=by
  intro t Q Q' hq
  induction t with
  | fail=>exact id
  | ret v=>exact id
  | out e st=>exact hq e st
  | call f ds k ih=>exact fun ⟨r,h1,h2⟩=>⟨r,h1,ih r h2⟩
  | br b x y ihx ihy=>exact fun h=>h.imp (fun q=>⟨q.1,ihx q.2⟩) (fun q=>⟨q.1,ihy q.2⟩)
  | alt b x y ihx ihy=>exact fun h=>h.imp (fun q=>⟨q.1,ihx q.2⟩) ihy
  | any x y ihx ihy=>exact fun h=>⟨ihx h.1,ihy h.2⟩
  | call2 f ds k kO m kM ih ih2 ih3 =>
   exact fun h=>h.imp (fun ⟨r,h1,h2⟩=>⟨r,h1,ih r h2⟩) fun h=>h.imp (fun ⟨sz,n,c,h1,h2⟩=>⟨sz,n,c,h1,ih2 sz n c h2⟩)
    fun ⟨cs,off,len,dm,cs',r,h0,h1,h2⟩=>⟨cs,off,len,dm,cs',r,h0,h1,ih3 cs' r h2⟩
  | loop body st k ih=>exact fun ⟨R,h1,h2⟩=>⟨R,h1,fun e st' hr=>ih e st' (h2 e st' hr)⟩
 refine mono _ (fun e st' h=>?_) hw
 obtain⟨s,h1,h2⟩:=h
 cases e with
 | normal =>
  obtain⟨x',rfl,h3,h4⟩:=h2
  exact⟨x',h1,h3,h4⟩
 | exit id=>exact⟨s,h1,h2⟩
 | ret=>exact⟨s,h1,h2⟩
end Go.Proofs.YtkkbddkpggjgpaaGreatDoor

namespace Go.Proofs.YtkkbddkpggjgpaaGreatDoor
def Ch.lits:Nat→Ch→Ch
 | 0,c=>c
 | n+1,c=>.lit (Ch.lits n c)
def U (l:List Nat):List V:=l.map fun (d:Nat)=>V.int .u32 (d:Int)
def val:List Nat→Nat
 | []=>0
 | d::l=>d+4294967296*val l
def limbs (n:Nat):List Nat:=if n=0 then [] else n%4294967296::limbs (n / 4294967296)
termination_by n
decreasing_by omega
def lim (n:Nat):List V:=U (limbs n)
def N (n:Nat):V:=.sl 1 (lim n)
def Z (z:Int):V:=.agg [.bool (decide (z<0)),N z.natAbs]
def Dig (l:List Nat):Prop:=∀ d∈l,d<4294967296
def gi (l:List Nat)(i:Nat):Int:=intV (nth (U l) i .unk)
theorem U_len (l:List Nat):(U l).length=l.length:=by simp [U]
theorem lim_len (n:Nat):(lim n).length=(limbs n).length:=U_len _
theorem U_get (l:List Nat)(i:Nat):(U l)[i]?=(l[i]?).map fun (d:Nat)=>V.int .u32 (d:Int):=by simp [U]
theorem gi_eq (l:List Nat)(i:Nat):gi l i=((l.getD i 0:Nat):Int):=by
 unfold gi
 rw[nth_eq,U_get,List.getD_eq_getElem?_getD]
 cases l[i]?<;>rfl
theorem U_set (l:List Nat)(i d:Nat):(U l).set i (.int .u32 (d:Int))=U (l.set i d):=by simp [U,List.map_set]
theorem U_take (l:List Nat)(n:Nat):(U l).take n=U (l.take n):=by simp [U]
theorem U_append (l m:List Nat):U l ++ U m=U (l ++ m):=by simp [U]
theorem U_cells (l:List Nat):(U l).all isCell=true:=by
 rw[List.all_eq_true]
 intro x hx
 obtain⟨d,_,rfl⟩:=List.mem_map.1 hx
 rfl
theorem U_rep (n:Nat):List.replicate n (V.int .u32 0)=U (List.replicate n 0):=by simp [U]
theorem limbs_zero:limbs 0 = []:=by rw[limbs];rfl
theorem limbs_pos {n:Nat}(h:n≠0):limbs n=n%4294967296::limbs (n / 4294967296):=by rw[limbs,if_neg h]
theorem val_limbs (n:Nat):val (limbs n)=n:=by
 induction n using Nat.strongRecOn with
 | _ n ih =>
  by_cases h:n=0
  ·subst h;rw[limbs_zero];rfl
  ·rw[limbs_pos h,val,ih _ (by omega)];omega
theorem dig_limbs (n:Nat):Dig (limbs n):=by
 induction n using Nat.strongRecOn with
 | _ n ih =>
  by_cases h:n=0
  ·subst h;rw[limbs_zero];intro d hd;cases hd
  ·rw[limbs_pos h]
   intro d hd
   rcases List.mem_cons.1 hd with rfl | hd
   ·omega
   ·exact ih _ (by omega) d hd
theorem val_append (l m:List Nat):val (l ++ m)=val l+4294967296^l.length*val m:=by
 induction l with
 | nil=>simp [val]
 | cons d l ih=>rw[List.cons_append,val,val,ih,List.length_cons,Nat.pow_succ,Nat.mul_add,Nat.add_assoc,← Nat.mul_assoc,Nat.mul_comm (4294967296^l.length)]
theorem val_rep (n:Nat):val (List.replicate n 0)=0:=by
 induction n with
 | zero=>rfl
 | succ n ih=>rw[List.replicate_succ,val,ih]
theorem val_lt {l:List Nat}(h:Dig l):val l<4294967296^l.length:=by
 induction l with
 | nil=>simp [val]
 | cons d l ih =>
  have h1:=h d (by simp)
  have h2:=ih fun x hx=>h x (by simp [hx])
  rw[val,List.length_cons,Nat.pow_succ]
  omega
theorem limbs_val {l:List Nat}(h:Dig l)(hl:l = []∨l.getLast?≠some 0):limbs (val l)=l:=by
 induction l with
 | nil=>rw[val,limbs_zero]
 | cons d l ih =>
  have h1:=h d (by simp)
  have hd:Dig l:=fun x hx=>h x (by simp [hx])
  have hne:val (d::l)≠0:=by
   rcases hl with q | q
   ·cases q
   ·cases l with
    | nil=>rw[val,val];simp at q;omega
    | cons e m =>
     rw[val]
     have hih:=ih hd (.inr (by simpa [List.getLast?_cons_cons] using q))
     have:val (e::m)≠0:=fun e0=>by rw[e0,limbs_zero] at hih;cases hih
     omega
  rw[limbs_pos hne]
  have e1:val (d::l)%4294967296=d:=by rw[val];omega
  have e2:val (d::l) / 4294967296=val l:=by rw[val];omega
  rw[e1,e2,ih hd (by
   cases l with
   | nil=>exact .inl rfl
   | cons e m =>
    right
    rcases hl with q | q
    ·cases q
    ·simpa [List.getLast?_cons_cons] using q)]
theorem iLt_t {a b:Int}(h:iLt a b=true):a<b:=of_decide_eq_true h
theorem iLt_f {a b:Int}(h:iLt a b=false):b≤a:=Int.not_lt.1 (of_decide_eq_false h)
theorem iLe_t {a b:Int}(h:iLe a b=true):a≤b:=of_decide_eq_true h
theorem iLe_f {a b:Int}(h:iLe a b=false):b<a:=Int.not_le.1 (of_decide_eq_false h)
theorem iGt_t {a b:Int}(h:iGt a b=true):b<a:=of_decide_eq_true h
theorem iGt_f {a b:Int}(h:iGt a b=false):a≤b:=Int.not_lt.1 (of_decide_eq_false h)
theorem iGe_t {a b:Int}(h:iGe a b=true):b≤a:=of_decide_eq_true h
theorem iGe_f {a b:Int}(h:iGe a b=false):a<b:=Int.not_le.1 (of_decide_eq_false h)
theorem iEq_t {a b:Int}(h:iEq a b=true):a=b:=by simpa [iEq] using h
theorem iEq_f {a b:Int}(h:iEq a b=false):a≠b:=by simpa [iEq] using h
theorem iNe_t {a b:Int}(h:iNe a b=true):a≠b:=by simpa [iNe] using h
theorem iNe_f {a b:Int}(h:iNe a b=false):a=b:=by simpa [iNe] using h
theorem iLt_mk {a b:Int}(h:a<b):iLt a b=true:=decide_eq_true h
theorem iLe_mk {a b:Int}(h:a≤b):iLe a b=true:=decide_eq_true h
theorem iGt_mk {a b:Int}(h:b<a):iGt a b=true:=decide_eq_true h
theorem iEq_mk {a b:Int}(h:a=b):iEq a b=true:=by simpa [iEq] using h
theorem iNe_mk {a b:Int}(h:a≠b):iNe a b=true:=by simpa [iNe] using h
theorem iLt_mkF {a b:Int}(h:b≤a):iLt a b=false:=decide_eq_false (Int.not_lt.2 h)
theorem iLe_mkF {a b:Int}(h:b<a):iLe a b=false:=decide_eq_false (Int.not_le.2 h)
theorem iGt_mkF {a b:Int}(h:a≤b):iGt a b=false:=decide_eq_false (Int.not_lt.2 h)
theorem iEq_mkF {a b:Int}(h:a≠b):iEq a b=false:=by simpa [iEq] using h
theorem iNe_mkF {a b:Int}(h:a=b):iNe a b=false:=by simpa [iNe] using h
theorem inB_mk {i:Int}{n:Nat}(h:0≤i∧i<n):inB i n=true:=inB_iff.2 h
theorem notb_t {b:Bool}(h:(!b)=true):b=false:=by simpa using h
theorem notb_f {b:Bool}(h:(!b)=false):b=true:=by simpa using h
theorem and_mk {a b:Bool}(h:a=true)(k:b=true):(a && b)=true:=by rw[h,k];rfl
theorem fits_i64 {n:Int}(h:-9223372036854775808≤n∧n≤9223372036854775807):fits .i64 n=true:=and_mk (iLe_mk (by simp [IntKind.min,IntKind.signed,IntKind.bits];omega)) (iLe_mk (by simp [IntKind.max,IntKind.signed,IntKind.bits];omega))
theorem fits_u64 {n:Int}(h:0≤n∧n≤18446744073709551615):fits .u64 n=true:=and_mk (iLe_mk (by simp [IntKind.min,IntKind.signed];omega)) (iLe_mk (by simp [IntKind.max,IntKind.signed,IntKind.bits];omega))
theorem fits_u32 {n:Int}(h:0≤n∧n≤4294967295):fits .u32 n=true:=and_mk (iLe_mk (by simp [IntKind.min,IntKind.signed];omega)) (iLe_mk (by simp [IntKind.max,IntKind.signed,IntKind.bits];omega))
theorem wrap_u32 (n:Int):IntKind.wrap .u32 n=n%4294967296:=by simp [IntKind.wrap,IntKind.bits,IntKind.signed]
theorem wrap_u64 (n:Int):IntKind.wrap .u64 n=n%18446744073709551616:=by simp [IntKind.wrap,IntKind.bits,IntKind.signed]
theorem beq_no {n m:Nat}(h:n≠m):Nat.beq n m=false:=by
 cases e:Nat.beq n m
 ·rfl
 ·exact absurd (Nat.eq_of_beq_eq_true e) h
theorem ld_U {l:List Nat}{i:Nat}(h:i<l.length):(Nat.blt i (U l).length && isIntK .u32 (nth (U l) i .unk))=true:=by
 refine and_mk (blt_iff.2 (by rw[U_len];exact h)) ?_
 rw[nth_eq,U_get,List.getElem?_eq_getElem h]
 rfl
theorem st_ok {a b:Nat}(h:a≤b):Nat.ble a b=true:=Nat.ble_eq ▸ h
theorem mk_ok {n:Int}(h:0≤n∧n≤1073741824):((iEq n n && iLe 0 n) && iLe n 1073741824)=true:=and_mk (and_mk (iEq_mk rfl) (iLe_mk h.1)) (iLe_mk h.2)
theorem ok_arg {a b:Nat}(h:a≤b):((true && Nat.ble a b) && true)=true:=and_mk (Nat.ble_eq ▸ h) rfl
theorem ok_res {a b:Nat}(h:a≤b):((true && Nat.ble a b) && true)=true:=and_mk (Nat.ble_eq ▸ h) rfl
end Go.Proofs.YtkkbddkpggjgpaaGreatDoor

namespace Go.Proofs.YtkkbddkpggjgpaaGreatDoor
abbrev zV (m:Int):V:=.agg [.bool (decide (m<0)),N m.natAbs]
abbrev sV (m n:Int):V:=.agg [.bool (decide (m<0)),N m.natAbs,.bool (decide (n<0)),N n.natAbs]
abbrev tV (m n p q:Int):V:=.agg [.bool (decide (m<0)),N m.natAbs,.bool (decide (n<0)),N n.natAbs,.bool (decide (p<0)),N p.natAbs,.bool (decide (q<0)),N q.natAbs]
abbrev yV (m e:Int):V:=.agg [.bool (decide (m<0)),N m.natAbs,.int .i64 e]
abbrev wV (m e n f:Int):V:=.agg [.bool (decide (m<0)),N m.natAbs,.int .i64 e,.bool (decide (n<0)),N n.natAbs,.int .i64 f]
end Go.Proofs.YtkkbddkpggjgpaaGreatDoor
