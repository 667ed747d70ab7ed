/-
  Lower layers: what functions of the program compute, and plain facts. Conditions: as the theorems say.
-/
import Derived.Test.YtkkbddkpggjgpaaGreatDoorPfN
set_option linter.unusedVariables false
set_option linter.unusedSimpArgs false
namespace Go.Proofs.YtkkbddkpggjgpaaGreatDoor
theorem kn_key {X D P t u2 v1 v2 W V:Nat}(hX:X=W+P*(u2+4294967296*t))(hW:W<P)(hD:D=V+P*(v2+4294967296*v1)) :
  X / D*v2+4294967296*(X / D*v1)≤u2+4294967296*t:=by
 generalize hq:X / D=q
 have h1:q*D≤X:=by rw[← hq];exact Nat.div_mul_le_self X D
 have h2:q*(P*(v2+4294967296*v1))≤q*D:=Nat.mul_le_mul_left _ (by omega)
 have h3:P*(q*(v2+4294967296*v1))<P*(u2+4294967296*t+1):=by
  rw[Nat.mul_left_comm P q,Nat.mul_add P _ 1];omega
 have h4:=Nat.lt_of_mul_lt_mul_left h3
 rw[Nat.mul_add,Nat.mul_left_comm] at h4
 omega
theorem kn_lt {X D:Nat}(h:X<D*4294967296):X / D<4294967296:=by
 rcases Nat.eq_zero_or_pos D with h0 | h0
 ·subst h0;omega
 ·exact Nat.div_lt_of_lt_mul h
theorem kn_first {X D P t u2 v1 v2 W V:Nat}(hX:X=W+P*(u2+4294967296*t))(hW:W<P)(hD:D=V+P*(v2+4294967296*v1))(hu:u2<4294967296)(hv:0<v1) :
  X / D≤t / v1:=by
 have h:=kn_key hX hW hD
 rw[Nat.le_div_iff_mul_le hv]
 generalize X / D*v2=a at h
 generalize X / D*v1=b at *
 omega
theorem kn_last {X D P t u2 v1 v2 W V g:Nat}(hX:X=W+P*(u2+4294967296*t))(hD:D=V+P*(v2+4294967296*v1))(hV:V<P)(hv:0<v1)
  (hg:g<4294967296) (h:g*v2+4294967296*(g*v1)≤u2+4294967296*t):g≤X / D+1:=by
 rcases Nat.eq_zero_or_pos g with h0 | h0
 ·rw[h0];exact Nat.zero_le _
 have h1:P*(g*(v2+4294967296*v1))≤P*(u2+4294967296*t):=Nat.mul_le_mul_left _ (by rw[Nat.mul_add,Nat.mul_left_comm];omega)
 have h2:g*D=g*V+P*(g*(v2+4294967296*v1)):=by rw[hD,Nat.mul_add,Nat.mul_left_comm g P]
 have h3:g*V≤4294967296*P:=Nat.mul_le_mul (by omega) (by omega)
 have h4:P*4294967296≤P*(v2+4294967296*v1):=Nat.mul_le_mul_left _ (by omega)
 have h5:(g-1)*D=g*D-D:=by rw[Nat.sub_mul,Nat.one_mul]
 have h6:(g-1)*D≤X:=by omega
 have h7:0<P:=by omega
 have h8:0<D:=by
  have:=Nat.mul_le_mul_right 4294967296 h7
  omega
 have h9:=(Nat.le_div_iff_mul_le h8).2 h6
 generalize X / D=q at *
 omega
theorem pow_B (n:Nat):0<4294967296^n:=Nat.pow_pos (by omega)
theorem val_inj:∀ {l m:List Nat},Dig l→Dig m→l.length=m.length→val l=val m→l=m
 | [],[],_,_,_,_=>rfl
 | [],_::_,_,_,h,_=>by simp at h
 | _::_,[],_,_,h,_=>by simp at h
 | a::l,b::m,hl,hm,h,hv=>by
  have ha:=hl a (by simp)
  have hb:=hm b (by simp)
  rw[val,val] at hv
  have h1:a=b:=by omega
  have h2:val l=val m:=by omega
  rw[h1,val_inj (fun d hd=>hl d (by simp [hd])) (fun d hd=>hm d (by simp [hd])) (by simpa using h) h2]
def padN (n x:Nat):List Nat:=limbs x ++ List.replicate (n-L x) 0
theorem padN_val (n x:Nat):val (padN n x)=x:=by unfold padN;rw[val_append,val_limbs,val_rep];omega
theorem padN_dig (n x:Nat):Dig (padN n x):=dig_append (dig_limbs x) (dig_rep _)
theorem padN_len {n x:Nat}(h:x<4294967296^n):(padN n x).length=n:=by
 have:=L_le h
 unfold padN
 rw[List.length_append,List.length_replicate]
 show L x+_=n
 omega
def lowL (l:List Nat)(n x:Nat):List Nat:=padN n x ++ l.drop n
theorem lowL_eq {l m:List Nat}{n x:Nat}(hn:n≤l.length)(hl:m.length=l.length)(hD:Dig m)(hv:val (m.take n)=x)(ho:∀ j,n≤j→m.getD j 0=l.getD j 0):m=lowL l n x:=by
 have hx:x<4294967296^n:=by
  rw[← hv]
  have:=val_lt (dig_take hD n)
  rwa [List.length_take,Nat.min_eq_left (by omega)] at this
 unfold lowL
 rw[← List.take_append_drop n m]
 congr 1
 ·refine val_inj (dig_take hD n) (padN_dig n x) ?_ ?_
  ·rw[padN_len hx,List.length_take,Nat.min_eq_left (by omega)]
  ·rw[hv,padN_val]
 ·apply List.ext_getElem?
  intro i
  rw[List.getElem?_drop,List.getElem?_drop]
  have:=ho (n+i) (by omega)
  rw[List.getD_eq_getElem?_getD,List.getD_eq_getElem?_getD] at this
  by_cases h:n+i<l.length
  ·rw[List.getElem?_eq_getElem h,List.getElem?_eq_getElem (by omega)] at this ⊢
   simpa using this
  ·rw[List.getElem?_eq_none (by omega),List.getElem?_eq_none (by omega)]
theorem lowL_len {l:List Nat}{n x:Nat}(hn:n≤l.length)(hx:x<4294967296^n):(lowL l n x).length=l.length:=by
 unfold lowL;rw[List.length_append,padN_len hx,List.length_drop];omega
theorem lowL_dig {l:List Nat}{n x:Nat}(h:Dig l):Dig (lowL l n x):=dig_append (padN_dig _ _) (dig_drop h _)
theorem lowL_take {l:List Nat}{n x:Nat}(hx:x<4294967296^n):val ((lowL l n x).take n)=x:=by
 unfold lowL
 rw[List.take_append_of_le_length (by rw[padN_len hx];exact Nat.le_refl _),List.take_of_length_le (by rw[padN_len hx];exact Nat.le_refl _),padN_val]
def Xd (l:List Nat)(k n:Nat):Nat:=val (l.take (k+n+1))
structure Kn (l:List Nat) (k:Nat) (V:Nat):Prop where
 dig:Dig l
 two:2≤L V
 len:k+L V+1≤l.length
 top:2147483648≤(limbs V).getD (L V-1) 0
 small:Xd l k (L V)<4294967296^k*V*4294967296
def kq (l:List Nat)(k V:Nat):Nat:=Xd l k (L V) / (4294967296^k*V)
theorem Kn.X {l k V}(h:Kn l k V):Xd l k (L V)=val (l.take (k+L V-2))+4294967296^(k+L V-2)*(l.getD (k+L V-2) 0+4294967296*(l.getD (k+L V-1) 0+4294967296*l.getD (k+L V) 0)):=by
 have h2:=h.two
 unfold Xd
 have e1:=take_succ_val l (k+L V)
 have e2:=take_succ_val l (k+L V-1)
 have e3:=take_succ_val l (k+L V-2)
 rw[show k+L V-1+1=k+L V by omega] at e2
 rw[show k+L V-2+1=k+L V-1 by omega] at e3
 rw[e1,e2,e3]
 have p1:4294967296^(k+L V-1)=4294967296^(k+L V-2)*4294967296:=by rw[← Nat.pow_succ];congr 1;omega
 have p2:4294967296^(k+L V)=4294967296^(k+L V-2)*4294967296*4294967296:=by rw[← Nat.pow_succ,← Nat.pow_succ];congr 1;omega
 rw[p1,p2]
 generalize 4294967296^(k+L V-2)=P
 simp only [Nat.mul_add,Nat.mul_assoc,Nat.add_assoc]
theorem Kn.V {l k V}(h:Kn l k V):4294967296^k*V=4294967296^k*val ((limbs V).take (L V-2))+4294967296^(k+L V-2)*((limbs V).getD (L V-2) 0+4294967296*(limbs V).getD (L V-1) 0):=by
 have h2:=h.two
 have e2:=take_succ_val (limbs V) (L V-1)
 have e3:=take_succ_val (limbs V) (L V-2)
 rw[show L V-1+1=L V by omega,val_lim V (Nat.le_refl _)] at e2
 rw[show L V-2+1=L V-1 by omega] at e3
 have p1:4294967296^(L V-1)=4294967296^(L V-2)*4294967296:=by rw[← Nat.pow_succ];congr 1;omega
 have p2:4294967296^(k+L V-2)=4294967296^k*4294967296^(L V-2):=by rw[← Nat.pow_add];congr 1;omega
 rw[e3,p1] at e2
 rw[p2]
 generalize (limbs V).getD (L V-1) 0=a at *
 generalize (limbs V).getD (L V-2) 0=b at *
 generalize val ((limbs V).take (L V-2))=c at *
 generalize 4294967296^(L V-2)=P at *
 conv=>lhs;rw[e2]
 simp only [Nat.mul_add,Nat.mul_assoc,Nat.add_assoc]
theorem Kn.W {l k V}(h:Kn l k V):val (l.take (k+L V-2))<4294967296^(k+L V-2):=by
 have h2:=h.two
 have h3:=h.len
 have:=val_lt (dig_take h.dig (k+L V-2))
 rwa [List.length_take,Nat.min_eq_left (by omega)] at this
theorem Kn.V2 {l k V}(h:Kn l k V):4294967296^k*val ((limbs V).take (L V-2))<4294967296^(k+L V-2):=by
 have h2:=h.two
 have:=val_lt (dig_take (dig_limbs V) (L V-2))
 rw[List.length_take,Nat.min_eq_left (show L V-2≤(limbs V).length from Nat.sub_le _ _)] at this
 rw[show k+L V-2=k+(L V-2) by omega,Nat.pow_add]
 exact (Nat.mul_lt_mul_left (pow_B k)).2 this
theorem Kn.u0 {l k V}(h:Kn l k V):l.getD (k+L V) 0≤(limbs V).getD (L V-1) 0:=by
 have h1:=h.small
 rw[h.X,h.V] at h1
 have h2:=h.V2
 have h3:=dig_get (dig_limbs V) (L V-2)
 generalize 4294967296^k*val ((limbs V).take (L V-2))=c at *
 generalize val (l.take (k+L V-2))=w at *
 generalize (limbs V).getD (L V-1) 0=a at *
 generalize (limbs V).getD (L V-2) 0=b at *
 generalize l.getD (k+L V) 0=d at *
 generalize l.getD (k+L V-1) 0=e at *
 generalize l.getD (k+L V-2) 0=f at *
 generalize 4294967296^(k+L V-2)=P at *
 have h4:P*(f+4294967296*(e+4294967296*d))<P*((b+4294967296*a+1)*4294967296):=by
  have:P*((b+4294967296*a+1)*4294967296)=(P+P*(b+4294967296*a))*4294967296:=by
   rw[← Nat.mul_assoc,Nat.mul_add P _ 1];omega
  rw[this]
  omega
 have h5:=Nat.lt_of_mul_lt_mul_left h4
 omega
theorem Kn.qlt {l k V}(h:Kn l k V):kq l k V<4294967296:=kn_lt h.small
def GIn (l:List Nat)(k V:Nat)(g r:Int):Prop :=
 0≤g∧0≤r∧r<4294967296∧g*gi (limbs V) (L V-1)+r=gi l (k+L V)*4294967296+gi l (k+L V-1)∧((kq l k V:Nat):Int)≤g∧g≤4294967297
def GOut (l:List Nat)(k V:Nat)(g:Int):Prop:=0≤g∧g<4294967296∧((kq l k V:Nat):Int)≤g∧g≤(kq l k V:Nat)+1
theorem gin_init {l k V}(h:Kn l k V){t:Int}(ht:t=gi l (k+L V)*4294967296+gi l (k+L V-1)) :
  GIn l k V (t / gi (limbs V) (L V-1)) (t%gi (limbs V) (L V-1)):=by
 have h1:=kn_first h.X h.W h.V (dig_get h.dig _) (by have:=h.top;omega)
 have h2:=h.top
 have h3:=dig_get (dig_limbs V) (L V-1)
 have h4:=h.u0
 have h5:=dig_get h.dig (k+L V-1)
 unfold GIn kq
 rw[gi_eq,gi_eq] at ht
 rw[gi_eq,gi_eq,gi_eq]
 generalize (limbs V).getD (L V-1) 0=v at *
 generalize l.getD (k+L V) 0=a at *
 generalize l.getD (k+L V-1) 0=b at *
 generalize Xd l k (L V) / (4294967296^k*V)=q at *
 have ht':t=((b+4294967296*a:Nat):Int):=by omega
 have hv:(0:Int)<v:=by omega
 have e1:=Int.emod_nonneg t (show (v:Int)≠0 by omega)
 have e2:=Int.emod_lt_of_pos t hv
 have e3:=Int.mul_ediv_add_emod t v
 have e4:0≤t / v:=Int.ediv_nonneg (by omega) (by omega)
 refine⟨e4,e1,by omega,by rw[Int.mul_comm];omega,?_,?_⟩
 ·rw[ht',← Int.natCast_ediv];omega
 ·refine Decidable.byContradiction fun hn=>?_
  have:(4294967298:Int)≤t / v:=by omega
  have:=(Int.le_ediv_iff_mul_le hv).1 this
  omega
theorem g_prod {g v:Int}(hg:0≤g∧g<4294967296)(hv:0≤v∧v<4294967296):0≤g*v∧g*v≤18446744065119617025:=by
 have h1:0≤g*v:=Int.mul_nonneg hg.1 hv.1
 have h2:g*v≤4294967295*4294967295:=Int.mul_le_mul (by omega) (by omega) hv.1 (by omega)
 omega
theorem gin_down {l k V}(h:Kn l k V){g r:Int}(hi:GIn l k V g r)(hc:4294967296≤g∨r*4294967296+gi l (k+L V-2)<g*gi (limbs V) (L V-2)):((kq l k V:Nat):Int)≤g-1:=by
 obtain⟨h1,h2,h3,h4,h5,h6⟩:=hi
 rcases hc with hc | hc
 ·have:=h.qlt;omega
 ·refine Decidable.byContradiction fun hn=>?_
  have hg:g=((kq l k V:Nat):Int):=by omega
  have hk:=kn_key h.X h.W h.V
  rw[gi_eq,gi_eq] at hc
  rw[gi_eq,gi_eq,gi_eq] at h4
  subst hg
  unfold kq at *
  generalize (limbs V).getD (L V-1) 0=v at *
  generalize (limbs V).getD (L V-2) 0=v2 at *
  generalize l.getD (k+L V) 0=a at *
  generalize l.getD (k+L V-1) 0=b at *
  generalize l.getD (k+L V-2) 0=c at *
  generalize Xd l k (L V) / (4294967296^k*V)=q at *
  rw[← Int.natCast_mul] at hc h4
  generalize q*v2=x at *
  generalize q*v=y at *
  omega
theorem gin_next {l k V}(h:Kn l k V){g r:Int}(hi:GIn l k V g r)(hc:4294967296≤g∨r*4294967296+gi l (k+L V-2)<g*gi (limbs V) (L V-2))(hr:r+gi (limbs V) (L V-1)<4294967296) :
  GIn l k V (g-1) (r+gi (limbs V) (L V-1)):=by
 have hd:=gin_down h hi hc
 obtain⟨h1,h2,h3,h4,h5,h6⟩:=hi
 have hv:=gi_nonneg (limbs V) (L V-1)
 refine⟨by omega,by omega,hr,?_,hd,by omega⟩
 rw[Int.sub_mul];omega
theorem gout_of {l k V}(h:Kn l k V){g:Int}(h0:0≤g)(hg:g<4294967296)(hq:((kq l k V:Nat):Int)≤g)(hk:g*gi (limbs V) (L V-2)+4294967296*(g*gi (limbs V) (L V-1)) ≤
  gi l (k+L V-2)+4294967296*(gi l (k+L V)*4294967296+gi l (k+L V-1))):GOut l k V g:=by
 refine⟨h0,hg,hq,?_⟩
 obtain⟨g,rfl⟩:=Int.eq_ofNat_of_zero_le h0
 have:=kn_last (g:=g) h.X h.V h.V2 (by have:=h.top;omega) (by omega) (by
  rw[gi_eq,gi_eq,gi_eq,gi_eq,gi_eq] at hk
  rw[← Int.natCast_mul,← Int.natCast_mul] at hk
  omega)
 unfold kq
 omega
theorem gin_stop {l k V}(h:Kn l k V){g r:Int}(hi:GIn l k V g r)(h1:g<4294967296)(h2:g*gi (limbs V) (L V-2)≤r*4294967296+gi l (k+L V-2)):GOut l k V g:=by
 obtain⟨g1,g2,g3,g4,g5,g6⟩:=hi
 exact gout_of h g1 h1 g5 (by omega)
theorem gin_break {l k V}(h:Kn l k V){g r:Int}(hi:GIn l k V g r)(hc:4294967296≤g∨r*4294967296+gi l (k+L V-2)<g*gi (limbs V) (L V-2))(hr:4294967296≤r+gi (limbs V) (L V-1)) :
  GOut l k V (g-1):=by
 have hd:=gin_down h hi hc
 obtain⟨g1,g2,g3,g4,g5,g6⟩:=hi
 have hv:=gi_lt (dig_limbs V) (L V-1)
 have hv0:=gi_nonneg (limbs V) (L V-1)
 have hw:=gi_lt (dig_limbs V) (L V-2)
 have hw0:=gi_nonneg (limbs V) (L V-2)
 have hb:=gi_lt h.dig (k+L V-1)
 have hc0:=gi_nonneg l (k+L V-2)
 have hu:gi l (k+L V)≤gi (limbs V) (L V-1):=by have:=h.u0;rw[gi_eq,gi_eq];omega
 have hv1:2147483648≤gi (limbs V) (L V-1):=by have:=h.top;rw[gi_eq];omega
 have hlt:g-1<4294967296:=by
  refine Decidable.byContradiction fun hn=>?_
  have:4294967296*gi (limbs V) (L V-1)≤(g-1)*gi (limbs V) (L V-1):=Int.mul_le_mul_of_nonneg_right (by omega) hv0
  rw[Int.sub_mul] at this
  omega
 have hp:=g_prod (g:=g-1) (v:=gi (limbs V) (L V-2)) ⟨by omega,hlt⟩ ⟨hw0,hw⟩
 refine gout_of h (by omega) hlt hd ?_
 have:(g-1)*gi (limbs V) (L V-1)=g*gi (limbs V) (L V-1)-gi (limbs V) (L V-1):=by rw[Int.sub_mul];omega
 omega
def MsIn (l:List Nat)(k V:Nat)(g:Int)(i c b:Int)(m:List Nat):Prop :=
 0≤i∧i≤L V∧0≤c∧c<4294967296∧0≤b∧b≤1∧m.length=l.length∧Dig m∧(∀ j,k+i.toNat≤j→m.getD j 0=l.getD j 0) ∧
 val (m.take (k+i.toNat))+4294967296^k*(g.toNat*val ((limbs V).take i.toNat))=val (l.take (k+i.toNat))+4294967296^(k+i.toNat)*(c.toNat+b.toNat)
theorem ms_init {l:List Nat}{k V:Nat}(g:Int)(h:Dig l):MsIn l k V g 0 0 0 l:=⟨by omega,by omega,by omega,by omega,by omega,by omega,rfl,h,fun _ _=>rfl,by simp [val]⟩
theorem ms_next {l:List Nat}{k V:Nat}{g i c b s:Int}{m:List Nat}(h:MsIn l k V g i c b m)(hi:i<L V)(hlen:k+L V+1≤l.length)(hg:0≤g)(hs:s=c+g*gi (limbs V) i.toNat)(hsb:s / 4294967296<4294967296) :
  MsIn l k V g (i+1) (s / 4294967296) (if gi m (k+i.toNat)<s%4294967296+b then 1 else 0) (m.set (k+i.toNat) ((gi m (k+i.toNat)-s%4294967296-b)%4294967296).toNat):=by
 obtain⟨h0,h1,h2,h3,h4,h5,h6,h7,h8,h9⟩:=h
 have hl:=h8 (k+i.toNat) (Nat.le_refl _)
 have hy:=dig_get h7 (k+i.toNat)
 have hx:=gi_nonneg (limbs V) i.toNat
 have hb1:=take_succ_val (limbs V) i.toNat
 have hb2:=take_succ_val l (k+i.toNat)
 rw[gi_eq] at hs hx
 rw[gi_eq]
 rw[← hl] at hb2
 generalize (limbs V).getD i.toNat 0=x at *
 generalize m.getD (k+i.toNat) 0=y at *
 obtain⟨g,rfl⟩:=Int.eq_ofNat_of_zero_le hg
 have hs0:0≤s:=by rw[hs];have:=Int.mul_nonneg hg hx;omega
 refine⟨by omega,by omega,by omega,hsb,by split<;>omega,by split<;>omega,by simpa using h6,dig_set h7 (by omega) _,?_,?_⟩
 ·intro j hj
  rw[set_getD_ne _ _ (by omega)]
  exact h8 j (by omega)
 ·rw[show k+(i+1).toNat=k+i.toNat+1 by omega,set_val _ _ (by omega),hb2,show (i+1).toNat=i.toNat+1 by omega,hb1]
  simp only [Int.toNat_natCast] at h9 ⊢
  generalize hk:(if (y:Int)<s%4294967296+b then (1:Int) else 0)=b'
  obtain⟨c,rfl⟩:=Int.eq_ofNat_of_zero_le h2
  have hsN:s=((c+g*x:Nat):Int):=by rw[hs];simp
  have e:(((y:Int)-s%4294967296-b)%4294967296).toNat+c+b.toNat+g*x=y+4294967296*((s / 4294967296).toNat+b'.toNat):=by
   generalize g*x=z at *
   subst hk;split<;>omega
  generalize (((y:Int)-s%4294967296-b)%4294967296).toNat=d at *
  generalize (s / 4294967296).toNat=c' at *
  rw[Nat.pow_succ,Int.toNat_natCast] at *
  have e2:4294967296^k*(g*(val ((limbs V).take i.toNat)+4294967296^i.toNat*x))=4294967296^k*(g*val ((limbs V).take i.toNat))+4294967296^(k+i.toNat)*(g*x):=by
   rw[Nat.pow_add,Nat.mul_add,Nat.mul_add,Nat.mul_left_comm g,Nat.mul_assoc]
  rw[e2]
  generalize 4294967296^k*(g*val ((limbs V).take i.toNat))=A at *
  generalize 4294967296^(k+i.toNat)=P at *
  have e3:P*d+P*(c+b.toNat)+P*(g*x)=P*y+P*4294967296*(c'+b'.toNat):=by
   rw[Nat.mul_assoc,← Nat.mul_add,← Nat.mul_add,← Nat.mul_add]
   congr 1
   omega
  omega
theorem ms_end {l:List Nat}{k V:Nat}{g c b:Int}{m:List Nat}(h:MsIn l k V g (L V:Int) c b m)(hlen:k+L V+1≤l.length) :
  (m.set (k+L V) ((gi m (k+L V)-c-b)%4294967296).toNat).length=l.length∧Dig (m.set (k+L V) ((gi m (k+L V)-c-b)%4294967296).toNat) ∧
  (∀ j,k+L V+1≤j→(m.set (k+L V) ((gi m (k+L V)-c-b)%4294967296).toNat).getD j 0=l.getD j 0) ∧
  val ((m.set (k+L V) ((gi m (k+L V)-c-b)%4294967296).toNat).take (k+L V+1))+g.toNat*(4294967296^k*V)=Xd l k (L V)+4294967296^(k+L V+1)*(if gi m (k+L V)<c+b then 1 else 0):=by
 obtain⟨h0,h1,h2,h3,h4,h5,h6,h7,h8,h9⟩:=h
 rw[Int.toNat_natCast,val_lim V (Nat.le_refl _)] at h9
 rw[Int.toNat_natCast] at h8
 have hl:=h8 (k+L V) (Nat.le_refl _)
 have hy:=dig_get h7 (k+L V)
 have hb2:=take_succ_val l (k+L V)
 rw[← hl] at hb2
 unfold Xd
 rw[gi_eq,hb2]
 refine⟨by simpa using h6,dig_set h7 (by omega) _,fun j hj=>?_,?_⟩
 ·rw[set_getD_ne _ _ (by omega)];exact h8 j (by omega)
 rw[set_val _ _ (by omega)]
 generalize m.getD (k+L V) 0=y at *
 have e:(((y:Int)-c-b)%4294967296).toNat+(c.toNat+b.toNat)=y+4294967296*(if (y:Int)<c+b then 1 else 0):=by split<;>omega
 generalize (((y:Int)-c-b)%4294967296).toNat=d at *
 generalize (if (y:Int)<c+b then 1 else 0)=z at *
 rw[Nat.pow_succ,Nat.mul_left_comm g.toNat]
 generalize 4294967296^(k+L V)=P at *
 generalize 4294967296^k*(g.toNat*V)=A at *
 have e3:P*d+P*(c.toNat+b.toNat)=P*y+P*4294967296*z:=by
  rw[Nat.mul_assoc,← Nat.mul_add,← Nat.mul_add,e]
 omega
def AbIn (m0:List Nat)(k V:Nat)(i a:Int)(m:List Nat):Prop :=
 0≤i∧i≤L V∧0≤a∧a≤1∧m.length=m0.length∧Dig m∧(∀ j,k+i.toNat≤j→m.getD j 0=m0.getD j 0) ∧
 val (m.take (k+i.toNat))+4294967296^(k+i.toNat)*a.toNat=val (m0.take (k+i.toNat))+4294967296^k*val ((limbs V).take i.toNat)
theorem ab_init {m0:List Nat}{k V:Nat}(h:Dig m0):AbIn m0 k V 0 0 m0:=⟨by omega,by omega,by omega,by omega,rfl,h,fun _ _=>rfl,by simp [val]⟩
theorem ab_next {m0:List Nat}{k V:Nat}{i a s:Int}{m:List Nat}(h:AbIn m0 k V i a m)(hi:i<L V)(hlen:k+L V+1≤m0.length)(hs:s=gi m (k+i.toNat)+gi (limbs V) i.toNat+a) :
  AbIn m0 k V (i+1) (s / 4294967296) (m.set (k+i.toNat) (s%4294967296).toNat):=by
 obtain⟨h0,h1,h2,h3,h4,h5,h6,h7⟩:=h
 have hl:=h6 (k+i.toNat) (Nat.le_refl _)
 have hy:=dig_get h5 (k+i.toNat)
 have hx:=dig_get (dig_limbs V) i.toNat
 have hb1:=take_succ_val (limbs V) i.toNat
 have hb2:=take_succ_val m0 (k+i.toNat)
 rw[gi_eq,gi_eq] at hs
 rw[← hl] at hb2
 generalize (limbs V).getD i.toNat 0=x at *
 generalize m.getD (k+i.toNat) 0=y at *
 refine⟨by omega,by omega,by omega,by omega,by simpa using h4,dig_set h5 (by omega) _,?_,?_⟩
 ·intro j hj
  rw[set_getD_ne _ _ (by omega)]
  exact h6 j (by omega)
 ·rw[show k+(i+1).toNat=k+i.toNat+1 by omega,set_val _ _ (by omega),hb2,show (i+1).toNat=i.toNat+1 by omega,hb1]
  have e:(s%4294967296).toNat+4294967296*(s / 4294967296).toNat=y+x+a.toNat:=by omega
  generalize (s%4294967296).toNat=d at *
  generalize (s / 4294967296).toNat=c' at *
  rw[Nat.pow_succ]
  have e2:4294967296^k*(val ((limbs V).take i.toNat)+4294967296^i.toNat*x)=4294967296^k*val ((limbs V).take i.toNat)+4294967296^(k+i.toNat)*x:=by
   rw[Nat.pow_add,Nat.mul_add,Nat.mul_assoc]
  rw[e2]
  generalize 4294967296^k*val ((limbs V).take i.toNat)=A at *
  generalize 4294967296^(k+i.toNat)=P at *
  have e3:P*d+P*4294967296*c'=P*y+P*x+P*a.toNat:=by
   rw[Nat.mul_assoc,← Nat.mul_add,← Nat.mul_add,← Nat.mul_add,e]
  omega
theorem kn_right {l:List Nat}{k V:Nat}{g:Int}{m:List Nat}(h:Kn l k V)(hg:GOut l k V g)(hm:m.length=l.length)(hD:Dig m)(ho:∀ j,k+L V+1≤j→m.getD j 0=l.getD j 0)
  (hv:val (m.take (k+L V+1))+g.toNat*(4294967296^k*V)=Xd l k (L V)):g=((kq l k V:Nat):Int)∧m=lowL l (k+L V+1) (Xd l k (L V)%(4294967296^k*V)):=by
 obtain⟨g0,g1,g2,g3⟩:=hg
 have hpos:0<4294967296^k*V:=by
  refine Nat.mul_pos (pow_B k) ?_
  rcases Nat.eq_zero_or_pos V with q | q
  ·have:=h.two;rw[q,L_zero] at this;omega
  ·exact q
 have h1:g.toNat≤kq l k V:=by unfold kq;rw[Nat.le_div_iff_mul_le hpos];omega
 have h2:g.toNat=kq l k V:=by omega
 refine⟨by omega,lowL_eq h.len hm hD ?_ ho⟩
 have h3:=Nat.div_add_mod (Xd l k (L V)) (4294967296^k*V)
 rw[h2] at hv
 unfold kq at hv
 rw[Nat.mul_comm] at hv
 omega
theorem kn_dig {y:Nat}{a:Int}(hy:y<4294967296)(a0:0≤a)(a1:a≤1):∃ z,z≤1∧(((y:Int)+a)%4294967296).toNat+4294967296*z=y+a.toNat:=⟨(((y:Int)+a) / 4294967296).toNat,by omega,by omega⟩
theorem kn_fin {X D P W W0 q y aN d R:Nat}(h1:W0+P*y+(q+1)*D=X+P*4294967296)(h2:W+P*aN=W0+D)(h3:∃ z,z≤1∧d+4294967296*z=y+aN)
  (h5:D*q+R=X) (h6:R<D) (h7:D<P) (h4:W+P*d<P*4294967296):W+P*d=R:=by
 obtain⟨z,hz,h3⟩:=h3
 have e3:P*d+P*(4294967296*z)=P*y+P*aN:=by rw[← Nat.mul_add,← Nat.mul_add,h3]
 have e4:(q+1)*D=D*q+D:=by rw[Nat.add_mul,Nat.one_mul,Nat.mul_comm]
 rcases (show z=0∨z=1 by omega) with rfl | rfl
 ·simp only [Nat.mul_zero,Nat.add_zero] at e3;omega
 ·simp only [Nat.mul_one] at e3;omega
theorem kn_less {l:List Nat}{k V:Nat}{g:Int}{m0:List Nat}(h:Kn l k V)(hg:GOut l k V g)(hm:m0.length=l.length)(hD:Dig m0)
  (hv:val (m0.take (k+L V+1))+g.toNat*(4294967296^k*V)=Xd l k (L V)+4294967296^(k+L V+1)):((kq l k V:Nat):Int)<g:=by
 obtain⟨g0,g1,g2,g3⟩:=hg
 have hlen:=h.len
 have hpos:0<4294967296^k*V:=by
  refine Nat.mul_pos (pow_B k) ?_
  rcases Nat.eq_zero_or_pos V with q | q
  ·have:=h.two;rw[q,L_zero] at this;omega
  ·exact q
 have hlt:=val_lt (dig_take hD (k+L V+1))
 rw[List.length_take,Nat.min_eq_left (by omega)] at hlt
 have h1:kq l k V<g.toNat:=by
  unfold kq
  rw[Nat.div_lt_iff_lt_mul hpos]
  generalize 4294967296^(k+L V+1)=PB at *
  generalize g.toNat*(4294967296^k*V)=gD at *
  omega
 clear hv hlt
 omega
theorem kn_back {l:List Nat}{k V:Nat}{g a:Int}{m0 m:List Nat}(h:Kn l k V)(hg:GOut l k V g)(hm:m0.length=l.length)(hD:Dig m0)(ho:∀ j,k+L V+1≤j→m0.getD j 0=l.getD j 0)
  (hv:val (m0.take (k+L V+1))+g.toNat*(4294967296^k*V)=Xd l k (L V)+4294967296^(k+L V+1)) (ha:AbIn m0 k V (L V:Int) a m) :
  g-1=((kq l k V:Nat):Int)∧m.set (k+L V) ((gi m (k+L V)+a)%4294967296).toNat=lowL l (k+L V+1) (Xd l k (L V)%(4294967296^k*V)):=by
 obtain⟨g0,g1,g2,g3⟩:=hg
 obtain⟨a0,a1,a2,a3,a4,a5,a6,a7⟩:=ha
 rw[Int.toNat_natCast,val_lim V (Nat.le_refl _)] at a7
 rw[Int.toNat_natCast] at a6
 have hlen:=h.len
 have hpos:0<4294967296^k*V:=by
  refine Nat.mul_pos (pow_B k) ?_
  rcases Nat.eq_zero_or_pos V with q | q
  ·have:=h.two;rw[q,L_zero] at this;omega
  ·exact q
 have hlt:=val_lt (dig_take hD (k+L V+1))
 rw[List.length_take,Nat.min_eq_left (by omega)] at hlt
 have h1:kq l k V<g.toNat:=by
  unfold kq
  rw[Nat.div_lt_iff_lt_mul hpos]
  clear a7
  generalize 4294967296^(k+L V+1)=PB at *
  generalize g.toNat*(4294967296^k*V)=gD at *
  omega
 have h2:g.toNat=kq l k V+1:=by clear hv hlt a7;omega
 have hl:=a6 (k+L V) (Nat.le_refl _)
 have hb:=take_succ_val m0 (k+L V)
 have hy:=dig_get a5 (k+L V)
 have hDm:Dig (m.set (k+L V) ((gi m (k+L V)+a)%4294967296).toNat):=dig_set a5 (by omega) _
 have hset:k+L V<m.length:=by rw[a4,hm];exact hlen
 have hlm:(m.set (k+L V) ((gi m (k+L V)+a)%4294967296).toNat).length=l.length:=by rw[List.length_set,a4,hm]
 refine⟨by clear hv hlt a7;omega,lowL_eq h.len hlm hDm ?_ ?_⟩
 ·have hlt2:=val_lt (dig_take hDm (k+L V+1))
  rw[List.length_take,Nat.min_eq_left (by rw[hlm];exact hlen)] at hlt2
  rw[set_val _ _ hset] at hlt2 ⊢
  have hVl:4294967296^k*V<4294967296^(k+L V):=by rw[Nat.pow_add];exact (Nat.mul_lt_mul_left (pow_B k)).2 (L_lt V)
  rw[hb,hl.symm,h2] at hv
  have h3:=Nat.div_add_mod (Xd l k (L V)) (4294967296^k*V)
  have h4:=Nat.mod_lt (Xd l k (L V)) hpos
  rw[gi_eq] at hlt2 ⊢
  rw[Nat.pow_succ] at hv hlt2
  exact kn_fin hv a7 (kn_dig hy a2 a3) h3 h4 hVl hlt2
 ·intro j hj
  rw[set_getD_ne _ _ (by omega),a6 j (by omega)]
  exact ho j hj
theorem U_split {l:List Nat}{x:Nat}(h:Dig l)(hv:val l=x):∃ rest,U l=lim x ++ rest:=by
 subst hv
 refine⟨U (l.drop (limbs (val l)).length),?_⟩
 have h1:=take_limbs h
 unfold lim
 rw[U_append]
 congr 1
 conv=>lhs;rw[← List.take_append_drop (limbs (val l)).length l]
 rw[h1]
theorem wOr_q {r x:Int}(hr:0≤r∧r<4294967296)(hx:0≤x∧x<4294967296):wOr .u64 (r*2^32) x=r*4294967296+x:=by
 obtain⟨n,rfl⟩:=Int.eq_ofNat_of_zero_le hx.1
 exact wOr_lo hr (by omega)
theorem gi_b {l:List Nat}(h:Dig l)(i:Nat):0≤gi l i∧gi l i<4294967296:=⟨gi_nonneg l i,gi_lt h i⟩
theorem tdiv_pos' {a b:Int}(h:0≤a):Int.tdiv a b=a / b:=Int.tdiv_eq_ediv_of_nonneg h
theorem wRem_pos {a b:Int}(h:0≤a):wRem a b=a%b:=Int.tmod_eq_emod_of_nonneg h
theorem bitLen_le {x:Nat}(h:x<4294967296):Lib.bitLen x≤32:=by
 rw[bitLen_eq h]
 rcases Nat.eq_zero_or_pos x with h0 | h0
 ·rw[h0];decide
 ·refine Decidable.byContradiction fun hn=>?_
  have h1:=nbits_le (show x≠0 by omega)
  have:2^32≤2^(nbits x-1):=Nat.pow_le_pow_right (by omega) (by omega)
  omega
theorem kn_norm {b s:Nat}(hb:b≠0)(hs:nbits b+s=32*L b):L (b*2^s)=L b∧2147483648≤(limbs (b*2^s)).getD (L b-1) 0:=by
 have h1:=nbits_le hb
 have h2:=nbits_lt b
 have h3:=nbits_pos hb
 have h4:=L_pos hb
 have hB:∀ k,4294967296^k=2^(32*k):=fun k=>by rw[Nat.pow_mul]
 have u:b*2^s<4294967296^L b:=by
  rw[hB,← hs,Nat.pow_add];exact (Nat.mul_lt_mul_right (Nat.pow_pos (by omega))).2 h2
 have d:2^(32*L b-1)≤b*2^s:=by
  rw[show 32*L b-1=(nbits b-1)+s by omega,Nat.pow_add]
  exact Nat.mul_le_mul_right _ h1
 have hl:=L_le u
 have hg:L b≤L (b*2^s):=L_mono (by have:=Nat.mul_le_mul_left b (Nat.pow_pos (n:=s) (show 0<2 by omega));omega)
 have he:L (b*2^s)=L b:=by omega
 refine⟨he,?_⟩
 refine Decidable.byContradiction fun hn=>?_
 have e1:=take_succ_val (limbs (b*2^s)) (L b-1)
 rw[show L b-1+1=L b by omega,val_lim _ hl] at e1
 have e2:=val_lt (dig_take (dig_limbs (b*2^s)) (L b-1))
 rw[List.length_take,Nat.min_eq_left (show L b-1≤(limbs (b*2^s)).length by show L b-1≤L (b*2^s);omega)] at e2
 have e3:2^(32*L b-1)=4294967296^(L b-1)*2147483648:=by
  rw[hB,show (2147483648:Nat)=2^31 by decide,← Nat.pow_add];congr 1;omega
 rw[e3] at d
 have e4:4294967296^(L b-1)*((limbs (b*2^s)).getD (L b-1) 0+1)≤4294967296^(L b-1)*2147483648:=Nat.mul_le_mul_left _ (by omega)
 rw[Nat.mul_add,Nat.mul_one] at e4
 omega
def DvIn (A V m:Nat)(k:Int)(lu lq:List Nat):Prop :=
 -1≤k∧k<m∧lu.length=m+L V∧Dig lu∧lq.length=m∧Dig lq∧val (lu.take ((k+1).toNat+L V))=A%(4294967296^(k+1).toNat*V)∧val (lq.drop (k+1).toNat)=A / (4294967296^(k+1).toNat*V)
theorem dv_kn {A V m:Nat}{k:Int}{lu lq:List Nat}(h:DvIn A V m k lu lq)(hk:0≤k)(hV:2≤L V)(ht:2147483648≤(limbs V).getD (L V-1) 0):Kn lu k.toNat V:=by
 obtain⟨h0,h1,h2,h3,h4,h5,h6,h7⟩:=h
 refine⟨h3,hV,by omega,ht,?_⟩
 unfold Xd
 have e:(k+1).toNat+L V=k.toNat+L V+1:=by omega
 rw[e] at h6
 rw[h6,show (k+1).toNat=k.toNat+1 by omega,Nat.pow_succ,Nat.mul_right_comm]
 refine Nat.mod_lt _ (Nat.mul_pos (Nat.mul_pos (pow_B _) ?_) (by omega))
 rcases Nat.eq_zero_or_pos V with q | q
 ·rw[q,L_zero] at hV;omega
 ·exact q
theorem take_low {l:List Nat}{n:Nat}(h:val (l.take (n+1))<4294967296^n):val (l.take n)=val (l.take (n+1)):=by
 rw[take_succ_val] at h ⊢
 have:l.getD n 0=0:=by
  refine Decidable.byContradiction fun q=>?_
  have:4294967296^n*1≤4294967296^n*l.getD n 0:=Nat.mul_le_mul_left _ (by omega)
  omega
 rw[this];omega
theorem dv_next {A V m:Nat}{k:Int}{lu lq:List Nat}(h:DvIn A V m k lu lq)(hk:0≤k)(hV:2≤L V)(ht:2147483648≤(limbs V).getD (L V-1) 0) :
  DvIn A V m (k-1) (lowL lu (k.toNat+L V+1) (Xd lu k.toNat (L V)%(4294967296^k.toNat*V))) (lq.set k.toNat (kq lu k.toNat V)):=by
 have hkn:=dv_kn h hk hV ht
 have hq:=hkn.qlt
 obtain⟨h0,h1,h2,h3,h4,h5,h6,h7⟩:=h
 have e:(k+1).toNat+L V=k.toNat+L V+1:=by omega
 have e1:(k+1).toNat=k.toNat+1:=by omega
 have hX:Xd lu k.toNat (L V)=A%(4294967296^k.toNat*4294967296*V):=by unfold Xd;rw[← e,h6,e1,Nat.pow_succ]
 have hV0:0<V:=by
  rcases Nat.eq_zero_or_pos V with q | q
  ·rw[q,L_zero] at hV;omega
  ·exact q
 have hD:0<4294967296^k.toNat*V:=Nat.mul_pos (pow_B _) hV0
 have hdv:4294967296^k.toNat*4294967296*V=4294967296^k.toNat*V*4294967296:=Nat.mul_right_comm _ _ _
 have hmod:Xd lu k.toNat (L V)%(4294967296^k.toNat*V)=A%(4294967296^k.toNat*V):=by
  rw[hX,hdv];exact Nat.mod_mod_of_dvd _ (Nat.dvd_mul_right _ _)
 have hlt:=Nat.mod_lt A hD
 have hlt2:4294967296^k.toNat*V<4294967296^(k.toNat+L V):=by rw[Nat.pow_add];exact (Nat.mul_lt_mul_left (pow_B _)).2 (L_lt V)
 have hlt3:A%(4294967296^k.toNat*V)<4294967296^(k.toNat+L V):=Nat.lt_trans hlt hlt2
 have hlt4:A%(4294967296^k.toNat*V)<4294967296^(k.toNat+L V+1):=Nat.lt_of_lt_of_le hlt3 (Nat.pow_le_pow_right (by omega) (by omega))
 rw[hmod]
 refine⟨by omega,by omega,by rw[lowL_len hkn.len hlt4];exact h2,lowL_dig h3,by simpa using h4,dig_set h5 hq _,?_,?_⟩
 ·rw[show (k-1+1).toNat=k.toNat by omega]
  have:=lowL_take (l:=lu) hlt4
  rw[take_low (by rw[this];exact hlt3),this]
 ·rw[show (k-1+1).toNat=k.toNat by omega]
  have hkl:k.toNat<lq.length:=by omega
  have e2:(lq.set k.toNat (kq lu k.toNat V)).drop k.toNat=kq lu k.toNat V::lq.drop (k.toNat+1):=by
   rw[List.drop_eq_getElem_cons (by simpa using hkl),List.drop_set_of_lt (by omega)]
   simp
  rw[e2,val]
  rw[e1] at h7
  rw[h7]
  unfold kq
  rw[hX,Nat.pow_succ,hdv]
  have e3:=Nat.div_add_mod A (4294967296^k.toNat*V*4294967296)
  generalize 4294967296^k.toNat*V=D at *
  conv=>rhs;rw[← e3,Nat.mul_assoc,Nat.mul_add_div hD]
  omega
theorem dv_init {A V m:Nat}(hA:A<4294967296^m*V)(hl:L A+1=m+L V):DvIn A V m ((m:Int)-1) (limbs A ++ [0]) (List.replicate m 0):=by
 refine⟨by omega,by omega,by rw[List.length_append];exact hl,dig_append (dig_limbs A) (fun d hd=>by simp at hd;omega),by simp,dig_rep _,?_,?_⟩
 ·rw[show ((m:Int)-1+1).toNat=m by omega,Nat.mod_eq_of_lt hA,val_all _ (by rw[List.length_append];show L A+1≤_;omega),val_append,val_limbs]
  simp [val]
 ·rw[show ((m:Int)-1+1).toNat=m by omega,Nat.div_eq_of_lt hA,List.drop_of_length_le (by simp)]
  rfl
theorem dv_end {A V m:Nat}{lu lq:List Nat}(h:DvIn A V m (-1) lu lq):lu.length=m+L V∧Dig lu∧lq.length=m∧Dig lq∧val (lu.take (L V))=A%V∧val lq=A / V:=by
 obtain⟨h0,h1,h2,h3,h4,h5,h6,h7⟩:=h
 simp only [show ((-1:Int)+1).toNat=0 by decide,Nat.zero_add,Nat.pow_zero,Nat.one_mul,List.drop_zero] at h6 h7
 exact⟨h2,h3,h4,h5,h6,h7⟩
theorem kn_low {l:List Nat}{k V:Nat}(h:Kn l k V):Xd l k (L V)%(4294967296^k*V)<4294967296^(k+L V+1):=by
 have hpos:0<4294967296^k*V:=by
  refine Nat.mul_pos (pow_B k) ?_
  rcases Nat.eq_zero_or_pos V with q | q
  ·have:=h.two;rw[q,L_zero] at this;omega
  ·exact q
 have h1:=Nat.mod_lt (Xd l k (L V)) hpos
 have h2:4294967296^k*V<4294967296^(k+L V):=by rw[Nat.pow_add];exact (Nat.mul_lt_mul_left (pow_B _)).2 (L_lt V)
 exact Nat.lt_of_lt_of_le (Nat.lt_trans h1 h2) (Nat.pow_le_pow_right (by omega) (by omega))
theorem tkU2 {l:List Nat}{n m:Nat}(h:n=m):List.take n (List.drop 0 (U l))=U (l.take m):=by rw[h,List.drop_zero,U_take]
theorem dv_fit {A V:Nat}(h:V≤A)(hV:V≠0):A<4294967296^(L A+1-L V)*V∧L A+1=(L A+1-L V)+L V:=by
 have h1:=L_mono h
 have h2:=L_low hV
 have h3:=L_pos hV
 have h4:=L_lt A
 refine⟨?_,by omega⟩
 have h5:4294967296^L A=4294967296^(L A+1-L V)*4294967296^(L V-1):=by rw[← Nat.pow_add];congr 1;omega
 have h6:4294967296^(L A+1-L V)*4294967296^(L V-1)≤4294967296^(L A+1-L V)*V:=Nat.mul_le_mul_left _ h2
 rw[← h5] at h6
 exact Nat.lt_of_lt_of_le h4 h6
theorem gi_one {b:Nat}(h:L b=1):gi (limbs b) 0=(b:Int):=by
 have h1:=take_succ_val (limbs b) 0
 rw[val_lim b (by omega)] at h1
 rw[gi_eq]
 simp [val] at h1
 rw[List.getD_eq_getElem?_getD]
 omega
theorem cmpN_or (a b:Nat):(cmpN a b=-1∧a<b)∨(0≤cmpN a b∧b≤a):=by
 unfold cmpN
 by_cases h:a<b
 ·exact .inl ⟨if_pos h,h⟩
 ·rw[if_neg h];exact .inr ⟨by split<;>omega,by omega⟩
theorem shl_div (a b s:Nat):a*2^s / (b*2^s)=a / b:=Nat.mul_div_mul_right _ _ (Nat.pow_pos (by omega))
theorem shl_mod (a b s:Nat):a*2^s%(b*2^s) / 2^s=a%b:=by rw[Nat.mul_mod_mul_right,Nat.mul_div_cancel _ (Nat.pow_pos (by omega))]
theorem or_mk2 {l n:Int}(h:l=0∨l<n):(iEq l 0 || iLt l n)=true:=by
 rcases h with h | h
 ·rw[iEq_mk h];rfl
 ·rw[iLt_mk h];simp
end Go.Proofs.YtkkbddkpggjgpaaGreatDoor
