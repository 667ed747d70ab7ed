/-
  Lower layers: what functions of the program compute, and plain facts. Conditions: as the theorems say.
-/
import Derived.Test.YtkkbddkpggjgpaaGreatDoorPfR
set_option linter.unusedVariables false
set_option linter.unusedSimpArgs false
namespace Go.Proofs.YtkkbddkpggjgpaaGreatDoor
def AL (z:Rat):Nat→Rat
 | 0=>0
 | k+1=>AL z k+sg k*(z^(2*k+1) / (odn k:Rat))
theorem sg_one (i:Nat):-1≤sg i∧sg i≤1:=by unfold sg;split<;>constructor<;>decide
theorem AL_Sm (z:Rat):∀ K,AL z K=Sm (fun i=>sg i*(z^(2*i+1) / (odn i:Rat))) K
 | 0=>rfl
 | K+1=>by
  have i:=AL_Sm z K
  show AL z K+sg K*(z^(2*K+1) / (odn K:Rat))=Sm _ K+_
  rw[i]
def DA (u:Rat)(K:Nat):Rat:=Sm (fun i=>sg i*u^(2*i)) K
theorem DA_eq (u:Rat):∀ K,DA u K*(1+u*u)=1-sg K*(u*u)^K
 | 0=>by
  have s0:sg 0=1:=rfl
  have d0:DA u 0=0:=rfl
  rw[Rat.pow_zero,s0,d0];grind
 | K+1=>by
  have i:=DA_eq u K
  have e:DA u (K+1)=DA u K+sg K*u^(2*K):=rfl
  rw[e,two_pow_ev,Rat.add_mul,i,Rat.pow_succ,sg_succ];grind
theorem sg_bd {i:Nat}{x y:Rat}(h1:-y≤x)(h2:x≤y):-y≤sg i*x∧sg i*x≤y:=by
 have m:=mul_bd (sg_one i).1 (sg_one i).2 h1 h2
 rw[Rat.one_mul] at m
 exact m
theorem AL_tan {u v:Rat}(u1:-(3 / 5)≤u)(u2:u≤3 / 5)(v1:-(3 / 5)≤v)(v2:v≤3 / 5)(K:Nat) :
  -(56*((v-u)*(v-u)))≤AL v K-AL u K-DA u K*(v-u)∧AL v K-AL u K-DA u K*(v-u)≤56*((v-u)*(v-u)):=by
 have dd:=sq_nn (v-u)
 have e:AL v K-AL u K-DA u K*(v-u)=Sm (fun i=>sg i*(v^(2*i+1) / (odn i:Rat)-u^(2*i+1) / (odn i:Rat)-u^(2*i)*(v-u))) K:=by
  have a:=Sm_sub (fun i=>sg i*(v^(2*i+1) / (odn i:Rat))-sg i*(u^(2*i+1) / (odn i:Rat))) (fun i=>sg i*u^(2*i)*(v-u)) K
  have b:=Sm_sub (fun i=>sg i*(v^(2*i+1) / (odn i:Rat))) (fun i=>sg i*(u^(2*i+1) / (odn i:Rat))) K
  have c:=Sm_mul (fun i=>sg i*u^(2*i)) (v-u) K
  rw[Sm_congr (g:=fun i=>sg i*(v^(2*i+1) / (odn i:Rat))-sg i*(u^(2*i+1) / (odn i:Rat))-sg i*u^(2*i)*(v-u)) fun i _=>by grind,a,b,← c,AL_Sm,AL_Sm];rfl
 have bd:=Sm_bd (n:=K) (f:=fun i=>sg i*(v^(2*i+1) / (odn i:Rat)-u^(2*i+1) / (odn i:Rat)-u^(2*i)*(v-u))) (g:=fun i=>25*(4 / 5)^(2*i+1)*((v-u)*(v-u))) (fun i _=>by
  have t:=tan_pow u1 u2 v1 v2 (2*i+1)
  have p:=(pe_bd (2*i+1)).2.1
  have n0:(0:Rat)<(odn i:Rat):=Rat.intCast_pos.2 (odn_pos i)
  have n1:(1:Rat)≤(odn i:Rat):=Rat.intCast_le_intCast.2 (show (1:Int)≤odn i from odn_pos i)
  have c:((2*i+1:Nat):Rat)=(odn i:Rat):=by unfold odn;exact_mod_cast rfl
  have q:=Rat.mul_le_mul_of_nonneg_right p dd
  rw[c,Nat.add_sub_cancel] at t
  have i0:=Rat.inv_pos.2 n0
  have ie:=inv_one n0
  have i1:(odn i:Rat)⁻¹≤1:=by
   have:=Rat.mul_le_mul_of_nonneg_right n1 (Rat.le_of_lt i0)
   rw[Rat.one_mul,Rat.mul_comm,ie] at this
   exact this
  have f:v^(2*i+1) / (odn i:Rat)-u^(2*i+1) / (odn i:Rat)-u^(2*i)*(v-u)=(v^(2*i+1)-u^(2*i+1)-(odn i:Rat)*u^(2*i)*(v-u))*(odn i:Rat)⁻¹:=by
   rw[Rat.div_def,Rat.div_def]
   generalize (odn i:Rat)⁻¹=w at *
   generalize (odn i:Rat)=o at *
   generalize u^(2*i)=x at *
   have:o*x*(v-u)*w=x*(v-u)*(w*o):=by grind
   have:(v^(2*i+1)-u^(2*i+1)-o*x*(v-u))*w=v^(2*i+1)*w-u^(2*i+1)*w-x*(v-u)*(w*o):=by grind
   rw[this,ie,Rat.mul_one]
  show _≤sg i*(v^(2*i+1) / (odn i:Rat)-u^(2*i+1) / (odn i:Rat)-u^(2*i)*(v-u))∧sg i*(v^(2*i+1) / (odn i:Rat)-u^(2*i+1) / (odn i:Rat)-u^(2*i)*(v-u))≤_
  refine sg_bd ?_ ?_
  all_goals
   rw[f]
   generalize v^(2*i+1)-u^(2*i+1)-(odn i:Rat)*u^(2*i)*(v-u)=x at *
   generalize 25*(4 / 5)^(2*i+1)*((v-u)*(v-u))=y at *
   have h1:-y≤x:=by grind
   have h2:x≤y:=by grind
   have m:=mul_bd (p:=(odn i:Rat)⁻¹) (P:=1) (by grind) i1 h1 h2
   rw[Rat.mul_comm x]
   grind)
 rw[← e] at bd
 have g:=GS_le K
 have gm:=Rat.mul_le_mul_of_nonneg_right g dd
 have ge:GS K*((v-u)*(v-u))=Sm (fun i=>25*(4 / 5)^(2*i+1)*((v-u)*(v-u))) K:=Sm_mul _ _ K
 rw[← ge] at bd
 constructor<;>grind
theorem CS_near {x a:Rat}(a0:0≤a)(a1:a≤1)(h1:-a≤x)(h2:x≤a){K:Nat}(hK:3≤K):(-(a*a)≤CS x K-1∧CS x K-1≤a*a)∧(-(a*a)≤SN x K-x∧SN x K-x≤a*a):=by
 have t:=CS_tail (x:=x) (a:=a) a0 h1 h2 (n:=2) (Rat.le_trans (show 2*a≤3 by grind) (of_decide_eq_true (by kernel_rfl))) hK
 have e1:=tE_mul x 0
 have e2:=tE_mul x 1
 have f1:=tE_mul a 0
 have f2:=tE_mul a 1
 have z0:tE x 0=1:=rfl
 have y0:tE a 0=1:=rfl
 have c0:(nx 0:Rat)=1:=rfl
 have c1:(nx 1:Rat)=2:=rfl
 have s:CS x (2+1)=0+1*tE x 0+-0*tE x 1+-1*tE x 2:=rfl
 have s2:SN x (2+1)=0+0*tE x 0+1*tE x 1+-0*tE x 2:=rfl
 rw[s,s2] at t
 rw[z0,c0] at e1
 rw[y0,c0] at f1
 rw[c1] at e2 f2
 rw[z0] at t
 have t1:tE x 1=x:=by grind
 have u1:tE a 1=a:=by grind
 rw[t1] at e2 t
 rw[u1] at f2
 have xx:=mul_bd h1 h2 h1 h2
 have x0:=sq_nn x
 refine⟨⟨?_,?_⟩,⟨?_,?_⟩⟩<;>grind
theorem at_core {S C S' C' c s t h D p e r1 r2 a θ η δ:Rat}(ht0:0≤t)(ht:t+h≤1 / 2)(h0:0≤h)(ha:h≤a)(a1:400*a≤1)(hD:D*(1+t*t)=1-p)(p1:-θ≤p)(p2:p≤θ)(θ1:8*θ≤1)
  (e1:-(56*(a*a))≤e) (e2:e≤56*(a*a)) (hd:δ=D*h+e) (hs:s=δ+r1) (hc:c=1+r2) (r11:-(9*(a*a))≤r1) (r12:r1≤9*(a*a)) (r21:-(9*(a*a))≤r2) (r22:r2≤9*(a*a))
  (n1:-η≤S'-(C*s+S*c)) (n2:S'-(C*s+S*c)≤η) (n3:-η≤C'-(C*c-S*s)) (n4:C'-(C*c-S*s)≤η) (C1:-2≤C) (C2:C≤2) {G:Rat} (hG1:-G≤S-t*C) (hG2:S-t*C≤G) :
  -(G*(1+a)+(200*(a*a)+2*(θ*a)+2*η))≤S'-(t+h)*C'∧S'-(t+h)*C'≤G*(1+a)+(200*(a*a)+2*(θ*a)+2*η):=by
 have a0:0≤a:=by grind
 have aa0:=Rat.mul_nonneg a0 a0
 have aa:=Rat.mul_le_mul_of_nonneg_left a1 a0
 have tt:=mul_bd (show -(1 / 2)≤t by grind) (show t≤1 / 2 by grind) (show -(1 / 2)≤t by grind) (show t≤1 / 2 by grind)
 have tp:=sq_nn t
 have th0:0≤θ:=by grind
 have D1:-(5 / 4)≤D∧D≤5 / 4:=by
  constructor
  ·refine Decidable.byContradiction fun hn=>?_
   have m:=Rat.mul_le_mul_of_nonneg_right (show D≤-(5 / 4) by grind) (show 0≤1+t*t by grind)
   grind
  ·refine Decidable.byContradiction fun hn=>?_
   have m:=Rat.mul_le_mul_of_nonneg_right (show 5 / 4≤D by grind) (show 0≤1+t*t by grind)
   grind
 have Dh:=mul_bd D1.1 D1.2 (show -a≤h by grind) ha
 have sb:-(2*a)≤s∧s≤2*a:=by constructor<;>grind
 have tb:=mul_bd (show -(1 / 2)≤t+h by grind) ht sb.1 sb.2
 have s13:-(3 / 2*a)≤s∧s≤3 / 2*a:=by constructor<;>grind
 have tb:=mul_bd (show -(1 / 2)≤t+h by grind) ht s13.1 s13.2
 -- the bracket
 have key:S'-(t+h)*C'=(S-t*C)*(c+(t+h)*s)+C*(s*(1+t*t)+s*(t*h)-h*c)+(S'-(C*s+S*c))-(t+h)*(C'-(C*c-S*s)):=by grind
 have b1:s*(1+t*t)=h-p*h+(e+r1)*(1+t*t):=by
  rw[hs,hd]
  have:(D*h+e+r1)*(1+t*t)=D*(1+t*t)*h+(e+r1)*(1+t*t):=by grind
  rw[this,hD];grind
 have b2:=mul_bd p1 p2 (show -a≤h by grind) ha
 have b3:=mul_bd (p:=e+r1) (P:=65*(a*a)) (x:=1+t*t) (a:=5 / 4) (by grind) (by grind) (by grind) (by grind)
 have b4:=mul_bd (p:=t) (P:=1 / 2) (x:=h) (a:=a) (by grind) (by grind) (by grind) ha
 have b5:=mul_bd s13.1 s13.2 b4.1 b4.2
 have b6:=mul_bd (p:=h) (P:=a) (by grind) ha r21 r22
 have b7:a*(9*(a*a))≤a*a:=by
  have:=Rat.mul_le_mul_of_nonneg_right (show 9*a≤1 by grind) aa0
  grind
 have br:-(100*(a*a)+θ*a)≤s*(1+t*t)+s*(t*h)-h*c∧s*(1+t*t)+s*(t*h)-h*c≤100*(a*a)+θ*a:=by
  rw[b1,hc]
  have:h*(1+r2)=h+h*r2:=by grind
  rw[this]
  have q:3 / 2*a*(1 / 2*a)=3 / 4*(a*a):=by grind
  rw[q] at b5
  clear key hD b1 hs hd n1 n2 n3 n4
  generalize p*h=x1 at *
  generalize (e+r1)*(1+t*t)=x2 at *
  generalize s*(t*h)=x3 at *
  generalize h*r2=x4 at *
  generalize a*(9*(a*a))=x5 at *
  generalize θ*a=x6 at *
  generalize a*a=x7 at *
  constructor<;>grind
 have c1:-(1+a)≤c+(t+h)*s∧c+(t+h)*s≤1+a:=by
  have:9*(a*a)≤a*(1 / 4):=by grind
  constructor<;>grind
 have m1:=mul_bd hG1 hG2 c1.1 c1.2
 have m2:=mul_bd C1 C2 br.1 br.2
 have m3:=mul_bd (p:=t+h) (P:=1) (by grind) (by grind) n3 n4
 rw[key]
 clear key b1 b2 b3 b4 b5 b6 b7 br c1 hD hs hd
 generalize (S-t*C)*(c+(t+h)*s)=x1 at *
 generalize C*(s*(1+t*t)+s*(t*h)-h*c)=x2 at *
 generalize (t+h)*(C'-(C*c-S*s))=x3 at *
 generalize S'-(C*s+S*c)=x4 at *
 generalize G*(1+a)=x5 at *
 constructor<;>grind
theorem at_step {t h a η G:Rat}{K0 K:Nat}(ht0:0≤t)(ht:t+h≤1 / 2)(h0:0≤h)(ha:h≤a)(a1:400*a≤1)(hθ:8*(9 / 25:Rat)^K0≤1)(hK:3≤K)
  (n1:-η≤SN (AL (t+h) K0) K-(CS (AL t K0) K*SN (AL (t+h) K0-AL t K0) K+SN (AL t K0) K*CS (AL (t+h) K0-AL t K0) K)) (n2:SN (AL (t+h) K0) K-(CS (AL t K0) K*SN (AL (t+h) K0-AL t K0) K+SN (AL t K0) K*CS (AL (t+h) K0-AL t K0) K)≤η)
  (n3:-η≤CS (AL (t+h) K0) K-(CS (AL t K0) K*CS (AL (t+h) K0-AL t K0) K-SN (AL t K0) K*SN (AL (t+h) K0-AL t K0) K)) (n4:CS (AL (t+h) K0) K-(CS (AL t K0) K*CS (AL (t+h) K0-AL t K0) K-SN (AL t K0) K*SN (AL (t+h) K0-AL t K0) K)≤η)
  (C1:-2≤CS (AL t K0) K) (C2:CS (AL t K0) K≤2) (hG1:-G≤SN (AL t K0) K-t*CS (AL t K0) K) (hG2:SN (AL t K0) K-t*CS (AL t K0) K≤G) :
  -(G*(1+a)+(200*(a*a)+2*((9 / 25)^K0*a)+2*η))≤SN (AL (t+h) K0) K-(t+h)*CS (AL (t+h) K0) K∧SN (AL (t+h) K0) K-(t+h)*CS (AL (t+h) K0) K≤G*(1+a)+(200*(a*a)+2*((9 / 25)^K0*a)+2*η):=by
 have tan:=AL_tan (u:=t) (v:=t+h) (by grind) (by grind) (by grind) (by grind) K0
 have e0:t+h-t=h:=by grind
 rw[e0] at tan
 have a0:0≤a:=by grind
 have aa:=Rat.mul_le_mul_of_nonneg_left a1 a0
 have hb:=mul_bd (show -a≤h by grind) ha (show -a≤h by grind) ha
 have ds:=DA_eq t K0
 have tt:=mul_bd (show -(1 / 2)≤t by grind) (show t≤1 / 2 by grind) (show -(1 / 2)≤t by grind) (show t≤1 / 2 by grind)
 have tp:=sq_nn t
 have pw:(0:Rat)≤(t*t)^K0∧(t*t)^K0≤(9 / 25)^K0:=⟨Rat.pow_nonneg tp,pow_monox tp (by grind) K0⟩
 have sp:=sg_bd (i:=K0) (x:=(t*t)^K0) (y:=(9 / 25)^K0) (by grind) pw.2
 generalize (9 / 25:Rat)^K0=θ at *
 have D1:-(5 / 4)≤DA t K0∧DA t K0≤5 / 4:=by
  constructor
  ·refine Decidable.byContradiction fun hn=>?_
   have m:=Rat.mul_le_mul_of_nonneg_right (show DA t K0≤-(5 / 4) by grind) (show 0≤1+t*t by grind)
   grind
  ·refine Decidable.byContradiction fun hn=>?_
   have m:=Rat.mul_le_mul_of_nonneg_right (show 5 / 4≤DA t K0 by grind) (show 0≤1+t*t by grind)
   grind
 have Dh:=mul_bd D1.1 D1.2 (show -a≤h by grind) ha
 have x1:-(3*a)≤AL (t+h) K0-AL t K0:=by grind
 have x2:AL (t+h) K0-AL t K0≤3*a:=by grind
 have lin:=CS_near (by grind) (by grind) x1 x2 hK
 have q9:3*a*(3*a)=9*(a*a):=by grind
 rw[q9] at lin
 exact at_core (D:=DA t K0) (p:=sg K0*(t*t)^K0) (e:=AL (t+h) K0-AL t K0-DA t K0*h) (r1:=SN (AL (t+h) K0-AL t K0) K-(AL (t+h) K0-AL t K0)) (r2:=CS (AL (t+h) K0-AL t K0) K-1) (δ:=AL (t+h) K0-AL t K0)
  ht0 ht h0 ha a1 ds sp.1 sp.2 hθ (by grind) (by grind) (by grind) (by grind) (by grind) lin.2.1 lin.2.2 lin.1.1 lin.1.2 n1 n2 n3 n4 C1 C2 hG1 hG2
theorem AL_zero:∀ K,AL 0 K=0
 | 0=>rfl
 | K+1=>by
  have i:=AL_zero K
  show AL 0 K+sg K*((0:Rat)^(2*K+1) / (odn K:Rat))=0
  rw[i,Rat.pow_succ,Rat.mul_zero,Rat.div_def,Rat.zero_mul,Rat.mul_zero,Rat.add_zero]
set_option maxHeartbeats 2000000 in
theorem at_tan {z:Rat}(z1:0≤z)(z2:z≤1 / 2){e:Rat}(he:0<e):∃ N,∀ K0,N≤K0→∃ M,∀ K,M≤K→-e≤SN (AL z K0) K-z*CS (AL z K0) K∧SN (AL z K0) K-z*CS (AL z K0) K≤e:=by
 obtain⟨n0,hn0⟩:=rat_nat (1000*e⁻¹)
 have ie0:=Rat.inv_pos.2 he
 have iee:=inv_one he
 obtain⟨n,hn,hn2⟩:∃ n:Nat,200≤n∧n0≤n:=⟨200+n0,by omega,by omega⟩
 have cn:(n0:Rat)≤(n:Rat):=by exact_mod_cast hn2
 have c200:(200:Rat)≤(n:Rat):=by exact_mod_cast hn
 have np:(0:Rat)<(n:Rat):=by grind
 have w0:=Rat.inv_pos.2 np
 have wn:=inv_one np
 obtain⟨a,hw⟩:∃ a,a=(n:Rat)⁻¹*(1 / 2):=⟨_,rfl⟩
 have a0:0<a:=by grind
 have an:2*((n:Rat)*a)=1:=by grind
 have wi:(n:Rat)⁻¹=2*a:=by grind
 rw[wi] at w0 wn
 have a1:400*a≤1:=by
  have:=Rat.mul_le_mul_of_nonneg_right c200 (Rat.le_of_lt a0)
  grind
 have we:2000*a≤e:=by
  have m:=Rat.mul_le_mul_of_nonneg_left (show 1000*e⁻¹≤(n:Rat) by grind) (Rat.le_of_lt w0)
  rw[wn] at m
  have m2:=Rat.mul_le_mul_of_nonneg_right m (Rat.le_of_lt he)
  have:2*a*(1000*e⁻¹)*e=2000*a*(e⁻¹*e):=by grind
  rw[this,iee] at m2
  grind
 obtain⟨N,hN⟩:=pw_small (e:=e*(1 / 8)) (by grind)
 obtain⟨N',hN'⟩:=pw_small (e:=1 / 8) (by grind)
 refine⟨N+N',fun K0 hK0=>?_⟩
 have hθ:=hN K0 (by omega)
 have hθ':=hN' K0 (by omega)
 have aa:=Rat.mul_pos a0 a0
 -- addition formula at all points
 have near:∀ m:Nat,∃ M,∀ K,M≤K→∀ i:Nat,i<m→((-(a*a)≤SN (AL (z*((2*a)*((i:Rat)+1))) K0) K-(CS (AL (z*((2*a)*(i:Rat))) K0) K*SN (AL (z*((2*a)*((i:Rat)+1))) K0-AL (z*((2*a)*(i:Rat))) K0) K+SN (AL (z*((2*a)*(i:Rat))) K0) K*CS (AL (z*((2*a)*((i:Rat)+1))) K0-AL (z*((2*a)*(i:Rat))) K0) K) ∧
   SN (AL (z*((2*a)*((i:Rat)+1))) K0) K-(CS (AL (z*((2*a)*(i:Rat))) K0) K*SN (AL (z*((2*a)*((i:Rat)+1))) K0-AL (z*((2*a)*(i:Rat))) K0) K+SN (AL (z*((2*a)*(i:Rat))) K0) K*CS (AL (z*((2*a)*((i:Rat)+1))) K0-AL (z*((2*a)*(i:Rat))) K0) K)≤a*a) ∧
   (-(a*a)≤CS (AL (z*((2*a)*((i:Rat)+1))) K0) K-(CS (AL (z*((2*a)*(i:Rat))) K0) K*CS (AL (z*((2*a)*((i:Rat)+1))) K0-AL (z*((2*a)*(i:Rat))) K0) K-SN (AL (z*((2*a)*(i:Rat))) K0) K*SN (AL (z*((2*a)*((i:Rat)+1))) K0-AL (z*((2*a)*(i:Rat))) K0) K) ∧
   CS (AL (z*((2*a)*((i:Rat)+1))) K0) K-(CS (AL (z*((2*a)*(i:Rat))) K0) K*CS (AL (z*((2*a)*((i:Rat)+1))) K0-AL (z*((2*a)*(i:Rat))) K0) K-SN (AL (z*((2*a)*(i:Rat))) K0) K*SN (AL (z*((2*a)*((i:Rat)+1))) K0-AL (z*((2*a)*(i:Rat))) K0) K)≤a*a)) ∧
   (-2≤CS (AL (z*((2*a)*(i:Rat))) K0) K∧CS (AL (z*((2*a)*(i:Rat))) K0) K≤2):=fun m=>by
  induction m with
  | zero=>exact⟨0,fun K _ i hi=>absurd hi (by omega)⟩
  | succ m ih =>
   obtain⟨M,h⟩:=ih
   have one:∃ M',∀ K,M'≤K→_:=CS_addN (AL (z*((2*a)*(m:Rat))) K0) (AL (z*((2*a)*((m:Rat)+1))) K0-AL (z*((2*a)*(m:Rat))) K0) aa
   obtain⟨M',h'⟩:=one
   obtain⟨M2,h2⟩:=CS_one (AL (z*((2*a)*(m:Rat))) K0) (e:=1) (by decide)
   refine⟨M+M'+M2,fun K hK i hi=>?_⟩
   by_cases q:i=m
   ·have g:=h' K (by omega)
    have g2:=h2 K (by omega)
    rw[q]
    generalize AL (z*((2*a)*((m:Rat)+1))) K0=y at *
    generalize AL (z*((2*a)*(m:Rat))) K0=x at *
    rw[show x+(y-x)=y by grind] at g
    refine⟨⟨⟨?_,?_⟩,⟨?_,?_⟩⟩,⟨?_,?_⟩⟩<;>grind
   ·exact h K (by omega) i (by omega)
 obtain⟨M,near⟩:=near n
 refine⟨M+3,fun K hK=>?_⟩
 have near:=near K (by omega)
 have E0:∃ E,E=200*(a*a)+2*((9 / 25)^K0*a)+2*(a*a):=⟨_,rfl⟩
 obtain⟨E,hE⟩:=E0
 have th0:=(pw_inv K0).2.1
 have Ep:0≤E:=by
  have:=Rat.mul_nonneg (Rat.le_of_lt th0) (Rat.le_of_lt a0)
  grind
 have main:∀ i:Nat,i≤n→-(2*(i:Rat)*E)≤SN (AL (z*((2*a)*(i:Rat))) K0) K-z*((2*a)*(i:Rat))*CS (AL (z*((2*a)*(i:Rat))) K0) K∧SN (AL (z*((2*a)*(i:Rat))) K0) K-z*((2*a)*(i:Rat))*CS (AL (z*((2*a)*(i:Rat))) K0) K≤2*(i:Rat)*E:=by
  intro i
  induction i with
  | zero =>
   intro _
   have z0:((0:Nat):Rat)=0:=rfl
   have ez:z*((2*a)*(0:Rat))=0:=by grind
   rw[z0,ez,AL_zero,(CS_zero K (by omega)).2]
   constructor<;>grind
  | succ i ih =>
   intro hi
   have ih:=ih (by omega)
   have nr:=near i (by omega)
   have e1:((i+1:Nat):Rat)=(i:Rat)+1:=by exact_mod_cast rfl
   rw[e1]
   have ci:(i:Rat)+1≤(n:Rat):=by rw[← e1];exact_mod_cast hi
   have c0:=nn_cast i
   have m1:=Rat.mul_le_mul_of_nonneg_right ci (Rat.le_of_lt a0)
   have m2:=Rat.mul_nonneg c0 (Rat.le_of_lt a0)
   have i0:0≤z*((2*a)*(i:Rat)):=Rat.mul_nonneg z1 (by grind)
   have hz:=Rat.mul_le_mul_of_nonneg_right z2 (show 0≤2*a by grind)
   have hz0:=Rat.mul_nonneg z1 (show 0≤2*a by grind)
   have hz1:=Rat.mul_le_mul_of_nonneg_right z2 (show 0≤(2*a)*((i:Rat)+1) by grind)
   have et:z*((2*a)*((i:Rat)+1))=z*((2*a)*(i:Rat))+z*(2*a):=by grind
   rw[et] at nr hz1 ⊢
   have st:=at_step (t:=z*((2*a)*(i:Rat))) (h:=z*(2*a)) (a:=a) (η:=a*a) (G:=2*(i:Rat)*E) (K0:=K0) (K:=K) i0 (by grind) hz0 (by grind) a1 (by grind) (by omega) nr.1.1.1 nr.1.1.2 nr.1.2.1 nr.1.2.2 nr.2.1 nr.2.2 ih.1 ih.2
   rw[← hE] at st
   have m3:=Rat.mul_le_mul_of_nonneg_right (show 2*((i:Rat)*a)≤1 by grind) Ep
   have g:2*(i:Rat)*E*(1+a)+E≤2*((i:Rat)+1)*E:=by grind
   constructor<;>grind
 have fin:=main n (Nat.le_refl _)
 have qn:z*((2*a)*(n:Rat))=z:=by
  have:(2*a)*(n:Rat)=1:=by grind
  rw[this,Rat.mul_one]
 rw[qn] at fin
 have nE:2*(n:Rat)*E=202*a+2*(9 / 25)^K0:=by
  rw[hE]
  have:2*(n:Rat)*(200*(a*a)+2*((9 / 25)^K0*a)+2*(a*a))=2*((n:Rat)*a)*(202*a+2*(9 / 25)^K0):=by grind
  rw[this,an,Rat.one_mul]
 rw[nE] at fin
 generalize SN (AL z K0) K-z*CS (AL z K0) K=x at *
 clear main near
 constructor<;>grind
end Go.Proofs.YtkkbddkpggjgpaaGreatDoor

namespace Go.Proofs.YtkkbddkpggjgpaaGreatDoor
def Zr (F:Nat→Nat→Rat):Prop:=∀ e:Rat,0<e→∃ N,∀ K0,N≤K0→∃ M,∀ K,M≤K→-e≤F K0 K∧F K0 K≤e
def Bz (F:Nat→Nat→Rat)(B:Rat):Prop:=∀ K0,∃ M,∀ K,M≤K→-B≤F K0 K∧F K0 K≤B
theorem Zr.add {F G:Nat→Nat→Rat}(h:Zr F)(k:Zr G):Zr fun i j=>F i j+G i j:=fun e he=>by
 obtain⟨N1,h⟩:=h (e / 2) (half_pos he)
 obtain⟨N2,k⟩:=k (e / 2) (half_pos he)
 refine⟨N1+N2,fun K0 hK0=>?_⟩
 obtain⟨M1,h⟩:=h K0 (by omega)
 obtain⟨M2,k⟩:=k K0 (by omega)
 refine⟨M1+M2,fun K hK=>?_⟩
 have a:=h K (by omega)
 have b:=k K (by omega)
 have z:=half_two e
 constructor<;>grind
theorem Zr.mul {F G:Nat→Nat→Rat}{B:Rat}(h:Zr F)(b:Bz G B)(B0:0<B):Zr fun i j=>F i j*G i j:=fun e he=>by
 have i0:=Rat.inv_pos.2 B0
 have ie:=inv_one B0
 obtain⟨N1,h⟩:=h (e*B⁻¹) (Rat.mul_pos he i0)
 refine⟨N1,fun K0 hK0=>?_⟩
 obtain⟨M1,h⟩:=h K0 hK0
 obtain⟨M2,b⟩:=b K0
 refine⟨M1+M2,fun K hK=>?_⟩
 have a:=h K (by omega)
 have c:=b K (by omega)
 have m:=mul_bd a.1 a.2 c.1 c.2
 have:e*B⁻¹*B=e:=by rw[Rat.mul_assoc,ie,Rat.mul_one]
 rw[this] at m
 exact m
theorem Zr.cm {F:Nat→Nat→Rat}(h:Zr F)(c:Rat):Zr fun i j=>F i j*c:=by
 obtain⟨a,a0,a1,a2⟩:=abs_ex c
 exact h.mul (B:=a+1) (fun _=>⟨0,fun _ _=>by constructor<;>grind⟩) (by grind)
theorem Zr.congr {F G:Nat→Nat→Rat}(h:Zr F)(e:∀ i j,F i j=G i j):Zr G:=by
 have:F=G:=funext fun i=>funext fun j=>e i j
 rw[← this];exact h
def Tn (f:Nat→Rat)(x:Rat):Prop:=Zr fun i j=>SN (f i) j-x*CS (f i) j
theorem bzC (f:Nat→Rat):Bz (fun i j=>CS (f i) j) 2:=fun i=>by
 obtain⟨M,h⟩:=CS_one (f i) (e:=1) (by decide)
 exact⟨M,fun K hK=>by have:=h K hK;constructor<;>grind⟩
theorem bzS (f:Nat→Rat):Bz (fun i j=>SN (f i) j) 2:=fun i=>by
 obtain⟨M,h⟩:=CS_one (f i) (e:=1) (by decide)
 exact⟨M,fun K hK=>by have:=h K hK;constructor<;>grind⟩
theorem zC (f g:Nat→Rat):Zr fun i j=>CS (f i+g i) j-(CS (f i) j*CS (g i) j-SN (f i) j*SN (g i) j):=fun e he=>⟨0,fun i _=>by
 obtain⟨M,h⟩:=CS_addN (f i) (g i) he
 exact⟨M,fun K hK=>by have:=(h K hK).1;constructor<;>grind⟩⟩
theorem zS (f g:Nat→Rat):Zr fun i j=>SN (f i+g i) j-(CS (f i) j*SN (g i) j+SN (f i) j*CS (g i) j):=fun e he=>⟨0,fun i _=>by
 obtain⟨M,h⟩:=CS_addN (f i) (g i) he
 exact⟨M,fun K hK=>by have:=(h K hK).2;constructor<;>grind⟩⟩
theorem Tn.add {f g:Nat→Rat}{x y d:Rat}(hf:Tn f x)(hg:Tn g y)(hd:d*(1-x*y)=x+y):Tn (fun i=>f i+g i) d:=by
 have a1:=(zS f g).add ((zC f g).cm (-d))
 have a2:=((hg.mul (bzC f) (by decide)).cm (1+d*x)).add ((hf.mul (bzC g) (by decide)).add ((hf.mul (bzS g) (by decide)).cm d))
 refine (a1.add a2).congr fun i j=>?_
 show _=SN (f i+g i) j-d*CS (f i+g i) j
 generalize SN (f i+g i) j=S
 generalize CS (f i+g i) j=C
 generalize SN (f i) j=s
 generalize CS (f i) j=c
 generalize SN (g i) j=s'
 generalize CS (g i) j=c'
 have k:x+y-d+d*x*y=0:=by grind
 have e:S-(c*s'+s*c')+(C-(c*c'-s*s'))*-d+((s'-y*c')*c*(1+d*x)+((s-x*c)*c'+(s-x*c)*s'*d))=S-d*C-c*c'*(x+y-d+d*x*y):=by grind
 rw[e,k,Rat.mul_zero];grind
theorem Tn.neg {f:Nat→Rat}{x:Rat}(hf:Tn f x):Tn (fun i=>-(f i)) (-x):=by
 refine (Zr.cm hf (-1)).congr fun i j=>?_
 show _=SN (-(f i)) j - -x*CS (-(f i)) j
 rw[SN_neg,CS_neg];grind
theorem Tn.at {z:Rat}(h0:0≤z)(h1:z≤1 / 2):Tn (AL z) z:=fun _ he=>at_tan h0 h1 he
theorem Tn.congr {f g:Nat→Rat}{x:Rat}(h:Tn f x)(e:∀ i,f i=g i):Tn g x:=by
 have:f=g:=funext e
 rw[← this];exact h
theorem CS_nn54 {x:Rat}(h0:0≤x)(h1:x≤5 / 4){K:Nat}(hK:5≤K):0≤CS x K∧x*(1 / 2)≤SN x K:=by
 have t:=CS_tail (x:=x) (a:=x) h0 (by grind) Rat.le_refl (n:=4) (Rat.le_trans (show 2*x≤5 by grind) (of_decide_eq_true (by kernel_rfl))) hK
 have e1:=tE_mul x 0
 have e2:=tE_mul x 1
 have e3:=tE_mul x 2
 have e4:=tE_mul x 3
 have z0:tE x 0=1:=rfl
 have c0:(nx 0:Rat)=1:=rfl
 have c1:(nx 1:Rat)=2:=rfl
 have c2:(nx 2:Rat)=3:=rfl
 have c3:(nx 3:Rat)=4:=rfl
 have s:CS x (4+1)=0+1*tE x 0+-0*tE x 1+-1*tE x 2+(iP 3).1*tE x 3+(iP 4).1*tE x 4:=rfl
 have s2:SN x (4+1)=0+0*tE x 0+1*tE x 1+-0*tE x 2+(iP 3).2*tE x 3+(iP 4).2*tE x 4:=rfl
 have p3:(iP 3).1=0∧(iP 3).2=-1∧(iP 4).1=1∧(iP 4).2=0:=⟨of_decide_eq_true (by kernel_rfl),of_decide_eq_true (by kernel_rfl),of_decide_eq_true (by kernel_rfl),of_decide_eq_true (by kernel_rfl)⟩
 rw[p3.1,p3.2.2.1] at s
 rw[p3.2.1,p3.2.2.2] at s2
 rw[s,s2] at t
 rw[z0,c0] at e1
 rw[c1] at e2
 rw[c2] at e3
 rw[c3] at e4
 rw[z0] at t
 have t1:tE x 1=x:=by grind
 rw[t1] at e2 t
 have xx:=Rat.mul_nonneg h0 h0
 have m1:=Rat.mul_le_mul_of_nonneg_left h1 h0
 have m2:=Rat.mul_le_mul_of_nonneg_right (show x*x≤25 / 16 by grind) h0
 have m3:=Rat.mul_le_mul_of_nonneg_right m2 h0
 have p2:=tE_nonneg h0 4
 have t2:2*tE x 2=x*x:=by grind
 have t3:6*tE x 3=x*x*x:=by grind
 have t4:24*tE x 4=x*x*x*x:=by grind
 have t5:=Rat.mul_nonneg xx h0
 constructor<;>grind
def Rg (f:Nat→Rat):Prop:=∃ N,∀ K,N≤K→0≤f K∧f K≤5 / 4
theorem Tn.le {f g:Nat→Rat}{x y:Rat}(hf:Tn f x)(hg:Tn g y)(h:x≤y)(rf:Rg f)(rg:Rg g):Lq f g:=fun e he=>by
 have z:=((zS f (fun i=>-(g i))).add ((hg.mul (bzC f) (by decide)).cm (-1))).add (hf.mul (bzC g) (by decide))
 obtain⟨N,z⟩:=z (e*(1 / 4)) (by grind)
 obtain⟨N1,rf⟩:=rf
 obtain⟨N2,rg⟩:=rg
 refine⟨N+N1+N2,fun K0 hK0=>?_⟩
 have rf:=rf K0 (by omega)
 have rg:=rg K0 (by omega)
 obtain⟨M,z⟩:=z K0 (by omega)
 have z:=(z (M+5) (by omega)).2
 have z:SN (f K0+-(g K0)) (M+5)-(CS (f K0) (M+5)*SN (-(g K0)) (M+5)+SN (f K0) (M+5)*CS (-(g K0)) (M+5))+(SN (g K0) (M+5)-y*CS (g K0) (M+5))*CS (f K0) (M+5)*-1+(SN (f K0) (M+5)-x*CS (f K0) (M+5))*CS (g K0) (M+5)≤e*(1 / 4):=z
 rw[SN_neg,CS_neg] at z
 have c1:=(CS_nn54 rf.1 rf.2 (K:=M+5) (by omega)).1
 have c2:=(CS_nn54 rg.1 rg.2 (K:=M+5) (by omega)).1
 refine Decidable.byContradiction fun hn=>?_
 have s:=(CS_nn54 (x:=f K0+-(g K0)) (by grind) (by grind) (K:=M+5) (by omega)).2
 generalize SN (f K0+-(g K0)) (M+5)=S at *
 generalize CS (f K0) (M+5)=c at *
 generalize CS (g K0) (M+5)=c' at *
 generalize SN (f K0) (M+5)=s1 at *
 generalize SN (g K0) (M+5)=s2 at *
 have m:=Rat.mul_nonneg (show 0≤y-x by grind) (Rat.mul_nonneg c1 c2)
 have q:S-(c*-s2+s1*c')+(s2-y*c')*c*-1+(s1-x*c)*c'=S+(y-x)*(c*c'):=by grind
 rw[q] at z
 generalize (y-x)*(c*c')=w at *
 clear q
 grind
def tA (z:Rat)(k:Nat):Rat:=z^(2*k+1) / (odn k:Rat)
theorem tA_nn {z:Rat}(h0:0≤z)(k:Nat):0≤tA z k∧tA z k≤z^(2*k+1):=div_nn (pow_nn h0 _)
theorem tA_dec {z:Rat}(h0:0≤z)(h1:z≤1)(k:Nat):tA z (k+1)≤tA z k:=by
 have p:=pow_nn h0 (2*k+1)
 have zz:=Rat.mul_le_mul_of_nonneg_left h1 h0
 have m:=Rat.mul_le_mul_of_nonneg_left (show z*z≤1 by grind) p
 rw[Rat.mul_one,← odd_succ] at m
 have n0:(0:Rat)<(odn k:Rat):=Rat.intCast_pos.2 (odn_pos k)
 have n1:(0:Rat)<(odn (k+1):Rat):=Rat.intCast_pos.2 (odn_pos (k+1))
 have n2:(odn k:Rat)≤(odn (k+1):Rat):=Rat.intCast_le_intCast.2 (by unfold odn;omega)
 unfold tA
 have a1:=Rat.div_mul_cancel (a:=z^(2*(k+1)+1)) (b:=(odn (k+1):Rat)) (by grind)
 have a2:=Rat.div_mul_cancel (a:=z^(2*k+1)) (b:=(odn k:Rat)) (by grind)
 have q:=(div_nn (y:=z^(2*k+1)) (j:=k) p).1
 generalize z^(2*(k+1)+1) / (odn (k+1):Rat)=u at *
 generalize z^(2*k+1) / (odn k:Rat)=v at *
 refine Rat.le_of_mul_le_mul_right (c:=(odn (k+1):Rat)) ?_ n1
 have m2:=Rat.mul_le_mul_of_nonneg_left n2 q
 grind
theorem sg_mul (n:Nat):∀ j,sg (n+j)=sg n*sg j
 | 0=>by show sg n=sg n*1;grind
 | j+1=>by
  rw[← Nat.add_assoc,sg_succ,sg_succ,sg_mul n j];grind
theorem sg_sq (n:Nat):sg n*sg n=1:=by unfold sg;split<;>grind
theorem AL_gap {z:Rat}(h0:0≤z)(h1:z≤1)(n:Nat):∀ j,(sg j=1∧0≤sg n*(AL z (n+j)-AL z n)∧sg n*(AL z (n+j)-AL z n)+tA z (n+j)≤tA z n)∨(sg j=-1∧tA z (n+j)≤sg n*(AL z (n+j)-AL z n)∧sg n*(AL z (n+j)-AL z n)≤tA z n)
 | 0=>by
  left
  have e:AL z (n+0)-AL z n=0:=by show AL z n-AL z n=0;grind
  rw[e,Rat.mul_zero]
  exact⟨rfl,Rat.le_refl,by show 0+tA z n≤tA z n;grind⟩
 | j+1=>by
  have i:=AL_gap h0 h1 n j
  have e:AL z (n+(j+1))=AL z (n+j)+sg (n+j)*tA z (n+j):=rfl
  have d:=tA_dec h0 h1 (n+j)
  have p:=(tA_nn h0 (n+j+1)).1
  have q:sg n*(AL z (n+(j+1))-AL z n)=sg n*(AL z (n+j)-AL z n)+sg j*tA z (n+j):=by
   rw[e,sg_mul]
   have s:=sg_sq n
   generalize sg n=a at *
   have:a*(AL z (n+j)+a*sg j*tA z (n+j)-AL z n)=a*(AL z (n+j)-AL z n)+(a*a)*(sg j*tA z (n+j)):=by grind
   rw[this,s,Rat.one_mul]
  rw[q,sg_succ]
  show (_∧_∧_+tA z (n+j+1)≤_)∨(_∧tA z (n+j+1)≤_∧_)
  rcases i with ⟨s,i1,i2⟩ | ⟨s,i1,i2⟩
  ·right
   rw[s,Rat.one_mul]
   exact⟨rfl,by grind,by grind⟩
  ·left
   rw[s]
   refine⟨by grind,by grind,by grind⟩
theorem AL_near {z:Rat}(h0:0≤z)(h1:z≤1){n K:Nat}(h:n≤K):-(tA z n)≤AL z K-AL z n∧AL z K-AL z n≤tA z n:=by
 obtain⟨j,rfl⟩:∃ j,K=n+j:=⟨K-n,by omega⟩
 have g:=AL_gap h0 h1 n j
 have p:=(tA_nn h0 (n+j)).1
 have b:0≤sg n*(AL z (n+j)-AL z n)∧sg n*(AL z (n+j)-AL z n)≤tA z n:=by
  rcases g with ⟨_,a,b⟩ | ⟨_,a,b⟩
  ·constructor<;>grind
  ·constructor<;>grind
 have s:=sg_bd (i:=n) (x:=sg n*(AL z (n+j)-AL z n)) (y:=tA z n) (by grind) b.2
 have e:sg n*(sg n*(AL z (n+j)-AL z n))=AL z (n+j)-AL z n:=by
  have:=sg_sq n
  rw[← Rat.mul_assoc,this,Rat.one_mul]
 rw[e] at s
 exact s
theorem AL_b {z:Rat}(h0:0≤z)(h1:z≤1)(K:Nat):0≤AL z K∧AL z K≤z:=by
 have g:=AL_gap h0 h1 0 K
 have p:=(tA_nn h0 K).1
 have t0:tA z 0=z:=by
  show z^(0+1) / ((1:Int):Rat)=z
  rw[Rat.pow_succ,Rat.pow_zero,Rat.one_mul,show ((1:Int):Rat)=1 from rfl]
  grind
 have s0:sg 0=1:=rfl
 have a0:AL z 0=0:=rfl
 rw[t0,s0,a0,Nat.zero_add] at g
 have e:(1:Rat)*(AL z K-0)=AL z K:=by grind
 rw[e] at g
 have p0:=(tA_nn h0 (0+K)).1
 rw[Nat.zero_add] at p0
 rcases g with ⟨_,a,b⟩ | ⟨_,a,b⟩
 ·constructor<;>grind
 ·constructor<;>grind
def AT0 (x:Rat)(K:Nat):Rat:=if x≤1 / 2 then AL x K else AL (1 / 2) K+AL ((2*x-1) / (2+x)) K
theorem v_bd {x:Rat}(h0:1 / 2≤x)(h1:x≤4 / 3):0≤(2*x-1) / (2+x)∧(2*x-1) / (2+x)≤1 / 2∧(2*x-1) / (2+x)≤x-1 / 2∧(2*x-1) / (2+x)*(2+x)=2*x-1:=by
 have p:0<2+x:=by grind
 have e:=Rat.div_mul_cancel (a:=2*x-1) (b:=2+x) (by grind)
 generalize (2*x-1) / (2+x)=v at *
 refine⟨?_,?_,?_,e⟩
 ·exact Rat.le_of_mul_le_mul_right (c:=2+x) (by rw[e];grind) p
 ·exact Rat.le_of_mul_le_mul_right (c:=2+x) (by rw[e];grind) p
 ·refine Rat.le_of_mul_le_mul_right (c:=2+x) ?_ p
  rw[e]
  have:=Rat.mul_nonneg (show 0≤x-1 / 2 by grind) (show 0≤x by grind)
  grind
theorem AT0_tn {x:Rat}(h0:0≤x)(h1:x≤4 / 3):Tn (AT0 x) x:=by
 by_cases h:x≤1 / 2
 ·exact (Tn.at h0 h).congr fun i=>by unfold AT0;rw[if_pos h]
 ·have v:=v_bd (x:=x) (by grind) h1
  have a:=(Tn.at (z:=1 / 2) (by grind) Rat.le_refl).add (Tn.at v.1 v.2.1) (d:=x) (by
   have e:=v.2.2.2
   generalize (2*x-1) / (2+x)=u at *
   grind)
  exact a.congr fun i=>by unfold AT0;rw[if_neg h]
theorem AT0_b {x:Rat}(h0:0≤x)(h1:x≤4 / 3)(K:Nat):0≤AT0 x K∧AT0 x K≤x∧AT0 x K≤1:=by
 unfold AT0
 by_cases h:x≤1 / 2
 ·rw[if_pos h]
  have a:=AL_b h0 (by grind) K
  refine⟨a.1,a.2,by grind⟩
 ·rw[if_neg h]
  have v:=v_bd (x:=x) (by grind) h1
  have a:=AL_b (z:=1 / 2) (by grind) (by grind) K
  have b:=AL_b v.1 (by grind) K
  refine⟨by grind,by grind,by grind⟩
theorem AT0_rg {x:Rat}(h0:0≤x)(h1:x≤4 / 3):Rg (AT0 x):=⟨0,fun K _=>by have:=AT0_b h0 h1 K;constructor<;>grind⟩
theorem AT0_le {x y:Rat}(h0:0≤x)(h:x≤y)(h1:y≤4 / 3):Lq (AT0 x) (AT0 y):=(AT0_tn h0 (by grind)).le (AT0_tn (by grind) h1) h (AT0_rg h0 (by grind)) (AT0_rg (by grind) h1)
theorem dbl_tn {x d:Rat}(h0:0≤x)(h1:x≤5 / 8)(hd:d*(1-x*x)=2*x):Tn (fun K=>2*AT0 x K) d∧Rg (fun K=>2*AT0 x K):=by
 have t:=AT0_tn h0 (by grind)
 refine⟨(t.add t (d:=d) (by grind)).congr fun i=>by grind,0,fun K _=>?_⟩
 have b:=AT0_b h0 (show x≤4 / 3 by grind) K
 constructor<;>grind
theorem dbl_ex {x:Rat}(h0:0≤x)(h1:x≤5 / 8):∃ d,d*(1-x*x)=2*x∧0<1-x*x:=by
 have m:=mul_bd (show -(5 / 8)≤x by grind) h1 (show -(5 / 8)≤x by grind) h1
 refine⟨2*x / (1-x*x),Rat.div_mul_cancel (by grind),by grind⟩
theorem half_lo {a x:Rat}(h0:0≤x)(h1:x≤5 / 8)(ha:a≤4 / 3)(h:2*x≤a*(1-x*x)):Lq (fun K=>2*AT0 x K) (AT0 a):=by
 obtain⟨d,hd,p⟩:=dbl_ex h0 h1
 have t:=dbl_tn h0 h1 hd
 have a0:0≤a:=Rat.le_of_mul_le_mul_right (c:=1-x*x) (by grind) p
 exact t.1.le (AT0_tn a0 ha) (Rat.le_of_mul_le_mul_right (by rw[hd];exact h) p) t.2 (AT0_rg a0 ha)
theorem half_hi {b x:Rat}(h0:0≤x)(h1:x≤5 / 8)(b0:0≤b)(hb:b≤4 / 3)(h:b*(1-x*x)≤2*x):Lq (AT0 b) (fun K=>2*AT0 x K):=by
 obtain⟨d,hd,p⟩:=dbl_ex h0 h1
 have t:=dbl_tn h0 h1 hd
 exact (AT0_tn b0 hb).le t.1 (Rat.le_of_mul_le_mul_right (by rw[hd];exact h) p) (AT0_rg b0 hb) t.2
theorem Lq.mul2 {f g:Nat→Rat}(h:Lq f g)(n:Nat):Lq (fun K=>(2:Rat)^n*f K) (fun K=>(2:Rat)^n*g K):=fun e he=>by
 have p:=two_one n
 have i0:=Rat.inv_pos.2 (show 0<(2:Rat)^n by grind)
 have ie:=inv_one (show 0<(2:Rat)^n by grind)
 obtain⟨N,h⟩:=h (e*((2:Rat)^n)⁻¹) (Rat.mul_pos he i0)
 refine⟨N,fun K hK=>?_⟩
 have m:=Rat.mul_le_mul_of_nonneg_left (h K hK) (show 0≤(2:Rat)^n by grind)
 show (2:Rat)^n*f K≤(2:Rat)^n*g K+e
 have:(2:Rat)^n*(e*((2:Rat)^n)⁻¹)=e:=by
  have:(2:Rat)^n*(e*((2:Rat)^n)⁻¹)=e*(((2:Rat)^n)⁻¹*(2:Rat)^n):=by grind
  rw[this,ie,Rat.mul_one]
 grind
theorem halves_lo {a:Nat→Rat}(ha:a 0≤4 / 3):∀ n,(∀ j,j<n→(0≤a (j+1)∧a (j+1)≤5 / 8)∧2*a (j+1)≤a j*(1-a (j+1)*a (j+1)))→Lq (fun K=>(2:Rat)^n*AT0 (a n) K) (AT0 (a 0))
 | 0,_=>Lq.of_le (N:=0) fun K _=>by rw[Rat.pow_zero,Rat.one_mul];exact Rat.le_refl
 | n+1,h=>by
  have i:=halves_lo ha n fun j hj=>h j (by omega)
  have q:=h n (by omega)
  have b:a n≤4 / 3:=by
   rcases n with _ | n
   ·exact ha
   ·have:=(h n (by omega)).1.2;grind
  refine Lq.trans (Lq.trans (Lq.of_le (N:=0) fun K _=>?_) ((half_lo q.1.1 q.1.2 b q.2).mul2 n)) i
  rw[Rat.pow_succ];grind
theorem halves_hi {a:Nat→Rat}(h0:0≤a 0)(ha:a 0≤4 / 3):∀ n,(∀ j,j<n→(0≤a (j+1)∧a (j+1)≤5 / 8)∧a j*(1-a (j+1)*a (j+1))≤2*a (j+1))→Lq (AT0 (a 0)) (fun K=>(2:Rat)^n*AT0 (a n) K)
 | 0,_=>Lq.of_le (N:=0) fun K _=>by rw[Rat.pow_zero,Rat.one_mul];exact Rat.le_refl
 | n+1,h=>by
  have i:=halves_hi h0 ha n fun j hj=>h j (by omega)
  have q:=h n (by omega)
  have b:0≤a n∧a n≤4 / 3:=by
   rcases n with _ | n
   ·exact⟨h0,ha⟩
   ·have:=(h n (by omega)).1;constructor<;>grind
  refine Lq.trans i (Lq.trans ((half_hi q.1.1 q.1.2 b.1 b.2 q.2).mul2 n) (Lq.of_le (N:=0) fun K _=>?_))
  rw[Rat.pow_succ];grind
def tq:Rat:=dv 1 (-420)
theorem tq_pos:0<tq:=of_decide_eq_true (by kernel_rfl)
def ATp (x:Rat)(K:Nat):Rat:=if x≤1 then AT0 x K else cQ-AT0 x⁻¹ K
def AT (x:Rat)(K:Nat):Rat:=if x<0 then -(ATp (-x) K) else ATp x K
theorem ATp_1 {x:Rat}(h:x≤1)(K:Nat):ATp x K=AT0 x K:=by unfold ATp;rw[if_pos h]
theorem ATp_2 {x:Rat}(h:¬ x≤1)(K:Nat):ATp x K=cQ-AT0 x⁻¹ K:=by unfold ATp;rw[if_neg h]
theorem AT_m {x:Rat}(h:x<0)(K:Nat):AT x K=-(ATp (-x) K):=by unfold AT;rw[if_pos h]
theorem AT_p {x:Rat}(h:¬ x<0)(K:Nat):AT x K=ATp x K:=by unfold AT;rw[if_neg h]
theorem AT1_num:(-(tq*(1 / 2))≤cQ-2*(AL (1 / 2) 215+AL (1 / 3) 140)∧cQ-2*(AL (1 / 2) 215+AL (1 / 3) 140)≤tq*(1 / 2))∧2*(tA (1 / 2) 215+tA (1 / 3) 140)≤tq*(1 / 2):=⟨⟨of_decide_eq_true (by kernel_rfl),of_decide_eq_true (by kernel_rfl)⟩,of_decide_eq_true (by kernel_rfl)⟩
theorem AT1 {K:Nat}(hK:215≤K):-tq≤cQ-2*AT0 1 K∧cQ-2*AT0 1 K≤tq:=by
 have e:AT0 1 K=AL (1 / 2) K+AL (1 / 3) K:=by
  unfold AT0
  rw[if_neg (by grind),show ((2:Rat)*1-1) / (2+1)=1 / 3 by grind]
 have n:=AT1_num
 have a:=AL_near (z:=1 / 2) (by grind) (by grind) (n:=215) (K:=K) (by omega)
 have b:=AL_near (z:=1 / 3) (by grind) (by grind) (n:=140) (K:=K) (by omega)
 rw[e]
 clear e
 generalize AL (1 / 2) 215=x1 at *
 generalize AL (1 / 3) 140=x2 at *
 generalize AL (1 / 2) K=x3 at *
 generalize AL (1 / 3) K=x4 at *
 constructor<;>grind
theorem inv_le1 {x:Rat}(h:1≤x):0<x⁻¹∧x⁻¹≤1:=by
 have i0:=Rat.inv_pos.2 (show 0<x by grind)
 have ie:=inv_one (show 0<x by grind)
 refine⟨i0,?_⟩
 have:=Rat.mul_le_mul_of_nonneg_left h (Rat.le_of_lt i0)
 grind
theorem inv_antiT {x y:Rat}(hx:0<x)(h:x≤y):y⁻¹≤x⁻¹:=by
 have i0:=Rat.inv_pos.2 hx
 have ie:=inv_one hx
 have j0:=Rat.inv_pos.2 (show 0<y by grind)
 have je:=inv_one (show 0<y by grind)
 have m:=Rat.mul_le_mul_of_nonneg_left h (Rat.le_of_lt (Rat.mul_pos i0 j0))
 have e1:x⁻¹*y⁻¹*x=y⁻¹*(x⁻¹*x):=by grind
 have e2:x⁻¹*y⁻¹*y=x⁻¹*(y⁻¹*y):=by grind
 rw[e1,e2,ie,je] at m
 grind
theorem ATp_b {x:Rat}(h0:0≤x)(K:Nat):0≤ATp x K∧ATp x K≤cQ:=by
 have c:=cQ_b
 unfold ATp
 split
 ·rename_i h
  have b:=AT0_b h0 (show x≤4 / 3 by grind) K
  constructor<;>grind
 ·rename_i h
  have i:=inv_le1 (x:=x) (by grind)
  have b:=AT0_b (x:=x⁻¹) (by grind) (by grind) K
  constructor<;>grind
def Lqe (f g:Nat→Rat)(e:Rat):Prop:=Lq f fun K=>g K+e
theorem Lqe.of {f g:Nat→Rat}{e:Rat}(h:Lq f g)(e0:0≤e):Lqe f g e:=h.trans (Lq.of_le (N:=0) fun K _=>by grind)
theorem ATp_mono {x y:Rat}(h0:0≤x)(h:x≤y):Lqe (ATp x) (ATp y) tq:=by
 have tp:=tq_pos
 by_cases hy:y≤1
 ·refine Lqe.of ?_ (Rat.le_of_lt tp)
  have a:=AT0_le h0 h (by grind)
  intro e he
  obtain⟨N,a⟩:=a e he
  refine⟨N,fun K hK=>?_⟩
  rw[ATp_1 hy,ATp_1 (show x≤1 by grind)];exact a K hK
 ·by_cases hx:x≤1
  ·have i:=inv_le1 (x:=y) (by grind)
   have a:=AT0_le h0 hx (by grind)
   have b:=AT0_le (x:=y⁻¹) (by grind) i.2 (by grind)
   intro e he
   obtain⟨N1,a⟩:=a (e / 2) (half_pos he)
   obtain⟨N2,b⟩:=b (e / 2) (half_pos he)
   refine⟨N1+N2+215,fun K hK=>?_⟩
   have a:=a K (by omega)
   have b:=b K (by omega)
   have c:=AT1 (K:=K) (by omega)
   have z:=half_two e
   show ATp x K≤ATp y K+tq+e
   rw[ATp_1 hx,ATp_2 hy]
   grind
  ·refine Lqe.of ?_ (Rat.le_of_lt tp)
   have i:=inv_le1 (x:=x) (by grind)
   have j:=inv_le1 (x:=y) (by grind)
   have a:=AT0_le (x:=y⁻¹) (y:=x⁻¹) (by grind) (inv_antiT (by grind) h) (by grind)
   intro e he
   obtain⟨N,a⟩:=a e he
   refine⟨N,fun K hK=>?_⟩
   have a:=a K hK
   rw[ATp_2 hy,ATp_2 hx];grind
theorem AT_mono {x y:Rat}(h:x≤y):Lqe (AT x) (AT y) tq:=by
 have tp:=tq_pos
 by_cases hx:x<0
 ·by_cases hy:y<0
  ·have a:=ATp_mono (x:=-y) (y:=-x) (by grind) (by grind)
   intro e he
   obtain⟨N,a⟩:=a e he
   refine⟨N,fun K hK=>?_⟩
   have a:ATp (-y) K≤ATp (-x) K+tq+e:=a K hK
   show AT x K≤AT y K+tq+e
   rw[AT_m hx,AT_m hy]
   grind
  ·refine Lq.of_le (N:=0) fun K _=>?_
   have a:=ATp_b (x:=-x) (by grind) K
   have b:=ATp_b (x:=y) (by grind) K
   rw[AT_m hx,AT_p hy];grind
 ·have a:=ATp_mono (x:=x) (y:=y) (by grind) h
  intro e he
  obtain⟨N,a⟩:=a e he
  refine⟨N,fun K hK=>?_⟩
  have a:=a K hK
  show AT x K≤AT y K+tq+e
  rw[AT_p hx,AT_p (show ¬ y<0 by grind)];exact a
theorem AT_b (x:Rat)(K:Nat):-cQ≤AT x K∧AT x K≤cQ:=by
 have c:=cQ_b
 unfold AT
 split
 ·have:=ATp_b (x:=-x) (by grind) K
  constructor<;>grind
 ·have:=ATp_b (x:=x) (by grind) K
  constructor<;>grind
theorem comp_hi {d y:Rat}(h1:1<d)(h:d≤y)(hy:y≤4 / 3):Lqe (ATp d) (AT0 y) tq:=by
 have i:=inv_le1 (x:=d) (by grind)
 have ie:=inv_one (show 0<d by grind)
 have t1:=AT0_tn (x:=1) (by grind) (by grind)
 have tg:=AT0_tn (x:=d⁻¹) (by grind) (by grind)
 have ty:=AT0_tn (x:=y) (by grind) hy
 -- y's angle less that of 1,and that of 1 less that of 1 / d
 have e1:∃ u,u*(1-y*-1)=y+-1:=⟨(y+-1) / (1-y*-1),Rat.div_mul_cancel (by grind)⟩
 have e2:∃ v,v*(1-1*-d⁻¹)=1+-d⁻¹:=⟨(1+-d⁻¹) / (1-1*-d⁻¹),Rat.div_mul_cancel (by grind)⟩
 obtain⟨u,hu⟩:=e1
 obtain⟨v,hv⟩:=e2
 have a:=ty.add t1.neg hu
 have b:=t1.add tg.neg hv
 have vu:v≤u:=by
  have hd:v*(1+d)=d-1:=by
   have:=congrArg (fun z=>z*d) hv
   have k1:v*(1-1*-d⁻¹)*d=v*(d+d⁻¹*d):=by grind
   have k2:(1+-d⁻¹)*d=d-d⁻¹*d:=by grind
   have this:v*(1-1*-d⁻¹)*d=(1+-d⁻¹)*d:=this
   rw[k1,k2,ie] at this
   grind
  have q:v*((1+d)*(1+y))≤u*((1+d)*(1+y)):=by
   have w1:v*((1+d)*(1+y))=(d-1)*(1+y):=by rw[← hd];grind
   have w2:u*((1+d)*(1+y))=(y-1)*(1+d):=by
    have:u*(1+y)=y-1:=by grind
    rw[← this];grind
   rw[w1,w2];grind
  exact Rat.le_of_mul_le_mul_right q (Rat.mul_pos (by grind) (by grind))
 -- both are in range only up to the limit: use order of each
 have o1:=AT0_le (x:=1) (y:=y) (by grind) (by grind) hy
 have o2:=AT0_le (x:=d⁻¹) (y:=1) (by grind) i.2 (by grind)
 intro e he
 have he8:0<e*(1 / 8):=Rat.mul_pos he r8.1
 have z:=((zS (fun i=>AT0 1 i+-(AT0 d⁻¹ i)) (fun i=>-(AT0 y i+-(AT0 1 i)))).add ((a.mul (bzC (fun i=>AT0 1 i+-(AT0 d⁻¹ i))) (by decide)).cm (-1))).add (b.mul (bzC (fun i=>AT0 y i+-(AT0 1 i))) (by decide))
 obtain⟨N,z⟩:=z (e*(1 / 8)) he8
 obtain⟨N1,o1⟩:=o1 (e*(1 / 8)) he8
 obtain⟨N2,o2⟩:=o2 (e*(1 / 8)) he8
 refine⟨N+N1+N2+215,fun K hK=>?_⟩
 have o1:=o1 K (by omega)
 have o2:=o2 K (by omega)
 have c1:=AT1 (K:=K) (by omega)
 obtain⟨M,z⟩:=z K (by omega)
 have z:=(z (M+5) (by omega)).2
 show ATp d K≤AT0 y K+tq+e
 rw[ATp_2 (show ¬ d≤1 by grind)]
 have b1:=AT0_b (x:=1) (by grind) (by grind) K
 have b2:=AT0_b (x:=y) (by grind) hy K
 have b3:=AT0_b (x:=d⁻¹) (by grind) (by grind) K
 refine Decidable.byContradiction fun hn=>?_
 have z:SN (AT0 1 K+-(AT0 d⁻¹ K)+-(AT0 y K+-(AT0 1 K))) (M+5)-(CS (AT0 1 K+-(AT0 d⁻¹ K)) (M+5)*SN (-(AT0 y K+-(AT0 1 K))) (M+5)+SN (AT0 1 K+-(AT0 d⁻¹ K)) (M+5)*CS (-(AT0 y K+-(AT0 1 K))) (M+5))+(SN (AT0 y K+-(AT0 1 K)) (M+5)-u*CS (AT0 y K+-(AT0 1 K)) (M+5))*CS (AT0 1 K+-(AT0 d⁻¹ K)) (M+5)*-1+(SN (AT0 1 K+-(AT0 d⁻¹ K)) (M+5)-v*CS (AT0 1 K+-(AT0 d⁻¹ K)) (M+5))*CS (AT0 y K+-(AT0 1 K)) (M+5)≤e*(1 / 8):=z
 rw[SN_neg,CS_neg] at z
 have cn:∀ {s:Rat},-1≤s→s≤1→0≤CS s (M+5):=by
  intro s s0 s1
  rcases (Rat.le_total:0≤s∨s≤0) with q | q
  ·exact (CS_nn54 q (by grind) (by omega)).1
  ·rw[← CS_neg];exact (CS_nn54 (x:=-s) (by grind) (by grind) (by omega)).1
 have c2:=cn (s:=AT0 1 K+-(AT0 d⁻¹ K)) (by grind) (by grind)
 have c3:=cn (s:=AT0 y K+-(AT0 1 K)) (by grind) (by grind)
 have s:=(CS_nn54 (x:=AT0 1 K+-(AT0 d⁻¹ K)+-(AT0 y K+-(AT0 1 K))) (by grind) (by grind) (K:=M+5) (by omega)).2
 generalize SN (AT0 1 K+-(AT0 d⁻¹ K)+-(AT0 y K+-(AT0 1 K))) (M+5)=S at *
 generalize CS (AT0 1 K+-(AT0 d⁻¹ K)) (M+5)=c at *
 generalize CS (AT0 y K+-(AT0 1 K)) (M+5)=c' at *
 generalize SN (AT0 1 K+-(AT0 d⁻¹ K)) (M+5)=s1 at *
 generalize SN (AT0 y K+-(AT0 1 K)) (M+5)=s2 at *
 have m:=Rat.mul_nonneg (show 0≤u-v by grind) (Rat.mul_nonneg c2 c3)
 have q:S-(c*-s2+s1*c')+(s2-u*c')*c*-1+(s1-v*c)*c'=S+(u-v)*(c*c'):=by grind
 rw[q] at z
 generalize (u-v)*(c*c')=w at *
 clear q a b t1 tg ty
 grind
theorem comp_lo {d y:Rat}(h1:1<d)(h0:0≤y)(hy:y≤1):Lqe (AT0 y) (ATp d) tq:=by
 have a:=ATp_mono (x:=y) (y:=d) h0 (by grind)
 intro e he
 obtain⟨N,a⟩:=a e he
 refine⟨N,fun K hK=>?_⟩
 have a:=a K hK
 have:ATp y K=AT0 y K:=by unfold ATp;rw[if_pos hy]
 rw[← this];exact a
end Go.Proofs.YtkkbddkpggjgpaaGreatDoor

namespace Go.Proofs.YtkkbddkpggjgpaaGreatDoor
def sqLo (a s:Int):Int:=((rt (a.natAbs*2^s.toNat):Nat):Int)
def sqHi (b s:Int):Int:=((rt (b.natAbs*2^s.toNat)+(if b.natAbs*2^s.toNat-rt (b.natAbs*2^s.toNat)*rt (b.natAbs*2^s.toNat)=0 then 0 else 1):Nat):Int)
def sq0 (a:Int)(p:Nat→Int):Nat→Int
 | 0=>a
 | j+1=>p (j+1)
theorem sqLo_spec {a s:Int}(h:0≤a):0≤sqLo a s∧sqLo a s*sqLo a s≤a*2^s.toNat∧a*2^s.toNat<(sqLo a s+1)*(sqLo a s+1):=by
 have r:=rt_spec (a.natAbs*2^s.toNat)
 have e:((a.natAbs*2^s.toNat:Nat):Int)=a*2^s.toNat:=by rw[Int.natCast_mul,pow_cast];rw[Int.natAbs_of_nonneg h]
 unfold sqLo
 rw[← e]
 generalize a.natAbs*2^s.toNat=n at *
 refine⟨Int.natCast_nonneg _,?_,?_⟩
 ·have:=Int.ofNat_le.2 r.1
  rw[Int.natCast_mul] at this;exact this
 ·have:=Int.ofNat_lt.2 r.2
  rw[Int.natCast_mul,Int.natCast_add] at this;exact this
theorem sqHi_spec {b s:Int}(h:0≤b):0≤sqHi b s∧b*2^s.toNat≤sqHi b s*sqHi b s∧(sqHi b s-1)*(sqHi b s-1)≤b*2^s.toNat+1:=by
 have r:=rt_spec (b.natAbs*2^s.toNat)
 have e:((b.natAbs*2^s.toNat:Nat):Int)=b*2^s.toNat:=by rw[Int.natCast_mul,pow_cast];rw[Int.natAbs_of_nonneg h]
 unfold sqHi
 rw[← e]
 generalize b.natAbs*2^s.toNat=n at *
 have r1:=Int.ofNat_le.2 r.1
 have r2:=Int.ofNat_lt.2 r.2
 rw[Int.natCast_mul] at r1
 rw[Int.natCast_mul,Int.natCast_add] at r2
 split
 ·rename_i q
  have q1:n≤rt n*rt n:=by omega
  have q2:=Int.ofNat_le.2 q1
  rw[Int.natCast_mul] at q2
  rw[Nat.add_zero]
  refine⟨Int.natCast_nonneg _,q2,?_⟩
  have:(0:Int)≤(rt n:Int):=Int.natCast_nonneg _
  grind
 ·rw[Int.natCast_add]
  refine⟨by omega,Int.le_of_lt r2,?_⟩
  show ((rt n:Int)+1-1)*((rt n:Int)+1-1)≤_
  rw[show (rt n:Int)+1-1=(rt n:Int) by omega]
  omega
def hvP (s a b:Int):Int × Int:=(Int.fdiv (a*2^s.toNat) (1*2^s.toNat+sqHi (1*2^s.toNat+-(-(b*b) / 2^s.toNat)) s),-(Int.fdiv (-(b*2^s.toNat)) (1*2^s.toNat+sqLo (1*2^s.toNat+a*a / 2^s.toNat) s)))
theorem half_alg_lo {x y r:Rat}(x0:0≤x)(y0:0≤y)(r0:0≤r)(h:x*(1+r)≤y)(hr:1+y*y≤r*r):2*x≤y*(1-x*x):=by
 have d0:0<1+r:=by grind
 have dd:=Rat.mul_pos d0 d0
 have z0:=Rat.mul_nonneg x0 (Rat.le_of_lt d0)
 have m1:=Rat.mul_le_mul_of_nonneg_left h z0
 have m2:=Rat.mul_le_mul_of_nonneg_right h y0
 have m3:=Rat.mul_le_mul_of_nonneg_left (show x*(1+r)*(x*(1+r))≤y*y by grind) y0
 have m4:=Rat.mul_le_mul_of_nonneg_right h (Rat.le_of_lt d0)
 have m5:=Rat.mul_le_mul_of_nonneg_left hr y0
 refine Rat.le_of_mul_le_mul_right (c:=(1+r)*(1+r)) ?_ dd
 grind
theorem half_alg_hi {x y r:Rat}(x0:0≤x)(y0:0≤y)(r0:0≤r)(h:y≤x*(1+r))(hr:r*r≤1+y*y):y*(1-x*x)≤2*x:=by
 have d0:0<1+r:=by grind
 have dd:=Rat.mul_pos d0 d0
 have z0:=Rat.mul_nonneg x0 (Rat.le_of_lt d0)
 have m1:=Rat.mul_le_mul_of_nonneg_left h z0
 have m2:=Rat.mul_le_mul_of_nonneg_right h y0
 have m3:=Rat.mul_le_mul_of_nonneg_left (show y*y≤x*(1+r)*(x*(1+r)) by grind) y0
 have m4:=Rat.mul_le_mul_of_nonneg_right h (Rat.le_of_lt d0)
 have m5:=Rat.mul_le_mul_of_nonneg_left hr y0
 refine Rat.le_of_mul_le_mul_right (c:=(1+r)*(1+r)) ?_ dd
 grind
theorem half_int_lo {T a x d r b:Int}(hT:0<T)(x0:0≤x)(a0:0≤a)(ab:a≤b)(r0:0≤r)(hd:d=T+r)(h:x*d≤a*T)(hr:T*T+b*b≤r*r) :
  2*((x:Rat)*(T:Rat)⁻¹)≤(a:Rat)*(T:Rat)⁻¹*(1-(x:Rat)*(T:Rat)⁻¹*((x:Rat)*(T:Rat)⁻¹)):=by
 have T0:(0:Rat)<(T:Rat):=Rat.intCast_pos.2 hT
 have i0:=Rat.inv_pos.2 T0
 have ie:=inv_one T0
 have ii:=Rat.mul_nonneg (Rat.le_of_lt i0) (Rat.le_of_lt i0)
 have h:=Rat.intCast_le_intCast.2 h
 have aa:=Int.mul_le_mul ab ab a0 (show 0≤b by omega)
 have hr:=Rat.intCast_le_intCast.2 (show T*T+a*a≤r*r by omega)
 rw[hd,Rat.intCast_mul,Rat.intCast_mul,Rat.intCast_add] at h
 rw[Rat.intCast_add,Rat.intCast_mul,Rat.intCast_mul,Rat.intCast_mul] at hr
 have x0:(0:Rat)≤(x:Rat):=Rat.intCast_nonneg.2 x0
 have a0:(0:Rat)≤(a:Rat):=Rat.intCast_nonneg.2 a0
 have r0:(0:Rat)≤(r:Rat):=Rat.intCast_nonneg.2 r0
 have m1:=Rat.mul_le_mul_of_nonneg_right h ii
 have m2:=Rat.mul_le_mul_of_nonneg_right hr ii
 refine half_alg_lo (r:=(r:Rat)*(T:Rat)⁻¹) (Rat.mul_nonneg x0 (Rat.le_of_lt i0)) (Rat.mul_nonneg a0 (Rat.le_of_lt i0)) (Rat.mul_nonneg r0 (Rat.le_of_lt i0)) ?_ ?_
 ·generalize (T:Rat)⁻¹=i at *
  generalize (T:Rat)=t at *
  have e1:(x:Rat)*(t+(r:Rat))*(i*i)=(x:Rat)*i*(i*t+(r:Rat)*i):=by grind
  have e2:(a:Rat)*t*(i*i)=(a:Rat)*i*(i*t):=by grind
  rw[e1,e2,ie,Rat.mul_one] at m1
  exact m1
 ·generalize (T:Rat)⁻¹=i at *
  generalize (T:Rat)=t at *
  have e1:(t*t+(a:Rat)*(a:Rat))*(i*i)=(i*t)*(i*t)+(a:Rat)*i*((a:Rat)*i):=by grind
  have e2:(r:Rat)*(r:Rat)*(i*i)=(r:Rat)*i*((r:Rat)*i):=by grind
  rw[e1,e2,ie,Rat.mul_one] at m2
  exact m2
theorem half_int_hi {T b x d r a:Int}(hT:0<T)(x0:0≤x)(a0:0≤a)(ab:a≤b)(r0:0≤r)(hd:d=T+r)(h:b*T≤x*d)(hr:r*r≤T*T+a*a) :
  (b:Rat)*(T:Rat)⁻¹*(1-(x:Rat)*(T:Rat)⁻¹*((x:Rat)*(T:Rat)⁻¹))≤2*((x:Rat)*(T:Rat)⁻¹):=by
 have T0:(0:Rat)<(T:Rat):=Rat.intCast_pos.2 hT
 have i0:=Rat.inv_pos.2 T0
 have ie:=inv_one T0
 have ii:=Rat.mul_nonneg (Rat.le_of_lt i0) (Rat.le_of_lt i0)
 have h:=Rat.intCast_le_intCast.2 h
 have aa:=Int.mul_le_mul ab ab a0 (show 0≤b by omega)
 have hr:=Rat.intCast_le_intCast.2 (show r*r≤T*T+b*b by omega)
 rw[hd,Rat.intCast_mul,Rat.intCast_mul,Rat.intCast_add] at h
 rw[Rat.intCast_add,Rat.intCast_mul,Rat.intCast_mul,Rat.intCast_mul] at hr
 have x0:(0:Rat)≤(x:Rat):=Rat.intCast_nonneg.2 x0
 have b0:(0:Rat)≤(b:Rat):=Rat.intCast_nonneg.2 (by omega)
 have r0:(0:Rat)≤(r:Rat):=Rat.intCast_nonneg.2 r0
 have m1:=Rat.mul_le_mul_of_nonneg_right h ii
 have m2:=Rat.mul_le_mul_of_nonneg_right hr ii
 refine half_alg_hi (r:=(r:Rat)*(T:Rat)⁻¹) (Rat.mul_nonneg x0 (Rat.le_of_lt i0)) (Rat.mul_nonneg b0 (Rat.le_of_lt i0)) (Rat.mul_nonneg r0 (Rat.le_of_lt i0)) ?_ ?_
 ·generalize (T:Rat)⁻¹=i at *
  generalize (T:Rat)=t at *
  have e1:(x:Rat)*(t+(r:Rat))*(i*i)=(x:Rat)*i*(i*t+(r:Rat)*i):=by grind
  have e2:(b:Rat)*t*(i*i)=(b:Rat)*i*(i*t):=by grind
  rw[e1,e2,ie,Rat.mul_one] at m1
  exact m1
 ·generalize (T:Rat)⁻¹=i at *
  generalize (T:Rat)=t at *
  have e1:(t*t+(b:Rat)*(b:Rat))*(i*i)=(i*t)*(i*t)+(b:Rat)*i*((b:Rat)*i):=by grind
  have e2:(r:Rat)*(r:Rat)*(i*i)=(r:Rat)*i*((r:Rat)*i):=by grind
  rw[e1,e2,ie,Rat.mul_one] at m2
  exact m2
theorem root_w {T a b m1 m2 r1 r2:Int}(hT:0<T)(a0:0≤a)(ab:a≤b)(hb:b≤2*T)(f1:m1*T≤a*a)(f2:a*a<m1*T+T)(f3:b*b≤m2*T)(f4:m2*T<b*b+T)
  (r10:0≤r1) (g2:(T+m1)*T<(r1+1)*(r1+1)) (r20:0≤r2) (g3:(T+m2)*T≤r2*r2) (g4:(r2-1)*(r2-1)≤(T+m2)*T+1) (m10:0≤m1):T≤r1∧T≤r2∧r2-r1≤2*(b-a)+4:=by
 have k1:T≤r1:=by
  refine Decidable.byContradiction fun hn=>?_
  have:=Int.mul_le_mul (show r1+1≤T by omega) (show r1+1≤T by omega) (by omega) (by omega)
  have:=Int.mul_nonneg m10 (show 0≤T by omega)
  rw[Int.add_mul] at g2
  omega
 have aa:=Int.mul_le_mul ab ab a0 (show 0≤b by omega)
 have k2:T≤r2:=by
  refine Decidable.byContradiction fun hn=>?_
  have:=Int.mul_le_mul (show r2+1≤T by omega) (show r2+1≤T by omega) (by omega) (by omega)
  have:=Int.mul_nonneg (show 0≤a by omega) a0
  rw[Int.add_mul] at g3
  have:(r2+1)*(r2+1)=r2*r2+2*r2+1:=by grind
  omega
 refine⟨k1,k2,Decidable.byContradiction fun hn=>?_⟩
 have p:=Int.mul_le_mul (show 2*(b-a)+3≤r2-r1-2 by omega) (show 2*T≤r2+r1 by omega) (by omega) (by omega)
 have q:=Int.mul_le_mul_of_nonneg_left (show a+b≤4*T by omega) (show 0≤b-a by omega)
 have e1:(r2-r1-2)*(r2+r1)=(r2-1)*(r2-1)-(r1+1)*(r1+1):=by grind
 have e2:(b-a)*(a+b)=b*b-a*a:=by grind
 have e3:(2*(b-a)+3)*(2*T)=(b-a)*(4*T)+6*T:=by grind
 rw[Int.add_mul] at g2 g3 g4
 omega
theorem hv_w {T a b x y d1 d2 W:Int}(hT:0<T)(a0:0≤a)(hW:b-a=W)(W0:0≤W)(hb:b≤2*T)(h1:2*T≤d1)(h2:d1≤d2)(hd:d2-d1≤2*W+4)(x1:x*d2≤a*T)(x2:a*T<x*d2+d2)(y1:b*T≤y*d1)(y2:y*d1<b*T+d1) :
  0≤x∧x≤y∧2*y≤b+2∧y-x≤4*W+8:=by
 have x0:0≤x:=by
  refine Decidable.byContradiction fun hn=>?_
  have:=Int.mul_le_mul_of_nonneg_right (show x+1≤0 by omega) (show 0≤d2 by omega)
  have:=Int.mul_nonneg a0 (show 0≤T by omega)
  rw[Int.add_mul] at *
  omega
 have ab:=Int.mul_le_mul_of_nonneg_right (show a≤b by omega) (show 0≤T by omega)
 have xy:x≤y:=by
  refine Decidable.byContradiction fun hn=>?_
  have m1:=Int.mul_le_mul_of_nonneg_right (show y+1≤x by omega) (show 0≤d1 by omega)
  have m2:=Int.mul_le_mul_of_nonneg_left h2 x0
  rw[Int.add_mul] at m1
  omega
 have xT:x≤T:=by
  refine Decidable.byContradiction fun hn=>?_
  have m1:=Int.mul_le_mul (show T+1≤x by omega) (show 2*T≤d2 by omega) (by omega) (by omega)
  have m2:=Int.mul_le_mul_of_nonneg_right (show a≤2*T by omega) (show 0≤T by omega)
  have e1:(T+1)*(2*T)=2*T*T+2*T:=by grind
  omega
 refine⟨x0,xy,?_,?_⟩
 ·refine Decidable.byContradiction fun hn=>?_
  have m1:=Int.mul_le_mul (show b+1≤2*(y-1) by omega) h1 (by omega) (by omega)
  have e1:2*(y-1)*d1=2*(y*d1)-2*d1:=by grind
  have e2:(b+1)*(2*T)=2*(b*T)+2*T:=by grind
  omega
 ·refine Decidable.byContradiction fun hn=>?_
  have m1:=Int.mul_le_mul (show 4*W+7≤y-x-2 by omega) h1 (by omega) (by omega)
  have m2:=Int.mul_le_mul (show x+1≤2*T by omega) hd (by omega) (by omega)
  have e1:(y-x-2)*d1=y*d1-d1-(x*d2+d2)+(x+1)*(d2-d1):=by grind
  have e2:(4*W+7)*(2*T)=8*(W*T)+14*T:=by grind
  have e3:2*T*(2*W+4)=4*(W*T)+8*T:=by grind
  have e4:b*T=a*T+W*T:=by rw[← hW];grind
  have e5:=Int.mul_nonneg W0 (show 0≤T by omega)
  omega
theorem hv_step {s a b:Int}(a0:0≤a)(ab:a≤b)(hb:b≤2*2^s.toNat) :
  (0≤(hvP s a b).1∧(hvP s a b).1≤(hvP s a b).2∧2*(hvP s a b).2≤b+2∧(hvP s a b).2-(hvP s a b).1≤4*(b-a)+8) ∧
  2*(((hvP s a b).1:Rat)*(((2^s.toNat:Int):Rat))⁻¹)≤(a:Rat)*(((2^s.toNat:Int):Rat))⁻¹*(1-((hvP s a b).1:Rat)*(((2^s.toNat:Int):Rat))⁻¹*(((hvP s a b).1:Rat)*(((2^s.toNat:Int):Rat))⁻¹)) ∧
  (b:Rat)*(((2^s.toNat:Int):Rat))⁻¹*(1-((hvP s a b).2:Rat)*(((2^s.toNat:Int):Rat))⁻¹*(((hvP s a b).2:Rat)*(((2^s.toNat:Int):Rat))⁻¹))≤2*(((hvP s a b).2:Rat)*(((2^s.toNat:Int):Rat))⁻¹):=by
 have hT:=two_pos s.toNat
 have b0:0≤b:=by omega
 have f1:=Int.ediv_mul_le (a*a) (show (2:Int)^s.toNat≠0 by omega)
 have f2:=Int.lt_ediv_add_one_mul_self (a*a) hT
 have f3:=Int.ediv_mul_le (-(b*b)) (show (2:Int)^s.toNat≠0 by omega)
 have f4:=Int.lt_ediv_add_one_mul_self (-(b*b)) hT
 have m10:=Int.ediv_nonneg (Int.mul_nonneg a0 a0) (show (0:Int)≤2^s.toNat by omega)
 have bb:=Int.mul_nonneg b0 b0
 have m20:0≤-(-(b*b) / 2^s.toNat):=by
  have:-(b*b) / 2^s.toNat≤0:=Int.ediv_le_of_le_mul hT (by omega)
  omega
 have g1:=sqLo_spec (a:=1*2^s.toNat+a*a / 2^s.toNat) (s:=s) (by omega)
 have g2:=sqHi_spec (b:=1*2^s.toNat+-(-(b*b) / 2^s.toNat)) (s:=s) (by omega)
 unfold hvP
 generalize sqLo (1*2^s.toNat+a*a / 2^s.toNat) s=r1 at *
 generalize sqHi (1*2^s.toNat+-(-(b*b) / 2^s.toNat)) s=r2 at *
 generalize a*a / 2^s.toNat=m1 at *
 generalize -(b*b) / 2^s.toNat=m2 at *
 generalize hTT:(2:Int)^s.toNat=T at *
 rw[Int.one_mul] at *
 rw[Int.add_mul,Int.one_mul] at f2 f4
 have rw_:=root_w (T:=T) (a:=a) (b:=b) (m1:=m1) (m2:=-m2) (r1:=r1) (r2:=r2) hT a0 ab hb f1 f2 (by rw[Int.neg_mul];omega) (by rw[Int.neg_mul];omega) g1.1 g1.2.2 g2.1 g2.2.1 g2.2.2 m10
 have r12:r1≤r2:=by
  refine Decidable.byContradiction fun hn=>?_
  have p:=Int.mul_le_mul (show r2+1≤r1 by omega) (show r2+1≤r1 by omega) (by omega) (by omega)
  have e:(r2+1)*(r2+1)=r2*r2+2*r2+1:=by grind
  have aa:=Int.mul_le_mul ab ab a0 b0
  have k1:=g1.2.1
  have k2:=g2.2.1
  rw[Int.add_mul] at k1 k2
  rw[Int.neg_mul] at k2
  omega
 have n1:T+r2≠0:=by omega
 have n2:T+r1≠0:=by omega
 rw[Int.fdiv_eq_ediv_of_nonneg _ (show 0≤T+r2 by omega),Int.fdiv_eq_ediv_of_nonneg _ (show 0≤T+r1 by omega)]
 have q1:=Int.ediv_mul_le (a*T) n1
 have q2:=Int.lt_ediv_add_one_mul_self (a*T) (show 0<T+r2 by omega)
 have q3:=Int.ediv_mul_le (-(b*T)) n2
 have q4:=Int.lt_ediv_add_one_mul_self (-(b*T)) (show 0<T+r1 by omega)
 generalize a*T / (T+r2)=x at *
 generalize -(b*T) / (T+r1)=y at *
 rw[Int.add_mul,Int.one_mul] at q2 q4
 have w:=hv_w (T:=T) (a:=a) (b:=b) (x:=x) (y:=-y) (d1:=T+r1) (d2:=T+r2) (W:=b-a) hT a0 rfl (by omega) hb (by omega) (by omega) (by omega) q1 q2 (by rw[Int.neg_mul];omega) (by rw[Int.neg_mul];omega)
 have k1:=g1.2.1
 have k2:=g2.2.1
 rw[Int.add_mul] at k1 k2
 rw[Int.neg_mul] at k2
 exact⟨w,half_int_lo hT w.1 a0 ab g2.1 rfl q1 (by omega),half_int_hi hT (by omega) a0 ab g1.1 rfl (by rw[Int.neg_mul];omega) (by omega)⟩
def hv (s x1 x2:Int):Nat→Int × Int
 | 0=>(x1,x2)
 | i+1=>hvP s (hv s x1 x2 i).1 (hv s x1 x2 i).2
theorem hv_facts {s x1 x2:Int}(h0:0≤x1)(h1:x1≤x2)(h2:8*x2≤9*2^s.toNat)(h3:64≤(2:Int)^s.toNat):∀ i,0≤(hv s x1 x2 i).1∧(hv s x1 x2 i).1≤(hv s x1 x2 i).2∧8*(hv s x1 x2 i).2≤9*2^s.toNat
 | 0=>⟨h0,h1,h2⟩
 | i+1=>by
  have f:=hv_facts h0 h1 h2 h3 i
  have g:=(hv_step (s:=s) f.1 f.2.1 (by omega)).1
  exact⟨g.1,g.2.1,by show 8*(hvP s (hv s x1 x2 i).1 (hv s x1 x2 i).2).2≤_;omega⟩
theorem hv_small {s x1 x2:Int}(h0:0≤x1)(h1:x1≤x2)(h2:8*x2≤9*2^s.toNat)(h3:64≤(2:Int)^s.toNat):∀ i,2^i*((hv s x1 x2 i).2-2)≤x2
 | 0=>by show 1*(x2-2)≤x2;omega
 | i+1=>by
  have f:=hv_facts h0 h1 h2 h3 i
  have g:=(hv_step (s:=s) f.1 f.2.1 (by omega)).1
  have k:=hv_small h0 h1 h2 h3 i
  have p:=two_pos i
  have m:=Int.mul_le_mul_of_nonneg_left (show 2*((hv s x1 x2 (i+1)).2-2)≤(hv s x1 x2 i).2-2 by show 2*((hvP s (hv s x1 x2 i).1 (hv s x1 x2 i).2).2-2)≤_;omega) (Int.le_of_lt p)
  rw[Int.pow_succ,Int.mul_assoc];omega
theorem hv_wid {s x1 x2:Int}(h0:0≤x1)(h1:x1≤x2)(h2:8*x2≤9*2^s.toNat)(h3:64≤(2:Int)^s.toNat):∀ i,(hv s x1 x2 i).2-(hv s x1 x2 i).1+3≤4^i*(x2-x1+3)
 | 0=>by show x2-x1+3≤1*(x2-x1+3);omega
 | i+1=>by
  have f:=hv_facts h0 h1 h2 h3 i
  have g:=(hv_step (s:=s) f.1 f.2.1 (by omega)).1
  have k:=hv_wid h0 h1 h2 h3 i
  rw[Int.pow_succ,Int.mul_comm (4^i),Int.mul_assoc]
  show (hvP s (hv s x1 x2 i).1 (hv s x1 x2 i).2).2-(hvP s (hv s x1 x2 i).1 (hv s x1 x2 i).2).1+3≤_
  omega
theorem hv_lim {s x1 x2:Int}(h0:0≤x1)(h1:x1≤x2)(h2:8*x2≤9*2^s.toNat)(h3:64≤(2:Int)^s.toNat)(n:Nat) :
  Lq (fun K=>(2:Rat)^n*AT0 (((hv s x1 x2 n).1:Rat)*(((2^s.toNat:Int):Rat))⁻¹) K) (AT0 ((x1:Rat)*(((2^s.toNat:Int):Rat))⁻¹)) ∧
  Lq (AT0 ((x2:Rat)*(((2^s.toNat:Int):Rat))⁻¹)) (fun K=>(2:Rat)^n*AT0 (((hv s x1 x2 n).2:Rat)*(((2^s.toNat:Int):Rat))⁻¹) K):=by
 have T0:(0:Rat)<((2^s.toNat:Int):Rat):=Rat.intCast_pos.2 (two_pos _)
 have i0:=Rat.inv_pos.2 T0
 have ie:=inv_one T0
 have up:∀ {z:Int} {c d:Int},d*z≤c*2^s.toNat→(d:Rat)*((z:Rat)*(((2^s.toNat:Int):Rat))⁻¹)≤(c:Rat):=by
  intro z c d h
  have h:=Rat.intCast_le_intCast.2 h
  rw[Rat.intCast_mul,Rat.intCast_mul] at h
  have m:=Rat.mul_le_mul_of_nonneg_right h (Rat.le_of_lt i0)
  have e:(c:Rat)*((2^s.toNat:Int):Rat)*(((2^s.toNat:Int):Rat))⁻¹=(c:Rat):=by
   rw[Rat.mul_assoc,Rat.mul_comm (((2^s.toNat:Int):Rat)),ie,Rat.mul_one]
  rw[e,Rat.mul_assoc] at m
  exact m
 have nn:∀ {z:Int},0≤z→0≤(z:Rat)*(((2^s.toNat:Int):Rat))⁻¹:=fun h=>Rat.mul_nonneg (Rat.intCast_nonneg.2 h) (Rat.le_of_lt i0)
 have c5:((5:Int):Rat)=5:=rfl
 have c9:((9:Int):Rat)=9:=rfl
 have c8:((8:Int):Rat)=8:=rfl
 have fb:∀ i,0≤(hv s x1 x2 i).1∧(hv s x1 x2 i).1≤(hv s x1 x2 i).2∧8*(hv s x1 x2 i).2≤9*2^s.toNat:=hv_facts h0 h1 h2 h3
 have small:∀ i,8*(hv s x1 x2 (i+1)).2≤5*2^s.toNat:=fun i=>by
  have f:=fb i
  have g:=(hv_step (s:=s) f.1 f.2.1 (by omega)).1
  show 8*(hvP s (hv s x1 x2 i).1 (hv s x1 x2 i).2).2≤_
  omega
 constructor
 ·refine halves_lo (a:=fun i=>((hv s x1 x2 i).1:Rat)*(((2^s.toNat:Int):Rat))⁻¹) ?_ n fun j _=>?_
  ·have:=up (z:=x1) (c:=9) (d:=8) (by omega)
   rw[c9,c8] at this
   show (x1:Rat)*_≤_
   grind
  ·have f:=fb j
   have g:=hv_step (s:=s) f.1 f.2.1 (by omega)
   have sm:=small j
   have g1:(hv s x1 x2 (j+1)).1≤(hv s x1 x2 (j+1)).2:=(fb (j+1)).2.1
   have u:=up (z:=(hv s x1 x2 (j+1)).1) (c:=5) (d:=8) (by omega)
   rw[c5,c8] at u
   exact⟨⟨nn (fb (j+1)).1,by grind⟩,g.2.1⟩
 ·refine halves_hi (a:=fun i=>((hv s x1 x2 i).2:Rat)*(((2^s.toNat:Int):Rat))⁻¹) (nn (by show 0≤x2;omega)) ?_ n fun j _=>?_
  ·have:=up (z:=x2) (c:=9) (d:=8) (by omega)
   rw[c9,c8] at this
   show (x2:Rat)*_≤_
   grind
  ·have f:=fb j
   have g:=hv_step (s:=s) f.1 f.2.1 (by omega)
   have sm:=small j
   have u:=up (z:=(hv s x1 x2 (j+1)).2) (c:=5) (d:=8) (by omega)
   rw[c5,c8] at u
   have g2:=fb (j+1)
   exact⟨⟨nn (by omega),by grind⟩,g.2.2⟩
end Go.Proofs.YtkkbddkpggjgpaaGreatDoor

namespace Go.Proofs.YtkkbddkpggjgpaaGreatDoor
def pt1 (T a b:Int)(j:Nat):Int:=ptLo (aP T a b j).1 (odn j)
def pt2 (T a b:Int)(j:Nat):Int:=ptHi (aP T a b j).2 (odn j)
def sA1 (T a b:Int):Nat→Int:=tyA (sq0 a (pt1 T a b)) (sq0 b (pt2 T a b))
def sA2 (T a b:Int):Nat→Int:=tyB (sq0 a (pt1 T a b)) (sq0 b (pt2 T a b))
theorem aS_AL (X:Rat):∀ j,aS (tA X) j=AL X (j+1)
 | 0=>by
  show tA X 0=0+1*tA X 0
  grind
 | j+1=>by
  have i:=aS_AL X j
  show (if j%2=0 then aS (tA X) j-tA X (j+1) else aS (tA X) j+tA X (j+1))=AL X (j+1)+sg (j+1)*tA X (j+1)
  rw[i]
  unfold sg
  by_cases q:j%2=0
  ·rw[if_pos q,if_neg (by omega)];grind
  ·rw[if_neg q,if_pos (by omega)];grind
theorem tA_0 (X:Rat):tA X 0=X:=by
 show X^(0+1) / ((1:Int):Rat)=X
 rw[Rat.pow_succ,Rat.pow_zero,Rat.one_mul,show ((1:Int):Rat)=1 from rfl]
 grind
theorem pt_enc {T a b:Int}{X:Rat}(h:ArH T a b)(e1:(a:Rat)≤X*T)(e2:X*T≤(b:Rat)):∀ j,((sq0 a (pt1 T a b) j:Int):Rat)≤tA X j*T∧tA X j*T≤((sq0 b (pt2 T a b) j:Int):Rat)
 | 0=>by
  rw[tA_0]
  exact⟨e1,e2⟩
 | j+1=>by
  have p:=aP_enc h e1 e2 (j+1)
  obtain⟨a1,a2,_⟩:=aP_facts h (j+1)
  have d1:=df_lo (odn_pos (j+1)) p.1
  have d2:=df_hi (odn_pos (j+1)) p.2
  rw[← ptLo_eq a1 (odn_pos _)] at d1
  rw[← ptHi_eq a2 (odn_pos _)] at d2
  have e:tA X (j+1)*T=X^(2*(j+1)+1)*T / (odn (j+1):Rat):=by
   unfold tA
   rw[Rat.div_def,Rat.div_def];grind
  rw[e]
  exact⟨d1,d2⟩
theorem X_bd {T a b:Int}{X:Rat}(h:ArH T a b)(e1:(a:Rat)≤X*T)(e2:X*T≤(b:Rat)):0≤X∧X≤1 / 2:=by
 have hT:=h.hT
 have T0:(0:Rat)<T:=Rat.intCast_pos.2 (by omega)
 constructor
 ·have:(0:Rat)*T≤X*T:=by rw[Rat.zero_mul];exact Rat.le_trans (Rat.intCast_nonneg.2 h.h1) e1
  exact Rat.le_of_mul_le_mul_right this T0
 ·refine Rat.le_of_mul_le_mul_right (c:=(T:Rat)) ?_ T0
  have:((2*b:Int):Rat)≤(T:Rat):=Rat.intCast_le_intCast.2 h.h3
  rw[Rat.intCast_mul] at this
  rw[show ((2:Int):Rat)=2 from rfl] at this
  grind
theorem ser_enc {T a b:Int}{X:Rat}(h:ArH T a b)(e1:(a:Rat)≤X*T)(e2:X*T≤(b:Rat))(N:Nat){K:Nat}(hK:N+1≤K) :
  ((sA1 T a b N-(aP T a b N).2:Int):Rat)≤AL X K*T∧AL X K*T≤((sA2 T a b N+(aP T a b N).2:Int):Rat):=by
 have hT:=h.hT
 have T0:(0:Rat)<T:=Rat.intCast_pos.2 (by omega)
 have xb:=X_bd h e1 e2
 have s:=tyS_enc (T:=(T:Rat)) (t:=tA X) (pt_enc h e1 e2) N
 rw[aS_AL] at s
 have n:=AL_near xb.1 (by grind) hK
 have t:=(tA_nn xb.1 (N+1)).2
 have p:=pow_nn xb.1 (2*N+1)
 have q:X^(2*(N+1)+1)≤X^(2*N+1):=by
  rw[odd_succ]
  have xx:=Rat.mul_le_mul_of_nonneg_left xb.2 xb.1
  have m:=Rat.mul_le_mul_of_nonneg_left (show X*X≤1 by grind) p
  rw[Rat.mul_one] at m
  exact m
 have pe:=(aP_enc h e1 e2 N).2
 have t2:=Rat.mul_le_mul_of_nonneg_right (Rat.le_trans t q) (Rat.le_of_lt T0)
 have m1:=Rat.mul_le_mul_of_nonneg_right n.1 (Rat.le_of_lt T0)
 have m2:=Rat.mul_le_mul_of_nonneg_right n.2 (Rat.le_of_lt T0)
 unfold sA1 sA2
 rw[Rat.intCast_sub,Rat.intCast_add]
 constructor<;>grind
theorem pt_bd {T a b:Int}(h:ArH T a b):∀ j,0≤sq0 a (pt1 T a b) j∧sq0 a (pt1 T a b) j≤sq0 b (pt2 T a b) j∧sq0 b (pt2 T a b) j≤T∧sq0 b (pt2 T a b) j-sq0 a (pt1 T a b) j≤(b-a)+8
 | 0=>⟨h.h1,h.h2,by have:=h.h1;have:=h.h2;have:=h.h3;show b≤T;omega,by show b-a≤_;omega⟩
 | j+1=>by
  obtain⟨b1,b2,b3,b4⟩:=aP_facts h (j+1)
  have hn:=odn_pos (j+1)
  have hT:=h.hT
  have l1:ptLo (aP T a b (j+1)).1 (odn (j+1))=_:=ptLo_eq b1 hn
  have l2:ptHi (aP T a b (j+1)).2 (odn (j+1))=_:=ptHi_eq b2 hn
  have f1:=Int.lt_ediv_add_one_mul_self (aP T a b (j+1)).1 hn
  have f2:=Int.lt_ediv_add_one_mul_self (-(aP T a b (j+1)).2) hn
  have f3:=Int.ediv_mul_le (aP T a b (j+1)).1 (show odn (j+1)≠0 by omega)
  have f4:=Int.ediv_mul_le (-(aP T a b (j+1)).2) (show odn (j+1)≠0 by omega)
  have n1:=Int.ediv_nonneg b1 (show 0≤odn (j+1) by omega)
  have n3:3≤odn (j+1):=by unfold odn;omega
  have T0:(0:Rat)<(T:Rat):=Rat.intCast_pos.2 (by omega)
  have eX:(a:Rat)*(T:Rat)⁻¹*(T:Rat)=a:=by rw[Rat.mul_assoc,inv_one T0,Rat.mul_one]
  have pe:=pt_enc (X:=(a:Rat)*(T:Rat)⁻¹) h (by rw[eX];exact Rat.le_refl) (by rw[eX];exact Rat.intCast_le_intCast.2 h.h2) (j+1)
  have ple:=Rat.intCast_le_intCast.1 (Rat.le_trans pe.1 pe.2)
  refine⟨?_,ple,?_,?_⟩
  ·show 0≤ptLo (aP T a b (j+1)).1 (odn (j+1))
   rw[l1];exact n1
  ·show ptHi (aP T a b (j+1)).2 (odn (j+1))≤T
   rw[l2]
   generalize -(aP T a b (j+1)).2 / odn (j+1)=v at *
   refine Decidable.byContradiction fun hq=>?_
   have m:=Int.mul_le_mul_of_nonneg_right (show T+1≤-v by omega) (show 0≤odn (j+1) by omega)
   have m2:=Int.mul_le_mul_of_nonneg_left n3 (show 0≤T by omega)
   grind
  ·show ptHi (aP T a b (j+1)).2 (odn (j+1))-ptLo (aP T a b (j+1)).1 (odn (j+1))≤_
   rw[l1,l2]
   generalize (aP T a b (j+1)).1 / odn (j+1)=u at *
   generalize -(aP T a b (j+1)).2 / odn (j+1)=v at *
   have hx:=h.h2
   refine Decidable.byContradiction fun hq=>?_
   have m:=Int.mul_le_mul_of_nonneg_right (show (b-a)+9≤-v-u by omega) (show 0≤odn (j+1) by omega)
   have m2:=Int.mul_le_mul_of_nonneg_left n3 (show 0≤(b-a)+7 by omega)
   grind
theorem tyS_bdW {p1 p2:Nat→Int}{T W:Int}(h:∀ j,0≤p1 j∧p1 j≤p2 j∧p2 j≤T∧p2 j-p1 j≤W):∀ j:Nat,((-(((j:Int)+1)*T)≤tyA p1 p2 j∧tyA p1 p2 j≤((j:Int)+1)*T)∧-(((j:Int)+1)*T)≤tyB p1 p2 j∧tyB p1 p2 j≤((j:Int)+1)*T)∧tyA p1 p2 j≤tyB p1 p2 j∧tyB p1 p2 j-tyA p1 p2 j≤((j:Int)+1)*W
 | 0=>by
  have a:=h 0
  show ((-(((0:Int)+1)*T)≤p1 0∧p1 0≤((0:Int)+1)*T)∧-(((0:Int)+1)*T)≤p2 0∧p2 0≤((0:Int)+1)*T)∧p1 0≤p2 0∧p2 0-p1 0≤((0:Int)+1)*W
  omega
 | j+1=>by
  have a:=tyS_bdW h j
  have b:=h (j+1)
  have e:(((j+1:Nat):Int)+1)*T=((j:Int)+1)*T+T:=by
   rw[show ((j+1:Nat):Int)=(j:Int)+1 from rfl,Int.add_mul _ 1 T,Int.one_mul]
  have e2:(((j+1:Nat):Int)+1)*W=((j:Int)+1)*W+W:=by
   rw[show ((j+1:Nat):Int)=(j:Int)+1 from rfl,Int.add_mul _ 1 W,Int.one_mul]
  rw[e,e2]
  unfold tyA tyB
  by_cases q:j%2=0
  ·rw[if_pos q,if_pos q];omega
  ·rw[if_neg q,if_neg q];omega
def LoE (f:Nat→Rat)(s:Nat)(lo:Int):Prop:=∀ g:Rat,0<g→∃ N,∀ K,N≤K→(lo:Rat)≤f K*((2^s:Int):Rat)+g
def HiE (f:Nat→Rat)(s:Nat)(hi:Int):Prop:=∀ g:Rat,0<g→∃ N,∀ K,N≤K→f K*((2^s:Int):Rat)≤(hi:Rat)+g
theorem LoE.of {f h:Nat→Rat}{s:Nat}{lo:Int}(hl:∃ N,∀ K,N≤K→(lo:Rat)≤f K*((2^s:Int):Rat))(q:Lq f h):LoE h s lo:=fun g g0=>by
 have T0:(0:Rat)<((2^s:Int):Rat):=Rat.intCast_pos.2 (two_pos s)
 have i0:=Rat.inv_pos.2 T0
 have ie:=inv_one T0
 obtain⟨N,hl⟩:=hl
 obtain⟨M,q⟩:=q (g*(((2^s:Int):Rat))⁻¹) (Rat.mul_pos g0 i0)
 refine⟨N+M,fun K hK=>?_⟩
 have a:=hl K (by omega)
 have b:=Rat.mul_le_mul_of_nonneg_right (q K (by omega)) (Rat.le_of_lt T0)
 rw[Rat.add_mul,Rat.mul_assoc,ie,Rat.mul_one] at b
 exact Rat.le_trans a b
theorem HiE.of {f h:Nat→Rat}{s:Nat}{hi:Int}(hl:∃ N,∀ K,N≤K→f K*((2^s:Int):Rat)≤(hi:Rat))(q:Lq h f):HiE h s hi:=fun g g0=>by
 have T0:(0:Rat)<((2^s:Int):Rat):=Rat.intCast_pos.2 (two_pos s)
 have i0:=Rat.inv_pos.2 T0
 have ie:=inv_one T0
 obtain⟨N,hl⟩:=hl
 obtain⟨M,q⟩:=q (g*(((2^s:Int):Rat))⁻¹) (Rat.mul_pos g0 i0)
 refine⟨N+M,fun K hK=>?_⟩
 have a:=hl K (by omega)
 have b:=Rat.mul_le_mul_of_nonneg_right (q K (by omega)) (Rat.le_of_lt T0)
 rw[Rat.add_mul,Rat.mul_assoc,ie,Rat.mul_one] at b
 exact Rat.le_trans b (by grind)
theorem hv8 {s x1 x2:Int}{n:Nat}(h0:0≤x1)(h1:x1≤x2)(h2:8*x2≤9*2^s.toNat)(h3:1024≤(2:Int)^s.toNat)(hn:2≤n):ArH (2^s.toNat) (hv s x1 x2 n).1 (hv s x1 x2 n).2:=by
 have f:=hv_facts h0 h1 h2 (by omega) n
 have k:=hv_small h0 h1 h2 (by omega) n
 have p:(4:Int)≤2^n:=by
  obtain⟨m,rfl⟩:∃ m,n=m+2:=⟨n-2,by omega⟩
  have:=two_pos m
  rw[Int.pow_succ,Int.pow_succ];omega
 refine⟨by omega,f.1,f.2.1,?_⟩
 refine Decidable.byContradiction fun hq=>?_
 have m:=Int.mul_le_mul (p) (show 2^s.toNat-3≤2*((hv s x1 x2 n).2-2) by omega) (by omega) (by omega)
 have e:2^n*(2*((hv s x1 x2 n).2-2))=2*(2^n*((hv s x1 x2 n).2-2)):=by grind
 omega
theorem ang_lim {t x1 x2:Int}{S n c N:Nat}(ht:t.toNat=S+n+c)(h0:0≤x1)(h1:x1≤x2)(h2:8*x2≤9*2^t.toNat)(h3:1024≤(2:Int)^t.toNat)(hn:2≤n){a b:Int}(ha:(hv t x1 x2 n).1=a)(hb:(hv t x1 x2 n).2=b) :
  LoE (AT0 ((x1:Rat)*(((2^t.toNat:Int):Rat))⁻¹)) S ((sA1 (2^t.toNat) a b N-(aP (2^t.toNat) a b N).2)*2^n / 2^(n+c))∧HiE (AT0 ((x2:Rat)*(((2^t.toNat:Int):Rat))⁻¹)) S (-(-((sA2 (2^t.toNat) a b N+(aP (2^t.toNat) a b N).2)*2^n) / 2^(n+c))):=by
 have H:=hv8 (n:=n) h0 h1 h2 h3 hn
 have L:=hv_lim h0 h1 h2 (by omega) n
 rw[ha,hb] at H L
 have T0:(0:Rat)<((2^t.toNat:Int):Rat):=Rat.intCast_pos.2 (two_pos _)
 have ie:=inv_one T0
 have eX:∀ z:Int,(z:Rat)*(((2^t.toNat:Int):Rat))⁻¹*((2^t.toNat:Int):Rat)=z:=fun z=>by rw[Rat.mul_assoc,ie,Rat.mul_one]
 have ab:=Rat.intCast_le_intCast.2 H.h2
 have x1':(a:Rat)≤(a:Rat)*(((2^t.toNat:Int):Rat))⁻¹*((2^t.toNat:Int):Rat)∧(a:Rat)*(((2^t.toNat:Int):Rat))⁻¹*((2^t.toNat:Int):Rat)≤(b:Rat):=by rw[eX];exact⟨Rat.le_refl,ab⟩
 have x2':(a:Rat)≤(b:Rat)*(((2^t.toNat:Int):Rat))⁻¹*((2^t.toNat:Int):Rat)∧(b:Rat)*(((2^t.toNat:Int):Rat))⁻¹*((2^t.toNat:Int):Rat)≤(b:Rat):=by rw[eX];exact⟨ab,Rat.le_refl⟩
 have b1:=X_bd H x1'.1 x1'.2
 have b2:=X_bd H x2'.1 x2'.2
 have C0:(0:Rat)<((2^(n+c):Int):Rat):=Rat.intCast_pos.2 (two_pos _)
 have n0:(0:Rat)<((2^n:Int):Rat):=Rat.intCast_pos.2 (two_pos _)
 have eT:((2^t.toNat:Int):Rat)=((2^S:Int):Rat)*((2^(n+c):Int):Rat):=by rw[ht,Nat.add_assoc,Int.pow_add,Rat.intCast_mul]
 have en:(2:Rat)^n=((2^n:Int):Rat):=by rw[← zp_nat,Rat.zpow_natCast]
 constructor
 ·refine LoE.of ⟨N+1,fun K hK=>?_⟩ L.1
  have e:=(ser_enc H x1'.1 x1'.2 N hK).1
  have f:=(fl_R (a:=(sA1 (2^t.toNat) a b N-(aP (2^t.toNat) a b N).2)*2^n) (two_pos (n+c))).1
  rw[Rat.intCast_mul] at f
  show _≤(2:Rat)^n*AT0 ((a:Rat)*(((2^t.toNat:Int):Rat))⁻¹) K*_
  unfold AT0
  rw[if_pos b1.2,en]
  have e:=Rat.mul_le_mul_of_nonneg_right e (Rat.le_of_lt n0)
  refine Rat.le_of_mul_le_mul_right (c:=((2^(n+c):Int):Rat)) (Rat.le_trans f (Rat.le_trans e ?_)) C0
  generalize AL ((a:Rat)*(((2^t.toNat:Int):Rat))⁻¹) K=z
  rw[eT];grind
 ·refine HiE.of ⟨N+1,fun K hK=>?_⟩ L.2
  have e:=(ser_enc H x2'.1 x2'.2 N hK).2
  have f:=(ce_R (a:=(sA2 (2^t.toNat) a b N+(aP (2^t.toNat) a b N).2)*2^n) (two_pos (n+c))).1
  rw[Rat.intCast_mul] at f
  show (2:Rat)^n*AT0 ((b:Rat)*(((2^t.toNat:Int):Rat))⁻¹) K*_≤_
  unfold AT0
  rw[if_pos b2.2,en]
  have e:=Rat.mul_le_mul_of_nonneg_right e (Rat.le_of_lt n0)
  refine Rat.le_of_mul_le_mul_right (c:=((2^(n+c):Int):Rat)) (Rat.le_trans ?_ (Rat.le_trans e f)) C0
  generalize AL ((b:Rat)*(((2^t.toNat:Int):Rat))⁻¹) K=z
  rw[eT];grind
theorem hv_ex {t x1 x2:Int}{S n c:Nat}(ht:t.toNat=S+n+c)(h0:0≤x1)(h1:x1≤x2)(h2:8*x2≤9*2^t.toNat)(h3:1024≤(2:Int)^t.toNat)(hn:2≤n):∃ ha hb:Nat→Int,(ha 0=x1∧hb 0=x2) ∧
  (∀ i,ha (i+1)=Int.fdiv (ha i*2^t.toNat) (1*2^t.toNat+sqHi (1*2^t.toNat+-(-(hb i*hb i) / 2^t.toNat)) t)∧hb (i+1)=-(Int.fdiv (-(hb i*2^t.toNat)) (1*2^t.toNat+sqLo (1*2^t.toNat+ha i*ha i / 2^t.toNat) t))) ∧
  (∀ i,0≤ha i∧ha i≤hb i∧8*hb i≤9*2^t.toNat)∧ArH (2^t.toNat) (ha n) (hb n)∧hb n-ha n+3≤4^n*(x2-x1+3) ∧
  ∀ N,LoE (AT0 ((x1:Rat)*(((2^t.toNat:Int):Rat))⁻¹)) S ((sA1 (2^t.toNat) (ha n) (hb n) N-(aP (2^t.toNat) (ha n) (hb n) N).2)*2^n / 2^(n+c))∧HiE (AT0 ((x2:Rat)*(((2^t.toNat:Int):Rat))⁻¹)) S (-(-((sA2 (2^t.toNat) (ha n) (hb n) N+(aP (2^t.toNat) (ha n) (hb n) N).2)*2^n) / 2^(n+c))) :=
 ⟨fun i=>(hv t x1 x2 i).1,fun i=>(hv t x1 x2 i).2,⟨rfl,rfl⟩,fun _=>⟨rfl,rfl⟩,hv_facts h0 h1 h2 (by omega),hv8 h0 h1 h2 h3 hn,hv_wid h0 h1 h2 (by omega) n,fun _=>ang_lim ht h0 h1 h2 h3 hn rfl rfl⟩
end Go.Proofs.YtkkbddkpggjgpaaGreatDoor
