/-
  Lower layers: what functions of the program compute, and plain facts. Conditions: as the theorems say.
-/
import Derived.Test.YtkkbddkpggjgpaaGreatDoorPaT
set_option linter.unusedVariables false
set_option linter.unusedSimpArgs false
namespace Go.Proofs.YtkkbddkpggjgpaaGreatDoor
def rsA (p1 p2:Nat→Int):Nat→Int
 | 0=>0
 | j+1=>if j%2=1 then rsA p1 p2 j+-(p2 j) else rsA p1 p2 j+p1 j
def rsB (p1 p2:Nat→Int):Nat→Int
 | 0=>0
 | j+1=>if j%2=1 then rsB p1 p2 j+-(p1 j) else rsB p1 p2 j+p2 j
theorem sq_prod {a b:Int}(h0:0≤a)(h1:a≤b)(T:Int):rm1 a b a b T=a*a / T∧rm2 a b a b T=-(-(b*b) / T):=by
 have m1:=Int.mul_le_mul_of_nonneg_left h1 h0
 have m2:=Int.mul_le_mul_of_nonneg_right h1 (show 0≤b by omega)
 have c:=Int.mul_comm b a
 unfold rm1 rm2 mn4 mx4
 constructor
 ·rw[show min (min (min (a*a) (a*b)) (b*a)) (b*b)=a*a by omega]
 ·rw[show max (max (max (a*a) (a*b)) (b*a)) (b*b)=b*b by omega]
theorem dv_pick {a b c d T:Int}(hT:0<T)(h0:0≤a)(h1:a≤b)(hc:0<c)(hd:c≤d):(rdv a b c d T).1=a*T / d∧(rdv a b c d T).2=-(-(b*T) / c):=by
 have ab:=Int.mul_le_mul_of_nonneg_right h1 (show 0≤T by omega)
 have a0:=Int.mul_nonneg h0 (show 0≤T by omega)
 unfold rdv
 simp only [Int.fdiv_eq_ediv_of_nonneg _ (show 0≤c by omega),Int.fdiv_eq_ediv_of_nonneg _ (show 0≤d by omega)]
 rw[show min (a*T) (b*T)=a*T by omega,show max (a*T) (b*T)=b*T by omega]
 have q1:=Int.ediv_mul_le (a*T) (show d≠0 by omega)
 have q0:=Int.ediv_nonneg a0 (show 0≤d by omega)
 have p1:=Int.ediv_mul_le (a*T) (show c≠0 by omega)
 have p2:=Int.ediv_mul_le (-(b*T)) (show c≠0 by omega)
 have p3:=Int.lt_ediv_add_one_mul_self (-(b*T)) hc
 have q2:=Int.ediv_mul_le (-(b*T)) (show d≠0 by omega)
 have k1:a*T / d≤a*T / c:=Int.le_ediv_of_mul_le hc (by have:=Int.mul_le_mul_of_nonneg_left hd q0;omega)
 have k2:a*T / d≤-(-(b*T) / d):=by
  have:-(b*T) / d≤-(a*T / d):=by
   refine Decidable.byContradiction fun hn=>?_
   have m:=Int.mul_le_mul_of_nonneg_right (show -(a*T / d)+1≤-(b*T) / d by omega) (show 0≤d by omega)
   have e:(-(a*T / d)+1)*d=d-a*T / d*d:=by grind
   have l:=Int.lt_ediv_add_one_mul_self (a*T) (show 0<d by omega)
   rw[Int.add_mul] at l
   omega
  omega
 have k3:a*T / c≤-(-(b*T) / c):=by
  have:-(b*T) / c≤-(a*T / c):=by
   refine Decidable.byContradiction fun hn=>?_
   have m:=Int.mul_le_mul_of_nonneg_right (show -(a*T / c)+1≤-(b*T) / c by omega) (show 0≤c by omega)
   have e:(-(a*T / c)+1)*c=c-a*T / c*c:=by grind
   have l:=Int.lt_ediv_add_one_mul_self (a*T) hc
   rw[Int.add_mul] at l
   omega
  omega
 have b0:0≤-(-(b*T) / c):=by
  have:-(b*T) / c≤0:=Int.ediv_le_of_le_mul hc (by omega)
  omega
 have k4:-(-(b*T) / d)≤-(-(b*T) / c):=by
  have:-(b*T) / c≤-(b*T) / d:=Int.le_ediv_of_mul_le (by omega) (by
   have m:=Int.mul_le_mul_of_nonneg_left hd b0
   have e:-(-(b*T) / c)*d=-(-(b*T) / c*d):=Int.neg_mul _ _
   have e2:-(-(b*T) / c)*c=-(-(b*T) / c*c):=Int.neg_mul _ _
   omega)
  omega
 constructor<;>omega
def hvQ (T a b r1 r2:Int):Int × Int:=(a*T / (T+r2),-(-(b*T) / (T+r1)))
theorem hv_stepG {T a b m1 m2 r1 r2:Int}(hT:0<T)(a0:0≤a)(ab:a≤b)(hb:b≤2*T)(e1:m1=a*a / T)(e2:m2=-(-(b*b) / T))(r10:0≤r1)(g1:r1*r1≤(T+m1)*T)(g2:(T+m1)*T<(r1+1)*(r1+1))(r20:0≤r2)(g3:(T+m2)*T≤r2*r2)(g4:(r2-1)*(r2-1)≤(T+m2)*T+1) :
  (0≤(hvQ T a b r1 r2).1∧(hvQ T a b r1 r2).1≤(hvQ T a b r1 r2).2∧2*(hvQ T a b r1 r2).2≤b+2∧(hvQ T a b r1 r2).2-(hvQ T a b r1 r2).1≤4*(b-a)+8) ∧
  (2*(((hvQ T a b r1 r2).1:Rat)*(T:Rat)⁻¹)≤(a:Rat)*(T:Rat)⁻¹*(1-((hvQ T a b r1 r2).1:Rat)*(T:Rat)⁻¹*(((hvQ T a b r1 r2).1:Rat)*(T:Rat)⁻¹)) ∧
  (b:Rat)*(T:Rat)⁻¹*(1-((hvQ T a b r1 r2).2:Rat)*(T:Rat)⁻¹*(((hvQ T a b r1 r2).2:Rat)*(T:Rat)⁻¹))≤2*(((hvQ T a b r1 r2).2:Rat)*(T:Rat)⁻¹))∧T≤r1∧r1≤r2:=by
 have b0:0≤b:=by omega
 have f1:=Int.ediv_mul_le (a*a) (show T≠0 by omega)
 have f2:=Int.lt_ediv_add_one_mul_self (a*a) hT
 have f3:=Int.ediv_mul_le (-(b*b)) (show T≠0 by omega)
 have f4:=Int.lt_ediv_add_one_mul_self (-(b*b)) hT
 have m10:=Int.ediv_nonneg (Int.mul_nonneg a0 a0) (show 0≤T by omega)
 have bb:=Int.mul_nonneg b0 b0
 rw[← e1] at f1 f2 m10
 have e2':-(b*b) / T=-m2:=by omega
 rw[e2'] at f3 f4
 rw[Int.add_mul,Int.one_mul] at f2 f4
 rw[Int.neg_mul] at f3 f4
 have rw_:=root_w (T:=T) (a:=a) (b:=b) (m1:=m1) (m2:=m2) (r1:=r1) (r2:=r2) hT a0 ab hb f1 f2 (by omega) (by omega) r10 g2 r20 g3 g4 m10
 have r12:r1≤r2:=by
  refine Decidable.byContradiction fun hn=>?_
  have p:=Int.mul_le_mul (show r2+1≤r1 by omega) (show r2+1≤r1 by omega) (by omega) (by omega)
  have e:(r2+1)*(r2+1)=r2*r2+2*r2+1:=by grind
  have aa:=Int.mul_le_mul ab ab a0 b0
  rw[Int.add_mul] at g1 g3
  omega
 unfold hvQ
 have q1:=Int.ediv_mul_le (a*T) (show T+r2≠0 by omega)
 have q2:=Int.lt_ediv_add_one_mul_self (a*T) (show 0<T+r2 by omega)
 have q3:=Int.ediv_mul_le (-(b*T)) (show T+r1≠0 by omega)
 have q4:=Int.lt_ediv_add_one_mul_self (-(b*T)) (show 0<T+r1 by omega)
 generalize a*T / (T+r2)=x at *
 generalize -(b*T) / (T+r1)=y at *
 rw[Int.add_mul,Int.one_mul] at q2 q4
 have w:=hv_w (T:=T) (a:=a) (b:=b) (x:=x) (y:=-y) (d1:=T+r1) (d2:=T+r2) (W:=b-a) hT a0 rfl (by omega) hb (by omega) (by omega) (by omega) q1 q2 (by rw[Int.neg_mul];omega) (by rw[Int.neg_mul];omega)
 rw[Int.add_mul] at g1 g3
 exact⟨w,⟨half_int_lo hT w.1 a0 ab r20 rfl q1 (by omega),half_int_hi hT (by omega) a0 ab r10 rfl (by rw[Int.neg_mul];omega) (by omega)⟩,rw_.1,r12⟩
structure Hstep (T a b a' b':Int):Prop where
 h1:0≤a'
 h2:a'≤b'
 h3:2*b'≤b+2
 lo:2*((a':Rat)*(T:Rat)⁻¹)≤(a:Rat)*(T:Rat)⁻¹*(1-(a':Rat)*(T:Rat)⁻¹*((a':Rat)*(T:Rat)⁻¹))
 hi:(b:Rat)*(T:Rat)⁻¹*(1-(b':Rat)*(T:Rat)⁻¹*((b':Rat)*(T:Rat)⁻¹))≤2*((b':Rat)*(T:Rat)⁻¹)
theorem hs_facts {T:Int}{ha hb:Nat→Int}(h0:0≤ha 0)(h1:ha 0≤hb 0)(h2:8*hb 0≤9*T)(h3:64≤T)(st:∀ i,0≤ha i→ha i≤hb i→8*hb i≤9*T→Hstep T (ha i) (hb i) (ha (i+1)) (hb (i+1))):∀ i,0≤ha i∧ha i≤hb i∧8*hb i≤9*T
 | 0=>⟨h0,h1,h2⟩
 | i+1=>by
  have f:=hs_facts h0 h1 h2 h3 st i
  have g:=st i f.1 f.2.1 f.2.2
  have:=g.h3
  exact⟨g.h1,g.h2,by omega⟩
theorem hs_small {T:Int}{ha hb:Nat→Int}(h0:0≤ha 0)(h1:ha 0≤hb 0)(h2:8*hb 0≤9*T)(h3:64≤T)(st:∀ i,0≤ha i→ha i≤hb i→8*hb i≤9*T→Hstep T (ha i) (hb i) (ha (i+1)) (hb (i+1))):∀ i,2^i*(hb i-2)≤hb 0
 | 0=>by show 1*(hb 0-2)≤hb 0;omega
 | i+1=>by
  have f:=hs_facts h0 h1 h2 h3 st i
  have g:=(st i f.1 f.2.1 f.2.2).h3
  have k:=hs_small h0 h1 h2 h3 st i
  have p:=two_pos i
  have m:=Int.mul_le_mul_of_nonneg_left (show 2*(hb (i+1)-2)≤hb i-2 by omega) (Int.le_of_lt p)
  rw[Int.pow_succ,Int.mul_assoc];omega
theorem hs_lim {T:Int}{ha hb:Nat→Int}(h0:0≤ha 0)(h1:ha 0≤hb 0)(h2:8*hb 0≤9*T)(h3:64≤T)(st:∀ i,0≤ha i→ha i≤hb i→8*hb i≤9*T→Hstep T (ha i) (hb i) (ha (i+1)) (hb (i+1)))(n:Nat) :
  Lq (fun K=>(2:Rat)^n*AT0 ((ha n:Rat)*(T:Rat)⁻¹) K) (AT0 ((ha 0:Rat)*(T:Rat)⁻¹))∧Lq (AT0 ((hb 0:Rat)*(T:Rat)⁻¹)) (fun K=>(2:Rat)^n*AT0 ((hb n:Rat)*(T:Rat)⁻¹) K):=by
 have T0:(0:Rat)<(T:Rat):=Rat.intCast_pos.2 (by omega)
 have i0:=Rat.inv_pos.2 T0
 have ie:=inv_one T0
 have up:∀ {z:Int} {c d:Int},d*z≤c*T→(d:Rat)*((z:Rat)*(T:Rat)⁻¹)≤(c:Rat):=by
  intro z c d h
  have h:=Rat.intCast_le_intCast.2 h
  rw[Rat.intCast_mul,Rat.intCast_mul] at h
  have m:=Rat.mul_le_mul_of_nonneg_right h (Rat.le_of_lt i0)
  have e:(c:Rat)*(T:Rat)*(T:Rat)⁻¹=(c:Rat):=by
   rw[Rat.mul_assoc,Rat.mul_comm (T:Rat),ie,Rat.mul_one]
  rw[e,Rat.mul_assoc] at m
  exact m
 have nn:∀ {z:Int},0≤z→0≤(z:Rat)*(T:Rat)⁻¹:=fun h=>Rat.mul_nonneg (Rat.intCast_nonneg.2 h) (Rat.le_of_lt i0)
 have c5:((5:Int):Rat)=5:=rfl
 have c9:((9:Int):Rat)=9:=rfl
 have c8:((8:Int):Rat)=8:=rfl
 have fb:=hs_facts h0 h1 h2 h3 st
 have sp:=fun i=>st i (fb i).1 (fb i).2.1 (fb i).2.2
 constructor
 ·refine halves_lo (a:=fun i=>(ha i:Rat)*(T:Rat)⁻¹) ?_ n fun j _=>?_
  ·have:=up (z:=ha 0) (c:=9) (d:=8) (by omega)
   rw[c9,c8] at this
   show (ha 0:Rat)*_≤_
   grind
  ·have g:=sp j
   have f:=fb j
   have k3:=g.h3
   have k2:=g.h2
   have u:=up (z:=ha (j+1)) (c:=5) (d:=8) (by omega)
   rw[c5,c8] at u
   exact⟨⟨nn g.h1,by grind⟩,g.lo⟩
 ·refine halves_hi (a:=fun i=>(hb i:Rat)*(T:Rat)⁻¹) (nn (by omega)) ?_ n fun j _=>?_
  ·have:=up (z:=hb 0) (c:=9) (d:=8) (by omega)
   rw[c9,c8] at this
   show (hb 0:Rat)*_≤_
   grind
  ·have g:=sp j
   have f:=fb j
   have k3:=g.h3
   have k1:=g.h1
   have k2:=g.h2
   have u:=up (z:=hb (j+1)) (c:=5) (d:=8) (by omega)
   rw[c5,c8] at u
   exact⟨⟨nn (by omega),by grind⟩,g.hi⟩
def yo1 (v:Nat)(a b:Int)(j:Nat):Int:=ovLo (sP v a b j).1 (sP v a b j).2 (odn j)
def yo2 (v:Nat)(a b:Int)(j:Nat):Int:=ovHi (sP v a b j).1 (sP v a b j).2 (odn j)
theorem rs_enc {v:Nat}{a b:Int}{Z:Rat}(e1:(a:Rat)≤Z*((2^v:Int):Rat))(e2:Z*((2^v:Int):Rat)≤(b:Rat)):∀ j,((rsA (yo1 v a b) (yo2 v a b) j:Int):Rat)≤AL Z j*((2^v:Int):Rat)∧AL Z j*((2^v:Int):Rat)≤((rsB (yo1 v a b) (yo2 v a b) j:Int):Rat)
 | 0=>by
  show ((0:Int):Rat)≤0*_∧0*_≤((0:Int):Rat)
  rw[Rat.zero_mul];exact⟨Rat.le_refl,Rat.le_refl⟩
 | j+1=>by
  have i:=rs_enc e1 e2 j
  have p:=sP_enc e1 e2 j
  have d:=ov_in (odn_pos j) p.1 p.2
  have d1:((yo1 v a b j:Int):Rat)≤tA Z j*((2^v:Int):Rat):=by
   have:tA Z j*((2^v:Int):Rat)=Z^(2*j+1)*((2^v:Int):Rat) / (odn j:Rat):=by unfold tA;rw[Rat.div_def,Rat.div_def];grind
   rw[this];exact d.1
  have d2:tA Z j*((2^v:Int):Rat)≤((yo2 v a b j:Int):Rat):=by
   have:tA Z j*((2^v:Int):Rat)=Z^(2*j+1)*((2^v:Int):Rat) / (odn j:Rat):=by unfold tA;rw[Rat.div_def,Rat.div_def];grind
   rw[this];exact d.2
  have e:AL Z (j+1)=AL Z j+sg j*tA Z j:=rfl
  rw[e]
  unfold rsA rsB
  by_cases q:j%2=1
  ·rw[if_pos q,if_pos q,Rat.intCast_add,Rat.intCast_add,Rat.intCast_neg,Rat.intCast_neg]
   have s:sg j=-1:=by unfold sg;rw[if_neg (by omega)]
   rw[s]
   constructor<;>grind
  ·rw[if_neg q,if_neg q,Rat.intCast_add,Rat.intCast_add]
   have s:sg j=1:=by unfold sg;rw[if_pos (by omega)]
   rw[s]
   constructor<;>grind
theorem rser_enc {v:Nat}{a b:Int}{Z:Rat}(z0:0≤Z)(z1:Z≤1)(e1:(a:Rat)≤Z*((2^v:Int):Rat))(e2:Z*((2^v:Int):Rat)≤(b:Rat)){N K:Nat}(hN:(sP v a b N).1.natAbs≤1∧(sP v a b N).2.natAbs≤1)(hK:N≤K) :
  ((rsA (yo1 v a b) (yo2 v a b) N-3:Int):Rat)≤AL Z K*((2^v:Int):Rat)∧AL Z K*((2^v:Int):Rat)≤((rsB (yo1 v a b) (yo2 v a b) N+3:Int):Rat):=by
 have T0:(0:Rat)<((2^v:Int):Rat):=Rat.intCast_pos.2 (two_pos v)
 have s:=rs_enc e1 e2 N
 have p:=(sP_enc e1 e2 N).2
 have n:=AL_near z0 z1 hK
 have t:=(tA_nn z0 N).2
 have b2:((sP v a b N).2:Rat)≤(1:Rat):=by
  have:((sP v a b N).2:Rat)≤((1:Int):Rat):=Rat.intCast_le_intCast.2 (by omega)
  exact this
 have m0:=Rat.mul_le_mul_of_nonneg_right t (Rat.le_of_lt T0)
 have m1:=Rat.mul_le_mul_of_nonneg_right n.1 (Rat.le_of_lt T0)
 have m2:=Rat.mul_le_mul_of_nonneg_right n.2 (Rat.le_of_lt T0)
 rw[Rat.intCast_sub,Rat.intCast_add,show ((3:Int):Rat)=3 from rfl]
 constructor<;>grind
theorem yo_abs {v:Nat}{a b:Int}(h:RrH v a b){j:Nat}(hj:j≤v-1):(yo1 v a b j).natAbs≤2^v∧(yo2 v a b j).natAbs≤2^v:=by
 have p:=rP_abs h j hj
 have l:2^(v-1-j)≤2^v:=Nat.pow_le_pow_right (by omega) (by omega)
 exact ov_le (n:=odn j) (by have:=odn_pos j;omega) (Nat.le_trans p.1 l) (Nat.le_trans p.2 l)
theorem rs_abs {v:Nat}{a b:Int}(h:RrH v a b):∀ j,j≤v→(rsA (yo1 v a b) (yo2 v a b) j).natAbs≤j*2^v∧(rsB (yo1 v a b) (yo2 v a b) j).natAbs≤j*2^v
 | 0,_=>⟨by show (0:Int).natAbs≤_;simp,by show (0:Int).natAbs≤_;simp⟩
 | j+1,hj=>by
  have i:=rs_abs h j (by omega)
  have o:=yo_abs h (j:=j) (by omega)
  rw[Nat.add_mul,Nat.one_mul]
  unfold rsA rsB
  by_cases q:j%2=1
  ·rw[if_pos q,if_pos q];omega
  ·rw[if_neg q,if_neg q];omega
theorem rin_lim {v:Nat}{ha hb:Nat→Int}(h0:0≤ha 0)(h1:ha 0≤hb 0)(h2:8*hb 0≤9*2^v)(h3:1024≤(2:Int)^v)(st:∀ i,0≤ha i→ha i≤hb i→8*hb i≤9*2^v→Hstep (2^v) (ha i) (hb i) (ha (i+1)) (hb (i+1))){N:Nat}(hN:(sP v (ha 4) (hb 4) N).1.natAbs≤1∧(sP v (ha 4) (hb 4) N).2.natAbs≤1) :
  LoE (AT0 ((ha 0:Rat)*(((2^v:Int):Rat))⁻¹)) v ((rsA (yo1 v (ha 4) (hb 4)) (yo2 v (ha 4) (hb 4)) N-3)*16)∧HiE (AT0 ((hb 0:Rat)*(((2^v:Int):Rat))⁻¹)) v ((rsB (yo1 v (ha 4) (hb 4)) (yo2 v (ha 4) (hb 4)) N+3)*16):=by
 have L:=hs_lim h0 h1 h2 (by omega) st 4
 have f:=hs_facts h0 h1 h2 (by omega) st 4
 have k:=hs_small h0 h1 h2 (by omega) st 4
 rw[show (2:Int)^4=16 from rfl] at k
 have T0:(0:Rat)<((2^v:Int):Rat):=Rat.intCast_pos.2 (two_pos _)
 have i0:=Rat.inv_pos.2 T0
 have ie:=inv_one T0
 have eX:∀ z:Int,(z:Rat)*(((2^v:Int):Rat))⁻¹*((2^v:Int):Rat)=z:=fun z=>by rw[Rat.mul_assoc,ie,Rat.mul_one]
 have ab:=Rat.intCast_le_intCast.2 f.2.1
 have nn:∀ {z:Int},0≤z→0≤(z:Rat)*(((2^v:Int):Rat))⁻¹:=fun h=>Rat.mul_nonneg (Rat.intCast_nonneg.2 h) (Rat.le_of_lt i0)
 have hf:∀ {z:Int},2*z≤2^v→(z:Rat)*(((2^v:Int):Rat))⁻¹≤1 / 2:=by
  intro z h
  have h:=Rat.intCast_le_intCast.2 h
  rw[Rat.intCast_mul,show ((2:Int):Rat)=2 from rfl] at h
  refine Rat.le_of_mul_le_mul_right (c:=((2^v:Int):Rat)) ?_ T0
  rw[eX];grind
 have b1:=hf (z:=ha 4) (by omega)
 have b2:=hf (z:=hb 4) (by omega)
 have c16:(2:Rat)^4=16:=of_decide_eq_true (by kernel_rfl)
 rw[c16] at L
 constructor
 ·refine LoE.of ⟨N,fun K hK=>?_⟩ L.1
  have e:=(rser_enc (nn f.1) (by grind) (by rw[eX];exact Rat.le_refl) (by rw[eX];exact ab) hN hK).1
  show _≤(16:Rat)*AT0 ((ha 4:Rat)*(((2^v:Int):Rat))⁻¹) K*_
  unfold AT0
  rw[if_pos b1,Rat.intCast_mul,show ((16:Int):Rat)=16 from rfl]
  grind
 ·refine HiE.of ⟨N,fun K hK=>?_⟩ L.2
  have e:=(rser_enc (nn (show 0≤hb 4 by omega)) (by grind) (by rw[eX];exact ab) (by rw[eX];exact Rat.le_refl) hN hK).2
  show (16:Rat)*AT0 ((hb 4:Rat)*(((2^v:Int):Rat))⁻¹) K*_≤_
  unfold AT0
  rw[if_pos b2,Rat.intCast_mul,show ((16:Int):Rat)=16 from rfl]
  grind
end Go.Proofs.YtkkbddkpggjgpaaGreatDoor

namespace Go.Proofs.YtkkbddkpggjgpaaGreatDoor
open Go.RowKit
set_option maxRecDepth 100000
set_option maxHeartbeats 2000000
theorem iMax_bd (t:Int):0≤iMax 0 t∧t≤iMax 0 t∧(iMax 0 t≤0∨iMax 0 t≤t):=by unfold iMax;split<;>omega
theorem sqv_n {a v:Int}:sgn false (rt (a*2^v.toNat).natAbs)=sqLo a v:=by
 unfold sqLo
 rw[abs_shl,sgn_f]
theorem r13_Sqrt (a b v:Int)(c0:L (a).natAbs≤1000)(c1:L (b).natAbs≤1000)(c2:(0:Int)≤v∧v≤20000):Impl Tryz.prog Amb 180 [(sV a b),(.int .i64 v)] (sV (sqLo a v) (sqLo b v+1)):=by
 have z1:=L_lit 1 (by decide)
 have m1:=L_abs_shl a v.toNat
 have m2:=L_abs_shl b v.toNat
 exact impl_ob hP hAmb Tryz.func180 (by kernel_rfl) (.lits 2<|.call (zV (a*2^(v).toNat))<|.lits 2<|.call (.tup [(N (rt ((a*2^(v).toNat).natAbs))),(N ((a*2^(v).toNat).natAbs-rt ((a*2^(v).toNat).natAbs)*rt ((a*2^(v).toNat).natAbs)))])<|.lits 2<|.call (zV (b*2^(v).toNat))<|.lits 2<|.call (.tup [(N (rt ((b*2^(v).toNat).natAbs))),(N ((b*2^(v).toNat).natAbs-rt ((b*2^(v).toNat).natAbs)*rt ((b*2^(v).toNat).natAbs)))])<|.lit<|.call (zV (sgn false (rt ((a*2^(v).toNat).natAbs))))<|.lit<|.call (zV (sgn false (rt ((b*2^(v).toNat).natAbs))))<|.lit<|.call (zV (1:Int))<|.lit<|.call (zV ((sgn false (rt ((b*2^(v).toNat).natAbs)))+(1:Int)))<|.lits 3<|.ret)
  (cast_ob (aI True.intro (aI (r05_Shl a v oO oO) (have f10:=L_abs_shl a (v).toNat;aI (r04_Sqrt ((a*2^(v).toNat).natAbs) oO) (have f9:=L_sub ((a*2^(v).toNat).natAbs) (rt ((a*2^(v).toNat).natAbs)*rt ((a*2^(v).toNat).natAbs));have f8:=rt_L ((a*2^(v).toNat).natAbs);aI (r05_Shl b v oO oO) (have f7:=L_abs_shl b (v).toNat;aI (r04_Sqrt ((b*2^(v).toNat).natAbs) oO) (have f6:=L_sub ((b*2^(v).toNat).natAbs) (rt ((b*2^(v).toNat).natAbs)*rt ((b*2^(v).toNat).natAbs));have f5:=rt_L ((b*2^(v).toNat).natAbs);aI (r05_Nat false (rt ((a*2^(v).toNat).natAbs)) oO) (have f4:=L_sgn false (rt ((a*2^(v).toNat).natAbs));aI (r05_Nat false (rt ((b*2^(v).toNat).natAbs)) oO) (have f3:=L_sgn false (rt ((b*2^(v).toNat).natAbs));aI (r05_Of 1 oO) (have f2:=(L_i64 oO:L (1:Int).natAbs≤2);aI (r05_Add (sgn false (rt ((b*2^(v).toNat).natAbs))) (1:Int) oO oO) (have f1:=L_abs_add (sgn false (rt ((b*2^(v).toNat).natAbs))) (1:Int);(Sp_of sqv_n (by rw[sqv_n]):vsub (sV (sgn false (rt ((a*2^(v).toNat).natAbs))) ((sgn false (rt ((b*2^(v).toNat).natAbs)))+(1:Int))) (sV (sqLo a v) (sqLo b v+1))))))))))))) (by kernel_rfl))
theorem r16_half0 (x1 x2 v o1 m1 m2 a1 a2 r1 r2 d1 d2 z1 z2:Int)(c0:Impl Tryz.prog Amb 57 [(.int .i64 1),(.int .i64 v)] (sV o1 o1))(c1:Impl Tryz.prog Amb 122 [(sV x1 x2),(sV x1 x2),(.int .i64 v)] (sV m1 m2))(c2:Impl Tryz.prog Amb 119 [(sV o1 o1),(sV m1 m2)] (sV a1 a2))(c3:Impl Tryz.prog Amb 180 [(sV a1 a2),(.int .i64 v)] (sV r1 r2))(c4:Impl Tryz.prog Amb 119 [(sV o1 o1),(sV r1 r2)] (sV d1 d2))(c5:Impl Tryz.prog Amb 56 [(sV x1 x2),(sV d1 d2),(.int .i64 v)] (sV z1 z2)):Impl Tryz.prog Amb 121 [(sV x1 x2),(.int .i64 v)] (sV z1 z2):=by
 exact impl_ob hP hAmb Tryz.func121 (by kernel_rfl) (.lit<|.call (sV o1 o1)<|.lits 7<|.call (sV m1 m2)<|.lit<|.call (sV a1 a2)<|.lit<|.call (sV r1 r2)<|.lit<|.call (sV d1 d2)<|.lit<|.call (sV z1 z2)<|.lits 2<|.ret)
  (cast_ob (aI True.intro (aI (c0 ) (aI (c1 ) (aI (c2 ) (aI (c3 ) (aI (c4 ) (aI (c5 ) ((vsub_refl (sV z1 z2)))))))))) (by kernel_rfl))
def r16_in_0_mk (v:Int)(ha hb:Nat→Int)(x:Nat × Int):St:=⟨mkS 53 [(1,(.val (.int .i64 v))),(2,(.own 0 0)),(4,(.own 1 0)),(10,(.val (.int .i64 x.2)))],[⟨true,false,[(V.bool (decide ((ha x.1)<0))),(N ((ha x.1).natAbs)),(V.bool (decide ((hb x.1)<0))),(N ((hb x.1).natAbs))]⟩,⟨true,false,[(V.bool false),V.nil,(V.bool false),V.nil]⟩]⟩
def r16_in_0_I (_:Int)(_ _:Nat→Int)(x:Nat × Int):Prop:=x.2=(x.1:Int)∧x.1≤4
def r16_in_0_mu (_:Int)(_ _:Nat→Int)(x:Nat × Int):Nat:=4-x.1
def r16_in_0_ex (v:Int)(ha hb:Nat→Int)(y:Nat):Ex × St:=(.exit 0,⟨mkS 53 [(1,(.val (.int .i64 v))),(2,(.own 0 0)),(4,(.own 1 0))],[⟨true,false,[(V.bool (decide ((ha y)<0))),(N ((ha y).natAbs)),(V.bool (decide ((hb y)<0))),(N ((hb y).natAbs))]⟩,⟨true,false,[(V.bool false),V.nil,(V.bool false),V.nil]⟩]⟩)
def r16_in_0_J (_:Int)(_ _:Nat→Int)(y:Nat):Prop:=y=4
abbrev r16_in_0_N (v:Int)(ha hb:Nat→Int):=NX (r16_in_0_mk v ha hb) (r16_in_0_I v ha hb) (r16_in_0_mu v ha hb) (r16_in_0_ex v ha hb) (r16_in_0_J v ha hb)
theorem r16_in_0 (v:Int)(ha hb:Nat→Int)(c0:∀ i:Nat,i<4→Impl Tryz.prog Amb 121 [(sV (ha i) (hb i)),(.int .i64 v)] (sV (ha (i+1)) (hb (i+1))))(c1:∀ i:Nat,i≤4→0≤ha i)(x0:Nat × Int)(hI:r16_in_0_I v ha hb x0):LoopOk Tryz.prog Amb (loopN Tryz.f63 0) (r16_in_0_mk v ha hb x0) (fun e st_=>∃ y,r16_in_0_J v ha hb y∧r16_in_0_ex v ha hb y=(e,st_)) :=
 loop_ob hP hAmb ⟨[1,2,4,10],2,[]⟩ (r16_in_0_mk v ha hb) (r16_in_0_I v ha hb) (r16_in_0_mu v ha hb) (r16_in_0_ex v ha hb) (r16_in_0_J v ha hb) x0 hI (fun (i,ii)=>.lit<|.both (.lits 2<|.call (sV (ha (i+1)) (hb (i+1)))<|.lits 2<|.no<|.lit<|.yes<|.fin2 ⟨[1,2,4,10],2,[]⟩) (.fin2 ⟨[1,2,4],2,[]⟩)) (by
  rintro ⟨i,ii⟩ hI
  have hI:ii=(i:Int)∧i≤4:=hI
  obtain⟨h1,h2⟩:=hI
  have nn0:i<4→0≤ha (i+1):=fun q=>c1 (i+1) oO
  exact cast_ob (aI True.intro (aI (fun (h101:(iLt ii 4)=true)=>have _gh101:=iLt_t h101;aI (c0 i oO ) (aI (decide_eq_false (by have:=nn0 oO;omega):(decide ((ha (i+1))<0))=false) (aI (fits_i64 oO:(fits .i64 (ii+1))=true) (aI tT ((nx_next ((i+1),(ii+1)) (show (ii+1)=((i+1):Int)∧(i+1)≤4 from ⟨by omega,by omega⟩) (show 4-(i+1)<4-i by omega):r16_in_0_N v ha hb (i,ii) .normal (r16_in_0_mk v ha hb ((i+1),(ii+1))))))))) (fun (h102:(iLt ii 4)=false)=>have _gh102:=iLt_f h102;aI tT ((nx_exit 0 ((r16_in_0_ex v ha hb i).2) i (show i=4 from show i=4 by omega) rfl:r16_in_0_N v ha hb (i,ii) (.exit 0) ((r16_in_0_ex v ha hb i).2)))))) (by kernel_rfl))
def r16_in_1_mk (_:Nat)(v q1 q2 ga gb:Int)(tp1 tp2 yp1 yp2:Nat→Int)(x:(Nat × Int)⊕(Nat × Int)):St:=Sum.elim (fun (x:Nat × Int)=>⟨mkS 53 [(1,(.val (.int .i64 v))),(4,(.own 1 0)),(5,(.own 2 0)),(6,(.own 3 0)),(7,(.own 4 0)),(8,(.val (.int .i64 x.2)))],[⟨true,false,[(V.bool (decide (ga<0))),(N ga.natAbs),(V.bool (decide (gb<0))),(N gb.natAbs)]⟩,⟨true,false,[(V.bool false),V.nil,(V.bool false),V.nil]⟩,⟨true,false,[(V.bool (decide (q1<0))),(N q1.natAbs),(V.bool (decide (q2<0))),(N q2.natAbs)]⟩,⟨true,false,[(V.bool (decide ((sq0 ga tp1 (2*x.1))<0))),(N ((sq0 ga tp1 (2*x.1)).natAbs)),(V.bool (decide ((sq0 gb tp2 (2*x.1))<0))),(N ((sq0 gb tp2 (2*x.1)).natAbs))]⟩,⟨true,false,[(V.bool (decide ((rsA yp1 yp2 (2*x.1))<0))),(N ((rsA yp1 yp2 (2*x.1)).natAbs)),(V.bool (decide ((rsB yp1 yp2 (2*x.1))<0))),(N ((rsB yp1 yp2 (2*x.1)).natAbs))]⟩]⟩) (fun (x:Nat × Int)=>⟨mkS 53 [(1,(.val (.int .i64 v))),(4,(.own 1 0)),(5,(.own 2 0)),(6,(.own 3 0)),(7,(.own 4 0)),(8,(.val (.int .i64 x.2)))],[⟨true,false,[(V.bool (decide (ga<0))),(N ga.natAbs),(V.bool (decide (gb<0))),(N gb.natAbs)]⟩,⟨true,false,[(V.bool false),V.nil,(V.bool false),V.nil]⟩,⟨true,false,[(V.bool (decide (q1<0))),(N q1.natAbs),(V.bool (decide (q2<0))),(N q2.natAbs)]⟩,⟨true,false,[(V.bool (decide ((sq0 ga tp1 (2*x.1+1))<0))),(N ((sq0 ga tp1 (2*x.1+1)).natAbs)),(V.bool (decide ((sq0 gb tp2 (2*x.1+1))<0))),(N ((sq0 gb tp2 (2*x.1+1)).natAbs))]⟩,⟨true,false,[(V.bool (decide ((rsA yp1 yp2 (2*x.1+1))<0))),(N ((rsA yp1 yp2 (2*x.1+1)).natAbs)),(V.bool (decide ((rsB yp1 yp2 (2*x.1+1))<0))),(N ((rsB yp1 yp2 (2*x.1+1)).natAbs))]⟩]⟩) x
def r16_in_1_I (nn:Nat)(_ _ _ _ _:Int)(_ _ _ _:Nat→Int)(x:(Nat × Int)⊕(Nat × Int)):Prop:=Sum.elim (fun (x:Nat × Int)=>2*x.1≤nn∧x.2=2*(x.1:Int)) (fun (x:Nat × Int)=>2*x.1+1≤nn∧x.2=2*(x.1:Int)+1) x
def r16_in_1_mu (nn:Nat)(_ _ _ _ _:Int)(_ _ _ _:Nat→Int)(x:(Nat × Int)⊕(Nat × Int)):Nat:=Sum.elim (fun (x:Nat × Int)=>nn-2*x.1) (fun (x:Nat × Int)=>nn-(2*x.1+1)) x
def r16_in_1_ex (_:Nat)(_ q1 q2 ga gb:Int)(tp1 tp2 yp1 yp2:Nat→Int)(y:Nat):Ex × St:=(.exit 2,⟨mkS 53 [(4,(.own 1 0)),(7,(.own 4 0))],[⟨true,false,[(V.bool (decide (ga<0))),(N ga.natAbs),(V.bool (decide (gb<0))),(N gb.natAbs)]⟩,⟨true,false,[(V.bool false),V.nil,(V.bool false),V.nil]⟩,⟨true,false,[(V.bool (decide (q1<0))),(N q1.natAbs),(V.bool (decide (q2<0))),(N q2.natAbs)]⟩,⟨true,false,[(V.bool (decide ((sq0 ga tp1 y)<0))),(N ((sq0 ga tp1 y).natAbs)),(V.bool (decide ((sq0 gb tp2 y)<0))),(N ((sq0 gb tp2 y).natAbs))]⟩,⟨true,false,[(V.bool (decide ((rsA yp1 yp2 y)<0))),(N ((rsA yp1 yp2 y).natAbs)),(V.bool (decide ((rsB yp1 yp2 y)<0))),(N ((rsB yp1 yp2 y).natAbs))]⟩]⟩)
def r16_in_1_J (nn:Nat)(_ _ _ _ _:Int)(_ _ _ _:Nat→Int)(y:Nat):Prop:=y=nn
abbrev r16_in_1_N (nn:Nat)(v q1 q2 ga gb:Int)(tp1 tp2 yp1 yp2:Nat→Int):=NX (r16_in_1_mk nn v q1 q2 ga gb tp1 tp2 yp1 yp2) (r16_in_1_I nn v q1 q2 ga gb tp1 tp2 yp1 yp2) (r16_in_1_mu nn v q1 q2 ga gb tp1 tp2 yp1 yp2) (r16_in_1_ex nn v q1 q2 ga gb tp1 tp2 yp1 yp2) (r16_in_1_J nn v q1 q2 ga gb tp1 tp2 yp1 yp2)
theorem r16_in_1 (nn:Nat)(v q1 q2 ga gb:Int)(tp1 tp2 yp1 yp2:Nat→Int)(c0:∀ j,j≤nn→Impl Tryz.prog Amb 123 [(sV (sq0 ga tp1 j) (sq0 gb tp2 j))] (.bool (decide (nn≤j))))(c1:∀ (j:Nat) (k:Int),j<nn→k=j→Impl Tryz.prog Amb 61 [(sV (sq0 ga tp1 j) (sq0 gb tp2 j)),(.int .i64 (((2:Int)*k)+1))] (sV (yp1 j) (yp2 j)))(c2:∀ j,j<nn→j%2=1→Impl Tryz.prog Amb 64 [(sV (yp1 j) (yp2 j))] (sV (-(yp2 j)) (-(yp1 j))))(c3:∀ j,j<nn→j%2=0→Impl Tryz.prog Amb 119 [(sV (rsA yp1 yp2 j) (rsB yp1 yp2 j)),(sV (yp1 j) (yp2 j))] (sV (rsA yp1 yp2 (j+1)) (rsB yp1 yp2 (j+1))))(c4:∀ j,j<nn→j%2=1→Impl Tryz.prog Amb 119 [(sV (rsA yp1 yp2 j) (rsB yp1 yp2 j)),(sV (-(yp2 j)) (-(yp1 j)))] (sV (rsA yp1 yp2 (j+1)) (rsB yp1 yp2 (j+1))))(c5:∀ j,j<nn→Impl Tryz.prog Amb 122 [(sV (sq0 ga tp1 j) (sq0 gb tp2 j)),(sV q1 q2),(.int .i64 v)] (sV (sq0 ga tp1 (j+1)) (sq0 gb tp2 (j+1))))(c6:nn≤10000)(x0:(Nat × Int)⊕(Nat × Int))(hI:r16_in_1_I nn v q1 q2 ga gb tp1 tp2 yp1 yp2 x0):LoopOk Tryz.prog Amb (loopN Tryz.f63 1) (r16_in_1_mk nn v q1 q2 ga gb tp1 tp2 yp1 yp2 x0) (fun e st_=>∃ y,r16_in_1_J nn v q1 q2 ga gb tp1 tp2 yp1 yp2 y∧r16_in_1_ex nn v q1 q2 ga gb tp1 tp2 yp1 yp2 y=(e,st_)) :=
 loop_ob hP hAmb ⟨[1,4,5,6,7,8],5,[]⟩ (r16_in_1_mk nn v q1 q2 ga gb tp1 tp2 yp1 yp2) (r16_in_1_I nn v q1 q2 ga gb tp1 tp2 yp1 yp2) (r16_in_1_mu nn v q1 q2 ga gb tp1 tp2 yp1 yp2) (r16_in_1_ex nn v q1 q2 ga gb tp1 tp2 yp1 yp2) (r16_in_1_J nn v q1 q2 ga gb tp1 tp2 yp1 yp2) x0 hI (Sum.elim (fun (h,k)=>.lits 2<|.call (.bool (decide (nn≤(2*h))))<|.lit<|.both (.lits 2<|.yes<|.lit<|.yes<|.lit<|.call (sV (yp1 (2*h)) (yp2 (2*h)))<|.lits 3<|.no<|.lits 3<|.call (sV (rsA yp1 yp2 ((2*h)+1)) (rsB yp1 yp2 ((2*h)+1)))<|.lits 4<|.call (sV (sq0 ga tp1 ((2*h)+1)) (sq0 gb tp2 ((2*h)+1)))<|.lits 2<|.yes<|.fin2 ⟨[1,4,5,6,7,8],5,[]⟩) (.fin2 ⟨[4,7],5,[]⟩)) (fun (h,k)=>.lits 2<|.call (.bool (decide (nn≤(2*h+1))))<|.lit<|.both (.lits 2<|.yes<|.lit<|.yes<|.lit<|.call (sV (yp1 (2*h+1)) (yp2 (2*h+1)))<|.lits 3<|.yes<|.lits 2<|.call (sV (-(yp2 (2*h+1))) (-(yp1 (2*h+1))))<|.lits 4<|.call (sV (rsA yp1 yp2 ((2*h+1)+1)) (rsB yp1 yp2 ((2*h+1)+1)))<|.lits 4<|.call (sV (sq0 ga tp1 ((2*h+1)+1)) (sq0 gb tp2 ((2*h+1)+1)))<|.lits 2<|.yes<|.fin2 ⟨[1,4,5,6,7,8],5,[]⟩) (.fin2 ⟨[4,7],5,[]⟩))) (by
  rintro (⟨h,k⟩ | ⟨h,k⟩) hI
  ·skip
   have hI:2*h≤nn∧k=2*(h:Int):=hI
   obtain⟨h1,h2⟩:=hI
   have hr:wRem k 2=k%2:=Int.tmod_eq_emod_of_nonneg oO
   exact cast_ob (aI True.intro (aI (c0 (2*h) h1 ) (aI (fun (h101:(!(decide (nn≤(2*h))))=true)=>have _gh101:=of_decide_eq_false (notb_t h101);aI (fits_i64 oO:(fits .i64 ((2:Int)*k))=true) (aI (fits_i64 oO:(fits .i64 (((2:Int)*k)+1))=true) (aI (c1 (2*h) k oO oO ) (aI (iEq_mkF oO:(iEq (wRem k (2:Int)) 1)=false) (aI (c3 (2*h) oO oO ) (aI (c5 (2*h) oO ) (aI (fits_i64 oO:(fits .i64 (k+1))=true) (aI tT ((nx_next (Sum.inr (h,(k+1))) (show 2*h+1≤nn∧(k+1)=2*(h:Int)+1 from ⟨by omega,by omega⟩) (show nn-(2*h+1)<nn-2*h by omega):r16_in_1_N nn v q1 q2 ga gb tp1 tp2 yp1 yp2 (Sum.inl (h,k)) .normal (r16_in_1_mk nn v q1 q2 ga gb tp1 tp2 yp1 yp2 (Sum.inr (h,(k+1)))))))))))))) (fun (h102:(!(decide (nn≤(2*h))))=false)=>have _gh102:=of_decide_eq_true (notb_f h102);aI tT ((nx_exit 2 ((r16_in_1_ex nn v q1 q2 ga gb tp1 tp2 yp1 yp2 (2*h)).2) (2*h) (show (2*h)=nn from show (2*h)=nn by omega) rfl:r16_in_1_N nn v q1 q2 ga gb tp1 tp2 yp1 yp2 (Sum.inl (h,k)) (.exit 2) ((r16_in_1_ex nn v q1 q2 ga gb tp1 tp2 yp1 yp2 (2*h)).2))))))) (by kernel_rfl)
  ·skip
   have hI:2*h+1≤nn∧k=2*(h:Int)+1:=hI
   obtain⟨h1,h2⟩:=hI
   have hr:wRem k 2=k%2:=Int.tmod_eq_emod_of_nonneg oO
   exact cast_ob (aI True.intro (aI (c0 (2*h+1) h1 ) (aI (fun (h101:(!(decide (nn≤(2*h+1))))=true)=>have _gh101:=of_decide_eq_false (notb_t h101);aI (fits_i64 oO:(fits .i64 ((2:Int)*k))=true) (aI (fits_i64 oO:(fits .i64 (((2:Int)*k)+1))=true) (aI (c1 (2*h+1) k oO oO ) (aI (iEq_mk oO:(iEq (wRem k (2:Int)) 1)=true) (aI (c2 (2*h+1) oO oO ) (aI (c4 (2*h+1) oO oO ) (aI (c5 (2*h+1) oO ) (aI (fits_i64 oO:(fits .i64 (k+1))=true) (aI tT ((nx_next (Sum.inl ((h+1),(k+1))) (show 2*(h+1)≤nn∧(k+1)=2*((h+1):Int) from ⟨by omega,by omega⟩) (show nn-2*(h+1)<nn-(2*h+1) by omega):r16_in_1_N nn v q1 q2 ga gb tp1 tp2 yp1 yp2 (Sum.inr (h,k)) .normal (r16_in_1_mk nn v q1 q2 ga gb tp1 tp2 yp1 yp2 (Sum.inl ((h+1),(k+1))))))))))))))) (fun (h102:(!(decide (nn≤(2*h+1))))=false)=>have _gh102:=of_decide_eq_true (notb_f h102);aI tT ((nx_exit 2 ((r16_in_1_ex nn v q1 q2 ga gb tp1 tp2 yp1 yp2 (2*h+1)).2) (2*h+1) (show (2*h+1)=nn from show (2*h+1)=nn by omega) rfl:r16_in_1_N nn v q1 q2 ga gb tp1 tp2 yp1 yp2 (Sum.inr (h,k)) (.exit 2) ((r16_in_1_ex nn v q1 q2 ga gb tp1 tp2 yp1 yp2 (2*h+1)).2))))))) (by kernel_rfl))
theorem r16_inner0 (x1 x2 v q1 q2 u1 u2 v1 v2:Int)(nn:Nat)(ha:Nat→Int)(hb:Nat→Int)(tp1:Nat→Int)(tp2:Nat→Int)(yp1:Nat→Int)(yp2:Nat→Int)(c0:∀ i:Nat,i<4→Impl Tryz.prog Amb 121 [(sV (ha i) (hb i)),(.int .i64 v)] (sV (ha (i+1)) (hb (i+1))))(c1:∀ i:Nat,i≤4→0≤ha i)(c2:Impl Tryz.prog Amb 122 [(sV (ha 4) (hb 4)),(sV (ha 4) (hb 4)),(.int .i64 v)] (sV q1 q2))(c3:Impl Tryz.prog Amb 57 [(.int .i64 0),(.int .i64 v)] (sV (rsA yp1 yp2 0) (rsB yp1 yp2 0)))(c4:∀ j,j≤nn→Impl Tryz.prog Amb 123 [(sV (sq0 (ha 4) tp1 j) (sq0 (hb 4) tp2 j))] (.bool (decide (nn≤j))))(c5:∀ (j:Nat) (k:Int),j<nn→k=j→Impl Tryz.prog Amb 61 [(sV (sq0 (ha 4) tp1 j) (sq0 (hb 4) tp2 j)),(.int .i64 (((2:Int)*k)+1))] (sV (yp1 j) (yp2 j)))(c6:∀ j,j<nn→j%2=1→Impl Tryz.prog Amb 64 [(sV (yp1 j) (yp2 j))] (sV (-(yp2 j)) (-(yp1 j))))(c7:∀ j,j<nn→j%2=0→Impl Tryz.prog Amb 119 [(sV (rsA yp1 yp2 j) (rsB yp1 yp2 j)),(sV (yp1 j) (yp2 j))] (sV (rsA yp1 yp2 (j+1)) (rsB yp1 yp2 (j+1))))(c8:∀ j,j<nn→j%2=1→Impl Tryz.prog Amb 119 [(sV (rsA yp1 yp2 j) (rsB yp1 yp2 j)),(sV (-(yp2 j)) (-(yp1 j)))] (sV (rsA yp1 yp2 (j+1)) (rsB yp1 yp2 (j+1))))(c9:∀ j,j<nn→Impl Tryz.prog Amb 122 [(sV (sq0 (ha 4) tp1 j) (sq0 (hb 4) tp2 j)),(sV q1 q2),(.int .i64 v)] (sV (sq0 (ha 4) tp1 (j+1)) (sq0 (hb 4) tp2 (j+1))))(c10:nn≤10000)(c11:Impl Tryz.prog Amb 124 [(sV (rsA yp1 yp2 nn) (rsB yp1 yp2 nn)),(.int .i64 3)] (sV u1 u2))(c12:Impl Tryz.prog Amb 120 [(sV u1 u2),(.int .i64 16)] (sV v1 v2)):Impl Tryz.prog Amb 63 [(sV (ha 0) (hb 0)),(.int .i64 v)] (sV v1 v2):=by
 exact impl_ob hP hAmb Tryz.func63 (by kernel_rfl) (.loop ⟨[1,2,4,10],2,[]⟩ ((r16_in_0_mk v ha hb (0,0))) (Nat) (r16_in_0_ex v ha hb) (r16_in_0_J v ha hb) (fun y=>.lits 3<|.call (sV q1 q2)<|.lits 3<|.call (sV (rsA yp1 yp2 0) (rsB yp1 yp2 0))<|.loop ⟨[1,4,5,6,7,8],5,[]⟩ ((r16_in_1_mk nn v q1 q2 (ha y) (hb y) tp1 tp2 yp1 yp2 (Sum.inl (0,0)))) (Nat) (r16_in_1_ex nn v q1 q2 (ha y) (hb y) tp1 tp2 yp1 yp2) (r16_in_1_J nn v q1 q2 (ha y) (hb y) tp1 tp2 yp1 yp2) (fun z=>.lits 2<|.call (sV u1 u2)<|.lit<|.call (sV v1 v2)<|.lits 2<|.ret)))
  (cast_ob (aI True.intro (aI tT (aI (rfl:(r16_in_0_mk v ha hb (0,0))=(r16_in_0_mk v ha hb (0,0))) (aI (r16_in_0 v ha hb c0 c1 (0,0) (show 0=(0:Int)∧0≤4 from ⟨by omega,by omega⟩)) (fun y (hJ:r16_in_0_J v ha hb y)=>have hJ:y=4:=hJ;have hY:=hJ;aI ((hY ▸ c2) ) (aI (c3 ) (aI tT (aI (rfl:(r16_in_1_mk nn v q1 q2 (ha y) (hb y) tp1 tp2 yp1 yp2 (Sum.inl (0,0)))=(r16_in_1_mk nn v q1 q2 (ha y) (hb y) tp1 tp2 yp1 yp2 (Sum.inl (0,0)))) (aI (r16_in_1 nn v q1 q2 (ha y) (hb y) tp1 tp2 yp1 yp2 (hY ▸ c4) (hY ▸ c5) c6 c7 c8 (hY ▸ c9) c10 (Sum.inl (0,0)) (show 2*0≤nn∧0=2*(0:Int) from ⟨by omega,by omega⟩)) (fun z (hJ:r16_in_1_J nn v q1 q2 (ha y) (hb y) tp1 tp2 yp1 yp2 z)=>have hJ:z=nn:=hJ;have hZ:=hJ;aI ((hZ ▸ c11) ) (aI (c12 ) ((vsub_refl (sV v1 v2)))))))))))))) (by kernel_rfl))
theorem r16_shrink (a b n:Int)(c0:L (a).natAbs≤1000)(c1:L (b).natAbs≤1000)(c2:(0:Int)≤n∧n≤5000):Impl Tryz.prog Amb 58 [(sV a b),(.int .i64 n)] (sV (a / 2^(n).toNat) (-(-b / 2^(n).toNat))):=by
 have l1:=L_abs_shr a n.toNat
 have l2:=L_abs_neg b
 have l3:=L_abs_shr (-b) n.toNat
 have l4:=L_abs_neg (-b / 2^n.toNat)
 exact impl_ob hP hAmb Tryz.func58 (by kernel_rfl) (.lits 2<|.call (zV (a / 2^(n).toNat))<|.lits 2<|.call (zV (-b))<|.lit<|.call (zV ((-b) / 2^(n).toNat))<|.lit<|.call (zV (-((-b) / 2^(n).toNat)))<|.lits 3<|.ret)
  (cast_ob (aI True.intro (aI (r05_Shr a n oO oO) (have f4:=L_abs_shr a (n).toNat;aI (r05_Neg b oO) (have f3:=L_abs_neg b;aI (r05_Shr (-b) n oO oO) (have f2:=L_abs_shr (-b) (n).toNat;aI (r05_Neg ((-b) / 2^(n).toNat) oO) (have f1:=L_abs_neg ((-b) / 2^(n).toNat);(vsub_refl _:vsub (sV (a / 2^(n).toNat) (-((-b) / 2^(n).toNat))) (sV (a / 2^(n).toNat) (-(-b / 2^(n).toNat)))))))))) (by kernel_rfl))
theorem r16_AtSP (m ee w a cc tp o1 b1 b2 x1 x2 z1 z2 p1 p2 n1 n2 e1 e2 y1 y2 s1 s2 g1 g2 g3 g4:Int)(c0:(0:Int)≤w∧w≤2000)(c1:-5000≤tp∧tp≤5000)(c2:0≤m)(c3:cc≤0)(c4:Impl Tryz.prog Amb 53 [(.bool false),(N m.natAbs)] (zV a))(c5:Impl Tryz.prog Amb 54 [(.int .i64 1)] (yV (1:Int) 0))(c6:Impl Tryz.prog Amb 20 [(yV a ee),(yV (1:Int) 0)] (.int .i64 cc))(c7:Impl Tryz.prog Amb 59 [(yV a ee),(.int .i64 (w+60))] (sV x1 x2))(c8:Impl Tryz.prog Amb 63 [(sV x1 x2),(.int .i64 (w+60))] (sV y1 y2))(c9:Impl Tryz.prog Amb 65 [(sV y1 y2),(.int .i64 (w+60)),(.int .i64 (w+16))] (wV g1 g2 g3 g4)):Impl Tryz.prog Amb 17 [(yV m ee),(.int .i64 w)] (wV g1 g2 g3 g4):=by
 have mx:=iMax_bd tp
 exact impl_ob hP hAmb Tryz.func17 (by kernel_rfl) (.lit<|.yes<|.lits 4<|.call (zV a)<|.lits 3<|.call (yV (1:Int) 0)<|.lit<|.call (.int .i64 cc)<|.lit<|.no<|.lits 2<|.call (sV x1 x2)<|.lit<|.call (sV y1 y2)<|.lits 2<|.no<|.lits 2<|.yes<|.lit<|.call (wV g1 g2 g3 g4)<|.lits 2<|.ret)
  (cast_ob (aI True.intro (aI (fits_i64 oS:(fits .i64 (w+60))=true) (aI (c4 ) (aI (c5 ) (aI (c6 ) (aI (iGt_mkF oO:(iGt cc 0)=false) (aI (c7 ) (aI (c8 ) (aI (decide_eq_false oO:(decide (m<0))=false) (aI (fits_i64 oS:(fits .i64 (w+16))=true) (aI (c9 ) ((vsub_refl (wV g1 g2 g3 g4)))))))))))))) (by kernel_rfl))
theorem r16_AtSN (m ee w a cc tp o1 b1 b2 x1 x2 z1 z2 p1 p2 n1 n2 e1 e2 y1 y2 s1 s2 g1 g2 g3 g4:Int)(c0:(0:Int)≤w∧w≤2000)(c1:-5000≤tp∧tp≤5000)(c2:m<0)(c3:cc≤0)(c4:Impl Tryz.prog Amb 53 [(.bool false),(N m.natAbs)] (zV a))(c5:Impl Tryz.prog Amb 54 [(.int .i64 1)] (yV (1:Int) 0))(c6:Impl Tryz.prog Amb 20 [(yV a ee),(yV (1:Int) 0)] (.int .i64 cc))(c7:Impl Tryz.prog Amb 59 [(yV a ee),(.int .i64 (w+60))] (sV x1 x2))(c8:Impl Tryz.prog Amb 63 [(sV x1 x2),(.int .i64 (w+60))] (sV y1 y2))(c9:Impl Tryz.prog Amb 64 [(sV y1 y2)] (sV s1 s2))(c10:Impl Tryz.prog Amb 65 [(sV s1 s2),(.int .i64 (w+60)),(.int .i64 (w+16))] (wV g1 g2 g3 g4)):Impl Tryz.prog Amb 17 [(yV m ee),(.int .i64 w)] (wV g1 g2 g3 g4):=by
 have mx:=iMax_bd tp
 exact impl_ob hP hAmb Tryz.func17 (by kernel_rfl) (.lit<|.yes<|.lits 4<|.call (zV a)<|.lits 3<|.call (yV (1:Int) 0)<|.lit<|.call (.int .i64 cc)<|.lit<|.no<|.lits 2<|.call (sV x1 x2)<|.lit<|.call (sV y1 y2)<|.lits 2<|.yes<|.lits 2<|.call (sV s1 s2)<|.lits 3<|.yes<|.lit<|.call (wV g1 g2 g3 g4)<|.lits 2<|.ret)
  (cast_ob (aI True.intro (aI (fits_i64 oS:(fits .i64 (w+60))=true) (aI (c4 ) (aI (c5 ) (aI (c6 ) (aI (iGt_mkF oO:(iGt cc 0)=false) (aI (c7 ) (aI (c8 ) (aI (decide_eq_true oO:(decide (m<0))=true) (aI (c9 ) (aI (fits_i64 oS:(fits .i64 (w+16))=true) (aI (c10 ) ((vsub_refl (wV g1 g2 g3 g4))))))))))))))) (by kernel_rfl))
theorem r16_AtBP (m ee w a cc tp o1 b1 b2 x1 x2 z1 z2 p1 p2 n1 n2 e1 e2 y1 y2 s1 s2 g1 g2 g3 g4:Int)(c0:(0:Int)≤w∧w≤2000)(c1:-5000≤tp∧tp≤5000)(c2:0≤m)(c3:0<cc)(c4:Impl Tryz.prog Amb 53 [(.bool false),(N m.natAbs)] (zV a))(c5:Impl Tryz.prog Amb 54 [(.int .i64 1)] (yV (1:Int) 0))(c6:Impl Tryz.prog Amb 20 [(yV a ee),(yV (1:Int) 0)] (.int .i64 cc))(c7:Impl Tryz.prog Amb 55 [(yV a ee)] (.int .i64 tp))(c8:Impl Tryz.prog Amb 57 [(.int .i64 1),(.int .i64 (w+60))] (sV o1 o1))(c9:Impl Tryz.prog Amb 59 [(yV a ee),(.int .i64 ((w+60)+(iMax (0:Int) tp)))] (sV b1 b2))(c10:Impl Tryz.prog Amb 58 [(sV b1 b2),(.int .i64 (((w+60)+(iMax (0:Int) tp))-(w+60)))] (sV x1 x2))(c11:Impl Tryz.prog Amb 56 [(sV o1 o1),(sV x1 x2),(.int .i64 (w+60))] (sV z1 z2))(c12:Impl Tryz.prog Amb 62 [(.int .i64 (w+60))] (sV p1 p2))(c13:Impl Tryz.prog Amb 61 [(sV p1 p2),(.int .i64 2)] (sV n1 n2))(c14:Impl Tryz.prog Amb 63 [(sV z1 z2),(.int .i64 (w+60))] (sV e1 e2))(c15:Impl Tryz.prog Amb 60 [(sV n1 n2),(sV e1 e2)] (sV y1 y2))(c16:Impl Tryz.prog Amb 65 [(sV y1 y2),(.int .i64 (w+60)),(.int .i64 (w+16))] (wV g1 g2 g3 g4)):Impl Tryz.prog Amb 17 [(yV m ee),(.int .i64 w)] (wV g1 g2 g3 g4):=by
 have mx:=iMax_bd tp
 exact impl_ob hP hAmb Tryz.func17 (by kernel_rfl) (.lit<|.yes<|.lits 4<|.call (zV a)<|.lits 3<|.call (yV (1:Int) 0)<|.lit<|.call (.int .i64 cc)<|.lit<|.yes<|.lits 2<|.call (.int .i64 tp)<|.lits 2<|.yes<|.lit<|.call (sV o1 o1)<|.lits 2<|.call (sV b1 b2)<|.lit<|.yes<|.lit<|.call (sV x1 x2)<|.lit<|.call (sV z1 z2)<|.lit<|.call (sV p1 p2)<|.lit<|.call (sV n1 n2)<|.lits 2<|.call (sV e1 e2)<|.lit<|.call (sV y1 y2)<|.lits 2<|.no<|.lits 2<|.yes<|.lit<|.call (wV g1 g2 g3 g4)<|.lits 2<|.ret)
  (cast_ob (aI True.intro (aI (fits_i64 oS:(fits .i64 (w+60))=true) (aI (c4 ) (aI (c5 ) (aI (c6 ) (aI (iGt_mk oO:(iGt cc 0)=true) (aI (c7 ) (aI (fits_i64 oS:(fits .i64 ((w+60)+(iMax (0:Int) tp)))=true) (aI (c8 ) (aI (c9 ) (aI (fits_i64 oS:(fits .i64 (((w+60)+(iMax (0:Int) tp))-(w+60)))=true) (aI (c10 ) (aI (c11 ) (aI (c12 ) (aI (c13 ) (aI (c14 ) (aI (c15 ) (aI (decide_eq_false oO:(decide (m<0))=false) (aI (fits_i64 oS:(fits .i64 (w+16))=true) (aI (c16 ) ((vsub_refl (wV g1 g2 g3 g4))))))))))))))))))))))) (by kernel_rfl))
theorem r16_AtBN (m ee w a cc tp o1 b1 b2 x1 x2 z1 z2 p1 p2 n1 n2 e1 e2 y1 y2 s1 s2 g1 g2 g3 g4:Int)(c0:(0:Int)≤w∧w≤2000)(c1:-5000≤tp∧tp≤5000)(c2:m<0)(c3:0<cc)(c4:Impl Tryz.prog Amb 53 [(.bool false),(N m.natAbs)] (zV a))(c5:Impl Tryz.prog Amb 54 [(.int .i64 1)] (yV (1:Int) 0))(c6:Impl Tryz.prog Amb 20 [(yV a ee),(yV (1:Int) 0)] (.int .i64 cc))(c7:Impl Tryz.prog Amb 55 [(yV a ee)] (.int .i64 tp))(c8:Impl Tryz.prog Amb 57 [(.int .i64 1),(.int .i64 (w+60))] (sV o1 o1))(c9:Impl Tryz.prog Amb 59 [(yV a ee),(.int .i64 ((w+60)+(iMax (0:Int) tp)))] (sV b1 b2))(c10:Impl Tryz.prog Amb 58 [(sV b1 b2),(.int .i64 (((w+60)+(iMax (0:Int) tp))-(w+60)))] (sV x1 x2))(c11:Impl Tryz.prog Amb 56 [(sV o1 o1),(sV x1 x2),(.int .i64 (w+60))] (sV z1 z2))(c12:Impl Tryz.prog Amb 62 [(.int .i64 (w+60))] (sV p1 p2))(c13:Impl Tryz.prog Amb 61 [(sV p1 p2),(.int .i64 2)] (sV n1 n2))(c14:Impl Tryz.prog Amb 63 [(sV z1 z2),(.int .i64 (w+60))] (sV e1 e2))(c15:Impl Tryz.prog Amb 60 [(sV n1 n2),(sV e1 e2)] (sV y1 y2))(c16:Impl Tryz.prog Amb 64 [(sV y1 y2)] (sV s1 s2))(c17:Impl Tryz.prog Amb 65 [(sV s1 s2),(.int .i64 (w+60)),(.int .i64 (w+16))] (wV g1 g2 g3 g4)):Impl Tryz.prog Amb 17 [(yV m ee),(.int .i64 w)] (wV g1 g2 g3 g4):=by
 have mx:=iMax_bd tp
 exact impl_ob hP hAmb Tryz.func17 (by kernel_rfl) (.lit<|.yes<|.lits 4<|.call (zV a)<|.lits 3<|.call (yV (1:Int) 0)<|.lit<|.call (.int .i64 cc)<|.lit<|.yes<|.lits 2<|.call (.int .i64 tp)<|.lits 2<|.yes<|.lit<|.call (sV o1 o1)<|.lits 2<|.call (sV b1 b2)<|.lit<|.yes<|.lit<|.call (sV x1 x2)<|.lit<|.call (sV z1 z2)<|.lit<|.call (sV p1 p2)<|.lit<|.call (sV n1 n2)<|.lits 2<|.call (sV e1 e2)<|.lit<|.call (sV y1 y2)<|.lits 2<|.yes<|.lits 2<|.call (sV s1 s2)<|.lits 3<|.yes<|.lit<|.call (wV g1 g2 g3 g4)<|.lits 2<|.ret)
  (cast_ob (aI True.intro (aI (fits_i64 oS:(fits .i64 (w+60))=true) (aI (c4 ) (aI (c5 ) (aI (c6 ) (aI (iGt_mk oO:(iGt cc 0)=true) (aI (c7 ) (aI (fits_i64 oS:(fits .i64 ((w+60)+(iMax (0:Int) tp)))=true) (aI (c8 ) (aI (c9 ) (aI (fits_i64 oS:(fits .i64 (((w+60)+(iMax (0:Int) tp))-(w+60)))=true) (aI (c10 ) (aI (c11 ) (aI (c12 ) (aI (c13 ) (aI (c14 ) (aI (c15 ) (aI (decide_eq_true oO:(decide (m<0))=true) (aI (c16 ) (aI (fits_i64 oS:(fits .i64 (w+16))=true) (aI (c17 ) ((vsub_refl (wV g1 g2 g3 g4)))))))))))))))))))))))) (by kernel_rfl))
end Go.Proofs.YtkkbddkpggjgpaaGreatDoor









namespace Go.Proofs.YtkkbddkpggjgpaaGreatDoor
open Go.RowKit
set_option maxRecDepth 100000
def eA (w:Int):Int:=(mkM ((eLo (w+24)) / 2^24) (-w))
def eB (w:Int):Int:=(mkX ((eLo (w+24)) / 2^24) (-w))
end Go.Proofs.YtkkbddkpggjgpaaGreatDoor

namespace Go.Proofs.YtkkbddkpggjgpaaGreatDoor
open Go.RowKit
set_option maxRecDepth 100000
set_option maxHeartbeats 2000000
def rpLo (v:Int):Int:=((((atanT 5 v).1-2)*16)+(-(((atanT 239 v).2+2)*4)))
def rpHi (v:Int):Int:=((((atanT 5 v).2+2)*16)+(-(((atanT 239 v).1-2)*4)))
theorem rpi_all:(List.range 400).all (fun t=>decide (t<24) || (decide (0≤rpLo (t:Int)) && decide (rpLo (t:Int)*2^(430-t)≤ptPi) && decide (ptPi≤rpHi (t:Int)*2^(430-t)) && decide (rpHi (t:Int)≤8*2^t) && decide (rpHi (t:Int)-rpLo (t:Int)≤16384)))=true:=by kernel_rfl
theorem rpi_at {t:Nat}(ht:t<400)(h24:24≤t):(((rpLo (t:Int):Int):Rat)≤cQ*2*((2^t:Int):Rat)∧cQ*2*((2^t:Int):Rat)≤((rpHi (t:Int):Int):Rat))∧0≤rpLo (t:Int)∧rpHi (t:Int)≤8*2^t∧rpHi (t:Int)-rpLo (t:Int)≤16384:=by
 have h:=List.all_eq_true.1 rpi_all t (List.mem_range.2 ht)
 simp only [Bool.or_eq_true,Bool.and_eq_true,decide_eq_true_eq] at h
 have h:=h.resolve_left oO
 rw[← cQ2]
 exact⟨⟨(cl_sc oO).1 h.1.1.1.2,(cl_sc oO).2 h.1.1.2⟩,h.1.1.1.1,h.1.2,h.2⟩
theorem rq_half {v:Int}(hv:24≤v∧v<400):∃ p1 p2 n1 n2:Int,Impl Tryz.prog Amb 62 [(.int .i64 v)] (sV p1 p2)∧Impl Tryz.prog Amb 61 [(sV p1 p2),(.int .i64 2)] (sV n1 n2)∧((n1:Rat)≤cQ*((2^v.toNat:Int):Rat)∧cQ*((2^v.toNat:Int):Rat)≤(n2:Rat))∧(0≤n1∧n2≤8*2^v.toNat∧n2-n1≤8194)∧L n1.natAbs≤70∧L n2.natAbs≤70:=by
 have hP:=r13_PiSpan v oO
 have rl:=rpi_at (t:=v.toNat) oO oO
 rw[Int.toNat_of_nonneg (show 0≤v by omega)] at rl
 have hP:Impl Tryz.prog Amb 62 [(.int .i64 v)] (sV (rpLo v) (rpHi v)):=hP
 generalize rpLo v=p1 at *
 generalize rpHi v=p2 at *
 obtain⟨rc,r0,r8,rw_⟩:=rl
 have p12:p1≤p2:=Rat.intCast_le_intCast.1 (Rat.le_trans rc.1 rc.2)
 have pv2:((2^v.toNat:Nat):Int)=(2:Int)^v.toNat:=(pow_cast _).symm
 have l1:L p1.natAbs≤70:=abs_big (t:=v.toNat) (c:=8) oO oO oO
 have l2:L p2.natAbs≤70:=abs_big (t:=v.toNat) (c:=8) oO oO oO
 have hO:=r13_Over p1 p2 2 oO oO oO
 have oi:=ov_in (a:=p1) (b:=p2) (n:=2) oO rc.1 rc.2
 have e2:cQ*2*((2^v.toNat:Int):Rat) / ((2:Int):Rat)=cQ*((2^v.toNat:Int):Rat):=by
  rw[show ((2:Int):Rat)=2 from rfl,show cQ*2*((2^v.toNat:Int):Rat)=cQ*((2^v.toNat:Int):Rat)*2 by grind,Rat.mul_div_cancel (by decide)]
 rw[e2] at oi
 have oo:ovLo p1 p2 2=p1 / 2∧ovHi p1 p2 2=-(-p2 / 2):=by
  unfold ovLo ovHi
  rw[show min p1 p2=p1 by omega,show max p1 p2=p2 by omega,Int.fdiv_eq_ediv_of_nonneg _ oO,Int.fdiv_eq_ediv_of_nonneg _ oO]
  exact⟨rfl,rfl⟩
 have q1:0≤ovLo p1 p2 2:=by rw[oo.1];omega
 have q2:ovHi p1 p2 2≤8*2^v.toNat:=by rw[oo.2];omega
 have q3:ovHi p1 p2 2-ovLo p1 p2 2≤8194:=by rw[oo.1,oo.2];omega
 have q4:ovLo p1 p2 2≤ovHi p1 p2 2:=by rw[oo.1,oo.2];omega
 exact⟨p1,p2,ovLo p1 p2 2,ovHi p1 p2 2,hP,hO,oi,⟨q1,q2,q3⟩,abs_big (t:=v.toNat) (c:=8) oO oO oO,abs_big (t:=v.toNat) (c:=8) oO oO oO⟩
end Go.Proofs.YtkkbddkpggjgpaaGreatDoor

namespace Go.Proofs.YtkkbddkpggjgpaaGreatDoor
open Go.RowKit
set_option maxRecDepth 100000
set_option maxHeartbeats 2000000
def hvR (v a b:Int):Int × Int:=rdv a b (1*(2^v.toNat)+sqLo (1*(2^v.toNat)+rm1 a b a b (2^v.toNat)) v) (1*(2^v.toNat)+(sqLo (1*(2^v.toNat)+rm2 a b a b (2^v.toNat)) v+1)) (2^v.toNat)
theorem abs_L {x:Int}{n k:Nat}(h:x.natAbs≤2^n)(hk:n+1≤32*k):L x.natAbs≤k:=by
 have:=Nat.pow_lt_pow_right (a:=2) oO (show n<n+1 by omega)
 exact L_pow2 (n:=n+1) oO hk
theorem r16_halfE (a b v:Int)(hv:12≤v∧v≤400)(a0:0≤a)(ab:a≤b)(hb:8*b≤9*(2^v.toNat)) :
  Impl Tryz.prog Amb 121 [(sV a b),(.int .i64 v)] (.agg [(.bool (decide ((hvR v a b).1<0))),(N (((hvR v a b).1).natAbs)),(.bool (decide ((hvR v a b).2<0))),(N (((hvR v a b).2).natAbs))])∧Hstep (2^v.toNat) a b (hvR v a b).1 (hvR v a b).2:=by
 have P:=two_pos v.toNat
 have P12:=two_up (show 12≤v.toNat by omega)
 rw[show (2:Int)^12=4096 from rfl] at P12
 have sp:=sq_prod a0 ab (2^v.toNat)
 have m0:=Int.ediv_nonneg (Int.mul_nonneg a0 a0) (show 0≤(2:Int)^v.toNat by omega)
 have lq:=sq_T2 a0 ab hb (show v.toNat≤6000 by omega)
 have la:L a.natAbs≤200:=L_T a0 oO (show v.toNat≤6000 by omega)
 have lb:L b.natAbs≤200:=L_T oO oO (show v.toNat≤6000 by omega)
 have nm:0≤-(-(b*b) / (2^v.toNat)):=by
  have:=Int.mul_nonneg (show 0≤b by omega) (show 0≤b by omega)
  have:-(b*b) / (2^v.toNat)≤0:=Int.ediv_le_of_le_mul P oO
  omega
 have lO:=L_pow1 v.toNat
 have g1:=sqLo_spec (a:=1*(2^v.toNat)+rm1 a b a b (2^v.toNat)) (s:=v) (by rw[sp.1];omega)
 have g2:=sqLo_spec (a:=1*(2^v.toNat)+rm2 a b a b (2^v.toNat)) (s:=v) (by rw[sp.2];omega)
 have l1:=L_abs_add (1*(2^v.toNat)) (rm1 a b a b (2^v.toNat))
 have l2:=L_abs_add (1*(2^v.toNat)) (rm2 a b a b (2^v.toNat))
 rw[sp.1] at l1
 rw[sp.2] at l2
 have l3:=(sqr_L (a:=1*(2^v.toNat)+rm1 a b a b (2^v.toNat)) (s:=v)).1
 have l4:=(sqr_L (a:=1*(2^v.toNat)+rm2 a b a b (2^v.toNat)) (s:=v)).1
 rw[sp.1] at l3
 rw[sp.2] at l4
 have e1:(1:Int)*(2^v.toNat)=(2^v.toNat):=Int.one_mul _
 have st:=hv_stepG (T:=(2^v.toNat)) (a:=a) (b:=b) (m1:=rm1 a b a b (2^v.toNat)) (m2:=rm2 a b a b (2^v.toNat)) (r1:=sqLo (1*(2^v.toNat)+rm1 a b a b (2^v.toNat)) v) (r2:=sqLo (1*(2^v.toNat)+rm2 a b a b (2^v.toNat)) v+1) P a0 ab oO sp.1 sp.2 g1.1 (by have:=g1.2.1;rw[e1] at this ⊢;exact this) (by have:=g1.2.2;rw[e1] at this ⊢;exact this) oO
  (by have:=Int.le_of_lt g2.2.2;rw[e1] at this ⊢;exact this) (by have:=g2.2.1;rw[e1] at this ⊢;rw[show ∀ z:Int,z+1-1=z from fun z=>by omega];omega)
 have pk:=dv_pick (a:=a) (b:=b) (c:=1*(2^v.toNat)+sqLo (1*(2^v.toNat)+rm1 a b a b (2^v.toNat)) v) (d:=1*(2^v.toNat)+(sqLo (1*(2^v.toNat)+rm2 a b a b (2^v.toNat)) v+1)) P a0 ab oO (by have:=st.2.2.2;omega)
 have hO:=r13_Of 1 v oO oO
 have hM:=r13_Mul a b a b v oO oO oO oO oO
 have hA:=r13_Add (1*(2^v.toNat)) (1*(2^v.toNat)) (rm1 a b a b (2^v.toNat)) (rm2 a b a b (2^v.toNat)) oO oO (by rw[sp.1];omega) (by rw[sp.2];omega)
 have hS:=r13_Sqrt (1*(2^v.toNat)+rm1 a b a b (2^v.toNat)) (1*(2^v.toNat)+rm2 a b a b (2^v.toNat)) v (by rw[sp.1];omega) (by rw[sp.2];omega) oO
 have l5:=L_abs_add (sqLo (1*(2^v.toNat)+rm2 a b a b (2^v.toNat)) v) 1
 have l6:=L_lit 1 (by decide)
 have l6:L (1:Int).natAbs≤1:=l6
 rw[sp.2] at l5
 have hB:=r13_Add (1*(2^v.toNat)) (1*(2^v.toNat)) (sqLo (1*(2^v.toNat)+rm1 a b a b (2^v.toNat)) v) (sqLo (1*(2^v.toNat)+rm2 a b a b (2^v.toNat)) v+1) oO oO (by rw[sp.1];omega) (by rw[sp.2];omega)
 have l7:=L_abs_add (1*(2^v.toNat)) (sqLo (1*(2^v.toNat)+rm1 a b a b (2^v.toNat)) v)
 have l8:=L_abs_add (1*(2^v.toNat)) (sqLo (1*(2^v.toNat)+rm2 a b a b (2^v.toNat)) v+1)
 rw[sp.1] at l7
 rw[sp.2] at l8
 have hD:=r13_Div a b (1*(2^v.toNat)+sqLo (1*(2^v.toNat)+rm1 a b a b (2^v.toNat)) v) (1*(2^v.toNat)+(sqLo (1*(2^v.toNat)+rm2 a b a b (2^v.toNat)) v+1)) v oO oO (by rw[sp.1];omega) (by rw[sp.2];omega) oO oO oO
 refine⟨r16_half0 a b v _ _ _ _ _ _ _ _ _ _ _ hO hM hA hS hB hD,?_⟩
 have q1:(hvR v a b).1=(hvQ (2^v.toNat) a b (sqLo (1*(2^v.toNat)+rm1 a b a b (2^v.toNat)) v) (sqLo (1*(2^v.toNat)+rm2 a b a b (2^v.toNat)) v+1)).1:=by
  show (rdv _ _ _ _ _).1=_
  rw[pk.1,e1];rfl
 have q2:(hvR v a b).2=(hvQ (2^v.toNat) a b (sqLo (1*(2^v.toNat)+rm1 a b a b (2^v.toNat)) v) (sqLo (1*(2^v.toNat)+rm2 a b a b (2^v.toNat)) v+1)).2:=by
  show (rdv _ _ _ _ _).2=_
  rw[pk.2,e1];rfl
 rw[q1,q2]
 exact⟨st.1.1,st.1.2.1,st.1.2.2.1,st.2.1.1,st.2.1.2⟩
def hvT (v x1 x2:Int):Nat→Int × Int
 | 0=>(x1,x2)
 | i+1=>hvR v (hvT v x1 x2 i).1 (hvT v x1 x2 i).2
theorem hvT_ex (v x1 x2:Int):∃ ha hb:Nat→Int,(ha 0=x1∧hb 0=x2)∧∀ i,ha (i+1)=(hvR v (ha i) (hb i)).1∧hb (i+1)=(hvR v (ha i) (hb i)).2:=⟨fun i=>(hvT v x1 x2 i).1,fun i=>(hvT v x1 x2 i).2,⟨rfl,rfl⟩,fun _=>⟨rfl,rfl⟩⟩
theorem sq0_2 (v:Nat)(a b:Int):∀ j,sq0 a (fun j=>(sP v a b j).1) j=(sP v a b j).1∧sq0 b (fun j=>(sP v a b j).2) j=(sP v a b j).2
 | 0=>⟨rfl,rfl⟩
 | _+1=>⟨rfl,rfl⟩
theorem r16_innerE (x1 x2 v:Int)(hv:48≤v∧v≤400)(h0:0≤x1)(h1:x1≤x2)(h2:8*x2≤9*(2^v.toNat)) :
  ∃ y1 y2:Int,Impl Tryz.prog Amb 63 [(sV x1 x2),(.int .i64 v)] (sV y1 y2)∧LoE (AT0 ((x1:Rat)*((((2^v.toNat):Int):Rat))⁻¹)) v.toNat y1∧HiE (AT0 ((x2:Rat)*((((2^v.toNat):Int):Rat))⁻¹)) v.toNat y2∧L y1.natAbs≤40∧L y2.natAbs≤40:=by
 have P:=two_pos v.toNat
 have PB:=two_up (show 12≤v.toNat by omega)
 rw[show (2:Int)^12=4096 from rfl] at PB
 obtain⟨ha,hb,⟨a0,b0⟩,nx⟩:=hvT_ex v x1 x2
 have st:∀ i,0≤ha i→ha i≤hb i→8*hb i≤9*(2^v.toNat)→Hstep (2^v.toNat) (ha i) (hb i) (ha (i+1)) (hb (i+1)):=fun i q1 q2 q3=>by
  rw[(nx i).1,(nx i).2]
  exact (r16_halfE (ha i) (hb i) v oO q1 q2 q3).2
 have z0:0≤ha 0:=by omega
 have z1:ha 0≤hb 0:=by omega
 have z2:8*hb 0≤9*(2^v.toNat):=by omega
 have fb:=hs_facts z0 z1 z2 oO st
 have sm:=hs_small z0 z1 z2 oO st 4
 rw[show (2:Int)^4=16 from rfl] at sm
 have f4:=fb 4
 have rr:RrH v.toNat (ha 4) (hb 4):=by
  have e:((2^(v.toNat-1):Nat):Int)*2=(2^v.toNat):=by
   obtain⟨n,hn⟩:∃ n,v.toNat=n+1:=⟨v.toNat-1,by omega⟩
   rw[hn,Nat.add_sub_cancel,← pow_cast,Int.pow_succ]
  exact⟨by omega,by omega,by omega⟩
 obtain⟨N,n1,n2,n3⟩:=sP_small rr
 have LIM:=rin_lim (v:=v.toNat) z0 z1 z2 oO st n2
 have lh:∀ i,L (ha i).natAbs≤200∧L (hb i).natAbs≤200:=fun i=>by
  have f:=fb i
  exact⟨L_T f.1 oO (show v.toNat≤6000 by omega),L_T oO oO (show v.toNat≤6000 by omega)⟩
 have z4:=sq0_2 v.toNat (ha 4) (hb 4)
 have qa:=rq_abs rr
 have lq:L (rm1 (ha 4) (hb 4) (ha 4) (hb 4) (2^v.toNat)).natAbs≤40∧L (rm2 (ha 4) (hb 4) (ha 4) (hb 4) (2^v.toNat)).natAbs≤40:=⟨abs_L qa.1 oO,abs_L qa.2 oO⟩
 have lp:∀ j,j≤N→L (sP v.toNat (ha 4) (hb 4) j).1.natAbs≤40∧L (sP v.toNat (ha 4) (hb 4) j).2.natAbs≤40:=fun j hj=>by
  have p:=rP_abs rr j oO
  exact⟨abs_L p.1 oO,abs_L p.2 oO⟩
 have ly:∀ j,j≤N→L (yo1 v.toNat (ha 4) (hb 4) j).natAbs≤40∧L (yo2 v.toNat (ha 4) (hb 4) j).natAbs≤40:=fun j hj=>by
  have p:=yo_abs rr (j:=j) oO
  exact⟨abs_L p.1 oO,abs_L p.2 oO⟩
 have ls:∀ j,j≤N→L (rsA (yo1 v.toNat (ha 4) (hb 4)) (yo2 v.toNat (ha 4) (hb 4)) j).natAbs≤36∧L (rsB (yo1 v.toNat (ha 4) (hb 4)) (yo2 v.toNat (ha 4) (hb 4)) j).natAbs≤36:=fun j hj=>by
  have p:=rs_abs rr j oO
  have e:2^(v.toNat+10)=1024*2^v.toNat:=by rw[Nat.pow_add,Nat.mul_comm]
  have m:=Nat.mul_le_mul_right (2^v.toNat) (show j≤1024 by omega)
  exact⟨abs_L (n:=v.toNat+10) oO oO,abs_L (n:=v.toNat+10) oO oO⟩
 have lN:=ls N (Nat.le_refl _)
 have l3:=L_lit 3 (by decide)
 have l3:L (3:Int).natAbs≤1:=l3
 have w1:=L_abs_sub (rsA (yo1 v.toNat (ha 4) (hb 4)) (yo2 v.toNat (ha 4) (hb 4)) N) 3
 have w2:=L_abs_add (rsB (yo1 v.toNat (ha 4) (hb 4)) (yo2 v.toNat (ha 4) (hb 4)) N) 3
 have l16:=L_lit 16 (by decide)
 have l16:L (16:Int).natAbs≤1:=l16
 have t1:=L_abs_mul (rsA (yo1 v.toNat (ha 4) (hb 4)) (yo2 v.toNat (ha 4) (hb 4)) N-3) 16
 have t2:=L_abs_mul (rsB (yo1 v.toNat (ha 4) (hb 4)) (yo2 v.toNat (ha 4) (hb 4)) N+3) 16
 have hW:=r13_Wide (rsA (yo1 v.toNat (ha 4) (hb 4)) (yo2 v.toNat (ha 4) (hb 4)) N) (rsB (yo1 v.toNat (ha 4) (hb 4)) (yo2 v.toNat (ha 4) (hb 4)) N) 3 oO oO oO
 have hTi:=r13_Times (rsA (yo1 v.toNat (ha 4) (hb 4)) (yo2 v.toNat (ha 4) (hb 4)) N-3) (rsB (yo1 v.toNat (ha 4) (hb 4)) (yo2 v.toNat (ha 4) (hb 4)) N+3) 16 oO oO oO
 rw[← a0,← b0]
 refine⟨_,_,r16_inner0 x1 x2 v (rm1 (ha 4) (hb 4) (ha 4) (hb 4) (2^v.toNat)) (rm2 (ha 4) (hb 4) (ha 4) (hb 4) (2^v.toNat)) _ _ _ _ N ha hb (fun j=>(sP v.toNat (ha 4) (hb 4) j).1) (fun j=>(sP v.toNat (ha 4) (hb 4) j).2) (yo1 v.toNat (ha 4) (hb 4)) (yo2 v.toNat (ha 4) (hb 4)) ?_ (fun i _=>(fb i).1) ?_ ?_ ?_ ?_ ?_ ?_ ?_ ?_ oO hW hTi,LIM.1,LIM.2,by omega,by omega⟩
 ·intro i _
  have f:=fb i
  exact impl_eq (sp_eqA (nx i).1.symm (nx i).2.symm) (r16_halfE (ha i) (hb i) v oO f.1 f.2.1 f.2.2).1
 ·have l:=lh 4
  exact r13_Mul (ha 4) (hb 4) (ha 4) (hb 4) v oO oO oO oO oO
 ·exact impl_eq (sp_eqA (Int.zero_mul _) (Int.zero_mul _)) (r13_Of 0 v oO oO)
 ·intro j hj
  have l:=lp j hj
  refine impl_eq (congrArg V.bool (decide_eq_decide.2 ?_)) (impl_arg (fun w S l h=>by rw[(z4 j).1,(z4 j).2] at h;exact h) (r13_Tiny (sP v.toNat (ha 4) (hb 4) j).1 (sP v.toNat (ha 4) (hb 4) j).2 oO oO))
  constructor
  ·intro hq
   refine Decidable.byContradiction fun hn=>n3 j oO hq
  ·intro hq
   rw[show j=N by omega]
   exact n2
 ·intro j k hj hk
  have l:=lp j oO
  subst hk
  exact impl_arg (fun w S l h=>by rw[(z4 j).1,(z4 j).2] at h;exact h) (r13_Over (sP v.toNat (ha 4) (hb 4) j).1 (sP v.toNat (ha 4) (hb 4) j).2 (2*(j:Int)+1) oO oO oO)
 ·intro j hj _
  have l:=ly j oO
  exact r13_Neg (yo1 v.toNat (ha 4) (hb 4) j) (yo2 v.toNat (ha 4) (hb 4) j) oO oO
 ·intro j hj he
  have l:=ly j oO
  have l2:=ls j oO
  exact impl_eq (sp_eqA (if_neg oO).symm (if_neg oO).symm) (r13_Add (rsA (yo1 v.toNat (ha 4) (hb 4)) (yo2 v.toNat (ha 4) (hb 4)) j) (rsB (yo1 v.toNat (ha 4) (hb 4)) (yo2 v.toNat (ha 4) (hb 4)) j) (yo1 v.toNat (ha 4) (hb 4) j) (yo2 v.toNat (ha 4) (hb 4) j) oO oO oO oO)
 ·intro j hj he
  have l:=ly j oO
  have l2:=ls j oO
  have n4:=L_abs_neg (yo1 v.toNat (ha 4) (hb 4) j)
  have n5:=L_abs_neg (yo2 v.toNat (ha 4) (hb 4) j)
  exact impl_eq (sp_eqA (if_pos he).symm (if_pos he).symm) (r13_Add (rsA (yo1 v.toNat (ha 4) (hb 4)) (yo2 v.toNat (ha 4) (hb 4)) j) (rsB (yo1 v.toNat (ha 4) (hb 4)) (yo2 v.toNat (ha 4) (hb 4)) j) (-(yo2 v.toNat (ha 4) (hb 4) j)) (-(yo1 v.toNat (ha 4) (hb 4) j)) oO oO oO oO)
 ·intro j hj
  have l:=lp j oO
  exact impl_arg (fun w S l h=>by rw[(z4 j).1,(z4 j).2] at h;exact h) (r13_Mul (sP v.toNat (ha 4) (hb 4) j).1 (sP v.toNat (ha 4) (hb 4) j).2 (rm1 (ha 4) (hb 4) (ha 4) (hb 4) (2^v.toNat)) (rm2 (ha 4) (hb 4) (ha 4) (hb 4) (2^v.toNat)) v oO oO oO oO oO)
end Go.Proofs.YtkkbddkpggjgpaaGreatDoor

namespace Go.Proofs.YtkkbddkpggjgpaaGreatDoor
open Go.RowKit
set_option maxRecDepth 100000
set_option maxHeartbeats 2000000
theorem inv_span2 {T x1 x2 z1 z2:Int}(hT:0<T)(h1:T≤x1)(h2:x1≤x2)(e1:z1*x2≤T*T)(e2:T*T<z1*x2+x2)(e3:T*T≤z2*x1)(e4:z2*x1<T*T+x1):0≤z1∧z1≤z2∧z2≤T:=by
 have TT:=Int.mul_pos hT hT
 have a0:0≤z1:=by
  refine Decidable.byContradiction fun hn=>?_
  have:=Int.mul_le_mul_of_nonneg_right (show z1≤-1 by omega) (show 0≤x2 by omega)
  omega
 have a1:z2≤T:=by
  refine Decidable.byContradiction fun hn=>?_
  have m1:=Int.mul_le_mul_of_nonneg_right (show T+1≤z2 by omega) (show 0≤x1 by omega)
  have m2:=Int.mul_le_mul_of_nonneg_left h1 (show 0≤T by omega)
  rw[Int.add_mul] at m1
  omega
 have a2:z1≤z2:=by
  refine Decidable.byContradiction fun hn=>?_
  have m1:=Int.mul_le_mul_of_nonneg_right (show z2+1≤z1 by omega) (show 0≤x1 by omega)
  have m2:=Int.mul_le_mul_of_nonneg_left h2 a0
  rw[Int.add_mul] at m1
  omega
 exact⟨a0,a2,a1⟩
theorem spl_110:mkM 1 0=1∧mkX 1 0=0:=⟨by kernel_rfl,by kernel_rfl⟩
theorem r16_AtE (m ee w:Int)(hw:0≤w∧w≤200)(hm:L (m).natAbs≤20)(he:-3000≤ee∧ee≤2100)(hv:vdb m ee=true) :
  ∃ g1 g2:Int,Impl Tryz.prog Amb 17 [(yV m ee),(.int .i64 w)] (wV (mkM g1 (-(w+16))) (mkX g1 (-(w+16))) (mkM g2 (-(w+16))) (mkX g2 (-(w+16))))∧EnE (AT (dv m ee)) (w.toNat+16) g1 g2 gE∧L g1.natAbs≤80∧L g2.natAbs≤80:=by
 obtain⟨t,ht⟩:∃ t:Nat,(t:Int)=w+60:=⟨(w+60).toNat,by omega⟩
 have tn:(w+60).toNat=t:=by omega
 have P:=two_pos t
 have PB:=two_up (show 60≤t by omega)
 rw[show (2:Int)^60=1152921504606846976 from rfl] at PB
 have hNa:=r05_Nat false m.natAbs oO
 rw[show sgn false m.natAbs=(m.natAbs:Int) from sgn_f _] at hNa
 have la:L ((m.natAbs:Int)).natAbs≤20:=by rw[Int.natAbs_natCast];exact hm
 have hva:=vdb_nabs hv
 have X0:0≤dv (m.natAbs:Int) ee:=dv_ge0.2 (Int.natCast_nonneg _)
 have o1:=r08_Of 1 oO
 rw[spl_110.1,spl_110.2] at o1
 have l1':=L_lit 1 (by decide)
 have hCm:=r08_Cmp (m.natAbs:Int) ee 1 0 oO (by show L 1≤8192;omega) oO oO
 have T0:(0:Rat)<((2^t:Int):Rat):=Rat.intCast_pos.2 P
 have i0:=Rat.inv_pos.2 T0
 have ie:=inv_one T0
 have d10:dv 1 0=1:=of_decide_eq_true (by kernel_rfl)
 have tq0:=tq_pos
 have tz:=tq_gE (n:=w.toNat+16) oO
 have Z0:(0:Rat)<((2^(w.toNat+16):Int):Rat):=Rat.intCast_pos.2 (two_pos _)
 have tZ:=Rat.mul_pos tq0 Z0
 -- signs and scale
 have fin:∀ {y1 y2:Int},EnE (ATp (dv (m.natAbs:Int) ee)) t y1 y2 (3*tq*((2^t:Int):Rat))→L y1.natAbs≤75→L y2.natAbs≤75→(∀ s1 s2:Int,s1=-y2→s2=-y1→m<0→Impl Tryz.prog Amb 64 [(sV y1 y2)] (sV s1 s2)) ∧
   ∀ s1 s2:Int,((m<0∧s1=-y2∧s2=-y1)∨(¬ m<0∧s1=y1∧s2=y2))→∃ g1 g2:Int,Impl Tryz.prog Amb 65 [(sV s1 s2),(.int .i64 (w+60)),(.int .i64 (w+16))] (wV (mkM g1 (-(w+16))) (mkX g1 (-(w+16))) (mkM g2 (-(w+16))) (mkX g2 (-(w+16))))∧EnE (AT (dv m ee)) (w.toNat+16) g1 g2 gE∧L g1.natAbs≤80∧L g2.natAbs≤80:=by
  intro y1 y2 E ly1 ly2
  have n1:=L_abs_neg y1
  have n2:=L_abs_neg y2
  refine⟨fun s1 s2 q1 q2 _=>?_,fun s1 s2 q=>?_⟩
  ·subst q1;subst q2
   exact r13_Neg y1 y2 oO oO
  ·have e:EnE (AT (dv m ee)) t s1 s2 (3*tq*((2^t:Int):Rat)):=by
    rcases q with ⟨h,q1,q2⟩ | ⟨h,q1,q2⟩
    ·subst q1;subst q2
     exact E.ng.congr fun K=>by rw[AT_m (dv_neg_lt h),← dv_neg,show -m=(m.natAbs:Int) by omega]
    ·subst q1;subst q2
     exact E.congr fun K=>by rw[AT_p (fun q=>h (dv_lt_neg q)),show (m.natAbs:Int)=m by omega]
   have ls:L s1.natAbs≤75∧L s2.natAbs≤75:=by
    rcases q with ⟨h,q1,q2⟩ | ⟨h,q1,q2⟩
    ·subst q1;subst q2;omega
    ·subst q1;subst q2;omega
   have hO:=r13_Out s1 s2 (w+60) (w+16) oO oO oO
   rw[show (w+60-(w+16)).toNat=44 by omega] at hO
   have e:=(e.half (s:=w.toNat+16) (n:=44) oO).mono (g':=gE) (by grind)
   have k1:=L_abs_shr s1 44
   have k2:=L_abs_neg s2
   have k3:=L_abs_shr (-s2) 44
   have k4:=L_abs_neg (-s2 / 2^44)
   exact⟨_,_,hO,e,by omega,by omega⟩
 have lim:∀ {g1 g2:Int},EnE (AT (dv m ee)) (w.toNat+16) g1 g2 gE→L g1.natAbs≤80→L g2.natAbs≤80→True:=fun _ _ _=>trivial
 by_cases c:0<cmpD (m.natAbs:Int) ee 1 0
 ·-- beyond 1
  have X1:1<dv (m.natAbs:Int) ee:=by have:=cmpD_pos.1 c;rw[d10] at this;exact this
  have tp:=topD_range (m.natAbs:Int) ee
  have hTp:=r08_Top (m.natAbs:Int) ee oO oO
  have mx:=iMax_bd (topD (m.natAbs:Int) ee)
  have hAt:=r13_At (m.natAbs:Int) ee (w+60+iMax 0 (topD (m.natAbs:Int) ee)) oO oO hva oO
  have lf:=flr_LD (m.natAbs:Int) ee (w+60+iMax 0 (topD (m.natAbs:Int) ee))
  obtain⟨n,hn⟩:∃ n:Nat,(n:Int)=iMax 0 (topD (m.natAbs:Int) ee):=⟨(iMax 0 (topD (m.natAbs:Int) ee)).toNat,by omega⟩
  generalize hX:dv (m.natAbs:Int) ee=X at *
  have sc1:=(flr_sc X (t+n)).1
  have sc2:=(cei_sc X (t+n)).1
  rw[show ((t+n:Nat):Int)=w+60+iMax 0 (topD (m.natAbs:Int) ee) by omega] at sc1 sc2
  have hO:=r13_Of 1 (w+60) oO oO
  rw[tn] at hO
  have big:2^t*2^n≤flr X (w+60+iMax 0 (topD (m.natAbs:Int) ee)):=le_flr.2 (by
   have k:=dv_shl 1 (-(w+60+iMax 0 (topD (m.natAbs:Int) ee))) (t+n)
   rw[show -(w+60+iMax 0 (topD (m.natAbs:Int) ee))+((t+n:Nat):Int)=0 by omega,d10,Int.one_mul,Int.pow_add] at k
   rw[k];exact Rat.le_of_lt X1)
  have big:=Int.le_ediv_of_mul_le (two_pos n) big
  generalize flr X (w+60+iMax 0 (topD (m.natAbs:Int) ee))=b1 at *
  generalize cei X (w+60+iMax 0 (topD (m.natAbs:Int) ee))=b2 at *
  have lb:L b1.natAbs≤900∧L b2.natAbs≤900:=by omega
  have hSh:=r16_shrink b1 b2 (w+60+iMax 0 (topD (m.natAbs:Int) ee)-(w+60)) oO oO oO
  rw[show (w+60+iMax 0 (topD (m.natAbs:Int) ee)-(w+60)).toNat=n by omega] at hSh
  have he:=half_enc (a:=b1) (b:=b2) (X:=X) (t:=t+n) (s:=t) (n:=n) rfl sc1 sc2
  have s1:=L_abs_shr b1 n
  have s2:=L_abs_neg b2
  have s3:=L_abs_shr (-b2) n
  have s4:=L_abs_neg (-b2 / 2^n)
  generalize b1 / 2^n=x1 at *
  generalize -(-b2 / 2^n)=x2 at *
  have x12:x1≤x2:=Rat.intCast_le_intCast.1 (Rat.le_trans he.1 he.2)
  -- the quotient
  have lO:=L_pow1 t
  have hD:=r13_Div (1*2^t) (1*2^t) x1 x2 (w+60) oO oO oO oO oO oO oO
  have pk:=dv_pick (a:=1*2^t) (b:=1*2^t) (c:=x1) (d:=x2) (T:=2^t) P oO (Int.le_refl _) oO x12
  rw[tn] at hD
  generalize (rdv (1*2^t) (1*2^t) x1 x2 (2^t)).1=z1 at *
  generalize (rdv (1*2^t) (1*2^t) x1 x2 (2^t)).2=z2 at *
  have q1:=Int.ediv_mul_le (1*2^t*2^t) (show x2≠0 by omega)
  have q2:=Int.lt_ediv_add_one_mul_self (1*2^t*2^t) (show 0<x2 by omega)
  have q3:=Int.ediv_mul_le (-(1*2^t*2^t)) (show x1≠0 by omega)
  have q4:=Int.lt_ediv_add_one_mul_self (-(1*2^t*2^t)) (show 0<x1 by omega)
  rw[← pk.1] at q1 q2
  have pk2:-(1*2^t*2^t) / x1=-z2:=by have:=pk.2;omega
  rw[pk2] at q3 q4
  rw[Int.add_mul,Int.one_mul] at q2 q4
  have e1:(1:Int)*2^t*2^t=2^t*2^t:=by rw[Int.one_mul]
  rw[e1] at q1 q3
  rw[Int.neg_mul] at q3 q4
  have zf:=inv_span2 (T:=2^t) (x1:=x1) (x2:=x2) (z1:=z1) (z2:=z2) P big x12 q1 (by rw[Int.one_mul] at q2;omega) oO (by rw[Int.one_mul] at q4;omega)
  obtain⟨e1',e2',hI,l,u,le1,le2⟩:=r16_innerE z1 z2 (w+60) oO zf.1 zf.2.1 (by rw[tn];omega)
  rw[tn] at l u
  have v1:=(inv_enc (z:=z1) (x:=x2) P X1).1 ⟨he.2,zf.1,q1⟩
  have v2:=(inv_enc (z:=z2) (x:=x1) P X1).2 ⟨he.1,by omega,by omega⟩
  have iv:=inv_le1 (x:=X) (Rat.le_of_lt X1)
  have n2':0≤(z1:Rat)*(((2^t:Int):Rat))⁻¹:=Rat.mul_nonneg (Rat.intCast_nonneg.2 zf.1) (Rat.le_of_lt i0)
  have zt:(z2:Rat)*(((2^t:Int):Rat))⁻¹≤1:=by
   have m:=Rat.mul_le_mul_of_nonneg_right (Rat.intCast_le_intCast.2 zf.2.2) (Rat.le_of_lt i0)
   have one:(((2^t:Int)):Rat)*(((2^t:Int):Rat))⁻¹=1:=by rw[Rat.mul_comm];exact ie
   rw[one] at m;exact m
  obtain⟨p1,p2,m1,m2,hP,hOv,hq,_,lm1,lm2⟩:=rq_half (v:=w+60) oO
  rw[tn] at hq
  have hSb:=r13_Sub m1 m2 e1' e2' oO oO oO oO
  have E:=en_comp l u (by grind) (AT0_le n2' v1 (by grind)) (AT0_le (by grind) v2 (by grind)) hq.1 hq.2
  have y1:=L_abs_sub m1 e2'
  have y2:=L_abs_sub m2 e1'
  have hSb:Impl Tryz.prog Amb 60 [(sV m1 m2),(sV e1' e2')] (sV (m1-e2') (m2-e1')):=impl_eq (sp_eqA oO oO) hSb
  obtain⟨hN,hOut⟩:=fin E oO oO
  by_cases hs:m<0
  ·obtain⟨g1,g2,hG,eG,lg1,lg2⟩:=hOut _ _ (.inl ⟨hs,rfl,rfl⟩)
   exact⟨g1,g2,r16_AtBN m ee w (m.natAbs:Int) _ (topD (m.natAbs:Int) ee) (1*2^t) b1 b2 x1 x2 z1 z2 p1 p2 m1 m2 e1' e2' (m1-e2') (m2-e1') _ _ _ _ _ _ oO oO hs c hNa o1 hCm hTp hO hAt hSh hD hP hOv hI hSb (hN _ _ rfl rfl hs) hG,eG,by omega,by omega⟩
  ·obtain⟨g1,g2,hG,eG,lg1,lg2⟩:=hOut _ _ (.inr ⟨hs,rfl,rfl⟩)
   exact⟨g1,g2,r16_AtBP m ee w (m.natAbs:Int) _ (topD (m.natAbs:Int) ee) (1*2^t) b1 b2 x1 x2 z1 z2 p1 p2 m1 m2 e1' e2' (m1-e2') (m2-e1') 0 0 _ _ _ _ oO oO oO c hNa o1 hCm hTp hO hAt hSh hD hP hOv hI hSb hG,eG,by omega,by omega⟩
 ·-- up to 1
  have X1:dv (m.natAbs:Int) ee≤1:=by
   have:=Rat.not_lt.1 (fun q=>c (cmpD_pos.2 q))
   rw[d10] at this;exact this
  have hAt:=r13_At (m.natAbs:Int) ee (w+60) oO oO hva oO
  generalize hX:dv (m.natAbs:Int) ee=X at *
  have sc1:=(flr_sc X t).1
  have sc2:=(cei_sc X t).1
  have fc:=flr_cei1 X t
  rw[show ((t:Nat):Int)=w+60 by omega] at sc1 sc2 fc
  have x10:0≤flr X (w+60):=le_flr.2 (by rw[dv_zero];exact X0)
  have x2T:cei X (w+60)≤2^t:=cei_le.2 (by
   have k:=dv_shl 1 (-(w+60)) t
   rw[show -(w+60)+((t:Nat):Int)=0 by omega,d10,Int.one_mul] at k
   rw[k];exact X1)
  generalize flr X (w+60)=x1 at *
  generalize cei X (w+60)=x2 at *
  obtain⟨y1,y2,hI,l,u,le1,le2⟩:=r16_innerE x1 x2 (w+60) oO x10 fc.2 (by rw[tn];omega)
  rw[tn] at l u
  have s1:=(at_sc (x:=x1) (X:=X) P).1 sc1
  have s2:=(at_sc (x:=x2) (X:=X) P).2 sc2
  have n1:0≤(x1:Rat)*(((2^t:Int):Rat))⁻¹:=Rat.mul_nonneg (Rat.intCast_nonneg.2 x10) (Rat.le_of_lt i0)
  have zt:(x2:Rat)*(((2^t:Int):Rat))⁻¹≤1:=by
   have m:=Rat.mul_le_mul_of_nonneg_right (Rat.intCast_le_intCast.2 x2T) (Rat.le_of_lt i0)
   have one:(((2^t:Int)):Rat)*(((2^t:Int):Rat))⁻¹=1:=by rw[Rat.mul_comm];exact ie
   rw[one] at m;exact m
  have E:=en_mid l u n1 s1 (by grind) s2 (by grind)
  obtain⟨hN,hOut⟩:=fin E oO oO
  by_cases hs:m<0
  ·obtain⟨g1,g2,hG,eG,lg1,lg2⟩:=hOut _ _ (.inl ⟨hs,rfl,rfl⟩)
   exact⟨g1,g2,r16_AtSN m ee w (m.natAbs:Int) _ 0 0 0 0 x1 x2 0 0 0 0 0 0 0 0 y1 y2 _ _ _ _ _ _ oO oO hs oO hNa o1 hCm hAt hI (hN _ _ rfl rfl hs) hG,eG,by omega,by omega⟩
  ·obtain⟨g1,g2,hG,eG,lg1,lg2⟩:=hOut _ _ (.inr ⟨hs,rfl,rfl⟩)
   exact⟨g1,g2,r16_AtSP m ee w (m.natAbs:Int) _ 0 0 0 0 x1 x2 0 0 0 0 0 0 0 0 y1 y2 0 0 _ _ _ _ oO oO oO oO hNa o1 hCm hAt hI hG,eG,by omega,by omega⟩
end Go.Proofs.YtkkbddkpggjgpaaGreatDoor

namespace Go.Proofs.YtkkbddkpggjgpaaGreatDoor
open Go.RowKit
set_option maxRecDepth 100000
set_option maxHeartbeats 2000000
theorem l16_of (a b:Int)(c0:(-9223372036854775808:Int)≤a∧a≤9223372036854775807)(c1:(-9223372036854775808:Int)≤b∧b≤9223372036854775807):Impl Tryz.prog Amb 36 [(.int .i64 a),(.int .i64 b)] (wV (mkM a 0) (mkX a 0) (mkM b 0) (mkX b 0)):=by
 exact impl_ob hP hAmb Tryz.func36 (by kernel_rfl) (.lit<|.call (yV (mkM a 0) (mkX a 0))<|.lit<|.call (yV (mkM b 0) (mkX b 0))<|.lits 3<|.ret)
  (cast_ob (aI True.intro (aI (r08_Of a oO) (have f14:=(of_fit (n:=a) oO).2.2.2.2.1;have f13:=(of_fit (n:=a) oO).2.2.2.1;have f12:=(of_fit (n:=a) oO).2.2.1;have f11:=(of_fit (n:=a) oO).2.1;have f10:=(of_fit (n:=a) oO).1;have f9:=(L_i64 oO:L (a:Int).natAbs≤2);have f8:=mk_facts a 0;aI (r08_Of b oO) (have f7:=(of_fit (n:=b) oO).2.2.2.2.1;have f6:=(of_fit (n:=b) oO).2.2.2.1;have f5:=(of_fit (n:=b) oO).2.2.1;have f4:=(of_fit (n:=b) oO).2.1;have f3:=(of_fit (n:=b) oO).1;have f2:=(L_i64 oO:L (b:Int).natAbs≤2);have f1:=mk_facts b 0;(vsub_refl (wV (mkM a 0) (mkX a 0) (mkM b 0) (mkX b 0))))))) (by kernel_rfl))
theorem at_RecipB (n w:Int)(c0:(-9223372036854775808:Int)≤n∧n≤9223372036854775807)(c1:(-9223372036854775808:Int)≤w∧w≤9223372036854775807)(c2:0≤w∧w≤4096)(c3:n<2):Impl Tryz.prog Amb 26 [(.int .i64 n),(.int .i64 w)] (.tup [(.agg [(.bool false),.nil,(.int .i64 0),(.bool false),.nil,(.int .i64 0)]),(.int .i64 1)]):=by
 exact impl_ob hP hAmb Tryz.func26 (by kernel_rfl) (.lit<|.no<|.lits 3<|.no<|.lits 4<|.yes<|.lits 6<|.ret)
  (cast_ob (aI True.intro (aI (iLt_mkF oO:(iLt w 0)=false) (aI (iGt_mkF oO:(iGt w 4096)=false) (aI (iLt_mk oO:(iLt n 2)=true) ((vsub_refl (.tup [(.agg [(.bool false),.nil,(.int .i64 0),(.bool false),.nil,(.int .i64 0)]),(.int .i64 1)]))))))) (by kernel_rfl))
theorem l16_awake0 (t1 t2 t3 t4 a1 a2 a3 a4:Int)(qa:Rat)(c0:Impl Tryz.prog Amb 36 [(.int .i64 0),(.int .i64 0)] (wV t1 t2 t3 t4))(c1:Impl Tryz.prog Amb 15 [(wV t1 t2 t3 t4),(.int .i64 4)] (.tup [(wV a1 a2 a3 a4),(.int .i64 0)]))(c2:Impl Tryz.prog Amb 26 [(.int .i64 1),(.int .i64 5)] (.tup [(.agg [(.bool false),.nil,(.int .i64 0),(.bool false),.nil,(.int .i64 0)]),(.int .i64 1)]))(c3:Impl Tryz.prog Amb 29 [(.int .i64 0)] (.agg [(.bool (decide (qa.num<0))),(N qa.num.natAbs),(N qa.den)]))(c4:Impl Tryz.prog Amb 41 [(wV a1 a2 a3 a4),(.agg [(.bool (decide (qa.num<0))),(N qa.num.natAbs),(N qa.den)])] (.bool true)):Impl Tryz.prog Amb 11 [] (.bool true):=by
 exact impl_ob hP hAmb Tryz.func11 (by kernel_rfl) (.lit<|.call (wV t1 t2 t3 t4)<|.lit<|.call (.tup [(wV a1 a2 a3 a4),(.int .i64 0)])<|.lits 2<|.call (.tup [(.agg [(.bool false),.nil,(.int .i64 0),(.bool false),.nil,(.int .i64 0)]),(.int .i64 1)])<|.lits 6<|.call (.agg [(.bool (decide (qa.num<0))),(N qa.num.natAbs),(N qa.den)])<|.lits 2<|.call (.bool true)<|.lits 6<|.ret)
  (cast_ob (aI True.intro (aI (c0 ) (aI (c1 ) (aI (c2 ) (aI (c3 ) (aI (c4 ) ((vsub_refl (.bool true))))))))) (by kernel_rfl))
theorem l16_CloseFF (b1:Bool)(l1:List Nat)(e1:Int)(b2:Bool)(l2:List Nat)(e2 w m ee n f:Int)(c0:(-9223372036854775808:Int)≤w∧w≤9223372036854775807)(c1:Impl Tryz.prog Amb 12 [(.agg [(.bool b1),(.sl 1 (U l1)),(.int .i64 e1),(.bool b2),(.sl 1 (U l2)),(.int .i64 e2)]),(.int .i64 2),(.int .i64 50)] (.tup [(wV m ee n f),(.bool false)]))(c2:Impl Tryz.prog Amb 11 [] (.bool true)):Impl Tryz.prog Amb 3 [(.agg [(.bool b1),(.sl 1 (U l1)),(.int .i64 e1),(.bool b2),(.sl 1 (U l2)),(.int .i64 e2)]),(.int .i64 w),(.bool false)] (.bool true):=by
 exact impl_ob hP hAmb Tryz.func3 (by kernel_rfl) (.lit<|.call (.bool true)<|.lits 4<|.call (.tup [(wV m ee n f),(.bool false)])<|.lits 4<|.ret)
  (cast_ob (aI True.intro (aI (c2 ) (aI (c1 ) ((vsub_refl (.bool true)))))) (by kernel_rfl))
theorem l16_CloseFT (b1:Bool)(l1:List Nat)(e1:Int)(b2:Bool)(l2:List Nat)(e2 w m ee n f:Int)(c0:(-9223372036854775808:Int)≤w∧w≤9223372036854775807)(c1:Impl Tryz.prog Amb 12 [(.agg [(.bool b1),(.sl 1 (U l1)),(.int .i64 e1),(.bool b2),(.sl 1 (U l2)),(.int .i64 e2)]),(.int .i64 2),(.int .i64 50)] (.tup [(wV m ee n f),(.bool false)]))(c2:Impl Tryz.prog Amb 11 [] (.bool true)):Impl Tryz.prog Amb 3 [(.agg [(.bool b1),(.sl 1 (U l1)),(.int .i64 e1),(.bool b2),(.sl 1 (U l2)),(.int .i64 e2)]),(.int .i64 w),(.bool true)] (.bool true):=by
 exact impl_ob hP hAmb Tryz.func3 (by kernel_rfl) (.lit<|.call (.bool true)<|.lits 4<|.call (.tup [(wV m ee n f),(.bool false)])<|.lits 4<|.ret)
  (cast_ob (aI True.intro (aI (c2 ) (aI (c1 ) ((vsub_refl (.bool true)))))) (by kernel_rfl))
def l16_CloseTF_0_mk (b1:Bool)(l1:List Nat)(e1:Int)(b2:Bool)(l2:List Nat)(e2:Int)(w m ee n f _ _ _ _ _ _ _ _ _ _ _ _ _ _ _ _ _ _ _ _ _ _ _ _:Int)(x:(Int)⊕((Int)⊕(Int))):St:=Sum.elim (fun (x:Int)=>⟨mkS 58 [(7,(.own 1 0)),(29,(.osl 2 0 2 1)),(30,(.val (.int .i64 2))),(31,(.val (.int .i64 0)))],[⟨true,false,[(V.bool b1),(V.sl 1 (U l1)),(V.int .i64 e1),(V.bool b2),(V.sl 1 (U l2)),(V.int .i64 e2)]⟩,⟨true,false,[(V.bool (decide (m<0))),(N m.natAbs),(V.int .i64 ee),(V.bool (decide (n<0))),(N n.natAbs),(V.int .i64 f)]⟩,⟨true,false,[(V.int .i64 (w%120)),(V.int .i64 (w%4))]⟩]⟩) (fun (x:(Int)⊕(Int))=>Sum.elim (fun (x:Int)=>⟨mkS 58 [(7,(.own 1 0)),(29,(.osl 2 0 2 1)),(30,(.val (.int .i64 2))),(31,(.val (.int .i64 1)))],[⟨true,false,[(V.bool b1),(V.sl 1 (U l1)),(V.int .i64 e1),(V.bool b2),(V.sl 1 (U l2)),(V.int .i64 e2)]⟩,⟨true,false,[(V.bool (decide (m<0))),(N m.natAbs),(V.int .i64 ee),(V.bool (decide (n<0))),(N n.natAbs),(V.int .i64 f)]⟩,⟨true,false,[(V.int .i64 (w%120)),(V.int .i64 (w%4))]⟩]⟩) (fun (x:Int)=>⟨mkS 58 [(7,(.own 1 0)),(29,(.osl 2 0 2 1)),(30,(.val (.int .i64 2))),(31,(.val (.int .i64 2)))],[⟨true,false,[(V.bool b1),(V.sl 1 (U l1)),(V.int .i64 e1),(V.bool b2),(V.sl 1 (U l2)),(V.int .i64 e2)]⟩,⟨true,false,[(V.bool (decide (m<0))),(N m.natAbs),(V.int .i64 ee),(V.bool (decide (n<0))),(N n.natAbs),(V.int .i64 f)]⟩,⟨true,false,[(V.int .i64 (w%120)),(V.int .i64 (w%4))]⟩]⟩) x) x
def l16_CloseTF_0_I (_:Bool)(_:List Nat)(_:Int)(_:Bool)(_:List Nat)(_:Int)(_ _ _ _ _ _ _ _ _ _ _ _ _ _ _ _ _ _ _ _ _ _ _ _ _ _ _ _ _:Int)(x:(Int)⊕((Int)⊕(Int))):Prop:=Sum.elim (fun (x:Int)=>x=x) (fun (x:(Int)⊕(Int))=>Sum.elim (fun (x:Int)=>x=x) (fun (x:Int)=>x=x) x) x
def l16_CloseTF_0_mu (_:Bool)(_:List Nat)(_:Int)(_:Bool)(_:List Nat)(_:Int)(_ _ _ _ _ _ _ _ _ _ _ _ _ _ _ _ _ _ _ _ _ _ _ _ _ _ _ _ _:Int)(x:(Int)⊕((Int)⊕(Int))):Nat:=Sum.elim (fun (x:Int)=>9-0) (fun (x:(Int)⊕(Int))=>Sum.elim (fun (x:Int)=>9-1) (fun (x:Int)=>9-2) x) x
def l16_CloseTF_0_ex (b1:Bool)(l1:List Nat)(e1:Int)(b2:Bool)(l2:List Nat)(e2:Int)(_ m ee n f _ _ _ _ _ _ _ _ _ _ _ _ _ _ _ _ _ _ _ _ _ _ _ _:Int)(y:Int):Ex × St:=(.exit 0,⟨mkS 58 [],[⟨true,false,[(V.bool b1),(V.sl 1 (U l1)),(V.int .i64 e1),(V.bool b2),(V.sl 1 (U l2)),(V.int .i64 e2)]⟩,⟨true,false,[(V.bool (decide (m<0))),(N m.natAbs),(V.int .i64 ee),(V.bool (decide (n<0))),(N n.natAbs),(V.int .i64 f)]⟩]⟩)
def l16_CloseTF_0_J (_:Bool)(_:List Nat)(_:Int)(_:Bool)(_:List Nat)(_:Int)(_ _ _ _ _ _ _ _ _ _ _ _ _ _ _ _ _ _ _ _ _ _ _ _ _ _ _ _ _:Int)(y:Int):Prop:=y=y
abbrev l16_CloseTF_0_N (b1:Bool)(l1:List Nat)(e1:Int)(b2:Bool)(l2:List Nat)(e2:Int)(w m ee n f y0a y0b y0c y0d l0a l0b l0c l0d h0a h0b h0c h0d y1a y1b y1c y1d l1a l1b l1c l1d h1a h1b h1c h1d:Int):=NX (l16_CloseTF_0_mk b1 l1 e1 b2 l2 e2 w m ee n f y0a y0b y0c y0d l0a l0b l0c l0d h0a h0b h0c h0d y1a y1b y1c y1d l1a l1b l1c l1d h1a h1b h1c h1d) (l16_CloseTF_0_I b1 l1 e1 b2 l2 e2 w m ee n f y0a y0b y0c y0d l0a l0b l0c l0d h0a h0b h0c h0d y1a y1b y1c y1d l1a l1b l1c l1d h1a h1b h1c h1d) (l16_CloseTF_0_mu b1 l1 e1 b2 l2 e2 w m ee n f y0a y0b y0c y0d l0a l0b l0c l0d h0a h0b h0c h0d y1a y1b y1c y1d l1a l1b l1c l1d h1a h1b h1c h1d) (l16_CloseTF_0_ex b1 l1 e1 b2 l2 e2 w m ee n f y0a y0b y0c y0d l0a l0b l0c l0d h0a h0b h0c h0d y1a y1b y1c y1d l1a l1b l1c l1d h1a h1b h1c h1d) (l16_CloseTF_0_J b1 l1 e1 b2 l2 e2 w m ee n f y0a y0b y0c y0d l0a l0b l0c l0d h0a h0b h0c h0d y1a y1b y1c y1d l1a l1b l1c l1d h1a h1b h1c h1d)
theorem l16_CloseTF_0 (b1:Bool)(l1:List Nat)(e1:Int)(b2:Bool)(l2:List Nat)(e2:Int)(w m ee n f y0a y0b y0c y0d l0a l0b l0c l0d h0a h0b h0c h0d y1a y1b y1c y1d l1a l1b l1c l1d h1a h1b h1c h1d:Int)(c0:(-9223372036854775808:Int)≤w∧w≤9223372036854775807)(c1:Impl Tryz.prog Amb 12 [(.agg [(.bool b1),(.sl 1 (U l1)),(.int .i64 e1),(.bool b2),(.sl 1 (U l2)),(.int .i64 e2)]),(.int .i64 2),(.int .i64 50)] (.tup [(wV m ee n f),(.bool true)]))(c2:Impl Tryz.prog Amb 11 [] (.bool true))(c3:Impl Tryz.prog Amb 15 [(wV m ee n f),(.int .i64 (w%120))] (.tup [(wV y0a y0b y0c y0d),(.int .i64 0)]))(c4:Impl Tryz.prog Amb 17 [(yV m ee),(.int .i64 (w%120))] (wV l0a l0b l0c l0d))(c5:Impl Tryz.prog Amb 17 [(yV n f),(.int .i64 (w%120))] (wV h0a h0b h0c h0d))(c6:Impl Tryz.prog Amb 16 [(wV y0a y0b y0c y0d),(wV l0a l0b l0c l0d),(wV h0a h0b h0c h0d),(.int .i64 (w%120))] (.bool true))(c7:Impl Tryz.prog Amb 15 [(wV m ee n f),(.int .i64 (w%4))] (.tup [(wV y1a y1b y1c y1d),(.int .i64 0)]))(c8:Impl Tryz.prog Amb 17 [(yV m ee),(.int .i64 (w%4))] (wV l1a l1b l1c l1d))(c9:Impl Tryz.prog Amb 17 [(yV n f),(.int .i64 (w%4))] (wV h1a h1b h1c h1d))(c10:Impl Tryz.prog Amb 16 [(wV y1a y1b y1c y1d),(wV l1a l1b l1c l1d),(wV h1a h1b h1c h1d),(.int .i64 (w%4))] (.bool true))(x0:(Int)⊕((Int)⊕(Int)))(hI:l16_CloseTF_0_I b1 l1 e1 b2 l2 e2 w m ee n f y0a y0b y0c y0d l0a l0b l0c l0d h0a h0b h0c h0d y1a y1b y1c y1d l1a l1b l1c l1d h1a h1b h1c h1d x0):LoopOk Tryz.prog Amb (loopN Tryz.f3 0) (l16_CloseTF_0_mk b1 l1 e1 b2 l2 e2 w m ee n f y0a y0b y0c y0d l0a l0b l0c l0d h0a h0b h0c h0d y1a y1b y1c y1d l1a l1b l1c l1d h1a h1b h1c h1d x0) (fun e st_=>∃ y,l16_CloseTF_0_J b1 l1 e1 b2 l2 e2 w m ee n f y0a y0b y0c y0d l0a l0b l0c l0d h0a h0b h0c h0d y1a y1b y1c y1d l1a l1b l1c l1d h1a h1b h1c h1d y∧l16_CloseTF_0_ex b1 l1 e1 b2 l2 e2 w m ee n f y0a y0b y0c y0d l0a l0b l0c l0d h0a h0b h0c h0d y1a y1b y1c y1d l1a l1b l1c l1d h1a h1b h1c h1d y=(e,st_)) :=
 loop_ob hP hAmb ⟨[7,29,30,31],3,[]⟩ (l16_CloseTF_0_mk b1 l1 e1 b2 l2 e2 w m ee n f y0a y0b y0c y0d l0a l0b l0c l0d h0a h0b h0c h0d y1a y1b y1c y1d l1a l1b l1c l1d h1a h1b h1c h1d) (l16_CloseTF_0_I b1 l1 e1 b2 l2 e2 w m ee n f y0a y0b y0c y0d l0a l0b l0c l0d h0a h0b h0c h0d y1a y1b y1c y1d l1a l1b l1c l1d h1a h1b h1c h1d) (l16_CloseTF_0_mu b1 l1 e1 b2 l2 e2 w m ee n f y0a y0b y0c y0d l0a l0b l0c l0d h0a h0b h0c h0d y1a y1b y1c y1d l1a l1b l1c l1d h1a h1b h1c h1d) (l16_CloseTF_0_ex b1 l1 e1 b2 l2 e2 w m ee n f y0a y0b y0c y0d l0a l0b l0c l0d h0a h0b h0c h0d y1a y1b y1c y1d l1a l1b l1c l1d h1a h1b h1c h1d) (l16_CloseTF_0_J b1 l1 e1 b2 l2 e2 w m ee n f y0a y0b y0c y0d l0a l0b l0c l0d h0a h0b h0c h0d y1a y1b y1c y1d l1a l1b l1c l1d h1a h1b h1c h1d) x0 hI (Sum.elim (fun u=>.lits 6<|.call (.tup [(wV y0a y0b y0c y0d),(.int .i64 0)])<|.lits 10<|.call (wV l0a l0b l0c l0d)<|.lits 6<|.call (wV h0a h0b h0c h0d)<|.lits 3<|.call (.bool true)<|.lits 5<|.yes<|.fin3 ⟨[7,29,30,31],[0,1,2]⟩) (Sum.elim (fun u=>.lits 6<|.call (.tup [(wV y1a y1b y1c y1d),(.int .i64 0)])<|.lits 10<|.call (wV l1a l1b l1c l1d)<|.lits 6<|.call (wV h1a h1b h1c h1d)<|.lits 3<|.call (.bool true)<|.lits 5<|.yes<|.fin3 ⟨[7,29,30,31],[0,1,2]⟩) (fun u=>.lits 2<|.fin3 ⟨[],[0,1]⟩))) (by
  rintro (u | u | u) hI
  ·skip
   have hI:u=u:=hI
   have h1:=hI
   exact cast_ob (aI True.intro (aI (c3 ) (aI (c4 ) (aI (c5 ) (aI (c6 ) (aI tT (aI tT ((nx_next (Sum.inr (Sum.inl u)) (show u=u from rfl) (show 9-1<9-0 by omega):l16_CloseTF_0_N b1 l1 e1 b2 l2 e2 w m ee n f y0a y0b y0c y0d l0a l0b l0c l0d h0a h0b h0c h0d y1a y1b y1c y1d l1a l1b l1c l1d h1a h1b h1c h1d (Sum.inl u) .normal (l16_CloseTF_0_mk b1 l1 e1 b2 l2 e2 w m ee n f y0a y0b y0c y0d l0a l0b l0c l0d h0a h0b h0c h0d y1a y1b y1c y1d l1a l1b l1c l1d h1a h1b h1c h1d (Sum.inr (Sum.inl u)))))))))))) (by kernel_rfl)
  ·skip
   have hI:u=u:=hI
   have h1:=hI
   exact cast_ob (aI True.intro (aI (c7 ) (aI (c8 ) (aI (c9 ) (aI (c10 ) (aI tT (aI tT ((nx_next (Sum.inr (Sum.inr u)) (show u=u from rfl) (show 9-2<9-1 by omega):l16_CloseTF_0_N b1 l1 e1 b2 l2 e2 w m ee n f y0a y0b y0c y0d l0a l0b l0c l0d h0a h0b h0c h0d y1a y1b y1c y1d l1a l1b l1c l1d h1a h1b h1c h1d (Sum.inr (Sum.inl u)) .normal (l16_CloseTF_0_mk b1 l1 e1 b2 l2 e2 w m ee n f y0a y0b y0c y0d l0a l0b l0c l0d h0a h0b h0c h0d y1a y1b y1c y1d l1a l1b l1c l1d h1a h1b h1c h1d (Sum.inr (Sum.inr u)))))))))))) (by kernel_rfl)
  ·skip
   have hI:u=u:=hI
   have h1:=hI
   exact cast_ob (aI True.intro (aI tT ((nx_exit 0 ((l16_CloseTF_0_ex b1 l1 e1 b2 l2 e2 w m ee n f y0a y0b y0c y0d l0a l0b l0c l0d h0a h0b h0c h0d y1a y1b y1c y1d l1a l1b l1c l1d h1a h1b h1c h1d u).2) u (show u=u from rfl) rfl:l16_CloseTF_0_N b1 l1 e1 b2 l2 e2 w m ee n f y0a y0b y0c y0d l0a l0b l0c l0d h0a h0b h0c h0d y1a y1b y1c y1d l1a l1b l1c l1d h1a h1b h1c h1d (Sum.inr (Sum.inr u)) (.exit 0) ((l16_CloseTF_0_ex b1 l1 e1 b2 l2 e2 w m ee n f y0a y0b y0c y0d l0a l0b l0c l0d h0a h0b h0c h0d y1a y1b y1c y1d l1a l1b l1c l1d h1a h1b h1c h1d u).2))))) (by kernel_rfl))
theorem l16_CloseTF (b1:Bool)(l1:List Nat)(e1:Int)(b2:Bool)(l2:List Nat)(e2 w m ee n f y0a y0b y0c y0d l0a l0b l0c l0d h0a h0b h0c h0d y1a y1b y1c y1d l1a l1b l1c l1d h1a h1b h1c h1d:Int)(c0:(-9223372036854775808:Int)≤w∧w≤9223372036854775807)(c1:Impl Tryz.prog Amb 12 [(.agg [(.bool b1),(.sl 1 (U l1)),(.int .i64 e1),(.bool b2),(.sl 1 (U l2)),(.int .i64 e2)]),(.int .i64 2),(.int .i64 50)] (.tup [(wV m ee n f),(.bool true)]))(c2:Impl Tryz.prog Amb 11 [] (.bool true))(c3:Impl Tryz.prog Amb 15 [(wV m ee n f),(.int .i64 (w%120))] (.tup [(wV y0a y0b y0c y0d),(.int .i64 0)]))(c4:Impl Tryz.prog Amb 17 [(yV m ee),(.int .i64 (w%120))] (wV l0a l0b l0c l0d))(c5:Impl Tryz.prog Amb 17 [(yV n f),(.int .i64 (w%120))] (wV h0a h0b h0c h0d))(c6:Impl Tryz.prog Amb 16 [(wV y0a y0b y0c y0d),(wV l0a l0b l0c l0d),(wV h0a h0b h0c h0d),(.int .i64 (w%120))] (.bool true))(c7:Impl Tryz.prog Amb 15 [(wV m ee n f),(.int .i64 (w%4))] (.tup [(wV y1a y1b y1c y1d),(.int .i64 0)]))(c8:Impl Tryz.prog Amb 17 [(yV m ee),(.int .i64 (w%4))] (wV l1a l1b l1c l1d))(c9:Impl Tryz.prog Amb 17 [(yV n f),(.int .i64 (w%4))] (wV h1a h1b h1c h1d))(c10:Impl Tryz.prog Amb 16 [(wV y1a y1b y1c y1d),(wV l1a l1b l1c l1d),(wV h1a h1b h1c h1d),(.int .i64 (w%4))] (.bool true)):Impl Tryz.prog Amb 3 [(.agg [(.bool b1),(.sl 1 (U l1)),(.int .i64 e1),(.bool b2),(.sl 1 (U l2)),(.int .i64 e2)]),(.int .i64 w),(.bool false)] (.bool true):=by
 exact impl_ob hP hAmb Tryz.func3 (by kernel_rfl) (.lit<|.call (.bool true)<|.lits 4<|.call (.tup [(wV m ee n f),(.bool true)])<|.lits 5<|.call (.int .i64 (w%120))<|.lit<|.call (.int .i64 (w%4))<|.loop ⟨[7,29,30,31],3,[]⟩ ((l16_CloseTF_0_mk b1 l1 e1 b2 l2 e2 w m ee n f y0a y0b y0c y0d l0a l0b l0c l0d h0a h0b h0c h0d y1a y1b y1c y1d l1a l1b l1c l1d h1a h1b h1c h1d (Sum.inl (0:Int)))) (Int) (l16_CloseTF_0_ex b1 l1 e1 b2 l2 e2 w m ee n f y0a y0b y0c y0d l0a l0b l0c l0d h0a h0b h0c h0d y1a y1b y1c y1d l1a l1b l1c l1d h1a h1b h1c h1d) (l16_CloseTF_0_J b1 l1 e1 b2 l2 e2 w m ee n f y0a y0b y0c y0d l0a l0b l0c l0d h0a h0b h0c h0d y1a y1b y1c y1d l1a l1b l1c l1d h1a h1b h1c h1d) (fun y=>.lit<|.ret))
  (cast_ob (aI True.intro (aI (c2 ) (aI (c1 ) (aI (mill_Mod w 120 oS oS) (have f4:=Int.emod_lt_of_pos w (show (0:Int)<120 by first | omega | assumption);have f3:=Int.emod_nonneg w (show (120:Int)≠0 by first | omega | assumption);aI (mill_Mod w 4 oS oS) (have f2:=Int.emod_lt_of_pos w (show (0:Int)<4 by first | omega | assumption);have f1:=Int.emod_nonneg w (show (4:Int)≠0 by first | omega | assumption);aI tT (aI (rfl:(l16_CloseTF_0_mk b1 l1 e1 b2 l2 e2 w m ee n f y0a y0b y0c y0d l0a l0b l0c l0d h0a h0b h0c h0d y1a y1b y1c y1d l1a l1b l1c l1d h1a h1b h1c h1d (Sum.inl (0:Int)))=(l16_CloseTF_0_mk b1 l1 e1 b2 l2 e2 w m ee n f y0a y0b y0c y0d l0a l0b l0c l0d h0a h0b h0c h0d y1a y1b y1c y1d l1a l1b l1c l1d h1a h1b h1c h1d (Sum.inl (0:Int)))) (aI (l16_CloseTF_0 b1 l1 e1 b2 l2 e2 w m ee n f y0a y0b y0c y0d l0a l0b l0c l0d h0a h0b h0c h0d y1a y1b y1c y1d l1a l1b l1c l1d h1a h1b h1c h1d c0 c1 c2 c3 c4 c5 c6 c7 c8 c9 c10 (Sum.inl (0:Int)) (show (0:Int)=(0:Int) from rfl)) (fun y (hJ:l16_CloseTF_0_J b1 l1 e1 b2 l2 e2 w m ee n f y0a y0b y0c y0d l0a l0b l0c l0d h0a h0b h0c h0d y1a y1b y1c y1d l1a l1b l1c l1d h1a h1b h1c h1d y)=>have hJ:y=y:=hJ;(vsub_refl (.bool true))))))))))) (by kernel_rfl))
def l16_CloseTT_0_mk (b1:Bool)(l1:List Nat)(e1:Int)(b2:Bool)(l2:List Nat)(e2:Int)(w _ _ _ _ p q r t _ _ _ _ _ _ _ _ _ _ _ _ _ _ _ _ _ _ _ _ _ _ _ _:Int)(x:(Int)⊕((Int)⊕(Int))):St:=Sum.elim (fun (x:Int)=>⟨mkS 58 [(7,(.own 1 0)),(29,(.osl 2 0 2 1)),(30,(.val (.int .i64 2))),(31,(.val (.int .i64 0)))],[⟨true,false,[(V.bool b1),(V.sl 1 (U l1)),(V.int .i64 e1),(V.bool b2),(V.sl 1 (U l2)),(V.int .i64 e2)]⟩,⟨true,false,[(V.bool (decide (p<0))),(N p.natAbs),(V.int .i64 q),(V.bool (decide (r<0))),(N r.natAbs),(V.int .i64 t)]⟩,⟨true,false,[(V.int .i64 (w%120)),(V.int .i64 (w%4))]⟩]⟩) (fun (x:(Int)⊕(Int))=>Sum.elim (fun (x:Int)=>⟨mkS 58 [(7,(.own 1 0)),(29,(.osl 2 0 2 1)),(30,(.val (.int .i64 2))),(31,(.val (.int .i64 1)))],[⟨true,false,[(V.bool b1),(V.sl 1 (U l1)),(V.int .i64 e1),(V.bool b2),(V.sl 1 (U l2)),(V.int .i64 e2)]⟩,⟨true,false,[(V.bool (decide (p<0))),(N p.natAbs),(V.int .i64 q),(V.bool (decide (r<0))),(N r.natAbs),(V.int .i64 t)]⟩,⟨true,false,[(V.int .i64 (w%120)),(V.int .i64 (w%4))]⟩]⟩) (fun (x:Int)=>⟨mkS 58 [(7,(.own 1 0)),(29,(.osl 2 0 2 1)),(30,(.val (.int .i64 2))),(31,(.val (.int .i64 2)))],[⟨true,false,[(V.bool b1),(V.sl 1 (U l1)),(V.int .i64 e1),(V.bool b2),(V.sl 1 (U l2)),(V.int .i64 e2)]⟩,⟨true,false,[(V.bool (decide (p<0))),(N p.natAbs),(V.int .i64 q),(V.bool (decide (r<0))),(N r.natAbs),(V.int .i64 t)]⟩,⟨true,false,[(V.int .i64 (w%120)),(V.int .i64 (w%4))]⟩]⟩) x) x
def l16_CloseTT_0_I (_:Bool)(_:List Nat)(_:Int)(_:Bool)(_:List Nat)(_:Int)(_ _ _ _ _ _ _ _ _ _ _ _ _ _ _ _ _ _ _ _ _ _ _ _ _ _ _ _ _ _ _ _ _:Int)(x:(Int)⊕((Int)⊕(Int))):Prop:=Sum.elim (fun (x:Int)=>x=x) (fun (x:(Int)⊕(Int))=>Sum.elim (fun (x:Int)=>x=x) (fun (x:Int)=>x=x) x) x
def l16_CloseTT_0_mu (_:Bool)(_:List Nat)(_:Int)(_:Bool)(_:List Nat)(_:Int)(_ _ _ _ _ _ _ _ _ _ _ _ _ _ _ _ _ _ _ _ _ _ _ _ _ _ _ _ _ _ _ _ _:Int)(x:(Int)⊕((Int)⊕(Int))):Nat:=Sum.elim (fun (x:Int)=>9-0) (fun (x:(Int)⊕(Int))=>Sum.elim (fun (x:Int)=>9-1) (fun (x:Int)=>9-2) x) x
def l16_CloseTT_0_ex (b1:Bool)(l1:List Nat)(e1:Int)(b2:Bool)(l2:List Nat)(e2:Int)(_ _ _ _ _ p q r t _ _ _ _ _ _ _ _ _ _ _ _ _ _ _ _ _ _ _ _ _ _ _ _:Int)(y:Int):Ex × St:=(.exit 0,⟨mkS 58 [],[⟨true,false,[(V.bool b1),(V.sl 1 (U l1)),(V.int .i64 e1),(V.bool b2),(V.sl 1 (U l2)),(V.int .i64 e2)]⟩,⟨true,false,[(V.bool (decide (p<0))),(N p.natAbs),(V.int .i64 q),(V.bool (decide (r<0))),(N r.natAbs),(V.int .i64 t)]⟩]⟩)
def l16_CloseTT_0_J (_:Bool)(_:List Nat)(_:Int)(_:Bool)(_:List Nat)(_:Int)(_ _ _ _ _ _ _ _ _ _ _ _ _ _ _ _ _ _ _ _ _ _ _ _ _ _ _ _ _ _ _ _ _:Int)(y:Int):Prop:=y=y
abbrev l16_CloseTT_0_N (b1:Bool)(l1:List Nat)(e1:Int)(b2:Bool)(l2:List Nat)(e2:Int)(w m ee n f p q r t y0a y0b y0c y0d l0a l0b l0c l0d h0a h0b h0c h0d y1a y1b y1c y1d l1a l1b l1c l1d h1a h1b h1c h1d:Int):=NX (l16_CloseTT_0_mk b1 l1 e1 b2 l2 e2 w m ee n f p q r t y0a y0b y0c y0d l0a l0b l0c l0d h0a h0b h0c h0d y1a y1b y1c y1d l1a l1b l1c l1d h1a h1b h1c h1d) (l16_CloseTT_0_I b1 l1 e1 b2 l2 e2 w m ee n f p q r t y0a y0b y0c y0d l0a l0b l0c l0d h0a h0b h0c h0d y1a y1b y1c y1d l1a l1b l1c l1d h1a h1b h1c h1d) (l16_CloseTT_0_mu b1 l1 e1 b2 l2 e2 w m ee n f p q r t y0a y0b y0c y0d l0a l0b l0c l0d h0a h0b h0c h0d y1a y1b y1c y1d l1a l1b l1c l1d h1a h1b h1c h1d) (l16_CloseTT_0_ex b1 l1 e1 b2 l2 e2 w m ee n f p q r t y0a y0b y0c y0d l0a l0b l0c l0d h0a h0b h0c h0d y1a y1b y1c y1d l1a l1b l1c l1d h1a h1b h1c h1d) (l16_CloseTT_0_J b1 l1 e1 b2 l2 e2 w m ee n f p q r t y0a y0b y0c y0d l0a l0b l0c l0d h0a h0b h0c h0d y1a y1b y1c y1d l1a l1b l1c l1d h1a h1b h1c h1d)
theorem l16_CloseTT_0 (b1:Bool)(l1:List Nat)(e1:Int)(b2:Bool)(l2:List Nat)(e2:Int)(w m ee n f p q r t y0a y0b y0c y0d l0a l0b l0c l0d h0a h0b h0c h0d y1a y1b y1c y1d l1a l1b l1c l1d h1a h1b h1c h1d:Int)(c0:(-9223372036854775808:Int)≤w∧w≤9223372036854775807)(c1:Impl Tryz.prog Amb 12 [(.agg [(.bool b1),(.sl 1 (U l1)),(.int .i64 e1),(.bool b2),(.sl 1 (U l2)),(.int .i64 e2)]),(.int .i64 2),(.int .i64 50)] (.tup [(wV m ee n f),(.bool true)]))(c2:Impl Tryz.prog Amb 11 [] (.bool true))(c3:Impl Tryz.prog Amb 13 [(wV m ee n f),(.int .i64 30)] (wV p q r t))(c4:Impl Tryz.prog Amb 15 [(wV p q r t),(.int .i64 (w%120))] (.tup [(wV y0a y0b y0c y0d),(.int .i64 0)]))(c5:Impl Tryz.prog Amb 17 [(yV p q),(.int .i64 (w%120))] (wV l0a l0b l0c l0d))(c6:Impl Tryz.prog Amb 17 [(yV r t),(.int .i64 (w%120))] (wV h0a h0b h0c h0d))(c7:Impl Tryz.prog Amb 16 [(wV y0a y0b y0c y0d),(wV l0a l0b l0c l0d),(wV h0a h0b h0c h0d),(.int .i64 (w%120))] (.bool true))(c8:Impl Tryz.prog Amb 15 [(wV p q r t),(.int .i64 (w%4))] (.tup [(wV y1a y1b y1c y1d),(.int .i64 0)]))(c9:Impl Tryz.prog Amb 17 [(yV p q),(.int .i64 (w%4))] (wV l1a l1b l1c l1d))(c10:Impl Tryz.prog Amb 17 [(yV r t),(.int .i64 (w%4))] (wV h1a h1b h1c h1d))(c11:Impl Tryz.prog Amb 16 [(wV y1a y1b y1c y1d),(wV l1a l1b l1c l1d),(wV h1a h1b h1c h1d),(.int .i64 (w%4))] (.bool true))(x0:(Int)⊕((Int)⊕(Int)))(hI:l16_CloseTT_0_I b1 l1 e1 b2 l2 e2 w m ee n f p q r t y0a y0b y0c y0d l0a l0b l0c l0d h0a h0b h0c h0d y1a y1b y1c y1d l1a l1b l1c l1d h1a h1b h1c h1d x0):LoopOk Tryz.prog Amb (loopN Tryz.f3 0) (l16_CloseTT_0_mk b1 l1 e1 b2 l2 e2 w m ee n f p q r t y0a y0b y0c y0d l0a l0b l0c l0d h0a h0b h0c h0d y1a y1b y1c y1d l1a l1b l1c l1d h1a h1b h1c h1d x0) (fun e st_=>∃ y,l16_CloseTT_0_J b1 l1 e1 b2 l2 e2 w m ee n f p q r t y0a y0b y0c y0d l0a l0b l0c l0d h0a h0b h0c h0d y1a y1b y1c y1d l1a l1b l1c l1d h1a h1b h1c h1d y∧l16_CloseTT_0_ex b1 l1 e1 b2 l2 e2 w m ee n f p q r t y0a y0b y0c y0d l0a l0b l0c l0d h0a h0b h0c h0d y1a y1b y1c y1d l1a l1b l1c l1d h1a h1b h1c h1d y=(e,st_)) :=
 loop_ob hP hAmb ⟨[7,29,30,31],3,[]⟩ (l16_CloseTT_0_mk b1 l1 e1 b2 l2 e2 w m ee n f p q r t y0a y0b y0c y0d l0a l0b l0c l0d h0a h0b h0c h0d y1a y1b y1c y1d l1a l1b l1c l1d h1a h1b h1c h1d) (l16_CloseTT_0_I b1 l1 e1 b2 l2 e2 w m ee n f p q r t y0a y0b y0c y0d l0a l0b l0c l0d h0a h0b h0c h0d y1a y1b y1c y1d l1a l1b l1c l1d h1a h1b h1c h1d) (l16_CloseTT_0_mu b1 l1 e1 b2 l2 e2 w m ee n f p q r t y0a y0b y0c y0d l0a l0b l0c l0d h0a h0b h0c h0d y1a y1b y1c y1d l1a l1b l1c l1d h1a h1b h1c h1d) (l16_CloseTT_0_ex b1 l1 e1 b2 l2 e2 w m ee n f p q r t y0a y0b y0c y0d l0a l0b l0c l0d h0a h0b h0c h0d y1a y1b y1c y1d l1a l1b l1c l1d h1a h1b h1c h1d) (l16_CloseTT_0_J b1 l1 e1 b2 l2 e2 w m ee n f p q r t y0a y0b y0c y0d l0a l0b l0c l0d h0a h0b h0c h0d y1a y1b y1c y1d l1a l1b l1c l1d h1a h1b h1c h1d) x0 hI (Sum.elim (fun u=>.lits 6<|.call (.tup [(wV y0a y0b y0c y0d),(.int .i64 0)])<|.lits 10<|.call (wV l0a l0b l0c l0d)<|.lits 6<|.call (wV h0a h0b h0c h0d)<|.lits 3<|.call (.bool true)<|.lits 5<|.yes<|.fin3 ⟨[7,29,30,31],[0,1,2]⟩) (Sum.elim (fun u=>.lits 6<|.call (.tup [(wV y1a y1b y1c y1d),(.int .i64 0)])<|.lits 10<|.call (wV l1a l1b l1c l1d)<|.lits 6<|.call (wV h1a h1b h1c h1d)<|.lits 3<|.call (.bool true)<|.lits 5<|.yes<|.fin3 ⟨[7,29,30,31],[0,1,2]⟩) (fun u=>.lits 2<|.fin3 ⟨[],[0,1]⟩))) (by
  rintro (u | u | u) hI
  ·skip
   have hI:u=u:=hI
   have h1:=hI
   exact cast_ob (aI True.intro (aI (c4 ) (aI (c5 ) (aI (c6 ) (aI (c7 ) (aI tT (aI tT ((nx_next (Sum.inr (Sum.inl u)) (show u=u from rfl) (show 9-1<9-0 by omega):l16_CloseTT_0_N b1 l1 e1 b2 l2 e2 w m ee n f p q r t y0a y0b y0c y0d l0a l0b l0c l0d h0a h0b h0c h0d y1a y1b y1c y1d l1a l1b l1c l1d h1a h1b h1c h1d (Sum.inl u) .normal (l16_CloseTT_0_mk b1 l1 e1 b2 l2 e2 w m ee n f p q r t y0a y0b y0c y0d l0a l0b l0c l0d h0a h0b h0c h0d y1a y1b y1c y1d l1a l1b l1c l1d h1a h1b h1c h1d (Sum.inr (Sum.inl u)))))))))))) (by kernel_rfl)
  ·skip
   have hI:u=u:=hI
   have h1:=hI
   exact cast_ob (aI True.intro (aI (c8 ) (aI (c9 ) (aI (c10 ) (aI (c11 ) (aI tT (aI tT ((nx_next (Sum.inr (Sum.inr u)) (show u=u from rfl) (show 9-2<9-1 by omega):l16_CloseTT_0_N b1 l1 e1 b2 l2 e2 w m ee n f p q r t y0a y0b y0c y0d l0a l0b l0c l0d h0a h0b h0c h0d y1a y1b y1c y1d l1a l1b l1c l1d h1a h1b h1c h1d (Sum.inr (Sum.inl u)) .normal (l16_CloseTT_0_mk b1 l1 e1 b2 l2 e2 w m ee n f p q r t y0a y0b y0c y0d l0a l0b l0c l0d h0a h0b h0c h0d y1a y1b y1c y1d l1a l1b l1c l1d h1a h1b h1c h1d (Sum.inr (Sum.inr u)))))))))))) (by kernel_rfl)
  ·skip
   have hI:u=u:=hI
   have h1:=hI
   exact cast_ob (aI True.intro (aI tT ((nx_exit 0 ((l16_CloseTT_0_ex b1 l1 e1 b2 l2 e2 w m ee n f p q r t y0a y0b y0c y0d l0a l0b l0c l0d h0a h0b h0c h0d y1a y1b y1c y1d l1a l1b l1c l1d h1a h1b h1c h1d u).2) u (show u=u from rfl) rfl:l16_CloseTT_0_N b1 l1 e1 b2 l2 e2 w m ee n f p q r t y0a y0b y0c y0d l0a l0b l0c l0d h0a h0b h0c h0d y1a y1b y1c y1d l1a l1b l1c l1d h1a h1b h1c h1d (Sum.inr (Sum.inr u)) (.exit 0) ((l16_CloseTT_0_ex b1 l1 e1 b2 l2 e2 w m ee n f p q r t y0a y0b y0c y0d l0a l0b l0c l0d h0a h0b h0c h0d y1a y1b y1c y1d l1a l1b l1c l1d h1a h1b h1c h1d u).2))))) (by kernel_rfl))
theorem l16_CloseTT (b1:Bool)(l1:List Nat)(e1:Int)(b2:Bool)(l2:List Nat)(e2 w m ee n f p q r t y0a y0b y0c y0d l0a l0b l0c l0d h0a h0b h0c h0d y1a y1b y1c y1d l1a l1b l1c l1d h1a h1b h1c h1d:Int)(c0:(-9223372036854775808:Int)≤w∧w≤9223372036854775807)(c1:Impl Tryz.prog Amb 12 [(.agg [(.bool b1),(.sl 1 (U l1)),(.int .i64 e1),(.bool b2),(.sl 1 (U l2)),(.int .i64 e2)]),(.int .i64 2),(.int .i64 50)] (.tup [(wV m ee n f),(.bool true)]))(c2:Impl Tryz.prog Amb 11 [] (.bool true))(c3:Impl Tryz.prog Amb 13 [(wV m ee n f),(.int .i64 30)] (wV p q r t))(c4:Impl Tryz.prog Amb 15 [(wV p q r t),(.int .i64 (w%120))] (.tup [(wV y0a y0b y0c y0d),(.int .i64 0)]))(c5:Impl Tryz.prog Amb 17 [(yV p q),(.int .i64 (w%120))] (wV l0a l0b l0c l0d))(c6:Impl Tryz.prog Amb 17 [(yV r t),(.int .i64 (w%120))] (wV h0a h0b h0c h0d))(c7:Impl Tryz.prog Amb 16 [(wV y0a y0b y0c y0d),(wV l0a l0b l0c l0d),(wV h0a h0b h0c h0d),(.int .i64 (w%120))] (.bool true))(c8:Impl Tryz.prog Amb 15 [(wV p q r t),(.int .i64 (w%4))] (.tup [(wV y1a y1b y1c y1d),(.int .i64 0)]))(c9:Impl Tryz.prog Amb 17 [(yV p q),(.int .i64 (w%4))] (wV l1a l1b l1c l1d))(c10:Impl Tryz.prog Amb 17 [(yV r t),(.int .i64 (w%4))] (wV h1a h1b h1c h1d))(c11:Impl Tryz.prog Amb 16 [(wV y1a y1b y1c y1d),(wV l1a l1b l1c l1d),(wV h1a h1b h1c h1d),(.int .i64 (w%4))] (.bool true)):Impl Tryz.prog Amb 3 [(.agg [(.bool b1),(.sl 1 (U l1)),(.int .i64 e1),(.bool b2),(.sl 1 (U l2)),(.int .i64 e2)]),(.int .i64 w),(.bool true)] (.bool true):=by
 exact impl_ob hP hAmb Tryz.func3 (by kernel_rfl) (.lit<|.call (.bool true)<|.lits 4<|.call (.tup [(wV m ee n f),(.bool true)])<|.lits 6<|.call (wV p q r t)<|.lits 2<|.call (.int .i64 (w%120))<|.lit<|.call (.int .i64 (w%4))<|.loop ⟨[7,29,30,31],3,[]⟩ ((l16_CloseTT_0_mk b1 l1 e1 b2 l2 e2 w m ee n f p q r t y0a y0b y0c y0d l0a l0b l0c l0d h0a h0b h0c h0d y1a y1b y1c y1d l1a l1b l1c l1d h1a h1b h1c h1d (Sum.inl (0:Int)))) (Int) (l16_CloseTT_0_ex b1 l1 e1 b2 l2 e2 w m ee n f p q r t y0a y0b y0c y0d l0a l0b l0c l0d h0a h0b h0c h0d y1a y1b y1c y1d l1a l1b l1c l1d h1a h1b h1c h1d) (l16_CloseTT_0_J b1 l1 e1 b2 l2 e2 w m ee n f p q r t y0a y0b y0c y0d l0a l0b l0c l0d h0a h0b h0c h0d y1a y1b y1c y1d l1a l1b l1c l1d h1a h1b h1c h1d) (fun y=>.lit<|.ret))
  (cast_ob (aI True.intro (aI (c2 ) (aI (c1 ) (aI (c3 ) (aI (mill_Mod w 120 oS oS) (have f4:=Int.emod_lt_of_pos w (show (0:Int)<120 by first | omega | assumption);have f3:=Int.emod_nonneg w (show (120:Int)≠0 by first | omega | assumption);aI (mill_Mod w 4 oS oS) (have f2:=Int.emod_lt_of_pos w (show (0:Int)<4 by first | omega | assumption);have f1:=Int.emod_nonneg w (show (4:Int)≠0 by first | omega | assumption);aI tT (aI (rfl:(l16_CloseTT_0_mk b1 l1 e1 b2 l2 e2 w m ee n f p q r t y0a y0b y0c y0d l0a l0b l0c l0d h0a h0b h0c h0d y1a y1b y1c y1d l1a l1b l1c l1d h1a h1b h1c h1d (Sum.inl (0:Int)))=(l16_CloseTT_0_mk b1 l1 e1 b2 l2 e2 w m ee n f p q r t y0a y0b y0c y0d l0a l0b l0c l0d h0a h0b h0c h0d y1a y1b y1c y1d l1a l1b l1c l1d h1a h1b h1c h1d (Sum.inl (0:Int)))) (aI (l16_CloseTT_0 b1 l1 e1 b2 l2 e2 w m ee n f p q r t y0a y0b y0c y0d l0a l0b l0c l0d h0a h0b h0c h0d y1a y1b y1c y1d l1a l1b l1c l1d h1a h1b h1c h1d c0 c1 c2 c3 c4 c5 c6 c7 c8 c9 c10 c11 (Sum.inl (0:Int)) (show (0:Int)=(0:Int) from rfl)) (fun y (hJ:l16_CloseTT_0_J b1 l1 e1 b2 l2 e2 w m ee n f p q r t y0a y0b y0c y0d l0a l0b l0c l0d h0a h0b h0c h0d y1a y1b y1c y1d l1a l1b l1c l1d h1a h1b h1c h1d y)=>have hJ:y=y:=hJ;(vsub_refl (.bool true)))))))))))) (by kernel_rfl))
end Go.Proofs.YtkkbddkpggjgpaaGreatDoor

namespace Go.Proofs.YtkkbddkpggjgpaaGreatDoor
open Go.RowKit
set_option maxRecDepth 100000
set_option maxHeartbeats 4000000
theorem AT_00 (K:Nat):AT 0 K=0:=by
 rw[AT_p (show ¬ (0:Rat)<0 by grind),ATp_1 (show (0:Rat)≤1 by decide)]
 unfold AT0
 rw[if_pos (by grind),AL_zero]
theorem l16_00:mkM 0 0=0∧mkX 0 0=0:=⟨by kernel_rfl,by kernel_rfl⟩
theorem l16_awake:Impl Tryz.prog Amb 11 [] (.bool true):=by
 have y:=l16_of 0 0 oO oO
 rw[l16_00.1,l16_00.2] at y
 have z0:L (0:Int).natAbs=0:=L_zero
 obtain⟨l1,h1,l2,h2,hA,⟨e1,_,_⟩,⟨e2,_,_⟩,la,lb⟩:=at_AtanE 0 0 0 0 4 oO oO oO oO oO
 rw[dv_zero] at e1 e2
 have g:=gE_b
 have k1:l1≤0:=by
  obtain⟨N,e⟩:=e1
  have e:=(e N (Nat.le_refl _)).1
  rw[AT_00,Rat.zero_mul,Rat.zero_add] at e
  refine Decidable.byContradiction fun hn=>?_
  have:((1:Int):Rat)≤(l1:Rat):=Rat.intCast_le_intCast.2 oO
  rw[show ((1:Int):Rat)=1 from rfl] at this
  grind
 have k2:0≤h2:=by
  obtain⟨N,e⟩:=e2
  have e:=(e N (Nat.le_refl _)).2
  rw[AT_00,Rat.zero_mul] at e
  refine Decidable.byContradiction fun hn=>?_
  have:(h2:Rat)≤((-1:Int):Rat):=Rat.intCast_le_intCast.2 oO
  rw[show ((-1:Int):Rat)=-1 from rfl] at this
  grind
 have hH:=g_has l1 h2 0 4 oO oO oO oO oO oO
 exact l16_awake0 _ _ _ _ _ _ _ _ _ y hA (at_RecipB 1 5 oO oO oO oO) (r07_Of 0 oO) hH
theorem l16_ivE (b1:Bool)(l1:List Nat)(e1:Int)(b2:Bool)(l2:List Nat)(e2:Int)(c0:Dig l1)(c1:l1.length≤9223372036854775807)(c2:(-9223372036854775808:Int)≤e1∧e1≤9223372036854775807)(c3:Dig l2)(c4:l2.length≤9223372036854775807)(c5:(-9223372036854775808:Int)≤e2∧e2≤9223372036854775807):∃ (m ee n f:Int) (ok:Bool),Impl Tryz.prog Amb 12 [(.agg [(.bool b1),(.sl 1 (U l1)),(.int .i64 e1),(.bool b2),(.sl 1 (U l2)),(.int .i64 e2)]),(.int .i64 2),(.int .i64 50)] (.tup [(wV m ee n f),(.bool ok)])∧(L m.natAbs≤2∧L n.natAbs≤2)∧((-50≤ee∧ee≤114)∧(-50≤f∧f≤114))∧(vdb m ee=true∧vdb n f=true)∧(ok=true→dv m ee≤dv n f):=by
 have fa:=iv_fit (b:=b1) (e:=e1) (c:=b2) (f:=e2) (n:=2) (k:=50) c0 c3 oO oO
 have hi:=mill_Iv b1 l1 e1 b2 l2 e2 2 50 c0 c1 c3 c4 c2 c5 oO oO
 exact⟨_,_,_,_,_,hi,by omega,by omega,⟨fa.2.1,fa.2.2.1⟩,fun _=>fa.2.2.2⟩
theorem l16_round (p q r t k:Int)(h1:(L p.natAbs≤20∧(-3000≤q∧q≤2100)∧vdb p q=true))(h2:(L r.natAbs≤20∧(-3000≤t∧t≤2100)∧vdb r t=true))(ho:dv p q≤dv r t)(hk:0≤k∧k≤200):∃ ya yb yc yd la lb lc ld ha hb hc hd:Int,Impl Tryz.prog Amb 15 [(wV p q r t),(.int .i64 k)] (.tup [(wV ya yb yc yd),(.int .i64 0)])∧Impl Tryz.prog Amb 17 [(yV p q),(.int .i64 k)] (wV la lb lc ld)∧Impl Tryz.prog Amb 17 [(yV r t),(.int .i64 k)] (wV ha hb hc hd)∧Impl Tryz.prog Amb 16 [(wV ya yb yc yd),(wV la lb lc ld),(wV ha hb hc hd),(.int .i64 k)] (.bool true):=by
 obtain⟨l1,h1',l2,h2',hA,⟨e1,w1,_⟩,⟨e2,w2,_⟩,z1,z2⟩:=at_AtanE p q r t k oO oO oO oO oO
 obtain⟨a1,b1,hB,e3,z3,z4⟩:=r16_AtE p q k hk h1.1 h1.2.1 h1.2.2
 obtain⟨a2,b2,hC,e4,z5,z6⟩:=r16_AtE r t k hk h2.1 h2.2.1 h2.2.2
 obtain⟨n1,n2,n3,n4,n5⟩:=near_A oO ho w1 w2 e1 e2 e3 e4
 exact⟨_,_,_,_,_,_,_,_,_,_,_,_,hA,hB,hC,r13_Near l1 h2' a1 b1 a2 b2 k oO oO oO oO oO oO oO n1 n2 n3 n4 n5⟩
theorem l16_ArctangentClose (b1:Bool)(l1:List Nat)(e1:Int)(b2:Bool)(l2:List Nat)(e2 w:Int)(thin:Bool)(c0:Dig l1)(c1:l1.length≤9223372036854775807)(c2:(-9223372036854775808:Int)≤e1∧e1≤9223372036854775807)(c3:Dig l2)(c4:l2.length≤9223372036854775807)(c5:(-9223372036854775808:Int)≤e2∧e2≤9223372036854775807)(c6:(-9223372036854775808:Int)≤w∧w≤9223372036854775807):Impl Tryz.prog Amb 3 [(.agg [(.bool b1),(.sl 1 (U l1)),(.int .i64 e1),(.bool b2),(.sl 1 (U l2)),(.int .i64 e2)]),.int .i64 w,.bool thin] (.bool true):=by
 have w1120:=Int.emod_nonneg w (show (120:Int)≠0 by omega)
 have w2120:=Int.emod_lt_of_pos w (show (0:Int)<120 by omega)
 have w14:=Int.emod_nonneg w (show (4:Int)≠0 by omega)
 have w24:=Int.emod_lt_of_pos w (show (0:Int)<4 by omega)
 obtain⟨m,ee,n,f,ok,hA,⟨lm,ln⟩,⟨le,lf⟩,⟨v1,v2⟩,hok⟩:=l16_ivE b1 l1 e1 b2 l2 e2 c0 c1 c2 c3 c4 c5
 cases ok with
 | false =>
  cases thin with
  | false=>exact l16_CloseFF b1 l1 e1 b2 l2 e2 w m ee n f c6 hA l16_awake
  | true=>exact l16_CloseFT b1 l1 e1 b2 l2 e2 w m ee n f c6 hA l16_awake
 | true =>
  have ho:=hok rfl
  cases thin with
  | false =>
   obtain⟨_,_,_,_,_,_,_,_,_,_,_,_,x1,x2,x3,x4⟩:=l16_round m ee n f (w%120) ⟨by omega,by omega,v1⟩ ⟨by omega,by omega,v2⟩ ho oO
   obtain⟨_,_,_,_,_,_,_,_,_,_,_,_,y1,y2,y3,y4⟩:=l16_round m ee n f (w%4) ⟨by omega,by omega,v1⟩ ⟨by omega,by omega,v2⟩ ho oO
   exact l16_CloseTF b1 l1 e1 b2 l2 e2 w m ee n f _ _ _ _ _ _ _ _ _ _ _ _ _ _ _ _ _ _ _ _ _ _ _ _ c6 hA l16_awake x1 x2 x3 x4 y1 y2 y3 y4
  | true =>
   have hH:=mill_Thin m ee n f 30 oO oO oO oO oO
   have tf:=th_fit2 (m:=m) (e:=ee) (n:=n) (f:=f) (k:=30) oO oO oO oO oO v2 ho rfl rfl rfl rfl
   obtain⟨_,_,_,_,_,_,_,_,_,_,_,_,x1,x2,x3,x4⟩:=l16_round m ee _ _ (w%120) ⟨by omega,by omega,v1⟩ ⟨by omega,by omega,tf.2.1⟩ tf.2.2.1 oO
   obtain⟨_,_,_,_,_,_,_,_,_,_,_,_,y1,y2,y3,y4⟩:=l16_round m ee _ _ (w%4) ⟨by omega,by omega,v1⟩ ⟨by omega,by omega,tf.2.1⟩ tf.2.2.1 oO
   exact l16_CloseTT b1 l1 e1 b2 l2 e2 w m ee n f m ee _ _ _ _ _ _ _ _ _ _ _ _ _ _ _ _ _ _ _ _ _ _ _ _ _ _ c6 hA l16_awake hH x1 x2 x3 x4 y1 y2 y3 y4
end Go.Proofs.YtkkbddkpggjgpaaGreatDoor
