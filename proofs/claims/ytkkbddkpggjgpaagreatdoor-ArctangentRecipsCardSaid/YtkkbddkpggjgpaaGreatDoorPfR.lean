/-
  Lower layers: what functions of the program compute, and plain facts. Conditions: as the theorems say.
-/
import Derived.Test.YtkkbddkpggjgpaaGreatDoorPfQ
set_option linter.unusedVariables false
set_option linter.unusedSimpArgs false
namespace Go.Proofs.YtkkbddkpggjgpaaGreatDoor
theorem fl_R {a T:Int}(hT:0<T):((a / T:Int):Rat)*(T:Rat)≤(a:Rat)∧(a:Rat)<((a / T:Int):Rat)*(T:Rat)+(T:Rat):=by
 have h1:=Int.ediv_mul_le a (show T≠0 by omega)
 have h2:=Int.lt_ediv_add_one_mul_self a hT
 rw[Int.add_mul,Int.one_mul] at h2
 rw[← Rat.intCast_mul,← Rat.intCast_add,Rat.intCast_le_intCast,Rat.intCast_lt_intCast]
 exact⟨h1,h2⟩
theorem ce_R {a T:Int}(hT:0<T):(a:Rat)≤((-(-a / T):Int):Rat)*(T:Rat)∧((-(-a / T):Int):Rat)*(T:Rat)<(a:Rat)+(T:Rat):=by
 have h:=fl_R (a:=-a) hT
 rw[Rat.intCast_neg] at h ⊢
 constructor<;>grind
theorem pf_lo {a c T:Int}{y z:Rat}(hT:0<T)(ha:0≤a)(hc:0≤c)(h1:(a:Rat)≤y*T)(h2:(c:Rat)≤z*T):((a*c / T:Int):Rat)≤y*z*T:=by
 have T0:(0:Rat)<T:=Rat.intCast_pos.2 hT
 have a0:(0:Rat)≤a:=Rat.intCast_nonneg.2 ha
 have c0:(0:Rat)≤c:=Rat.intCast_nonneg.2 hc
 have f:=(fl_R (a:=a*c) hT).1
 rw[Rat.intCast_mul a c] at f
 have m1:=Rat.mul_le_mul_of_nonneg_right h1 c0
 have m2:=Rat.mul_le_mul_of_nonneg_left h2 (Rat.le_trans a0 h1)
 exact Rat.le_of_mul_le_mul_right (c:=(T:Rat)) (by grind) T0
theorem pf_hi {b d T:Int}{y z:Rat}(hT:0<T)(hy:0≤y)(hz:0≤z)(h1:y*T≤(b:Rat))(h2:z*T≤(d:Rat)):y*z*T≤((-(-(b*d) / T):Int):Rat):=by
 have T0:(0:Rat)<T:=Rat.intCast_pos.2 hT
 have y0:(0:Rat)≤y*T:=Rat.mul_nonneg hy (Rat.le_of_lt T0)
 have z0:(0:Rat)≤z*T:=Rat.mul_nonneg hz (Rat.le_of_lt T0)
 have f:=(ce_R (a:=b*d) hT).1
 rw[Rat.intCast_mul b d] at f
 have m1:=Rat.mul_le_mul_of_nonneg_right h1 z0
 have m2:=Rat.mul_le_mul_of_nonneg_left h2 (Rat.le_trans y0 h1)
 exact Rat.le_of_mul_le_mul_right (c:=(T:Rat)) (by grind) T0
theorem df_lo {a n:Int}{y:Rat}(hn:0<n)(h:(a:Rat)≤y):((a / n:Int):Rat)≤y / (n:Rat):=by
 have n0:(0:Rat)<n:=Rat.intCast_pos.2 hn
 have f:=(fl_R (a:=a) hn).1
 have e:=Rat.div_mul_cancel (a:=y) (b:=(n:Rat)) (by grind)
 exact Rat.le_of_mul_le_mul_right (c:=(n:Rat)) (by rw[e];exact Rat.le_trans f h) n0
theorem df_hi {b n:Int}{y:Rat}(hn:0<n)(h:y≤(b:Rat)):y / (n:Rat)≤((-(-b / n):Int):Rat):=by
 have n0:(0:Rat)<n:=Rat.intCast_pos.2 hn
 have f:=(ce_R (a:=b) hn).1
 have e:=Rat.div_mul_cancel (a:=y) (b:=(n:Rat)) (by grind)
 exact Rat.le_of_mul_le_mul_right (c:=(n:Rat)) (by rw[e];exact Rat.le_trans h f) n0
def odn (j:Nat):Int:=2*(j:Int)+1
theorem odn_pos (j:Nat):0<odn j:=by unfold odn;omega
theorem odd_succ (z:Rat)(k:Nat):z^(2*(k+1)+1)=z^(2*k+1)*(z*z):=by
 rw[show 2*(k+1)+1=2*k+1+1+1 by omega,Rat.pow_succ,Rat.pow_succ,Rat.mul_assoc]
theorem div_nn {y:Rat}{j:Nat}(h:0≤y):0≤y / (odn j:Rat)∧y / (odn j:Rat)≤y:=by
 have n0:(1:Rat)≤(odn j:Rat):=by rw[show (1:Rat)=((1:Int):Rat) from rfl,Rat.intCast_le_intCast];unfold odn;omega
 have e:=Rat.div_mul_cancel (a:=y) (b:=(odn j:Rat)) (by grind)
 have h0:0≤y / (odn j:Rat):=by
  rw[Rat.div_def]
  exact Rat.mul_nonneg h (Rat.le_of_lt (Rat.inv_pos.2 (by grind)))
 refine⟨h0,?_⟩
 have m:=Rat.mul_le_mul_of_nonneg_left n0 h0
 grind
theorem least {P:Nat→Prop}[DecidablePred P]:∀ {n:Nat},P n→∃ N,N≤n∧P N∧∀ j,j<N→¬ P j
 | 0,h=>⟨0,Nat.le_refl _,h,fun j hj=>by omega⟩
 | n+1,h=>by
  by_cases q:∃ m,m≤n∧P m
  ·obtain⟨m,hm,pm⟩:=q
   obtain⟨N,hN,pN,hj⟩:=least pm
   exact⟨N,by omega,pN,hj⟩
  ·exact⟨n+1,Nat.le_refl _,h,fun j hj pj=>q ⟨j,by omega,pj⟩⟩
def ptLo (a d:Int):Int:=((a.natAbs / d.toNat:Nat):Int)
def ptHi (b d:Int):Int:=((b.natAbs / d.toNat+(if b.natAbs%d.toNat=0 then 0 else 1):Nat):Int)
theorem ptLo_eq {a d:Int}(ha:0≤a)(hd:0<d):ptLo a d=a / d:=by
 unfold ptLo
 obtain⟨x,rfl⟩:=Int.eq_ofNat_of_zero_le ha
 obtain⟨y,rfl⟩:=Int.eq_ofNat_of_zero_le (show 0≤d by omega)
 simp
theorem ptHi_eq {b d : Int} (hb : 0 ≤ b) (hd : 0 < d) : ptHi b d = -(-b / d) := by
  unfold ptHi
  obtain ⟨x, rfl⟩ := Int.eq_ofNat_of_zero_le hb
  obtain ⟨y, rfl⟩ := Int.eq_ofNat_of_zero_le (show 0 ≤ d by omega)
  simp only [Int.natAbs_natCast, Int.toNat_natCast]
  have e := Nat.div_add_mod x y
  have l := Nat.mod_lt x (show 0 < y by omega)
  have key : ∀ q : Int, q * (y : Int) ≤ -(x : Int) → -(x : Int) < (q + 1) * (y : Int) → -(x : Int) / (y : Int) = q := by
    intro q h1 h2
    have a1 := Int.le_ediv_of_mul_le hd h1
    have a2 := Int.ediv_lt_of_lt_mul hd h2
    omega
  have ei : ((y : Int)) * ((x / y : Nat) : Int) + ((x % y : Nat) : Int) = (x : Int) := by
    have := congrArg (Nat.cast : Nat → Int) e
    push_cast at this ⊢
    exact this
  split
  · rename_i h0
    rw [key (-((x / y : Nat) : Int)) (by rw [h0] at ei; grind) (by rw [h0] at ei; grind)]
    omega
  · rename_i h0
    rw [key (-((x / y : Nat) : Int) - 1) (by have : ((x % y : Nat) : Int) ≤ y := by omega
                                             grind) (by have : (0 : Int) < ((x % y : Nat) : Int) := by omega
                                                        grind)]
    omega
def arP (T q1 q2 x1 x2:Int):Nat→Int × Int
 | 0=>(x1,x2)
 | j+1=>((arP T q1 q2 x1 x2 j).1*q1 / T,-(-((arP T q1 q2 x1 x2 j).2*q2) / T))
def arA (T q1 q2 x1 x2:Int):Nat→Int × Int
 | 0=>(x1,x2)
 | j+1=>((arA T q1 q2 x1 x2 j).1+ptLo (arP T q1 q2 x1 x2 (j+1)).1 (odn (j+1)),(arA T q1 q2 x1 x2 j).2+ptHi (arP T q1 q2 x1 x2 (j+1)).2 (odn (j+1)))
theorem ar_w {T p1 p2 q1 q2 D:Int}(hT:0<T)(h1:0≤p2)(h2:2*p2≤T)(h3:q2-q1≤D+2)(hD:0≤D)(h4:0≤q1)(h5:4*q1≤T)(h6:p2-p1≤D+6):-(-(p2*q2) / T)-p1*q1 / T≤D+6:=by
 have f1:=Int.lt_ediv_add_one_mul_self (p1*q1) hT
 have f2:=Int.lt_ediv_add_one_mul_self (-(p2*q2)) hT
 generalize p1*q1 / T=u at *
 generalize -(p2*q2) / T=v at *
 have m1:=Int.mul_le_mul_of_nonneg_left h3 h1
 have m2:=Int.mul_le_mul_of_nonneg_right h2 (show 0≤D+2 by omega)
 have m3:=Int.mul_le_mul_of_nonneg_right h6 h4
 have m4:=Int.mul_le_mul_of_nonneg_left h5 (show 0≤D+6 by omega)
 have m6:=Int.mul_nonneg hD (show 0≤T by omega)
 refine Decidable.byContradiction fun hn=>?_
 have m5:=Int.mul_le_mul_of_nonneg_right (show D+7≤-v-u by omega) (show 0≤T by omega)
 grind
theorem ar_q {T x1 x2:Int}(hT:0<T)(h1:0≤x1)(h2:x1≤x2)(h3:2*x2≤T) :
  0≤x1*x1 / T∧4*(x1*x1 / T)≤T∧-(-(x2*x2) / T)-x1*x1 / T≤(x2-x1)+2∧0≤-(-(x2*x2) / T)∧4*-(-(x2*x2) / T)≤T+3:=by
 have f0:=Int.ediv_mul_le (x1*x1) (show T≠0 by omega)
 have f1:=Int.lt_ediv_add_one_mul_self (x1*x1) hT
 have f2:=Int.lt_ediv_add_one_mul_self (-(x2*x2)) hT
 have f3:=Int.ediv_mul_le (-(x2*x2)) (show T≠0 by omega)
 have n1:=Int.ediv_nonneg (Int.mul_nonneg h1 h1) (show 0≤T by omega)
 have n2:=Int.mul_nonneg (show 0≤x2 by omega) (show 0≤x2 by omega)
 generalize x1*x1 / T=u at *
 generalize -(x2*x2) / T=v at *
 have s1:=Int.mul_le_mul_of_nonneg_left (show x1≤x2 by omega) h1
 have s2:=Int.mul_le_mul_of_nonneg_right (show x1≤x2 by omega) (show 0≤x2 by omega)
 have s3:=Int.mul_le_mul_of_nonneg_left h3 (show 0≤x2 by omega)
 have s4:=Int.mul_le_mul_of_nonneg_right h3 (show 0≤T by omega)
 refine⟨n1,?_,?_,?_,?_⟩
 ·refine Decidable.byContradiction fun hn=>?_
  have m:=Int.mul_le_mul_of_nonneg_right (show T+1≤4*u by omega) (show 0≤T by omega)
  grind
 ·refine Decidable.byContradiction fun hn=>?_
  have m:=Int.mul_le_mul_of_nonneg_right (show (x2-x1)+3≤-v-u by omega) (show 0≤T by omega)
  have k:=Int.mul_le_mul_of_nonneg_left (show x1+x2≤T by omega) (show 0≤x2-x1 by omega)
  grind
 ·refine Decidable.byContradiction fun hn=>?_
  have m:=Int.mul_le_mul_of_nonneg_right (show 1≤v by omega) (show 0≤T by omega)
  grind
 ·refine Decidable.byContradiction fun hn=>?_
  have m:=Int.mul_le_mul_of_nonneg_right (show T+4≤4*-v by omega) (show 0≤T by omega)
  grind
theorem ar_p {T p2 q2:Int}(hT:0<T)(h1:0≤p2)(h2:2*p2≤T)(h4:0≤q2)(h5:4*q2≤T+3):0≤-(-(p2*q2) / T)∧4*-(-(p2*q2) / T)≤p2+5:=by
 have f2:=Int.lt_ediv_add_one_mul_self (-(p2*q2)) hT
 have f3:=Int.ediv_mul_le (-(p2*q2)) (show T≠0 by omega)
 have n2:=Int.mul_nonneg h1 h4
 generalize -(p2*q2) / T=v at *
 have m1:=Int.mul_le_mul_of_nonneg_left h5 h1
 refine⟨?_,?_⟩
 ·refine Decidable.byContradiction fun hn=>?_
  have m:=Int.mul_le_mul_of_nonneg_right (show 1≤v by omega) (show 0≤T by omega)
  grind
 ·refine Decidable.byContradiction fun hn=>?_
  have m:=Int.mul_le_mul_of_nonneg_right (show p2+6≤4*-v by omega) (show 0≤T by omega)
  grind
structure ArH (T x1 x2:Int):Prop where
 hT:8≤T
 h1:0≤x1
 h2:x1≤x2
 h3:2*x2≤T
def arQ1 (T x1:Int):Int:=x1*x1 / T
def arQ2 (T x2:Int):Int:=-(-(x2*x2) / T)
abbrev aP (T x1 x2:Int)(j:Nat):Int × Int:=arP T (arQ1 T x1) (arQ2 T x2) x1 x2 j
abbrev aA (T x1 x2:Int)(j:Nat):Int × Int:=arA T (arQ1 T x1) (arQ2 T x2) x1 x2 j
theorem aP_facts {T x1 x2:Int}(h:ArH T x1 x2):∀ j,0≤(aP T x1 x2 j).1∧0≤(aP T x1 x2 j).2∧2*(aP T x1 x2 j).2≤T∧(aP T x1 x2 j).2-(aP T x1 x2 j).1≤(x2-x1)+6
 | 0=>⟨h.h1,by have:=h.h1;have:=h.h2;show 0≤x2;omega,h.h3,by show x2-x1≤_;omega⟩
 | j+1=>by
  obtain⟨a1,a2,a3,a4⟩:=aP_facts h j
  have hT:=h.hT
  obtain⟨q1,q2,q3,q4,q5⟩:=ar_q (T:=T) (by omega) h.h1 h.h2 h.h3
  have p:=ar_p (T:=T) (by omega) a2 a3 q4 q5
  have w:=ar_w (T:=T) (D:=x2-x1) (by omega) a2 a3 q3 (by have:=h.h2;omega) q1 q2 a4
  have n:=Int.ediv_nonneg (Int.mul_nonneg a1 q1) (show 0≤T by omega)
  exact⟨n,p.1,by have:=p.2;show 2*(-(-((aP T x1 x2 j).2*-(-(x2*x2) / T)) / T))≤T;omega,w⟩
theorem aP_step {T x1 x2:Int}(h:ArH T x1 x2)(j:Nat):4*(aP T x1 x2 (j+1)).2≤(aP T x1 x2 j).2+5:=by
 obtain⟨a1,a2,a3,a4⟩:=aP_facts h j
 have hT:=h.hT
 obtain⟨q1,q2,q3,q4,q5⟩:=ar_q (T:=T) (by omega) h.h1 h.h2 h.h3
 exact (ar_p (T:=T) (by omega) a2 a3 q4 q5).2
theorem aP_small {t:Nat}{x1 x2:Int}(h:ArH (2^t) x1 x2):∃ N,N≤t∧(aP (2^t) x1 x2 N).2<8∧∀ j,j<N→¬ (aP (2^t) x1 x2 j).2<8:=by
 by_cases q:∃ m,m≤t∧(aP (2^t) x1 x2 m).2<8
 ·obtain⟨m,hm,pm⟩:=q
  obtain⟨N,hN,r⟩:=least (P:=fun m=>(aP (2^t) x1 x2 m).2<8) pm
  exact⟨N,by omega,r⟩
 ·have key:∀ j,j≤t→(aP (2^t) x1 x2 j).2*2^j≤2^t:=by
   intro j
   induction j with
   | zero=>intro _;have:=h.h3;have:=h.h1;have:=h.h2;show x2*1≤_;omega
   | succ j ih =>
    intro hj
    have i:=ih (by omega)
    have s:=aP_step h j
    have b:¬ (aP (2^t) x1 x2 j).2<8:=fun hb=>q ⟨j,by omega,hb⟩
    have m:=Int.mul_le_mul_of_nonneg_right (show 2*(aP (2^t) x1 x2 (j+1)).2≤(aP (2^t) x1 x2 j).2 by omega) (show (0:Int)≤2^j from Int.le_of_lt (two_pos j))
    rw[Int.pow_succ]
    grind
  have k:=key t (Nat.le_refl _)
  have b:¬ (aP (2^t) x1 x2 t).2<8:=fun hb=>q ⟨t,Nat.le_refl _,hb⟩
  have m:=Int.mul_le_mul_of_nonneg_right (show 8≤(aP (2^t) x1 x2 t).2 by omega) (show (0:Int)≤2^t from Int.le_of_lt (two_pos t))
  have:=two_pos t
  omega
theorem aP_enc {T x1 x2:Int}{X:Rat}(h:ArH T x1 x2)(e1:(x1:Rat)≤X*T)(e2:X*T≤(x2:Rat)):∀ j,((aP T x1 x2 j).1:Rat)≤X^(2*j+1)*T∧X^(2*j+1)*T≤((aP T x1 x2 j).2:Rat)
 | 0=>by
  rw[show X^(2*0+1)=X by rw[Rat.pow_succ,Rat.pow_zero,Rat.one_mul]]
  exact⟨e1,e2⟩
 | j+1=>by
  have hT:=h.hT
  have T0:(0:Rat)<T:=Rat.intCast_pos.2 (by omega)
  have X0:0≤X:=by
   have:(0:Rat)*T≤X*T:=by rw[Rat.zero_mul];exact Rat.le_trans (Rat.intCast_nonneg.2 h.h1) e1
   exact Rat.le_of_mul_le_mul_right this T0
  have i:=aP_enc h e1 e2 j
  obtain⟨a1,a2,a3,a4⟩:=aP_facts h j
  obtain⟨q1,q2,q3,q4,q5⟩:=ar_q (T:=T) (by omega) h.h1 h.h2 h.h3
  have s1:=pf_lo (T:=T) (by omega) h.h1 h.h1 e1 e1
  have s2:=pf_hi (T:=T) (by omega) X0 X0 e2 e2
  rw[odd_succ]
  exact⟨pf_lo (by omega) a1 q1 i.1 s1,pf_hi (by omega) (Rat.pow_nonneg X0) (Rat.mul_nonneg X0 X0) i.2 s2⟩
end Go.Proofs.YtkkbddkpggjgpaaGreatDoor

namespace Go.Proofs.YtkkbddkpggjgpaaGreatDoor
theorem dv_sc (x:Int)(t:Nat):dv x (-(t:Int))*((2^t:Int):Rat)=(x:Rat):=by
 have e:((2^t:Int):Rat)=(2:Rat)^(t:Int):=(zp_nat t).symm
 unfold dv
 rw[e,Rat.mul_assoc,Rat.mul_comm ((2:Rat)^(-(t:Int))),zp_cancel,Rat.mul_one]
theorem flr_sc (r:Rat)(t:Nat):((flr r t:Int):Rat)≤r*((2^t:Int):Rat)∧r*((2^t:Int):Rat)<((flr r t:Int):Rat)+1:=by
 have T0:(0:Rat)<((2^t:Int):Rat):=Rat.intCast_pos.2 (two_pos t)
 have a:=Rat.mul_le_mul_of_nonneg_right (flr_le r t) (Rat.le_of_lt T0)
 have b:=Rat.mul_lt_mul_of_pos_right (flr_lt r t) T0
 rw[dv_sc] at a b
 rw[Rat.intCast_add] at b
 exact⟨a,b⟩
theorem cei_sc (r:Rat)(t:Nat):r*((2^t:Int):Rat)≤((cei r t:Int):Rat)∧((cei r t:Int):Rat)<r*((2^t:Int):Rat)+1:=by
 have h:=flr_sc (-r) t
 unfold cei
 rw[Rat.intCast_neg]
 constructor<;>grind
theorem flr_cei1 (r:Rat)(t:Nat):cei r t≤flr r t+1∧flr r t≤cei r t:=by
 have a:=flr_sc r t
 have b:=cei_sc r t
 constructor
 ·refine Decidable.byContradiction fun hn=>?_
  have:((flr r t+2:Int):Rat)≤((cei r t:Int):Rat):=Rat.intCast_le_intCast.2 (by omega)
  rw[Rat.intCast_add,show ((2:Int):Rat)=2 from rfl] at this
  grind
 ·refine Rat.intCast_le_intCast.1 ?_
  grind
structure LnH (T:Int) (M Z:Rat) (d1 d2 xa xb:Int):Prop where
 hT:256≤T
 m1:3≤4*M
 m2:2*M≤3
 xa1:(xa:Rat)≤M*(T:Rat)
 xb1:M*(T:Rat)≤(xb:Rat)
 x2:xb≤xa+1
 d0:0≤d1
 d3:d2≤d1+1
 z0:0≤Z
 z2:2*(Z*(M+1))≤1
 dz1:(d1:Rat)≤Z*(M+1)*(T:Rat)
 dz2:Z*(M+1)*(T:Rat)≤(d2:Rat)
end Go.Proofs.YtkkbddkpggjgpaaGreatDoor

namespace Go.Proofs.YtkkbddkpggjgpaaGreatDoor
def ovLo (a b n:Int):Int:=Int.fdiv (min a b) n
def ovHi (a b n:Int):Int:=-(Int.fdiv (-(max a b)) n)
structure RrH (v:Nat) (x1 x2:Int):Prop where
 hv:8≤v
 h1:x1.natAbs≤2^(v-1)
 h2:x2.natAbs≤2^(v-1)
theorem ov_in {a b n:Int}{y:Rat}(hn:0<n)(h1:(a:Rat)≤y)(h2:y≤(b:Rat)):((ovLo a b n:Int):Rat)≤y / (n:Rat)∧y / (n:Rat)≤((ovHi a b n:Int):Rat):=by
 unfold ovLo ovHi
 rw[Int.fdiv_eq_ediv_of_nonneg _ (show 0≤n by omega),Int.fdiv_eq_ediv_of_nonneg _ (show 0≤n by omega)]
 constructor
 ·exact df_lo hn (Rat.le_trans (Rat.intCast_le_intCast.2 (show min a b≤a by omega)) h1)
 ·exact df_hi hn (Rat.le_trans h2 (Rat.intCast_le_intCast.2 (show b≤max a b by omega)))
end Go.Proofs.YtkkbddkpggjgpaaGreatDoor

namespace Go.Proofs.YtkkbddkpggjgpaaGreatDoor
theorem of_ge {m e s:Int}(h:0≤e+s):m*2^(e+s).toNat=flr (dv m e) s∧m*2^(e+s).toNat=cei (dv m e) s:=by
 have a:flr (dv m e) s=m*2^(e+s).toNat:=by rw[flr_dv,if_pos h]
 have b:flr (dv (-m) e) s=-m*2^(e+s).toNat:=by rw[flr_dv,if_pos h]
 refine⟨a.symm,?_⟩
 unfold cei
 rw[← dv_neg,b,Int.neg_mul,Int.neg_neg]
theorem of_lt {m e s:Int}(h:e+s<0):m / 2^(0-(e+s)).toNat=flr (dv m e) s∧-(-m / 2^(0-(e+s)).toNat)=cei (dv m e) s:=by
 have a:flr (dv m e) s=m / 2^(-(e+s)).toNat:=by rw[flr_dv,if_neg (by omega)]
 have b:flr (dv (-m) e) s=-m / 2^(-(e+s)).toNat:=by rw[flr_dv,if_neg (by omega)]
 rw[show (0:Int)-(e+s)=-(e+s) by omega]
 refine⟨a.symm,?_⟩
 unfold cei
 rw[← dv_neg,b]
theorem half_enc {a b:Int}{X:Rat}{t s n:Nat}(h:t=s+n)(h1:(a:Rat)≤X*((2^t:Int):Rat))(h2:X*((2^t:Int):Rat)≤(b:Rat)) :
  ((a / 2^n:Int):Rat)≤X*((2^s:Int):Rat)∧X*((2^s:Int):Rat)≤((-(-b / 2^n):Int):Rat):=by
 have n0:(0:Rat)<((2^n:Int):Rat):=Rat.intCast_pos.2 (two_pos n)
 have e:((2^t:Int):Rat)=((2^s:Int):Rat)*((2^n:Int):Rat):=by rw[h,Int.pow_add,Rat.intCast_mul]
 rw[e,← Rat.mul_assoc] at h1 h2
 have f:=(fl_R (a:=a) (two_pos n)).1
 have g:=(ce_R (a:=b) (two_pos n)).1
 exact⟨Rat.le_of_mul_le_mul_right (Rat.le_trans f h1) n0,Rat.le_of_mul_le_mul_right (Rat.le_trans h2 g) n0⟩
theorem half_w {a b W:Int}{n:Nat}(h:b-a≤W*2^n):-(-b / 2^n)-a / 2^n≤W+1:=by
 have n0:=two_pos n
 have f1:=Int.lt_ediv_add_one_mul_self a n0
 have f2:=Int.lt_ediv_add_one_mul_self (-b) n0
 generalize a / 2^n=u at *
 generalize -b / 2^n=v at *
 generalize (2:Int)^n=T at *
 refine Decidable.byContradiction fun hn=>?_
 have m:=Int.mul_le_mul_of_nonneg_right (show W+2≤-v-u by omega) (show 0≤T by omega)
 grind
theorem cl_sc {x:Int}{t:Nat}{P:Int}(ht:t≤430):(x*2^(430-t)≤P→(x:Rat)≤dv P (-430)*((2^t:Int):Rat))∧(P≤x*2^(430-t)→dv P (-430)*((2^t:Int):Rat)≤(x:Rat)):=by
 have T0:(0:Rat)<((2^t:Int):Rat):=Rat.intCast_pos.2 (two_pos t)
 have e:dv (x*2^(430-t)) (-430)*((2^t:Int):Rat)=(x:Rat):=by
  rw[dv_shl,show (-430:Int)+((430-t:Nat):Int)=-(t:Int) by omega,dv_sc]
 constructor
 ·intro h
  have a:=Rat.mul_le_mul_of_nonneg_right ((dv_le (c:=-430)).2 h) (Rat.le_of_lt T0)
  rwa [e] at a
 ·intro h
  have a:=Rat.mul_le_mul_of_nonneg_right ((dv_le (c:=-430)).2 h) (Rat.le_of_lt T0)
  rwa [e] at a
def Encl (f:Nat→Rat)(s:Nat)(lo hi:Int):Prop:=∃ N,∀ K,N≤K→(lo:Rat)≤f K*((2^s:Int):Rat)∧f K*((2^s:Int):Rat)≤(hi:Rat)
theorem Encl.half {f:Nat→Rat}{t s n:Nat}{a b:Int}(h:Encl f t a b)(e:t=s+n):Encl f s (a / 2^n) (-(-b / 2^n)):=by
 obtain⟨N,h⟩:=h
 exact⟨N,fun K hK=>half_enc e (h K hK).1 (h K hK).2⟩
theorem Encl.le {f:Nat→Rat}{s:Nat}{a b:Int}(h:Encl f s a b):a≤b:=by
 obtain⟨N,h⟩:=h
 exact Rat.intCast_le_intCast.1 (Rat.le_trans (h N (Nat.le_refl _)).1 (h N (Nat.le_refl _)).2)
theorem Encl.meet {f:Nat→Rat}{s n:Nat}{a b c d:Int}(h:Encl f s a b)(k:Encl f (s+n) c d):a*2^n≤d∧c≤b*2^n:=by
 obtain⟨N,h⟩:=h
 obtain⟨N',k⟩:=k
 have x:=h (N+N') (by omega)
 have y:=k (N+N') (by omega)
 have n0:(0:Rat)<((2^n:Int):Rat):=Rat.intCast_pos.2 (two_pos n)
 rw[Int.pow_add,Rat.intCast_mul,← Rat.mul_assoc] at y
 have m1:=Rat.mul_le_mul_of_nonneg_right x.1 (Rat.le_of_lt n0)
 have m2:=Rat.mul_le_mul_of_nonneg_right x.2 (Rat.le_of_lt n0)
 rw[← Rat.intCast_mul] at m1 m2
 exact⟨Rat.intCast_le_intCast.1 (Rat.le_trans m1 y.2),Rat.intCast_le_intCast.1 (Rat.le_trans y.1 m2)⟩
theorem cmpI_le (x y:Int):cmpI x y≤0↔x≤y:=by unfold cmpI;split<;>(try split)<;>omega
theorem Sp_of {a b c d:Int}(h1:a=c)(h2:b=d):vsub (.agg [.bool (decide (a<0)),N a.natAbs,.bool (decide (b<0)),N b.natAbs]) (.agg [.bool (decide (c<0)),N c.natAbs,.bool (decide (d<0)),N d.natAbs]):=by
 subst h1;subst h2;exact vsub_refl _
theorem pt_hi1 {b d:Int}(h:((b.natAbs%d.toNat:Nat):Int)≠0):sgn false (b.natAbs / d.toNat+(1:Int).toNat)=ptHi b d:=by
 unfold ptHi
 rw[if_neg (by omega)];rfl
theorem pt_hi2 {b d:Int}(h:((b.natAbs%d.toNat:Nat):Int)=0):sgn false (b.natAbs / d.toNat)=ptHi b d:=by
 unfold ptHi
 rw[if_pos (by omega)];rfl
theorem tiny_8 {b:Int}:iLe (nbits b.natAbs:Int) 3=decide (b.natAbs<8):=by
 unfold iLe
 have h:(nbits b.natAbs:Int)≤3↔b.natAbs<8:=by
  constructor
  ·intro h
   have l:=nbits_lt b.natAbs
   have:=Nat.pow_le_pow_right (n:=2) (by omega) (show nbits b.natAbs≤3 by omega)
   omega
  ·intro h
   have:=nbits_of_lt (x:=b.natAbs) (k:=3) (by omega)
   omega
 exact decide_eq_decide.2 h
end Go.Proofs.YtkkbddkpggjgpaaGreatDoor

namespace Go.Proofs.YtkkbddkpggjgpaaGreatDoor
open Go.RowKit
set_option maxRecDepth 100000
theorem fx_One (s:Int)(c0:(0:Int)≤s∧s≤20000):Impl Tryz.prog Amb 174 [(.int .i64 s)] (sV ((1:Int)*2^(s).toNat) ((1:Int)*2^(s).toNat)):=by
 exact impl_ob hP hAmb Tryz.func174 (by kernel_rfl) (.lit<|.call (zV (1:Int))<|.lit<|.call (zV ((1:Int)*2^(s).toNat))<|.lit<|.call (sV ((1:Int)*2^(s).toNat) ((1:Int)*2^(s).toNat))<|.lits 2<|.ret)
  (cast_ob (aI True.intro (aI (int_Of 1 oO) (have f2:=(L_i64 oO:L (1:Int).natAbs≤2);aI (int_Shl (1:Int) s oO oO) (have f1:=L_abs_shl (1:Int) (s).toNat;aI (fx_Exact ((1:Int)*2^(s).toNat) oO) ((vsub_refl (sV ((1:Int)*2^(s).toNat) ((1:Int)*2^(s).toNat)))))))) (by kernel_rfl))
theorem fx_Of (m e s:Int)(c0:L (m).natAbs≤8192)(c1:(-200000:Int)≤e∧e≤200000)(c2:(0:Int)≤s∧s≤20000):Impl Tryz.prog Amb 173 [(yV m e),(.int .i64 s)] (sV (flr (dv m e) s) (cei (dv m e) s)):=by
 exact impl_ob hP hAmb Tryz.func173 (by kernel_rfl) (.lits 2<|.yes<|.lit<|.both (.lits 2<|.call (zV (m*2^((e+s)).toNat))<|.lit<|.call (sV (m*2^((e+s)).toNat) (m*2^((e+s)).toNat))<|.lits 2<|.ret) (.lits 2<|.call (sV m m)<|.lit<|.yes<|.lit<|.call (sV (m / 2^(((0:Int)-(e+s))).toNat) (-(-m / 2^(((0:Int)-(e+s))).toNat)))<|.lits 2<|.ret))
  (cast_ob (aI True.intro (aI (fits_i64 oO:(fits .i64 (e+s))=true) (aI (fun (h1:(iGe (e+s) 0)=true)=>have _gh1:=iGe_t h1;aI (int_Shl m (e+s) oO oO) (have f2:=L_abs_shl m ((e+s)).toNat;aI (fx_Exact (m*2^((e+s)).toNat) oO) ((by rw[← (of_ge (m:=m) (e:=e) (s:=s) oO).1,← (of_ge (m:=m) (e:=e) (s:=s) oO).2];exact vsub_refl _:vsub (sV (m*2^((e+s)).toNat) (m*2^((e+s)).toNat)) (sV (flr (dv m e) s) (cei (dv m e) s)))))) (fun (h3:(iGe (e+s) 0)=false)=>have _gh3:=iGe_f h3;aI (fx_Exact m oO) (aI (fits_i64 oO:(fits .i64 ((0:Int)-(e+s)))=true) (aI (fx_Half m m ((0:Int)-(e+s)) oO oO oO) (have f7:=L_abs_neg (-m / 2^(((0:Int)-(e+s))).toNat);have f6:=L_abs_shr (-m) (((0:Int)-(e+s))).toNat;have f5:=L_abs_neg m;have f4:=L_abs_shr m (((0:Int)-(e+s))).toNat;(by rw[← (of_lt (m:=m) (e:=e) (s:=s) oO).1,← (of_lt (m:=m) (e:=e) (s:=s) oO).2];exact vsub_refl _:vsub (sV (m / 2^(((0:Int)-(e+s))).toNat) (-(-m / 2^(((0:Int)-(e+s))).toNat))) (sV (flr (dv m e) s) (cei (dv m e) s)))))))))) (by kernel_rfl))
theorem fx_Twice (a b n:Int)(c0:L (a).natAbs≤65536)(c1:L (b).natAbs≤65536)(c2:(0:Int)≤n∧n≤20000):Impl Tryz.prog Amb 189 [(sV a b),(.int .i64 n)] (sV (a*2^(n).toNat) (b*2^(n).toNat)):=by
 exact impl_ob hP hAmb Tryz.func189 (by kernel_rfl) (.lits 2<|.call (zV (a*2^(n).toNat))<|.lits 2<|.call (zV (b*2^(n).toNat))<|.lits 3<|.ret)
  (cast_ob (aI True.intro (aI (int_Shl a n oO oO) (have f2:=L_abs_shl a (n).toNat;aI (int_Shl b n oO oO) (have f1:=L_abs_shl b (n).toNat;(vsub_refl (sV (a*2^(n).toNat) (b*2^(n).toNat))))))) (by kernel_rfl))
theorem fx_Mul (a b c d s:Int)(c0:L (a).natAbs≤8192)(c1:L (b).natAbs≤8192)(c2:L (c).natAbs≤8192)(c3:L (d).natAbs≤8192)(c4:(0:Int)≤s∧s≤20000):Impl Tryz.prog Amb 210 [(sV a b),(sV c d),(.int .i64 s)] (sV (a*c / 2^(s).toNat) (-(-(b*d) / 2^(s).toNat))):=by
 exact impl_ob hP hAmb Tryz.func210 (by kernel_rfl) (.lits 3<|.call (zV (a*c))<|.lit<|.call (zV ((a*c) / 2^(s).toNat))<|.lits 3<|.call (zV (b*d))<|.lit<|.call (zV (-(-(b*d) / 2^(s).toNat)))<|.lits 3<|.ret)
  (cast_ob (aI True.intro (aI (int_Mul a c oO oO) (have f6:=L_abs_mul a c;aI (int_Shr (a*c) s oO oO) (have f5:=L_abs_shr (a*c) (s).toNat;aI (int_Mul b d oO oO) (have f4:=L_abs_mul b d;aI (fx_up (b*d) s oO oO) (have f3:=L_abs_neg (-(b*d) / 2^(s).toNat);have f2:=L_abs_shr (-(b*d)) (s).toNat;have f1:=L_abs_neg (b*d);(vsub_of (by first | rfl | simp_all):vsub (sV ((a*c) / 2^(s).toNat) (-(-(b*d) / 2^(s).toNat))) (sV (a*c / 2^(s).toNat) (-(-(b*d) / 2^(s).toNat)))))))))) (by kernel_rfl))
theorem fx_Part (a b d:Int)(c0:L (a).natAbs≤65536)(c1:L (b).natAbs≤65536)(c2:(0:Int)<d∧d<4294967296):Impl Tryz.prog Amb 213 [(sV a b),(.int .u32 d)] (sV (ptLo a d) (ptHi b d)):=by
 have z1:=L_lit 1 (by decide)
 exact impl_ob hP hAmb Tryz.func213 (by kernel_rfl) (.lits 2<|.call (.tup [(N (a.natAbs / (d).toNat)),(.int .u32 ((a.natAbs%(d).toNat:Nat):Int)),(.bool true)])<|.lits 2<|.call (.tup [(N (b.natAbs / (d).toNat)),(.int .u32 ((b.natAbs%(d).toNat:Nat):Int)),(.bool true)])<|.lit<|.both (.lit<|.call (N 1)<|.lit<|.call (N ((b.natAbs / (d).toNat)+1))<|.lit<|.call (zV (sgn false (a.natAbs / (d).toNat)))<|.lit<|.call (zV (sgn false ((b.natAbs / (d).toNat)+1)))<|.lits 3<|.ret) (.lit<|.call (zV (sgn false (a.natAbs / (d).toNat)))<|.lit<|.call (zV (sgn false (b.natAbs / (d).toNat)))<|.lits 3<|.ret))
  (cast_ob (aI True.intro (aI (quot_SmallI a.natAbs d oO oO) (have f9:=L_div a.natAbs (d).toNat;aI (quot_SmallI b.natAbs d oO oO) (have f8:=L_div b.natAbs (d).toNat;aI (fun (h1:(iNe ((b.natAbs%(d).toNat:Nat):Int) 0)=true)=>have _gh1:=iNe_t h1;aI (nat_Of 1 oO) (aI (nat_Add (b.natAbs / (d).toNat) 1 oO oO) (have f4:=L_add (b.natAbs / (d).toNat) 1;aI (int_Nat false (a.natAbs / (d).toNat) oO) (have f3:=L_sgn false (a.natAbs / (d).toNat);aI (int_Nat false ((b.natAbs / (d).toNat)+1) oO) (have f2:=L_sgn false ((b.natAbs / (d).toNat)+1);(Sp_of rfl (pt_hi1 oO):vsub (sV (sgn false (a.natAbs / (d).toNat)) (sgn false ((b.natAbs / (d).toNat)+1))) (sV (ptLo a d) (ptHi b d)))))))) (fun (h5:(iNe ((b.natAbs%(d).toNat:Nat):Int) 0)=false)=>have _gh5:=iNe_f h5;aI (int_Nat false (a.natAbs / (d).toNat) oO) (have f7:=L_sgn false (a.natAbs / (d).toNat);aI (int_Nat false (b.natAbs / (d).toNat) oO) (have f6:=L_sgn false (b.natAbs / (d).toNat);(Sp_of rfl (pt_hi2 oO):vsub (sV (sgn false (a.natAbs / (d).toNat)) (sgn false (b.natAbs / (d).toNat))) (sV (ptLo a d) (ptHi b d)))))))))) (by kernel_rfl))
theorem fx_Div (a b c d s:Int)(c0:L (a).natAbs≤8192)(c1:L (b).natAbs≤8192)(c2:L (c).natAbs≤8192)(c3:L (d).natAbs≤8192)(c4:(0:Int)≤s∧s≤20000)(c5:c≠0)(c6:d≠0):Impl Tryz.prog Amb 176 [(sV a b),(sV c d),(.int .i64 s)] (sV (Int.fdiv (a*2^(s).toNat) d) (-(Int.fdiv (-(b*2^(s).toNat)) c))):=by
 exact impl_ob hP hAmb Tryz.func176 (by kernel_rfl) (.lits 2<|.call (zV (a*2^(s).toNat))<|.lits 2<|.call (.tup [(zV (Int.fdiv (a*2^(s).toNat) d)),(zV ((a*2^(s).toNat)-(Int.fdiv (a*2^(s).toNat) d)*d)),(.bool true)])<|.lits 2<|.call (zV (b*2^(s).toNat))<|.lit<|.call (zV (-(b*2^(s).toNat)))<|.lits 2<|.call (.tup [(zV (Int.fdiv (-(b*2^(s).toNat)) c)),(zV ((-(b*2^(s).toNat))-(Int.fdiv (-(b*2^(s).toNat)) c)*c)),(.bool true)])<|.lits 3<|.call (zV (-(Int.fdiv (-(b*2^(s).toNat)) c)))<|.lits 3<|.ret)
  (cast_ob (aI True.intro (aI (int_Shl a s oO oO) (have f8:=L_abs_shl a (s).toNat;aI (int_DivMod (a*2^(s).toNat) d oO oO oO) (have f7:=L_rm (a*2^(s).toNat) d;have f6:=L_fdiv (a*2^(s).toNat) d;aI (int_Shl b s oO oO) (have f5:=L_abs_shl b (s).toNat;aI (int_Neg (b*2^(s).toNat) oO) (have f4:=L_abs_neg (b*2^(s).toNat);aI (int_DivMod (-(b*2^(s).toNat)) c oO oO oO) (have f3:=L_rm (-(b*2^(s).toNat)) c;have f2:=L_fdiv (-(b*2^(s).toNat)) c;aI (int_Neg (Int.fdiv (-(b*2^(s).toNat)) c) oO) (have f1:=L_abs_neg (Int.fdiv (-(b*2^(s).toNat)) c);(vsub_refl (sV (Int.fdiv (a*2^(s).toNat) d) (-(Int.fdiv (-(b*2^(s).toNat)) c)))))))))))) (by kernel_rfl))
theorem fx_tiny (b:Int)(c0:L (b).natAbs≤65536):Impl Tryz.prog Amb 225 [(zV b)] (.bool (decide ((b).natAbs<8))):=by
 exact impl_ob hP hAmb Tryz.func225 (by kernel_rfl) (.lits 2<|.call (.int .i64 (nbits b.natAbs:Int))<|.lits 2<|.ret)
  (cast_ob (aI True.intro (aI (nat_Bits b.natAbs oO) (have f1:=nbits_L b.natAbs;(vsub_of (congrArg V.bool tiny_8):vsub (.bool (iLe (nbits b.natAbs:Int) 3)) (.bool (decide ((b).natAbs<8))))))) (by kernel_rfl))
theorem fx_Tiny (a b:Int)(c0:L (b).natAbs≤65536):Impl Tryz.prog Amb 212 [(sV a b)] (.bool (decide ((b).natAbs<8))):=by
 exact impl_ob hP hAmb Tryz.func212 (by kernel_rfl) (.lits 2<|.call (.bool (decide ((b).natAbs<8)))<|.lit<|.ret)
  (cast_ob (aI True.intro (aI (fx_tiny b oO) ((vsub_refl (.bool (decide ((b).natAbs<8))))))) (by kernel_rfl))
end Go.Proofs.YtkkbddkpggjgpaaGreatDoor

namespace Go.Proofs.YtkkbddkpggjgpaaGreatDoor
open Go.RowKit
set_option maxRecDepth 100000
def aa1 (x1 x2 s:Int)(j:Nat):Int:=(aA (2^s.toNat) x1 x2 j).1
def aa2 (x1 x2 s:Int)(j:Nat):Int:=(aA (2^s.toNat) x1 x2 j).2
theorem L_T {x:Int}{t:Nat}(h0:0≤x)(h:x≤8192*2^t)(ht:t≤6000):L x.natAbs≤200:=by
 refine L_pow2 (n:=t+14) ?_ oO
 have e:(2:Nat)^(t+14)=16384*2^t:=by rw[Nat.pow_add,Nat.mul_comm]
 have p:((2^t:Nat):Int)=(2:Int)^t:=(pow_cast t).symm
 have:=two_pos t
 rw[e];omega
end Go.Proofs.YtkkbddkpggjgpaaGreatDoor

namespace Go.Proofs.YtkkbddkpggjgpaaGreatDoor
theorem cmpD_le {m e n f:Int}:cmpD m e n f≤0↔dv m e≤dv n f:=by rw[cmpD_dv,cmpQ_le]
end Go.Proofs.YtkkbddkpggjgpaaGreatDoor


namespace Go.Proofs.YtkkbddkpggjgpaaGreatDoor
theorem dv_ge0 {m e:Int}:0≤dv m e↔0≤m:=by rw[← dv_zero e,dv_le]
end Go.Proofs.YtkkbddkpggjgpaaGreatDoor



namespace Go.Proofs.YtkkbddkpggjgpaaGreatDoor
open Go.RowKit
set_option maxRecDepth 100000
def fx_Settle1_0_mk (fk:Nat)(u1:V)(_ _ w:Int)(x:Int):St:=⟨mkS 27 [(0,(.val (.int .i64 w))),(1,(.val (.clos fk [u1]))),(4,(.own 0 0)),(5,(.val (.int .i64 24)))],[⟨true,false,[(V.bool false),V.nil,(V.bool false),V.nil]⟩]⟩
def fx_Settle1_0_I (_:Nat)(_:V)(_ _ _:Int)(x:Int):Prop:=x=x
def fx_Settle1_0_mu (_:Nat)(_:V)(_ _ _:Int)(x:Int):Nat:=0
def fx_Settle1_0_ex (_:Nat)(_:V)(ka kb _:Int)(y:Int):Ex × St:=(.ret,⟨mkS 27 [(4,(.own 0 0))],[⟨true,false,[(V.bool (decide ((ka / 2^24)<0))),(N ((ka / 2^24).natAbs)),(V.bool (decide ((-(-kb / 2^24))<0))),(N ((-(-kb / 2^24)).natAbs))]⟩]⟩)
def fx_Settle1_0_J (_:Nat)(_:V)(_ _ _:Int)(y:Int):Prop:=y=y
theorem fx_Settle1_0 (fk:Nat)(u1:V)(ka kb w:Int)(c0:Impl Tryz.prog Amb fk [(.int .i64 (w+24)),u1] (sV ka kb))(c1:L ka.natAbs≤8192∧L kb.natAbs≤8192)(c2:nbits (kb-ka).natAbs≤24)(c3:(0:Int)≤w∧w≤5000)(x0:Int)(hI:fx_Settle1_0_I fk u1 ka kb w x0):LoopOk Tryz.prog Amb (loopN Tryz.f78 0) (fx_Settle1_0_mk fk u1 ka kb w x0) (fun e st_=>∃ y,fx_Settle1_0_J fk u1 ka kb w y∧fx_Settle1_0_ex fk u1 ka kb w y=(e,st_)) :=
 loop_ob hP hAmb ⟨[0,1,4,5],1,[]⟩ (fx_Settle1_0_mk fk u1 ka kb w) (fx_Settle1_0_I fk u1 ka kb w) (fx_Settle1_0_mu fk u1 ka kb w) (fx_Settle1_0_ex fk u1 ka kb w) (fx_Settle1_0_J fk u1 ka kb w) x0 hI (fun j=>.lit<|.yes<|.lit<|.call (sV ka kb)<|.lits 3<|.call (zV (kb-ka))<|.lits 2<|.call (.int .i64 (nbits ((kb-ka).natAbs):Int))<|.lit<|.yes<|.lits 5<|.call (sV (ka / 2^24) (-(-kb / 2^24)))<|.lit<|.fin3 ⟨[4],[0]⟩) (by
  rintro j hI
  have hI:j=j:=hI
  have h1:=hI
  exact cast_ob (aI True.intro (aI (fits_i64 oS:(fits .i64 (w+24))=true) (aI (c0 ) (aI (fx_Width ka kb oS oS) (have f106:=L_abs_sub kb ka;aI (nat_Bits ((kb-ka).natAbs) oS) (have f105:=nbits_L ((kb-ka).natAbs);aI (iLe_mk oO:(iLe (nbits ((kb-ka).natAbs):Int) 24)=true) (aI (fx_Half ka kb 24 oS oS oS) (have f104:=L_abs_neg (-kb / 2^24);have f103:=L_abs_shr (-kb) 24;have f102:=L_abs_neg kb;have f101:=L_abs_shr ka 24;aI tT ((nx_ret ((fx_Settle1_0_ex fk u1 ka kb w j).2) j (show j=j from rfl) rfl:NX (fx_Settle1_0_mk fk u1 ka kb w) (fx_Settle1_0_I fk u1 ka kb w) (fx_Settle1_0_mu fk u1 ka kb w) (fx_Settle1_0_ex fk u1 ka kb w) (fx_Settle1_0_J fk u1 ka kb w) j .ret ((fx_Settle1_0_ex fk u1 ka kb w j).2))))))))))) (by kernel_rfl))
theorem fx_Settle1 (fk:Nat)(u1:V)(ka kb w:Int)(c0:Impl Tryz.prog Amb fk [(.int .i64 (w+24)),u1] (sV ka kb))(c1:L ka.natAbs≤8192∧L kb.natAbs≤8192)(c2:nbits (kb-ka).natAbs≤24)(c3:(0:Int)≤w∧w≤5000):Impl Tryz.prog Amb 78 [(.int .i64 w),(.clos fk [u1])] (sV (ka / 2^24) (-(-kb / 2^24))):=by
 exact impl_ob hP hAmb Tryz.func78 (by kernel_rfl) (.loop ⟨[0,1,4,5],1,[]⟩ ((fx_Settle1_0_mk fk u1 ka kb w (0:Int))) (Int) (fx_Settle1_0_ex fk u1 ka kb w) (fx_Settle1_0_J fk u1 ka kb w) (fun y=>.lit<|.ret))
  (cast_ob (aI True.intro (aI tT (aI (rfl:(fx_Settle1_0_mk fk u1 ka kb w (0:Int))=(fx_Settle1_0_mk fk u1 ka kb w (0:Int))) (aI (fx_Settle1_0 fk u1 ka kb w c0 c1 c2 c3 (0:Int) (show (0:Int)=(0:Int) from rfl)) (fun y (hJ:fx_Settle1_0_J fk u1 ka kb w y)=>have hJ:y=y:=hJ;(vsub_refl (sV (ka / 2^24) (-(-kb / 2^24))))))))) (by kernel_rfl))
end Go.Proofs.YtkkbddkpggjgpaaGreatDoor




namespace Go.Proofs.YtkkbddkpggjgpaaGreatDoor
def Sm (f:Nat→Rat):Nat→Rat
 | 0=>0
 | n+1=>Sm f n+f n
theorem Sm_congr {f g:Nat→Rat}:∀ {n:Nat},(∀ i,i<n→f i=g i)→Sm f n=Sm g n
 | 0,_=>rfl
 | n+1,h=>by
  show Sm f n+f n=Sm g n+g n
  rw[Sm_congr (n:=n) (fun i hi=>h i (by omega)),h n (by omega)]
theorem Sm_add (f g:Nat→Rat):∀ n,Sm (fun i=>f i+g i) n=Sm f n+Sm g n
 | 0=>by show (0:Rat)=0+0;grind
 | n+1=>by
  show Sm (fun i=>f i+g i) n+(f n+g n)=Sm f n+f n+(Sm g n+g n)
  rw[Sm_add f g n];grind
theorem Sm_mul (f:Nat→Rat)(c:Rat):∀ n,Sm f n*c=Sm (fun i=>f i*c) n
 | 0=>by show (0:Rat)*c=0;grind
 | n+1=>by
  show (Sm f n+f n)*c=Sm (fun i=>f i*c) n+f n*c
  rw[← Sm_mul f c n];grind
theorem Sm_shift (f:Nat→Rat):∀ n,Sm f (n+1)=f 0+Sm (fun i=>f (i+1)) n
 | 0=>by show (0:Rat)+f 0=f 0+0;grind
 | n+1=>by
  show Sm f (n+1)+f (n+1)=f 0+(Sm (fun i=>f (i+1)) n+f (n+1))
  rw[Sm_shift f n];grind
theorem Sm_le {f g:Nat→Rat}:∀ {n:Nat},(∀ i,i<n→f i≤g i)→Sm f n≤Sm g n
 | 0,_=>Rat.le_refl
 | n+1,h=>by
  have a:=Sm_le (n:=n) (fun i hi=>h i (by omega))
  have b:=h n (by omega)
  show Sm f n+f n≤Sm g n+g n
  grind
theorem Sm_nonneg {f:Nat→Rat}(h:∀ i,0≤f i):∀ n,0≤Sm f n
 | 0=>Rat.le_refl
 | n+1=>Rat.add_nonneg (Sm_nonneg h n) (h n)
theorem Sm_mono {f:Nat→Rat}(h:∀ i,0≤f i){n m:Nat}(hn:n≤m):Sm f n≤Sm f m:=by
 obtain⟨k,rfl⟩:∃ k,m=n+k:=⟨m-n,by omega⟩
 induction k with
 | zero=>exact Rat.le_refl
 | succ k ih =>
  have a:=ih (by omega)
  have b:=h (n+k)
  show Sm f n≤Sm f (n+k)+f (n+k)
  grind
theorem Sm_tri (f:Nat→Nat→Rat):∀ K,Sm (fun n=>Sm (fun i=>f i (n-i)) (n+1)) K=Sm (fun i=>Sm (f i) (K-i)) K
 | 0=>rfl
 | K+1=>by
  have h:=Sm_tri f K
  have e:Sm (fun i=>Sm (f i) (K+1-i)) (K+1)=Sm (fun i=>Sm (f i) (K-i)+f i (K-i)) (K+1):=Sm_congr fun i hi=>by
   rw[show K+1-i=(K-i)+1 by omega];rfl
  rw[e,Sm_add]
  show Sm (fun n=>Sm (fun i=>f i (n-i)) (n+1)) K+Sm (fun i=>f i (K-i)) (K+1)=Sm (fun i=>Sm (f i) (K-i)) K+Sm (f K) (K-K)+Sm (fun i=>f i (K-i)) (K+1)
  rw[h,Nat.sub_self]
  show _=_+0+_
  grind
theorem Sm_prod (f g:Nat→Rat)(K:Nat):∀ n,Sm f n*Sm g K=Sm (fun i=>Sm (fun j=>f i*g j) K) n
 | 0=>by show (0:Rat)*_=0;grind
 | n+1=>by
  have h:=Sm_prod f g K n
  have e:f n*Sm g K=Sm (fun j=>f n*g j) K:=by
   rw[Rat.mul_comm,Sm_mul]
   exact Sm_congr fun i _=>Rat.mul_comm _ _
  show (Sm f n+f n)*Sm g K=Sm (fun i=>Sm (fun j=>f i*g j) K) n+Sm (fun j=>f n*g j) K
  rw[← h,← e];grind
def nx (n:Nat):Int:=(n:Int)+1
theorem nx_pos (n:Nat):(0:Rat)<(nx n:Rat):=Rat.intCast_pos.2 (by unfold nx;omega)
def tE (x:Rat):Nat→Rat
 | 0=>1
 | n+1=>tE x n*x / (nx n:Rat)
theorem tE_mul (x:Rat)(n:Nat):tE x n*x=(nx n:Rat)*tE x (n+1):=by
 show tE x n*x=(nx n:Rat)*(tE x n*x / (nx n:Rat))
 have:=nx_pos n
 rw[Rat.mul_comm (nx n:Rat),Rat.div_mul_cancel (by grind)]
theorem tE_nonneg {x:Rat}(h:0≤x):∀ n,0≤tE x n
 | 0=>by show (0:Rat)≤1;decide
 | n+1=>by
  show 0≤tE x n*x / (nx n:Rat)
  rw[Rat.div_def]
  exact Rat.mul_nonneg (Rat.mul_nonneg (tE_nonneg h n) h) (Rat.le_of_lt (Rat.inv_pos.2 (nx_pos n)))
def EP (x:Rat)(K:Nat):Rat:=Sm (tE x) K
theorem tE_add (x y:Rat):∀ n,tE (x+y) n=Sm (fun i=>tE x i*tE y (n-i)) (n+1)
 | 0=>by show (1:Rat)=0+1*1;grind
 | n+1=>by
  have h:=tE_add x y n
  have np:=nx_pos n
  have key:Sm (fun i=>tE x i*tE y (n-i)) (n+1)*(x+y)=(nx n:Rat)*Sm (fun i=>tE x i*tE y (n+1-i)) (n+2):=by
   have ex:Sm (fun i=>tE x i*tE y (n-i)) (n+1)*x=Sm (fun i=>(i:Rat)*(tE x i*tE y (n+1-i))) (n+2):=by
    rw[Sm_mul,Sm_shift (fun i=>(i:Rat)*(tE x i*tE y (n+1-i))) (n+1)]
    have z:(((0:Nat):Nat):Rat)*(tE x 0*tE y (n+1-0))=0:=by
     rw[show ((0:Nat):Rat)=0 from rfl];grind
    rw[z,Rat.zero_add]
    refine Sm_congr fun i hi=>?_
    rw[show n+1-(i+1)=n-i by omega]
    have t:=tE_mul x i
    have c:((i+1:Nat):Rat)=(nx i:Rat):=rfl
    show tE x i*tE y (n-i)*x=((i+1:Nat):Rat)*(tE x (i+1)*tE y (n-i))
    rw[c]
    grind
   have ey:Sm (fun i=>tE x i*tE y (n-i)) (n+1)*y=Sm (fun i=>((nx n:Rat)-(i:Rat))*(tE x i*tE y (n+1-i))) (n+2):=by
    rw[Sm_mul]
    show _=Sm (fun i=>((nx n:Rat)-(i:Rat))*(tE x i*tE y (n+1-i))) (n+1)+((nx n:Rat)-((n+1:Nat):Rat))*(tE x (n+1)*tE y (n+1-(n+1)))
    have c:((n+1:Nat):Rat)=(nx n:Rat):=rfl
    rw[c]
    have z:((nx n:Rat)-(nx n:Rat))*(tE x (n+1)*tE y (n+1-(n+1)))=0:=by grind
    rw[z,Rat.add_zero]
    refine Sm_congr fun i hi=>?_
    have t:=tE_mul y (n-i)
    rw[show n+1-i=(n-i)+1 by omega]
    have d:(nx (n-i):Rat)=(nx n:Rat)-(i:Rat):=by
     have e:nx (n-i)=nx n-(i:Int):=by unfold nx;omega
     rw[e,Rat.intCast_sub];rfl
    rw[← d]
    grind
   rw[show Sm (fun i=>tE x i*tE y (n-i)) (n+1)*(x+y)=Sm (fun i=>tE x i*tE y (n-i)) (n+1)*x+Sm (fun i=>tE x i*tE y (n-i)) (n+1)*y by grind,ex,ey,← Sm_add,Rat.mul_comm (nx n:Rat),Sm_mul]
   exact Sm_congr fun i _=>by grind
  show tE (x+y) n*(x+y) / (nx n:Rat)=_
  rw[h,key,Rat.mul_comm,Rat.mul_div_cancel (by grind)]
theorem EP_conv (x y:Rat)(K:Nat):EP (x+y) K=Sm (fun i=>Sm (fun j=>tE x i*tE y j) (K-i)) K:=by
 unfold EP
 rw[← Sm_tri (fun i j=>tE x i*tE y j) K]
 exact Sm_congr fun n _=>tE_add x y n
theorem EP_mul {x y:Rat}(hx:0≤x)(hy:0≤y)(K:Nat):EP (x+y) K≤EP x K*EP y K∧EP x K*EP y K≤EP (x+y) (2*K):=by
 have nn:∀ i j,0≤tE x i*tE y j:=fun i j=>Rat.mul_nonneg (tE_nonneg hx i) (tE_nonneg hy j)
 have p:EP x K*EP y K=Sm (fun i=>Sm (fun j=>tE x i*tE y j) K) K:=Sm_prod _ _ K K
 rw[p,EP_conv,EP_conv]
 constructor
 ·exact Sm_le fun i _=>Sm_mono (nn i) (by omega)
 ·refine Rat.le_trans (Sm_le (g:=fun i=>Sm (fun j=>tE x i*tE y j) (2*K-i)) fun i hi=>Sm_mono (nn i) (by omega)) (Sm_mono (fun i=>Sm_nonneg (nn i) _) (by omega))
theorem EP_mono {x:Rat}(h:0≤x){n m:Nat}(hn:n≤m):EP x n≤EP x m:=Sm_mono (tE_nonneg h) hn
end Go.Proofs.YtkkbddkpggjgpaaGreatDoor

namespace Go.Proofs.YtkkbddkpggjgpaaGreatDoor
theorem tE_half {x:Rat}(h0:0≤x){m:Nat}(h:2*x≤(nx m:Rat)):2*tE x (m+1)≤tE x m:=by
 have np:=nx_pos m
 have t:=tE_mul x m
 have p:=tE_nonneg h0 m
 refine Rat.le_of_mul_le_mul_right (c:=(nx m:Rat)) ?_ np
 have e:2*tE x (m+1)*(nx m:Rat)=tE x m*(2*x):=by grind
 rw[e]
 exact Rat.mul_le_mul_of_nonneg_left h p
theorem nx_mono {a b:Nat}(h:a≤b):(nx a:Rat)≤(nx b:Rat):=Rat.intCast_le_intCast.2 (by unfold nx;omega)
theorem EP_tail {x:Rat}(h0:0≤x){n:Nat}(h:2*x≤(nx n:Rat))(K:Nat):EP x K≤EP x (n+1)+tE x n:=by
 have key:∀ k,EP x (n+1+k)+tE x (n+k)≤EP x (n+1)+tE x n:=by
  intro k
  induction k with
  | zero=>exact Rat.le_refl
  | succ k ih =>
   have a:=tE_half h0 (m:=n+k) (Rat.le_trans h (nx_mono (by omega)))
   have e:EP x (n+1+(k+1))=EP x (n+1+k)+tE x (n+k+1):=by
    show Sm (tE x) (n+1+k)+tE x (n+1+k)=_
    rw[show n+1+k=n+k+1 by omega];rfl
   rw[e]
   show EP x (n+1+k)+tE x (n+k+1)+tE x (n+k+1)≤_
   grind
 have a:=key K
 have b:=EP_mono h0 (show K≤n+1+K by omega)
 have c:=tE_nonneg h0 (n+K)
 grind
theorem one_pow_le {q:Rat}(h:1≤q):∀ n:Nat,1≤q^n
 | 0=>by rw[Rat.pow_zero];exact Rat.le_refl
 | n+1=>by
  have a:=one_pow_le h n
  have m:=Rat.mul_le_mul_of_nonneg_left h (show (0:Rat)≤q^n by grind)
  rw[Rat.pow_succ];grind
end Go.Proofs.YtkkbddkpggjgpaaGreatDoor








namespace Go.Proofs.YtkkbddkpggjgpaaGreatDoor
open Go.RowKit
set_option maxRecDepth 100000
theorem r10_Has (m e n f:Int)(r:Rat)(c0:L (m).natAbs≤9000)(c1:L (n).natAbs≤9000)(c2:(-65536:Int)≤e∧e≤65536)(c3:(-65536:Int)≤f∧f≤65536)(c4:vdb m e=true)(c5:vdb n f=true)(c6:L r.num.natAbs≤6000)(c7:L r.den≤6000):Impl Tryz.prog Amb 41 [(wV m e n f),(.agg [(.bool (decide (r.num<0))),(N r.num.natAbs),(N r.den)])] (.bool (decide (cmpQ (dv m e) r≤0∧cmpQ r (dv n f)≤0))):=by
 exact impl_ob hP hAmb Tryz.func41 (by kernel_rfl) (.lits 2<|.call (.agg [(.bool (decide ((dv m e).num<0))),(N (((dv m e).num).natAbs)),(N ((dv m e).den))])<|.lits 2<|.call (.int .i64 (cmpQ (dv m e) r))<|.lit<|.both (.lits 6<|.call (.agg [(.bool (decide ((dv n f).num<0))),(N (((dv n f).num).natAbs)),(N ((dv n f).den))])<|.lits 2<|.call (.int .i64 (cmpQ r (dv n f)))<|.lits 4<|.ret) (.lits 7<|.ret))
  (cast_ob (aI True.intro (aI (r08_Rat m e oA oA oA) (have f6:=(dv_L ‹vdb m e=true› oA:L (dv m e).num.natAbs≤L (m).natAbs+2050∧L (dv m e).den≤2050);aI (r07_Cmp (dv m e) r oA oA oA oA) (have f5:=cmpQ_range (dv m e) r;aI (fun (h1:(iLe (cmpQ (dv m e) r) 0)=true)=>have _gh1:=iLe_t h1;aI (r08_Rat n f oA oA oA) (have f3:=(dv_L ‹vdb n f=true› oA:L (dv n f).num.natAbs≤L (n).natAbs+2050∧L (dv n f).den≤2050);aI (r07_Cmp r (dv n f) oA oA oA oA) (have f2:=cmpQ_range r (dv n f);(vsub_of (congrArg V.bool (has_1 oO)):vsub (.bool (iLe (cmpQ r (dv n f)) 0)) (.bool (decide (cmpQ (dv m e) r≤0∧cmpQ r (dv n f)≤0))))))) (fun (h4:(iLe (cmpQ (dv m e) r) 0)=false)=>have _gh4:=iLe_f h4;(vsub_of (congrArg V.bool ((decide_eq_false oO).symm)):vsub (.bool false) (.bool (decide (cmpQ (dv m e) r≤0∧cmpQ r (dv n f)≤0))))))))) (by kernel_rfl))
end Go.Proofs.YtkkbddkpggjgpaaGreatDoor















namespace Go.Proofs.YtkkbddkpggjgpaaGreatDoor
def Lq (f g:Nat→Rat):Prop:=∀ e:Rat,0<e→∃ N,∀ K,N≤K→f K≤g K+e
def Lm (f g:Nat→Rat):Prop:=Lq f g∧Lq g f
def Bn (f:Nat→Rat)(B:Rat):Prop:=∃ N,∀ K,N≤K→-B≤f K∧f K≤B
theorem Lq.refl (f:Nat→Rat):Lq f f:=fun e h=>⟨0,fun K _=>by grind⟩
theorem Lm.refl (f:Nat→Rat):Lm f f:=⟨Lq.refl f,Lq.refl f⟩
theorem Lm.symm {f g:Nat→Rat}(h:Lm f g):Lm g f:=⟨h.2,h.1⟩
theorem r8:(0:Rat)<1 / 8∧(0:Rat)<1 / 2∧(0:Rat)<2⁻¹:=⟨of_decide_eq_true (by kernel_rfl),of_decide_eq_true (by kernel_rfl),of_decide_eq_true (by kernel_rfl)⟩
theorem half_pos {e:Rat}(h:0<e):0<e / 2:=by rw[Rat.div_def];exact Rat.mul_pos h r8.2.2
theorem half_two (e:Rat):e / 2+e / 2=e:=by rw[Rat.div_def];grind
theorem Lq.trans {f g h:Nat→Rat}(a:Lq f g)(b:Lq g h):Lq f h:=fun e he=>by
 obtain⟨N,p⟩:=a (e / 2) (half_pos he)
 obtain⟨M,q⟩:=b (e / 2) (half_pos he)
 refine⟨N+M,fun K hK=>?_⟩
 have x:=p K (by omega)
 have y:=q K (by omega)
 have z:=half_two e
 grind
theorem Lm.trans {f g h:Nat→Rat}(a:Lm f g)(b:Lm g h):Lm f h:=⟨a.1.trans b.1,b.2.trans a.2⟩
theorem Lq.of_le {f g:Nat→Rat}{N:Nat}(h:∀ K,N≤K→f K≤g K):Lq f g:=fun e he=>⟨N,fun K hK=>by have:=h K hK;grind⟩
theorem Lm.of_eq {f g:Nat→Rat}{N:Nat}(h:∀ K,N≤K→f K=g K):Lm f g:=⟨.of_le (N:=N) fun K hK=>by rw[h K hK];exact Rat.le_refl,.of_le (N:=N) fun K hK=>by rw[h K hK];exact Rat.le_refl⟩
theorem mul_bd {p x P a:Rat}(h1:-P≤p)(h2:p≤P)(h3:-a≤x)(h4:x≤a):-(P*a)≤p*x∧p*x≤P*a:=by
 have m1:=Rat.mul_nonneg (show 0≤P-p by grind) (show 0≤a+x by grind)
 have m2:=Rat.mul_nonneg (show 0≤P+p by grind) (show 0≤a-x by grind)
 have m3:=Rat.mul_nonneg (show 0≤P+p by grind) (show 0≤a+x by grind)
 have m4:=Rat.mul_nonneg (show 0≤P-p by grind) (show 0≤a-x by grind)
 constructor<;>grind
theorem inv_one {B:Rat}(h:0<B):B⁻¹*B=1:=Rat.inv_mul_cancel _ (by grind)
theorem Bn.pos {f:Nat→Rat}{B:Rat}(h:Bn f B):∃ C,0<C∧Bn f C:=by
 obtain⟨N,h⟩:=h
 have a:=h N (Nat.le_refl _)
 refine⟨B+1,by grind,N,fun K hK=>?_⟩
 have b:=h K hK
 constructor<;>grind
theorem Lq.mul_aux {f f' g g':Nat→Rat}{A B:Rat}(h:Lm f f')(k:Lm g g')(hf:Bn f A)(hg:Bn g' B):Lq (fun K=>f K*g K) (fun K=>f' K*g' K):=fun e he=>by
 obtain⟨A',A0,N1,b1⟩:=hf.pos
 obtain⟨B',B0,N2,b2⟩:=hg.pos
 have iA:=Rat.inv_pos.2 A0
 have iB:=Rat.inv_pos.2 B0
 have eA:=inv_one A0
 have eB:=inv_one B0
 obtain⟨N3,c1⟩:=h.1 _ (Rat.mul_pos (half_pos he) iB)
 obtain⟨N4,c2⟩:=h.2 _ (Rat.mul_pos (half_pos he) iB)
 obtain⟨N5,c3⟩:=k.1 _ (Rat.mul_pos (half_pos he) iA)
 obtain⟨N6,c4⟩:=k.2 _ (Rat.mul_pos (half_pos he) iA)
 refine⟨N1+N2+N3+N4+N5+N6,fun K hK=>?_⟩
 have b1:=b1 K (by omega)
 have b2:=b2 K (by omega)
 have c1:=c1 K (by omega)
 have c2:=c2 K (by omega)
 have c3:=c3 K (by omega)
 have c4:=c4 K (by omega)
 have z:=half_two e
 have m1:=(mul_bd b1.1 b1.2 (x:=g K-g' K) (a:=e / 2*A'⁻¹) (by grind) (by grind)).2
 have m2:=(mul_bd b2.1 b2.2 (x:=f K-f' K) (a:=e / 2*B'⁻¹) (by grind) (by grind)).2
 have q1:A'*(e / 2*A'⁻¹)=e / 2:=by grind
 have q2:B'*(e / 2*B'⁻¹)=e / 2:=by grind
 rw[q1] at m1
 rw[q2] at m2
 show f K*g K≤f' K*g' K+e
 grind
theorem Lm.bn {f g:Nat→Rat}{A:Rat}(h:Lm f g)(b:Bn f A):Bn g (A+1):=by
 obtain⟨N,b⟩:=b
 obtain⟨N1,h1⟩:=h.1 1 (by decide)
 obtain⟨N2,h2⟩:=h.2 1 (by decide)
 refine⟨N+N1+N2,fun K hK=>?_⟩
 have b:=b K (by omega)
 have h1:=h1 K (by omega)
 have h2:=h2 K (by omega)
 constructor<;>grind
theorem Lm.mul {f f' g g':Nat→Rat}{A B:Rat}(h:Lm f f')(k:Lm g g')(hf:Bn f A)(hg:Bn g B):Lm (fun K=>f K*g K) (fun K=>f' K*g' K) :=
 ⟨Lq.mul_aux h k hf (k.bn hg),Lq.mul_aux h.symm k.symm (h.bn hf) hg⟩
theorem Sm_bd {f g:Nat→Rat}:∀ {n:Nat},(∀ i,i<n→-(g i)≤f i∧f i≤g i)→-(Sm g n)≤Sm f n∧Sm f n≤Sm g n
 | 0,_=>by show -(0:Rat)≤0∧(0:Rat)≤0;constructor<;>decide
 | n+1,h=>by
  have a:=Sm_bd (n:=n) (fun i hi=>h i (by omega))
  have b:=h n (by omega)
  show -(Sm g n+g n)≤Sm f n+f n∧Sm f n+f n≤Sm g n+g n
  constructor<;>grind
theorem tE_bd {x a:Rat}(h1:-a≤x)(h2:x≤a):∀ n,-(tE a n)≤tE x n∧tE x n≤tE a n
 | 0=>by show -(1:Rat)≤1∧(1:Rat)≤1;constructor<;>decide
 | n+1=>by
  have i:=tE_bd h1 h2 n
  have m:=mul_bd i.1 i.2 h1 h2
  have np:=nx_pos n
  have e1:=tE_mul x n
  have e2:=tE_mul a n
  constructor
  ·exact Rat.le_of_mul_le_mul_right (c:=(nx n:Rat)) (by grind) np
  ·exact Rat.le_of_mul_le_mul_right (c:=(nx n:Rat)) (by grind) np
theorem Sm_cm (c:Rat)(f:Nat→Rat)(n:Nat):Sm (fun j=>c*f j) n=c*Sm f n:=by
 rw[Rat.mul_comm,Sm_mul]
 exact Sm_congr fun i _=>Rat.mul_comm _ _
theorem rat_nat (r:Rat):∃ n:Nat,r≤(n:Rat):=by
 refine⟨r.ceil.toNat,?_⟩
 have a:r≤(r.ceil:Rat):=Rat.le_ceil
 have b:((r.ceil:Int):Rat)≤((r.ceil.toNat:Int):Rat):=Rat.intCast_le_intCast.2 (by omega)
 exact Rat.le_trans a b
theorem two_pow_ge:∀ n:Nat,(n:Rat)≤(2:Rat)^n
 | 0=>by rw[Rat.pow_zero];decide
 | n+1=>by
  have a:=two_pow_ge n
  have b:=one_pow_le (q:=2) (by decide) n
  rw[Rat.pow_succ,Rat.natCast_add]
  show (n:Rat)+1≤_
  grind
theorem tE_dec {a:Rat}(h0:0≤a){m:Nat}(h:2*a≤(nx m:Rat)):∀ j,tE a (m+j)*(2:Rat)^j≤tE a m
 | 0=>by rw[Rat.pow_zero,Rat.mul_one];exact Rat.le_refl
 | j+1=>by
  have i:=tE_dec h0 h j
  have t:=tE_half h0 (m:=m+j) (Rat.le_trans h (nx_mono (by omega)))
  have p:(0:Rat)≤(2:Rat)^j:=by have:=one_pow_le (q:=2) (by decide) j;grind
  have m1:=Rat.mul_le_mul_of_nonneg_right t p
  rw[Rat.pow_succ]
  show tE a (m+j+1)*_≤_
  grind
theorem tE_lim {a:Rat}(h0:0≤a){e:Rat}(he:0<e):∃ N,∀ K,N≤K→tE a K≤e∧2*a≤(nx K:Rat):=by
 obtain⟨m,hm⟩:=rat_nat (2*a)
 have hm':2*a≤(nx m:Rat):=Rat.le_trans hm (Rat.intCast_le_intCast.2 (show (m:Int)≤nx m by unfold nx;omega))
 obtain⟨j,hj⟩:=rat_nat (tE a m*e⁻¹)
 have ie:=inv_one he
 have i0:=Rat.inv_pos.2 he
 refine⟨m+j,fun K hK=>⟨?_,Rat.le_trans hm' (nx_mono (by omega))⟩⟩
 obtain⟨i,rfl⟩:∃ i,K=m+(j+i):=⟨K-m-j,by omega⟩
 have d:=tE_dec h0 hm' (j+i)
 have g:=two_pow_ge (j+i)
 have n1:(j:Rat)≤((j+i:Nat):Rat):=by
  rw[Rat.natCast_add]
  have:(0:Rat)≤(i:Rat):=Rat.natCast_nonneg
  grind
 have p:(1:Rat)≤(2:Rat)^(j+i):=one_pow_le (by decide) _
 refine Rat.le_of_mul_le_mul_right (c:=(2:Rat)^(j+i)) ?_ (by grind)
 have m1:=Rat.mul_le_mul_of_nonneg_left (show tE a m*e⁻¹≤(2:Rat)^(j+i) by grind) (Rat.le_of_lt he)
 have q:e*(tE a m*e⁻¹)=tE a m:=by grind
 rw[q] at m1
 exact Rat.le_trans d m1
theorem EP_cau {a:Rat}(h0:0≤a){e:Rat}(he:0<e):∃ N,∀ K,N≤K→∀ M,EP a M≤EP a K+e:=by
 obtain⟨N,h⟩:=tE_lim h0 he
 refine⟨N+1,fun K hK M=>?_⟩
 obtain⟨n,rfl⟩:∃ n,K=n+1:=⟨K-1,by omega⟩
 have b:=h n (by omega)
 have c:=EP_tail h0 b.2 M
 grind
theorem abs_ex (x:Rat):∃ a,0≤a∧-a≤x∧x≤a:=by
 rcases (Rat.le_total:0≤x∨x≤0) with h | h
 ·exact⟨x,h,by grind,Rat.le_refl⟩
 ·exact⟨-x,by grind,by grind,by grind⟩
end Go.Proofs.YtkkbddkpggjgpaaGreatDoor

namespace Go.Proofs.YtkkbddkpggjgpaaGreatDoor
theorem pow_nn {a:Rat}(h:0≤a):∀ n:Nat,0≤a^n
 | 0=>by rw[Rat.pow_zero];decide
 | n+1=>by rw[Rat.pow_succ];exact Rat.mul_nonneg (pow_nn h n) h
theorem pow_monox {a b:Rat}(h:0≤a)(k:a≤b):∀ n:Nat,a^n≤b^n
 | 0=>by rw[Rat.pow_zero,Rat.pow_zero];exact Rat.le_refl
 | n+1=>by
  have i:=pow_monox h k n
  have m1:=Rat.mul_le_mul_of_nonneg_right i h
  have m2:=Rat.mul_le_mul_of_nonneg_left k (pow_nn (Rat.le_trans h k) n)
  rw[Rat.pow_succ,Rat.pow_succ]
  exact Rat.le_trans m1 m2
theorem two_one (n:Nat):(1:Rat)≤(2:Rat)^n:=one_pow_le (by decide) n
end Go.Proofs.YtkkbddkpggjgpaaGreatDoor


namespace Go.Proofs.YtkkbddkpggjgpaaGreatDoor
def EnE (f:Nat→Rat)(s:Nat)(lo hi:Int)(g:Rat):Prop:=∃ N,∀ K,N≤K→(lo:Rat)≤f K*((2^s:Int):Rat)+g∧f K*((2^s:Int):Rat)≤(hi:Rat)+g
theorem EnE.mono {f:Nat→Rat}{s:Nat}{lo hi:Int}{g g':Rat}(h:EnE f s lo hi g)(hg:g≤g'):EnE f s lo hi g':=by
 obtain⟨N,h⟩:=h
 exact⟨N,fun K hK=>by have:=h K hK;constructor<;>grind⟩
theorem EnE.near {f f':Nat→Rat}{s:Nat}{lo hi:Int}{g e:Rat}(h:EnE f s lo hi g)(hn:∃ N,∀ K,N≤K→f K≤f' K+e∧f' K≤f K+e):EnE f' s lo hi (g+e*((2^s:Int):Rat)):=by
 obtain⟨N,h⟩:=h
 obtain⟨M,hn⟩:=hn
 have P:(0:Rat)<((2^s:Int):Rat):=Rat.intCast_pos.2 (two_pos s)
 refine⟨N+M,fun K hK=>?_⟩
 have a:=h K (by omega)
 have b:=hn K (by omega)
 have m1:=Rat.mul_le_mul_of_nonneg_right b.1 (Rat.le_of_lt P)
 have m2:=Rat.mul_le_mul_of_nonneg_right b.2 (Rat.le_of_lt P)
 constructor<;>grind
theorem int_gap2 {l h:Int}{X Y:Rat}(h1:(l:Rat)≤X)(h2:Y≤(h:Rat))(g:X<Y+1):l≤h:=by
 refine Decidable.byContradiction fun hn=>?_
 have:((h+1:Int):Rat)≤(l:Rat):=Rat.intCast_le_intCast.2 (by omega)
 rw[Rat.intCast_add,show ((1:Int):Rat)=1 from rfl] at this
 grind
theorem EnE.le {f f':Nat→Rat}{s:Nat}{a b c d:Int}{g g':Rat}(h:EnE f s a b g)(k:EnE f' s c d g')(hl:Lq f f')(hg:g+g'<1):a≤d:=by
 obtain⟨N,h⟩:=h
 obtain⟨M,k⟩:=k
 have P:(0:Rat)<((2^s:Int):Rat):=Rat.intCast_pos.2 (two_pos s)
 have i0:=Rat.inv_pos.2 P
 have ie:=inv_one P
 have e0:0<(1-g-g')*(1 / 2):=Rat.mul_pos (by grind) r8.2.1
 obtain⟨Q,q⟩:=hl ((1-g-g')*(1 / 2)*(((2^s:Int):Rat))⁻¹) (Rat.mul_pos e0 i0)
 have h:=(h (N+M+Q) (by omega)).1
 have k:=(k (N+M+Q) (by omega)).2
 have q:=Rat.mul_le_mul_of_nonneg_right (q (N+M+Q) (by omega)) (Rat.le_of_lt P)
 have z:(1-g-g')*(1 / 2)*(((2^s:Int):Rat))⁻¹*((2^s:Int):Rat)=(1-g-g')*(1 / 2):=by rw[Rat.mul_assoc,ie,Rat.mul_one]
 exact int_gap2 (X:=f (N+M+Q)*((2^s:Int):Rat)+g) (Y:=f' (N+M+Q)*((2^s:Int):Rat)-g') h (by grind) (by grind)
theorem EnE.scale {f:Nat→Rat}{s n:Nat}{a b:Int}{g:Rat}(h:EnE f s a b g):EnE f (s+n) (a*2^n) (b*2^n) (g*((2^n:Int):Rat)):=by
 obtain⟨N,h⟩:=h
 have P:(0:Rat)<((2^n:Int):Rat):=Rat.intCast_pos.2 (two_pos n)
 refine⟨N,fun K hK=>?_⟩
 have q:=h K hK
 rw[Int.pow_add,Rat.intCast_mul,Rat.intCast_mul,Rat.intCast_mul]
 have m1:=Rat.mul_le_mul_of_nonneg_right q.1 (Rat.le_of_lt P)
 have m2:=Rat.mul_le_mul_of_nonneg_right q.2 (Rat.le_of_lt P)
 constructor<;>grind
theorem EnE.meet {f:Nat→Rat}{s n:Nat}{a b c d:Int}{g g':Rat}(h:EnE f s a b g)(k:EnE f (s+n) c d g')(hg:g*((2^n:Int):Rat)+g'<1):a*2^n≤d∧c≤b*2^n :=
 ⟨h.scale.le k (Lq.refl f) hg,k.le h.scale (Lq.refl f) (by grind)⟩
end Go.Proofs.YtkkbddkpggjgpaaGreatDoor

namespace Go.Proofs.YtkkbddkpggjgpaaGreatDoor
def iP:Nat→Rat × Rat
 | 0=>(1,0)
 | n+1=>(-(iP n).2,(iP n).1)
theorem iP_add (a:Nat):∀ b,(iP (a+b)).1=(iP a).1*(iP b).1-(iP a).2*(iP b).2∧(iP (a+b)).2=(iP a).1*(iP b).2+(iP a).2*(iP b).1
 | 0=>by
  show (iP a).1=(iP a).1*1-(iP a).2*0∧(iP a).2=(iP a).1*0+(iP a).2*1
  constructor<;>grind
 | b+1=>by
  have h:=iP_add a b
  have e1:(iP (a+(b+1))).1=-(iP (a+b)).2:=rfl
  have e2:(iP (a+(b+1))).2=(iP (a+b)).1:=rfl
  have e3:(iP (b+1)).1=-(iP b).2:=rfl
  have e4:(iP (b+1)).2=(iP b).1:=rfl
  rw[e1,e2,e3,e4,h.1,h.2]
  constructor<;>grind
theorem iP_bd:∀ n,(-1≤(iP n).1∧(iP n).1≤1)∧(-1≤(iP n).2∧(iP n).2≤1)
 | 0=>by show (-1≤(1:Rat)∧(1:Rat)≤1)∧(-1≤(0:Rat)∧(0:Rat)≤1);decide
 | n+1=>by
  have h:=iP_bd n
  show (-1≤-(iP n).2∧-(iP n).2≤1)∧(-1≤(iP n).1∧(iP n).1≤1)
  refine⟨⟨by grind,by grind⟩,h.1⟩
def tC (x:Rat)(n:Nat):Rat:=(iP n).1*tE x n
def tS (x:Rat)(n:Nat):Rat:=(iP n).2*tE x n
def CS (x:Rat)(K:Nat):Rat:=Sm (tC x) K
def SN (x:Rat)(K:Nat):Rat:=Sm (tS x) K
theorem one_bd {u t g:Rat}(h:-1≤u∧u≤1)(h1:-g≤t)(h2:t≤g):-g≤u*t∧u*t≤g:=by
 have m:=mul_bd h.1 h.2 h1 h2
 rw[Rat.one_mul] at m;exact m
theorem tC_bd {x a:Rat}(h1:-a≤x)(h2:x≤a)(n:Nat):-(tE a n)≤tC x n∧tC x n≤tE a n:=one_bd (iP_bd n).1 (tE_bd h1 h2 n).1 (tE_bd h1 h2 n).2
theorem tS_bd {x a:Rat}(h1:-a≤x)(h2:x≤a)(n:Nat):-(tE a n)≤tS x n∧tS x n≤tE a n:=one_bd (iP_bd n).2 (tE_bd h1 h2 n).1 (tE_bd h1 h2 n).2
theorem Sm_gap {f g:Nat→Rat}(h:∀ i,-(g i)≤f i∧f i≤g i)(K:Nat):∀ k,-(Sm g (K+k)-Sm g K)≤Sm f (K+k)-Sm f K∧Sm f (K+k)-Sm f K≤Sm g (K+k)-Sm g K
 | 0=>by show -(Sm g K-Sm g K)≤Sm f K-Sm f K∧Sm f K-Sm f K≤Sm g K-Sm g K;constructor<;>grind
 | k+1=>by
  have i:=Sm_gap h K k
  have b:=h (K+k)
  have e1:Sm f (K+(k+1))=Sm f (K+k)+f (K+k):=rfl
  have e2:Sm g (K+(k+1))=Sm g (K+k)+g (K+k):=rfl
  rw[e1,e2]
  constructor<;>grind
def Tri (f g:Nat→Rat)(K:Nat):Rat:=Sm (fun i=>Sm (fun j=>f i*g j) (K-i)) K
theorem Tri_form (f g:Nat→Rat)(K:Nat):Sm f K*Sm g K-Tri f g K=Sm (fun i=>f i*(Sm g K-Sm g (K-i))) K:=by
 have q:Tri f g K=Sm (fun i=>f i*Sm g (K-i)) K:=Sm_congr fun i _=>Sm_cm _ _ _
 have r:Sm (fun i=>f i*Sm g K) K=Sm (fun i=>f i*(Sm g K-Sm g (K-i))) K+Sm (fun i=>f i*Sm g (K-i)) K:=by
  rw[← Sm_add]
  exact Sm_congr fun i _=>by grind
 rw[q,Sm_mul,r];grind
theorem Tri_bd {f g F G:Nat→Rat}(hf:∀ i,-(F i)≤f i∧f i≤F i)(hg:∀ i,-(G i)≤g i∧g i≤G i)(K:Nat) :
  -(Sm F K*Sm G K-Tri F G K)≤Sm f K*Sm g K-Tri f g K∧Sm f K*Sm g K-Tri f g K≤Sm F K*Sm G K-Tri F G K:=by
 rw[Tri_form,Tri_form]
 refine Sm_bd fun i hi=>?_
 have s:=Sm_gap hg (K-i) i
 rw[show K-i+i=K by omega] at s
 exact mul_bd (hf i).1 (hf i).2 s.1 s.2
theorem Tri_diag (f g:Nat→Rat)(K:Nat):Tri f g K=Sm (fun n=>Sm (fun i=>f i*g (n-i)) (n+1)) K:=(Sm_tri (fun i j=>f i*g j) K).symm
theorem Sm_sub (f g:Nat→Rat):∀ n,Sm (fun i=>f i-g i) n=Sm f n-Sm g n
 | 0=>by show (0:Rat)=0-0;grind
 | n+1=>by
  show Sm (fun i=>f i-g i) n+(f n-g n)=Sm f n+f n-(Sm g n+g n)
  rw[Sm_sub f g n];grind
theorem Tri_EP (x y:Rat)(K:Nat):Tri (tE x) (tE y) K=EP (x+y) K:=(EP_conv x y K).symm
theorem CS_conv (x y:Rat)(K:Nat):CS (x+y) K=Tri (tC x) (tC y) K-Tri (tS x) (tS y) K:=by
 rw[Tri_diag,Tri_diag,← Sm_sub]
 refine Sm_congr fun n _=>?_
 rw[← Sm_sub]
 unfold tC
 rw[tE_add,← Sm_cm]
 refine Sm_congr fun i hi=>?_
 have a:=(iP_add i (n-i)).1
 rw[show i+(n-i)=n by omega] at a
 rw[a]
 unfold tS
 grind
theorem SN_conv (x y:Rat)(K:Nat):SN (x+y) K=Tri (tC x) (tS y) K+Tri (tS x) (tC y) K:=by
 rw[Tri_diag,Tri_diag,← Sm_add]
 refine Sm_congr fun n _=>?_
 rw[← Sm_add]
 unfold tS
 rw[tE_add,← Sm_cm]
 refine Sm_congr fun i hi=>?_
 have a:=(iP_add i (n-i)).2
 rw[show i+(n-i)=n by omega] at a
 rw[a]
 unfold tC
 grind
theorem gap_lim {a b:Rat}(a0:0≤a)(b0:0≤b){e:Rat}(he:0<e):∃ N,∀ K,N≤K→Sm (tE a) K*Sm (tE b) K-Tri (tE a) (tE b) K≤e:=by
 obtain⟨N,h⟩:=EP_cau (Rat.add_nonneg a0 b0) he
 refine⟨N,fun K hK=>?_⟩
 have c:=h K hK (2*K)
 have d:Sm (tE a) K*Sm (tE b) K≤EP (a+b) (2*K):=(EP_mul a0 b0 K).2
 rw[Tri_EP]
 grind
theorem Lm.of_near {f g:Nat→Rat}(h:∀ e:Rat,0<e→∃ N,∀ K,N≤K→f K≤g K+e∧g K≤f K+e):Lm f g :=
 ⟨fun e he=>by obtain⟨N,h⟩:=h e he;exact⟨N,fun K hK=>(h K hK).1⟩,fun e he=>by obtain⟨N,h⟩:=h e he;exact⟨N,fun K hK=>(h K hK).2⟩⟩
theorem CS_add (x y:Rat):Lm (CS (x+y)) (fun K=>CS x K*CS y K-SN x K*SN y K):=by
 obtain⟨a,a0,a1,a2⟩:=abs_ex x
 obtain⟨b,b0,b1,b2⟩:=abs_ex y
 refine Lm.of_near fun e he=>?_
 obtain⟨N,h⟩:=gap_lim a0 b0 (half_pos he)
 refine⟨N,fun K hK=>?_⟩
 have c:=h K hK
 have z:=half_two e
 have f1:=Tri_bd (tC_bd a1 a2) (tC_bd b1 b2) K
 have f2:=Tri_bd (tS_bd a1 a2) (tS_bd b1 b2) K
 rw[CS_conv]
 unfold CS SN
 constructor<;>grind
theorem SN_add (x y:Rat):Lm (SN (x+y)) (fun K=>CS x K*SN y K+SN x K*CS y K):=by
 obtain⟨a,a0,a1,a2⟩:=abs_ex x
 obtain⟨b,b0,b1,b2⟩:=abs_ex y
 refine Lm.of_near fun e he=>?_
 obtain⟨N,h⟩:=gap_lim a0 b0 (half_pos he)
 refine⟨N,fun K hK=>?_⟩
 have c:=h K hK
 have z:=half_two e
 have f1:=Tri_bd (tC_bd a1 a2) (tS_bd b1 b2) K
 have f2:=Tri_bd (tS_bd a1 a2) (tC_bd b1 b2) K
 rw[SN_conv]
 unfold CS SN
 constructor<;>grind
theorem CS_addN (x y:Rat){e:Rat}(he:0<e):∃ N,∀ K,N≤K→(CS (x+y) K≤CS x K*CS y K-SN x K*SN y K+e∧CS x K*CS y K-SN x K*SN y K≤CS (x+y) K+e)∧(SN (x+y) K≤CS x K*SN y K+SN x K*CS y K+e∧CS x K*SN y K+SN x K*CS y K≤SN (x+y) K+e):=by
 obtain⟨N1,h1⟩:=(CS_add x y).1 e he
 obtain⟨N2,h2⟩:=(CS_add x y).2 e he
 obtain⟨N3,h3⟩:=(SN_add x y).1 e he
 obtain⟨N4,h4⟩:=(SN_add x y).2 e he
 exact⟨N1+N2+N3+N4,fun K hK=>⟨⟨h1 K (by omega),h2 K (by omega)⟩,h3 K (by omega),h4 K (by omega)⟩⟩
theorem t_neg (x:Rat):∀ n,tC (-x) n=tC x n∧tS (-x) n=-(tS x n)
 | 0=>by
  show (1:Rat)*1=1*1∧(0:Rat)*1=-(0*1)
  constructor<;>grind
 | n+1=>by
  have h:=t_neg x n
  unfold tC tS at h ⊢
  show -(iP n).2*(tE (-x) n*-x / (nx n:Rat))=-(iP n).2*(tE x n*x / (nx n:Rat))∧(iP n).1*(tE (-x) n*-x / (nx n:Rat))=-((iP n).1*(tE x n*x / (nx n:Rat)))
  rw[Rat.div_def,Rat.div_def]
  constructor<;>grind
theorem Sm_opp (f:Nat→Rat):∀ n,Sm (fun i=>-(f i)) n=-(Sm f n)
 | 0=>by show (0:Rat)=-0;grind
 | n+1=>by
  show Sm (fun i=>-(f i)) n+-(f n)=-(Sm f n+f n)
  rw[Sm_opp f n];grind
theorem CS_neg (x:Rat)(K:Nat):CS (-x) K=CS x K:=Sm_congr fun i _=>(t_neg x i).1
theorem SN_neg (x:Rat)(K:Nat):SN (-x) K=-(SN x K):=by
 unfold SN
 rw[← Sm_opp]
 exact Sm_congr fun i _=>(t_neg x i).2
theorem tE_0 (n:Nat):tE 0 (n+1)=0:=by
 show tE 0 n*0 / (nx n:Rat)=0
 rw[Rat.mul_zero,Rat.div_def,Rat.zero_mul]
theorem CS_zero:∀ K,1≤K→CS 0 K=1∧SN 0 K=0
 | 0,h=>absurd h (by omega)
 | 1,_=>by show (0:Rat)+1*1=1∧(0:Rat)+0*1=0;constructor<;>grind
 | K+2,_=>by
  have a:=CS_zero (K+1) (by omega)
  show CS 0 (K+1)+(iP (K+1)).1*tE 0 (K+1)=1∧SN 0 (K+1)+(iP (K+1)).2*tE 0 (K+1)=0
  rw[a.1,a.2,tE_0]
  constructor<;>grind
theorem CS_sq (x:Rat):Lm (fun K=>CS x K*CS x K+SN x K*SN x K) (fun _=>1):=by
 have h:=CS_add x (-x)
 rw[show x+-x=0 by grind] at h
 refine Lm.trans (Lm.of_eq (N:=0) fun K _=>?_) (h.symm.trans (Lm.of_eq (N:=1) fun K hK=>(CS_zero K hK).1))
 rw[CS_neg,SN_neg];grind
theorem sq_nn (x:Rat):0≤x*x:=by
 rcases (Rat.le_total:0≤x∨x≤0) with h | h
 ·exact Rat.mul_nonneg h h
 ·have:=Rat.mul_nonneg (show 0≤-x by grind) (show 0≤-x by grind);grind
theorem sq_le1 {x e:Rat}(he:0<e)(h:x*x≤1+e):-(1+e)≤x∧x≤1+e:=by
 constructor
 ·refine Decidable.byContradiction fun hn=>?_
  have m:=Rat.mul_le_mul_of_nonneg_left (show 1+e≤-x by grind) (show 0≤-x by grind)
  have m2:=Rat.mul_le_mul_of_nonneg_right (show 1≤1+e by grind) (show 0≤-x by grind)
  grind
 ·refine Decidable.byContradiction fun hn=>?_
  have m:=Rat.mul_le_mul_of_nonneg_left (show 1+e≤x by grind) (show 0≤x by grind)
  have m2:=Rat.mul_le_mul_of_nonneg_right (show 1≤1+e by grind) (show 0≤x by grind)
  grind
theorem CS_one (x:Rat){e:Rat}(he:0<e):∃ N,∀ K,N≤K→(-(1+e)≤CS x K∧CS x K≤1+e)∧(-(1+e)≤SN x K∧SN x K≤1+e):=by
 obtain⟨N,h⟩:=(CS_sq x).1 e he
 refine⟨N,fun K hK=>?_⟩
 have h:CS x K*CS x K+SN x K*SN x K≤1+e:=h K hK
 have a:=sq_nn (CS x K)
 have b:=sq_nn (SN x K)
 exact⟨sq_le1 he (by grind),sq_le1 he (by grind)⟩
theorem CS_tail {x a:Rat}(a0:0≤a)(h1:-a≤x)(h2:x≤a){n:Nat}(hn:2*a≤(nx n:Rat)){K:Nat}(hK:n+1≤K) :
  (CS x (n+1)-tE a n≤CS x K∧CS x K≤CS x (n+1)+tE a n)∧(SN x (n+1)-tE a n≤SN x K∧SN x K≤SN x (n+1)+tE a n):=by
 have t:=EP_tail a0 hn K
 have g1:=Sm_gap (tC_bd h1 h2) (n+1) (K-(n+1))
 have g2:=Sm_gap (tS_bd h1 h2) (n+1) (K-(n+1))
 rw[show n+1+(K-(n+1))=K by omega] at g1 g2
 unfold EP at t
 unfold CS SN
 refine⟨⟨?_,?_⟩,⟨?_,?_⟩⟩<;>grind
end Go.Proofs.YtkkbddkpggjgpaaGreatDoor

namespace Go.Proofs.YtkkbddkpggjgpaaGreatDoor
def ptPi:Int:=8710598741881011095307514925528767253835697869117002946683736815061430642517439960281687965396170617911066893946226934353316672095
def cQ:Rat:=dv ptPi (-431)
theorem cQ_b:157≤100*cQ∧1000*cQ≤1571:=⟨of_decide_eq_true (by kernel_rfl),of_decide_eq_true (by kernel_rfl)⟩
end Go.Proofs.YtkkbddkpggjgpaaGreatDoor

namespace Go.Proofs.YtkkbddkpggjgpaaGreatDoor
def mT (i j:Nat):Int:=(((i+2*j:Nat):Int)+1)*(((i+2*j:Nat):Int)+2)
def ty (T q1 q2 a b:Int)(i:Nat):Nat→Int × Int
 | 0=>(a,b)
 | j+1=>(ptLo ((ty T q1 q2 a b i j).1*q1 / T) (mT i j),ptHi (-(-((ty T q1 q2 a b i j).2*q2) / T)) (mT i j))
structure TyH (T q1 q2 a b:Int):Prop where
 hT:16≤T
 q0:0≤q1
 q12:q1≤q2
 qT:q2≤T
 qw:q2-q1≤1
 a0:0≤a
 ab:a≤b
 bT:b≤T
 aw:b-a≤1
def tyA (p1 p2:Nat→Int):Nat→Int
 | 0=>p1 0
 | j+1=>if j%2=0 then tyA p1 p2 j+-(p2 (j+1)) else tyA p1 p2 j+p1 (j+1)
def tyB (p1 p2:Nat→Int):Nat→Int
 | 0=>p2 0
 | j+1=>if j%2=0 then tyB p1 p2 j+-(p1 (j+1)) else tyB p1 p2 j+p2 (j+1)
def aS (t:Nat→Rat):Nat→Rat
 | 0=>t 0
 | j+1=>if j%2=0 then aS t j-t (j+1) else aS t j+t (j+1)
theorem tyS_enc {p1 p2:Nat→Int}{t:Nat→Rat}{T:Rat}(h:∀ j,(p1 j:Rat)≤t j*T∧t j*T≤(p2 j:Rat)):∀ j,((tyA p1 p2 j:Int):Rat)≤aS t j*T∧aS t j*T≤((tyB p1 p2 j:Int):Rat)
 | 0=>h 0
 | j+1=>by
  have a:=tyS_enc h j
  have b:=h (j+1)
  unfold tyA tyB aS
  by_cases q:j%2=0
  ·rw[if_pos q,if_pos q,if_pos q,Rat.intCast_add,Rat.intCast_add,Rat.intCast_neg,Rat.intCast_neg]
   constructor<;>grind
  ·rw[if_neg q,if_neg q,if_neg q,Rat.intCast_add,Rat.intCast_add]
   constructor<;>grind
def sg (l:Nat):Rat:=if l%2=0 then 1 else -1
theorem sg_succ (l:Nat):sg (l+1)=-(sg l):=by
 unfold sg
 by_cases h:l%2=0
 ·rw[if_pos h,if_neg (by omega)]
 ·rw[if_neg h,if_pos (by omega)];grind
end Go.Proofs.YtkkbddkpggjgpaaGreatDoor




namespace Go.Proofs.YtkkbddkpggjgpaaGreatDoor
open Go.RowKit
set_option maxRecDepth 100000
set_option maxHeartbeats 2000000
theorem N_zero:N 0=.sl 1 []:=by simp [N,lim,limbs_zero,U]
theorem rt_nil {a:Nat}(h:a=0):vsub (.tup [.nil,.nil]) (.tup [N (rt a),N (a-rt a*rt a)]):=by
 subst h
 rw[rt_zero,N_zero]
 exact vsub_tup2 (vsub_nil 1) (vsub_nil 1)
theorem prod_Square (a:Nat)(c0:L a≤33554432):Impl Tryz.prog Amb 232 [(N a)] (N (a*a)):=by
 exact impl_ob hP hAmb Tryz.func232 (by kernel_rfl) (.lit<|.call (N (a*a))<|.lit<|.ret)
  (cast_ob (aI True.intro (aI (prod_Mul a a oA oA) (have f1:=L_mul a a;(vsub_refl (N (a*a)))))) (by kernel_rfl))
def prod_Small_0_mk (a:Nat)(m:Int)(x:Int × Int × List V × List Nat):St:=⟨mkS 47 [(0,(.val (N a))),(1,(.val (.int .u32 m))),(7,(.osl 0 0 ((((lim a).length:Int)+1).toNat) 1)),(8,(.val (.int .u64 x.2.1))),(17,(.val (N a))),(18,(.val (.int .i64 ((lim a).length:Int)))),(19,(.val (.int .i64 x.1)))],[⟨true,false,x.2.2.1⟩]⟩
def prod_Small_0_I (a:Nat)(m:Int)(x:Int × Int × List V × List Nat):Prop:=x.2.2.1=U x.2.2.2∧PsInv a m x.1 x.2.1 x.2.2.2
def prod_Small_0_mu (a:Nat)(_:Int)(x:Int × Int × List V × List Nat):Nat:=((L a:Int)-x.1).toNat
def prod_Small_0_ex (a:Nat)(_:Int)(y:Int × List Nat):Ex × St:=(.exit 0,⟨mkS 47 [(0,(.val (N a))),(7,(.osl 0 0 ((((lim a).length:Int)+1).toNat) 1)),(8,(.val (.int .u64 y.1)))],[⟨true,false,(U y.2)⟩]⟩)
def prod_Small_0_J (a:Nat)(m:Int)(y:Int × List Nat):Prop:=PsInv a m (L a:Int) y.1 y.2
abbrev prod_Small_0_N (a:Nat)(m:Int):=NX (prod_Small_0_mk a m) (prod_Small_0_I a m) (prod_Small_0_mu a m) (prod_Small_0_ex a m) (prod_Small_0_J a m)
theorem prod_Small_0 (a:Nat)(m:Int)(c0:L a≤33554432)(c1:(0:Int)≤m∧m<4294967296)(x0:Int × Int × List V × List Nat)(hI:prod_Small_0_I a m x0):LoopOk Tryz.prog Amb (loopN Tryz.f236 0) (prod_Small_0_mk a m x0) (fun e st_=>∃ y,prod_Small_0_J a m y∧prod_Small_0_ex a m y=(e,st_)) :=
 loop_ob hP hAmb ⟨[0,1,7,8,17,18,19],1,[]⟩ (prod_Small_0_mk a m) (prod_Small_0_I a m) (prod_Small_0_mu a m) (prod_Small_0_ex a m) (prod_Small_0_J a m) x0 hI (fun (i,c,o,l)=>.lit<|.both (.yes<|.yes<|.lit<|.yes<|.lit<|.yes<|.lit<|.yes<|.lit<|.yes<|.lit<|.no<|.yes<|.yes<|.lits 2<|.yes<|.fin2 ⟨[0,1,7,8,17,18,19],1,[]⟩) (.fin2 ⟨[0,7,8],1,[]⟩)) (by
  rintro ⟨i,c,o,l⟩ hI
  have hI:o=U l∧PsInv a m i c l:=hI
  obtain⟨rfl,h1⟩:=hI
  have ⟨p0,p1,p2,p3,p4,p5,_⟩:=h1
  have e0:=L_len a
  have g4:=U_len l
  have hb:=ps_bound h1 c1
  have g0:=gi_nonneg (limbs a) i.toNat
  have g1:=gi_lt (dig_limbs a) i.toNat
  exact cast_ob (aI True.intro (aI (fun (h101:(iLt i ((lim a).length:Int))=true)=>have _gh101:=iLt_t h101;aI (inB_mk oA:(inB i ((lim a).length))=true) (aI (ld_L oA:(Nat.blt i.toNat (lim a).length && isIntK .u32 (nth (lim a) i.toNat .unk))=true) (aI (fits_u64 oA:(fits .u64 (gi (limbs a) i.toNat))=true) (aI (fits_u64 oA:(fits .u64 m)=true) (aI (fits_u64 oA:(fits .u64 ((gi (limbs a) i.toNat)*m))=true) (aI (fits_u64 oA:(fits .u64 (c+((gi (limbs a) i.toNat)*m)))=true) (aI (inB_mk oA:(inB i ((((lim a).length:Int)+1).toNat))=true) (aI (st_ok oA:(Nat.ble ((0+i.toNat)+1) (U l).length)=true) (aI (fits_i64 oA:(fits .i64 (i+1))=true) (aI tT ((nx_next ((i+1),(Int.fdiv (c+((gi (limbs a) i.toNat)*m)) (2^32)),(List.set (U l) (0+i.toNat) (.int .u32 (IntKind.wrap .u32 (c+((gi (limbs a) i.toNat)*m))))),(l.set i.toNat (IntKind.wrap .u32 (c+((gi (limbs a) i.toNat)*m))).toNat)) (show (List.set (U l) (0+i.toNat) (.int .u32 (IntKind.wrap .u32 (c+((gi (limbs a) i.toNat)*m)))))=U (l.set i.toNat (IntKind.wrap .u32 (c+((gi (limbs a) i.toNat)*m))).toNat)∧PsInv a m (i+1) (Int.fdiv (c+((gi (limbs a) i.toNat)*m)) (2^32)) (l.set i.toNat (IntKind.wrap .u32 (c+((gi (limbs a) i.toNat)*m))).toNat) from ⟨setU _ oO (wrap_pos _),ps_next h1 oO c1 rfl⟩) (show ((L a:Int)-(i+1)).toNat<((L a:Int)-i).toNat by omega):prod_Small_0_N a m (i,c,(U l),l) .normal (prod_Small_0_mk a m ((i+1),(Int.fdiv (c+((gi (limbs a) i.toNat)*m)) (2^32)),(List.set (U l) (0+i.toNat) (.int .u32 (IntKind.wrap .u32 (c+((gi (limbs a) i.toNat)*m))))),(l.set i.toNat (IntKind.wrap .u32 (c+((gi (limbs a) i.toNat)*m))).toNat))))))))))))))) (fun (h102:(iLt i ((lim a).length:Int))=false)=>have _gh102:=iLt_f h102;aI tT ((nx_exit 0 ((prod_Small_0_ex a m (c,l)).2) (c,l) (show PsInv a m (L a:Int) c l from (show i=(L a:Int) by omega) ▸ h1) rfl:prod_Small_0_N a m (i,c,(U l),l) (.exit 0) ((prod_Small_0_ex a m (c,l)).2)))))) (by kernel_rfl))
theorem prod_Small (a:Nat)(m:Int)(c0:L a≤33554432)(c1:(0:Int)≤m∧m<4294967296):Impl Tryz.prog Amb 236 [(N a),(.int .u32 m),(.int .u32 0)] (N (a*(m).toNat)):=by
 have e0:=L_len a
 exact impl_ob hP hAmb Tryz.func236 (by kernel_rfl) (.lit<|.yes<|.yes<|.lit<|.yes<|.loop ⟨[0,1,7,8,17,18,19],1,[]⟩ ((prod_Small_0_mk a m (0,0,(List.replicate ((((lim a).length:Int)+1).toNat) (.int .u32 0)),(List.replicate (L a+1) 0)))) (Int × List Nat) (prod_Small_0_ex a m) (prod_Small_0_J a m) (fun y=>.lit<|.no<|.yes<|.yes<|.yes<|.call (N (val (y.2.set (L a) y.1.toNat)))<|.lit<|.ret))
  (cast_ob (aI True.intro (aI (fits_i64 oA:(fits .i64 (((lim a).length:Int)+1))=true) (aI (mk_ok oA:(((iEq (((lim a).length:Int)+1) (((lim a).length:Int)+1)) && (iLe 0 (((lim a).length:Int)+1))) && (iLe (((lim a).length:Int)+1) 1073741824))=true) (aI tT (aI tT (aI (rfl:(prod_Small_0_mk a m (0,0,(List.replicate ((((lim a).length:Int)+1).toNat) (.int .u32 0)),(List.replicate (L a+1) 0)))=(prod_Small_0_mk a m (0,0,(List.replicate ((((lim a).length:Int)+1).toNat) (.int .u32 0)),(List.replicate (L a+1) 0)))) (aI (prod_Small_0 a m c0 c1 (0,0,(List.replicate ((((lim a).length:Int)+1).toNat) (.int .u32 0)),(List.replicate (L a+1) 0)) (show (List.replicate ((((lim a).length:Int)+1).toNat) (.int .u32 0))=U (List.replicate (L a+1) 0)∧PsInv a m 0 0 (List.replicate (L a+1) 0) from ⟨by rw[L_len];exact U_rep _,ps_init _ _⟩)) (fun y (hJ:prod_Small_0_J a m y)=>have hJ:PsInv a m (L a:Int) y.1 y.2:=hJ;have ⟨_,_,q2,q3,q4,_⟩:=hJ;have q5:=U_len y.2;aI (inB_mk oA:(inB ((lim a).length:Int) ((((lim a).length:Int)+1).toNat))=true) (aI (st_ok oA:(Nat.ble ((0+((lim a).length:Int).toNat)+1) (U y.2).length)=true) (aI (ok_arg oA:((true && Nat.ble (0+(((lim a).length:Int)+1).toNat) (List.set (U y.2) (0+((lim a).length:Int).toNat) (.int .u32 (IntKind.wrap .u32 y.1))).length) && true)=true) (aI (nat_TrimC (List.take ((((lim a).length:Int)+1).toNat) (List.drop 0 (List.set (U y.2) (0+((lim a).length:Int).toNat) (.int .u32 (IntKind.wrap .u32 y.1))))) (y.2.set (L a) y.1.toNat) (tkU (setU y.2 (show _=L a by omega) (by rw[wrap_u32];omega)) (by rw[(ps_end hJ).2.1];omega)) (ps_end hJ).1 (by rw[(ps_end hJ).2.1];omega)) ((vsub_of (congrArg N (ps_end hJ).2.2):vsub (N (val (y.2.set (L a) y.1.toNat))) (N (a*(m).toNat))))))))))))))) (by kernel_rfl))
theorem prod_Small1 (a:Nat)(c0:L a≤33554432):Impl Tryz.prog Amb 236 [(N a),(.int .u32 1),(.int .u32 0)] (N a):=by
 have h:=prod_Small a 1 c0 oO
 rw[show (1:Int).toNat=1 from rfl,Nat.mul_one] at h
 exact h
def prod_Power_0_mk (a:Nat)(n:Int)(x:Int × Nat):St:=⟨mkS 35 [(0,(.val (N a))),(1,(.val (.int .i64 n))),(5,(.val (N x.2))),(6,(.val (.int .i64 x.1)))],[]⟩
def prod_Power_0_I (a:Nat)(n:Int)(x:Int × Nat):Prop:=-1≤x.1∧x.1≤6∧x.2=a^(n.toNat / 2^(x.1+1).toNat)
def prod_Power_0_mu (_:Nat)(_:Int)(x:Int × Nat):Nat:=(x.1+1).toNat
def prod_Power_0_ex (_:Nat)(_:Int)(y:Nat):Ex × St:=(.exit 0,⟨mkS 35 [(5,(.val (N y)))],[]⟩)
def prod_Power_0_J (a:Nat)(n:Int)(y:Nat):Prop:=y=a^(n).toNat
abbrev prod_Power_0_N (a:Nat)(n:Int):=NX (prod_Power_0_mk a n) (prod_Power_0_I a n) (prod_Power_0_mu a n) (prod_Power_0_ex a n) (prod_Power_0_J a n)
theorem prod_Power_0 (a:Nat)(n:Int)(c0:L a≤4096)(c1:(0:Int)≤n∧n≤64)(x0:Int × Nat)(hI:prod_Power_0_I a n x0):LoopOk Tryz.prog Amb (loopN Tryz.f235 0) (prod_Power_0_mk a n x0) (fun e st_=>∃ y,prod_Power_0_J a n y∧prod_Power_0_ex a n y=(e,st_)) :=
 loop_ob hP hAmb ⟨[0,1,5,6],0,[]⟩ (prod_Power_0_mk a n) (prod_Power_0_I a n) (prod_Power_0_mu a n) (prod_Power_0_ex a n) (prod_Power_0_J a n) x0 hI (fun (i,o)=>.lit<|.both (.lit<|.both (.lits 6<|.call (N (o*o))<|.yes<|.lits 2<|.both (.lit<|.call (N ((o*o)*a))<|.lit<|.yes<|.fin2 ⟨[0,1,5,6],0,[]⟩) (.lit<|.yes<|.fin2 ⟨[0,1,5,6],0,[]⟩)) (.lit<|.yes<|.lit<|.yes<|.lits 3<|.both (.lit<|.call (N (o*o))<|.yes<|.lits 2<|.both (.lit<|.call (N ((o*o)*a))<|.lit<|.yes<|.fin2 ⟨[0,1,5,6],0,[]⟩) (.lit<|.yes<|.fin2 ⟨[0,1,5,6],0,[]⟩)) (.yes<|.lits 2<|.both (.lit<|.call (N (o*a))<|.lit<|.yes<|.fin2 ⟨[0,1,5,6],0,[]⟩) (.lit<|.yes<|.fin2 ⟨[0,1,5,6],0,[]⟩)))) (.fin2 ⟨[5],0,[]⟩)) (by
  rintro ⟨i,o⟩ hI
  have hI:-1≤i∧i≤6∧o=a^(n.toNat / 2^(i+1).toNat):=hI
  obtain⟨h1,h2,h3⟩:=hI
  have lo:L o≤64*L a+1:=by rw[h3];exact L_pow64 (Nat.le_trans (Nat.div_le_self _ _) oO)
  have e0:=L_len o
  exact cast_ob (aI True.intro (aI (fun (h101:(iGe i 0)=true)=>have _gh101:=iGe_t h101;aI (fun (h102:(iNe ((lim o).length:Int) 1)=true)=>have _gh102:=iNe_t h102;aI (prod_Square o oO) (have f106:=L_mul o o;aI (iLe_mk oO:(iLe 0 i)=true) (aI (fun (h103:(iEq (wAnd .i64 (Int.fdiv n (2^(min i.toNat (IntKind.bits .i64)))) (1:Int)) 1)=true)=>have _gh103:=iEq_t h103;aI (prod_Mul (o*o) a oO oO) (have f104:=L_mul (o*o) a;aI (fits_i64 oO:(fits .i64 (i-1))=true) (aI tT ((nx_next ((i-1),((o*o)*a)) (show -1≤(i-1)∧(i-1)≤6∧((o*o)*a)=a^(n.toNat / 2^((i-1)+1).toNat) from ⟨by omega,by omega,pw_y h3 c1 oO (by assumption)⟩) (show (i-1+1).toNat<(i+1).toNat by omega):prod_Power_0_N a n (i,o) .normal (prod_Power_0_mk a n ((i-1),((o*o)*a)))))))) (fun (h105:(iEq (wAnd .i64 (Int.fdiv n (2^(min i.toNat (IntKind.bits .i64)))) (1:Int)) 1)=false)=>have _gh105:=iEq_f h105;aI (fits_i64 oO:(fits .i64 (i-1))=true) (aI tT ((nx_next ((i-1),(o*o)) (show -1≤(i-1)∧(i-1)≤6∧(o*o)=a^(n.toNat / 2^((i-1)+1).toNat) from ⟨by omega,by omega,pw_n h3 c1 oO (by assumption)⟩) (show (i-1+1).toNat<(i+1).toNat by omega):prod_Power_0_N a n (i,o) .normal (prod_Power_0_mk a n ((i-1),(o*o)))))))))) (fun (h107:(iNe ((lim o).length:Int) 1)=false)=>have _gh107:=iNe_f h107;aI (inB_mk oO:(inB (0:Int) ((lim o).length))=true) (aI (ld_L oO:(Nat.blt 0 (lim o).length && isIntK .u32 (nth (lim o) 0 .unk))=true) (aI (fun (h108:(iNe (gi (limbs o) 0) 1)=true)=>have _gh108:=iNe_t h108;aI (prod_Square o oO) (have f112:=L_mul o o;aI (iLe_mk oO:(iLe 0 i)=true) (aI (fun (h109:(iEq (wAnd .i64 (Int.fdiv n (2^(min i.toNat (IntKind.bits .i64)))) (1:Int)) 1)=true)=>have _gh109:=iEq_t h109;aI (prod_Mul (o*o) a oO oO) (have f110:=L_mul (o*o) a;aI (fits_i64 oO:(fits .i64 (i-1))=true) (aI tT ((nx_next ((i-1),((o*o)*a)) (show -1≤(i-1)∧(i-1)≤6∧((o*o)*a)=a^(n.toNat / 2^((i-1)+1).toNat) from ⟨by omega,by omega,pw_y h3 c1 oO (by assumption)⟩) (show (i-1+1).toNat<(i+1).toNat by omega):prod_Power_0_N a n (i,o) .normal (prod_Power_0_mk a n ((i-1),((o*o)*a)))))))) (fun (h111:(iEq (wAnd .i64 (Int.fdiv n (2^(min i.toNat (IntKind.bits .i64)))) (1:Int)) 1)=false)=>have _gh111:=iEq_f h111;aI (fits_i64 oO:(fits .i64 (i-1))=true) (aI tT ((nx_next ((i-1),(o*o)) (show -1≤(i-1)∧(i-1)≤6∧(o*o)=a^(n.toNat / 2^((i-1)+1).toNat) from ⟨by omega,by omega,pw_n h3 c1 oO (by assumption)⟩) (show (i-1+1).toNat<(i+1).toNat by omega):prod_Power_0_N a n (i,o) .normal (prod_Power_0_mk a n ((i-1),(o*o)))))))))) (fun (h113:(iNe (gi (limbs o) 0) 1)=false)=>have _gh113:=iNe_f h113;aI (iLe_mk oO:(iLe 0 i)=true) (aI (fun (h114:(iEq (wAnd .i64 (Int.fdiv n (2^(min i.toNat (IntKind.bits .i64)))) (1:Int)) 1)=true)=>have _gh114:=iEq_t h114;aI (prod_Mul o a oO oO) (have f115:=L_mul o a;aI (fits_i64 oO:(fits .i64 (i-1))=true) (aI tT ((nx_next ((i-1),(o*a)) (show -1≤(i-1)∧(i-1)≤6∧(o*a)=a^(n.toNat / 2^((i-1)+1).toNat) from ⟨by omega,by omega,(sq_one' oO (by assumption)).trans (pw_y h3 c1 oO (by assumption))⟩) (show (i-1+1).toNat<(i+1).toNat by omega):prod_Power_0_N a n (i,o) .normal (prod_Power_0_mk a n ((i-1),(o*a)))))))) (fun (h116:(iEq (wAnd .i64 (Int.fdiv n (2^(min i.toNat (IntKind.bits .i64)))) (1:Int)) 1)=false)=>have _gh116:=iEq_f h116;aI (fits_i64 oO:(fits .i64 (i-1))=true) (aI tT ((nx_next ((i-1),o) (show -1≤(i-1)∧(i-1)≤6∧o=a^(n.toNat / 2^((i-1)+1).toNat) from ⟨by omega,by omega,(sq_one oO (by assumption)).trans (pw_n h3 c1 oO (by assumption))⟩) (show (i-1+1).toNat<(i+1).toNat by omega):prod_Power_0_N a n (i,o) .normal (prod_Power_0_mk a n ((i-1),o)))))))))))) (fun (h117:(iGe i 0)=false)=>have _gh117:=iGe_f h117;aI tT ((nx_exit 0 ((prod_Power_0_ex a n o).2) o (show o=a^(n).toNat from (by rw[h3,show (i+1).toNat=0 by omega,Nat.pow_zero,Nat.div_one])) rfl:prod_Power_0_N a n (i,o) (.exit 0) ((prod_Power_0_ex a n o).2)))))) (by kernel_rfl))
theorem prod_Power (a:Nat)(n:Int)(c0:L a≤4096)(c1:(0:Int)≤n∧n≤64):Impl Tryz.prog Amb 235 [(N a),(.int .i64 n)] (N (a^(n).toNat)):=by
 have en:iMin (iMax n (0:Int)) (64:Int)=n:=by unfold iMin iMax;split<;>split<;>omega
 exact impl_ob hP hAmb Tryz.func235 (by kernel_rfl) (.lits 3<|.call (N 1)<|.loop ⟨[0,1,5,6],0,[]⟩ ((prod_Power_0_mk a (iMin (iMax n (0:Int)) (64:Int)) ((6:Int),1))) (Nat) (prod_Power_0_ex a (iMin (iMax n (0:Int)) (64:Int))) (prod_Power_0_J a (iMin (iMax n (0:Int)) (64:Int))) (fun y=>.lit<|.ret))
  (cast_ob (aI True.intro (aI (nat_Of 1 oA) (aI tT (aI (rfl:(prod_Power_0_mk a (iMin (iMax n (0:Int)) (64:Int)) ((6:Int),1))=(prod_Power_0_mk a (iMin (iMax n (0:Int)) (64:Int)) ((6:Int),1))) (aI (prod_Power_0 a (iMin (iMax n (0:Int)) (64:Int)) c0 (by rw[en];exact c1) ((6:Int),1) (show -1≤(6:Int)∧(6:Int)≤6∧1=a^((iMin (iMax n (0:Int)) (64:Int)).toNat / 2^((6:Int)+1).toNat) from ⟨by omega,by omega,(by rw[show ((6:Int)+1).toNat=7 from rfl,Nat.div_eq_of_lt (show Int.toNat _<2^7 by omega)];rfl)⟩)) (fun y (hJ:prod_Power_0_J a (iMin (iMax n (0:Int)) (64:Int)) y)=>have hJ:y=a^((iMin (iMax n (0:Int)) (64:Int))).toNat:=hJ;(vsub_of (congrArg N (by rw[hJ,en])):vsub (N y) (N (a^(n).toNat))))))))) (by kernel_rfl))
theorem prod_Power1 (a:Nat)(c0:L a≤4096):Impl Tryz.prog Amb 235 [(N a),.int .i64 1] (N a):=by
 have h:=prod_Power a 1 c0 oO
 rw[show (1:Int).toNat=1 from rfl,Nat.pow_one] at h
 exact h
def root_newton_0_mk (a:Nat)(x:Nat):St:=⟨mkS 51 [(0,(.val (N a))),(1,(.val (.int .i64 2))),(5,(.val (N x)))],[]⟩
def root_newton_0_I (a:Nat)(x:Nat):Prop:=0<x∧a<(x+1)*(x+1)∧L x≤4096
def root_newton_0_mu (_:Nat)(x:Nat):Nat:=x
def root_newton_0_ex (_:Nat)(y:Nat):Ex × St:=(.ret,⟨mkS 51 [(4,(.val (N y)))],[]⟩)
def root_newton_0_J (a:Nat)(y:Nat):Prop:=y=rt a
abbrev root_newton_0_N (a:Nat):=NX (root_newton_0_mk a) (root_newton_0_I a) (root_newton_0_mu a) (root_newton_0_ex a) (root_newton_0_J a)
theorem root_newton_0 (a:Nat)(c0:L a≤4096)(c1:0<a)(x0:Nat)(hI:root_newton_0_I a x0):LoopOk Tryz.prog Amb (loopN Tryz.f231 0) (root_newton_0_mk a x0) (fun e st_=>∃ y,root_newton_0_J a y∧root_newton_0_ex a y=(e,st_)) :=
 loop_ob hP hAmb ⟨[0,1,5],0,[]⟩ (root_newton_0_mk a) (root_newton_0_I a) (root_newton_0_mu a) (root_newton_0_ex a) (root_newton_0_J a) x0 hI (fun z=>.lit<|.yes<|.lit<|.call (N z)<|.lit<|.call (.tup [(N (a / z)),(N (a%z)),(.bool true)])<|.lit<|.yes<|.lit<|.yes<|.lit<|.call (N z)<|.lit<|.call (N (z+(a / z)))<|.lit<|.yes<|.lit<|.call (.tup [(N ((z+(a / z)) / 2)),(.int .u32 (((z+(a / z))%2:Nat):Int)),(.bool true)])<|.lit<|.call (.int .i64 (cmpN ((z+(a / z)) / 2) z))<|.lit<|.both (.fin2 ⟨[4],0,[]⟩) (.fin2 ⟨[0,1,5],0,[]⟩)) (by
  rintro z hI
  have hI:0<z∧a<(z+1)*(z+1)∧L z≤4096:=hI
  obtain⟨h1,h2,h3⟩:=hI
  have l0:=L_div a z
  have l1:=L_add z (a / z)
  have l2:=L_div (z+a / z) 2
  have l3:=fun (q:(z+a / z) / 2<z)=>L_mono (Nat.le_of_lt q)
  have r0:=cmpN_range ((z+a / z) / 2) z
  exact cast_ob (aI True.intro (aI tT (aI (prod_Power1 z oO) (aI (quot_DivMod a z oO oO oO) (have f107:=L_mod a z;have f106:=L_div a z;aI tT (aI tT (aI (prod_Small1 z oO) (aI (nat_Add z (a / z) oO oO) (have f105:=L_add z (a / z);aI tT (aI (quot_SmallI (z+(a / z)) 2 oO oO) (have f104:=L_div (z+(a / z)) 2;aI (nat_Cmp ((z+(a / z)) / 2) z oO oO) (have f103:=cmpN_range ((z+(a / z)) / 2) z;aI (fun (h101:(iGe (cmpN ((z+(a / z)) / 2) z) 0)=true)=>have _gh101:=iGe_t h101;aI tT ((nx_ret ((root_newton_0_ex a z).2) z (show z=rt a from nw_end (y:=(z+a / z) / 2) h1 h2 rfl oO) rfl:root_newton_0_N a z .ret ((root_newton_0_ex a z).2)))) (fun (h102:(iGe (cmpN ((z+(a / z)) / 2) z) 0)=false)=>have _gh102:=iGe_f h102;aI tT ((nx_next ((z+(a / z)) / 2) (show 0<((z+(a / z)) / 2)∧a<(((z+(a / z)) / 2)+1)*(((z+(a / z)) / 2)+1)∧L ((z+(a / z)) / 2)≤4096 from ⟨nw_pos c1 h1 rfl,nw_up h1 rfl,by omega⟩) (show (z+a / z) / 2<z by omega):root_newton_0_N a z .normal (root_newton_0_mk a ((z+(a / z)) / 2))))))))))))))))) (by kernel_rfl))
theorem root_newton (a:Nat)(c0:L a≤4096)(c1:0<a):Impl Tryz.prog Amb 231 [(N a),(.int .i64 2)] (N (rt a)):=by
 have l0:=L_le (n:=1) (k:=1) (by decide)
 have b0:=nbits_L a
 have t0:Int.tdiv (((nbits a:Int)+2)-1) (2:Int)=((nbits a:Int)+2-1) / 2:=Int.tdiv_eq_ediv_of_nonneg oO
 have l1:=L_shl 1 (Int.tdiv (((nbits a:Int)+2)-1) (2:Int)).toNat
 exact impl_ob hP hAmb Tryz.func231 (by kernel_rfl) (.lit<|.call (N 1)<|.lit<|.call (.int .i64 (nbits a:Int))<|.lit<|.yes<|.lit<|.yes<|.lit<|.yes<|.lit<|.call (N (1*2^((Int.tdiv (((nbits a:Int)+2)-1) (2:Int))).toNat))<|.loop ⟨[0,1,5],0,[]⟩ ((root_newton_0_mk a (1*2^((Int.tdiv (((nbits a:Int)+2)-1) (2:Int))).toNat))) (Nat) (root_newton_0_ex a) (root_newton_0_J a) (fun y=>.lit<|.ret))
  (cast_ob (aI True.intro (aI (nat_Of 1 oA) (aI (nat_Bits a oA) (have f2:=nbits_L a;aI (fits_i64 oA:(fits .i64 ((nbits a:Int)+2))=true) (aI (fits_i64 oA:(fits .i64 (((nbits a:Int)+2)-1))=true) (aI (fits_i64 oA:(fits .i64 (Int.tdiv (((nbits a:Int)+2)-1) (2:Int)))=true) (aI (nat_Shl 1 (Int.tdiv (((nbits a:Int)+2)-1) (2:Int)) oA oA) (have f1:=L_shl 1 ((Int.tdiv (((nbits a:Int)+2)-1) (2:Int))).toNat;aI tT (aI (rfl:(root_newton_0_mk a (1*2^((Int.tdiv (((nbits a:Int)+2)-1) (2:Int))).toNat))=(root_newton_0_mk a (1*2^((Int.tdiv (((nbits a:Int)+2)-1) (2:Int))).toNat))) (aI (root_newton_0 a c0 c1 (1*2^((Int.tdiv (((nbits a:Int)+2)-1) (2:Int))).toNat) (show 0<(1*2^((Int.tdiv (((nbits a:Int)+2)-1) (2:Int))).toNat)∧a<((1*2^((Int.tdiv (((nbits a:Int)+2)-1) (2:Int))).toNat)+1)*((1*2^((Int.tdiv (((nbits a:Int)+2)-1) (2:Int))).toNat)+1)∧L ((1*2^((Int.tdiv (((nbits a:Int)+2)-1) (2:Int))).toNat))≤4096 from ⟨by rw[Nat.one_mul];exact Nat.pow_pos oO,nw_init oO,by omega⟩)) (fun y (hJ:root_newton_0_J a y)=>have hJ:y=rt a:=hJ;(vsub_of (congrArg N hJ):vsub (N y) (N (rt a)))))))))))))) (by kernel_rfl))
theorem root_Sqrt (a:Nat)(c0:L a≤4096):Impl Tryz.prog Amb 224 [(N a)] (.tup [(N (rt a)),(N (a-rt a*rt a))]):=by
 have e0:=L_len a
 have e1:=L_pos_iff a
 have s0:=(rt_spec a).1
 exact impl_ob hP hAmb Tryz.func224 (by kernel_rfl) (.lit<|.call (N a)<|.lit<|.both (.lit<|.ret) (.lit<|.call (N (rt a))<|.lit<|.call (N ((rt a)*(rt a)))<|.lit<|.call (.tup [(N (a-((rt a)*(rt a)))),(.bool (decide (((rt a)*(rt a))≤a)))])<|.lit<|.ret))
  (cast_ob (aI True.intro (aI (nat_TrimN a oA) (aI (fun (h1:(iEq ((lim a).length:Int) 0)=true)=>have _gh1:=iEq_t h1;(rt_nil oO:vsub (.tup [.nil,.nil]) (.tup [(N (rt a)),(N (a-rt a*rt a))]))) (fun (h2:(iEq ((lim a).length:Int) 0)=false)=>have _gh2:=iEq_f h2;aI (root_newton a oA oA) (have f5:=rt_L a;aI (prod_Square (rt a) oA) (have f4:=L_mul (rt a) (rt a);aI (nat_Sub2 a ((rt a)*(rt a)) oA oA) (have f3:=L_sub a ((rt a)*(rt a));(vsub_of (by first | rfl | simp_all):vsub (.tup [(N (rt a)),(N (a-((rt a)*(rt a))))]) (.tup [(N (rt a)),(N (a-rt a*rt a))]))))))))) (by kernel_rfl))
end Go.Proofs.YtkkbddkpggjgpaaGreatDoor

namespace Go.Proofs.YtkkbddkpggjgpaaGreatDoor
def pe:Nat→Rat
 | 0=>0
 | m+1=>(3 / 5)*pe m+(m:Rat)*(3 / 5)^(m-1)
theorem pw_abs {u:Rat}(h1:-(3 / 5)≤u)(h2:u≤3 / 5):∀ m:Nat,-((3 / 5)^m:Rat)≤u^m∧u^m≤(3 / 5)^m
 | 0=>by rw[Rat.pow_zero,Rat.pow_zero];constructor<;>grind
 | m+1=>by
  have i:=pw_abs h1 h2 m
  rw[Rat.pow_succ,Rat.pow_succ]
  exact mul_bd i.1 i.2 h1 h2
theorem nn_cast (m:Nat):(0:Rat)≤(m:Rat):=by exact_mod_cast Nat.zero_le m
theorem tan_pow {u v:Rat}(u1:-(3 / 5)≤u)(u2:u≤3 / 5)(v1:-(3 / 5)≤v)(v2:v≤3 / 5):∀ m:Nat,
  -(pe m*((v-u)*(v-u)))≤v^m-u^m-(m:Rat)*u^(m-1)*(v-u)∧v^m-u^m-(m:Rat)*u^(m-1)*(v-u)≤pe m*((v-u)*(v-u))
 | 0=>by
  have e:((0:Nat):Rat)=0:=rfl
  have p:pe 0=0:=rfl
  rw[Rat.pow_zero,Rat.pow_zero,e,p];constructor<;>grind
 | m+1=>by
  have i:=tan_pow u1 u2 v1 v2 m
  have dd:=sq_nn (v-u)
  have e1:((m+1:Nat):Rat)=(m:Rat)+1:=by exact_mod_cast rfl
  have um:(m:Rat)*u^m=(m:Rat)*(u^(m-1)*u):=by
   rcases m with _ | m
   ·have e:((0:Nat):Rat)=0:=rfl
    rw[e,Rat.zero_mul,Rat.zero_mul]
   ·rw[Nat.add_sub_cancel,← Rat.pow_succ]
  have p:pe (m+1)=(3 / 5)*pe m+(m:Rat)*(3 / 5)^(m-1):=rfl
  have key:v^(m+1)-u^(m+1)-((m+1:Nat):Rat)*u^(m+1-1)*(v-u)=v*(v^m-u^m-(m:Rat)*u^(m-1)*(v-u))+(m:Rat)*u^(m-1)*((v-u)*(v-u)):=by
   rw[Rat.pow_succ,Rat.pow_succ,Nat.add_sub_cancel,e1]
   have:((m:Rat)+1)*u^m*(v-u)=(m:Rat)*u^m*(v-u)+u^m*(v-u):=by grind
   rw[this,um]
   grind
  rw[key,p]
  have a:=mul_bd v1 v2 i.1 i.2
  have b:=pw_abs u1 u2 (m-1)
  have c:=mul_bd (p:=(m:Rat)*((v-u)*(v-u))) (P:=(m:Rat)*((v-u)*(v-u))) (by have:=Rat.mul_nonneg (nn_cast m) dd;grind) Rat.le_refl b.1 b.2
  have f1:((3 / 5)*pe m+(m:Rat)*(3 / 5)^(m-1))*((v-u)*(v-u))=(3 / 5)*(pe m*((v-u)*(v-u)))+(m:Rat)*((v-u)*(v-u))*(3 / 5)^(m-1):=by grind
  have f2:(m:Rat)*u^(m-1)*((v-u)*(v-u))=(m:Rat)*((v-u)*(v-u))*u^(m-1):=by grind
  rw[f1,f2]
  constructor<;>grind
theorem pe_bd:∀ m:Nat,(m:Rat)*(3 / 5)^(m-1)≤5*(4 / 5)^m∧pe m≤25*(4 / 5)^m∧(3 / 5:Rat)^m≤(4 / 5)^m∧(0:Rat)<(3 / 5)^m
 | 0=>by
  have e:((0:Nat):Rat)=0:=rfl
  have p:pe 0=0:=rfl
  rw[Rat.pow_zero,Rat.pow_zero,e,p];refine⟨?_,?_,?_,?_⟩<;>grind
 | m+1=>by
  obtain⟨a,b,c,d⟩:=pe_bd m
  have e1:((m+1:Nat):Rat)=(m:Rat)+1:=by exact_mod_cast rfl
  have um:(m:Rat)*(3 / 5:Rat)^m=(m:Rat)*((3 / 5)^(m-1)*(3 / 5)):=by
   rcases m with _ | m
   ·have e:((0:Nat):Rat)=0:=rfl
    rw[e,Rat.zero_mul,Rat.zero_mul]
   ·rw[Nat.add_sub_cancel,← Rat.pow_succ]
  have p:pe (m+1)=(3 / 5)*pe m+(m:Rat)*(3 / 5)^(m-1):=rfl
  rw[Rat.pow_succ,Rat.pow_succ,Nat.add_sub_cancel,e1,p]
  refine⟨?_,?_,?_,?_⟩
  ·rw[Rat.add_mul,um];grind
  ·grind
  ·grind
  ·grind
theorem two_pow_sq (x:Rat)(i:Nat):x^(2*i+1)=(x*x)^i*x:=by
 induction i with
 | zero=>rw[Rat.pow_zero];show x^1=_;rw[Rat.pow_succ,Rat.pow_zero]
 | succ i ih =>
  rw[show 2*(i+1)+1=2*i+1+1+1 by omega,Rat.pow_succ,Rat.pow_succ,ih,Rat.pow_succ];grind
theorem two_pow_ev (x:Rat)(i:Nat):x^(2*i)=(x*x)^i:=by
 induction i with
 | zero=>rw[Rat.pow_zero];exact (Rat.pow_zero _).symm
 | succ i ih =>
  rw[show 2*(i+1)=2*i+1+1 by omega,Rat.pow_succ,Rat.pow_succ,ih,Rat.pow_succ];grind
def GS:Nat→Rat:=Sm (fun i=>25*(4 / 5)^(2*i+1))
theorem GS_le (K:Nat):GS K≤56:=by
 have key:∀ K,GS K+56*(4 / 5*(4 / 5):Rat)^K≤56∧(0:Rat)<(4 / 5*(4 / 5))^K:=by
  intro K
  induction K with
  | zero =>
   have e:GS 0=0:=rfl
   rw[e,Rat.pow_zero];constructor<;>grind
  | succ K ih =>
   have e:GS (K+1)=GS K+25*(4 / 5)^(2*K+1):=rfl
   rw[e,two_pow_sq,Rat.pow_succ]
   constructor<;>grind
 have:=key K
 grind
end Go.Proofs.YtkkbddkpggjgpaaGreatDoor

namespace Go.Proofs.YtkkbddkpggjgpaaGreatDoor
theorem pw_inv:∀ K:Nat,((K:Rat)+1)*(9 / 25)^K≤1∧(0:Rat)<(9 / 25)^K∧(9 / 25:Rat)^K≤1
 | 0=>by
  have e:((0:Nat):Rat)=0:=rfl
  rw[e,Rat.pow_zero];refine⟨?_,?_,?_⟩<;>grind
 | K+1=>by
  obtain⟨a,b,c⟩:=pw_inv K
  have e1:((K+1:Nat):Rat)=(K:Rat)+1:=by exact_mod_cast rfl
  rw[e1,Rat.pow_succ]
  refine⟨?_,?_,?_⟩<;>grind
theorem pw_small {e:Rat}(he:0<e):∃ N,∀ K:Nat,N≤K→(9 / 25:Rat)^K≤e:=by
 obtain⟨n,hn⟩:=rat_nat e⁻¹
 have i0:=Rat.inv_pos.2 he
 have ie:=inv_one he
 refine⟨n,fun K hK=>?_⟩
 have h:=pw_inv K
 have c:(n:Rat)≤(K:Rat):=by exact_mod_cast hK
 have m:=Rat.mul_le_mul_of_nonneg_right (show e⁻¹≤(K:Rat)+1 by grind) (Rat.le_of_lt h.2.1)
 have m2:=Rat.mul_le_mul_of_nonneg_left (show e⁻¹*(9 / 25)^K≤1 by grind) (Rat.le_of_lt he)
 have:e*(e⁻¹*(9 / 25)^K)=e⁻¹*e*(9 / 25)^K:=by grind
 rw[this,ie] at m2
 grind
end Go.Proofs.YtkkbddkpggjgpaaGreatDoor
