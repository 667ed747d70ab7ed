/-
  Lower layers: what functions of the program compute, and plain facts. Conditions: as the theorems say.
-/
import Derived.Test.YtkkbddkpggjgpaaGreatDoorPkR
set_option linter.unusedVariables false
set_option linter.unusedSimpArgs false
namespace Go.Proofs.YtkkbddkpggjgpaaGreatDoor
def sqLo (a s:Int):Int:=((rt (a.natAbs*2^s.toNat):Nat):Int)
def sqHi (b s:Int):Int:=((rt (b.natAbs*2^s.toNat)+(if b.natAbs*2^s.toNat-rt (b.natAbs*2^s.toNat)*rt (b.natAbs*2^s.toNat)=0 then 0 else 1):Nat):Int)
def sq0 (a:Int)(p:Nat→Int):Nat→Int
 | 0=>a
 | j+1=>p (j+1)
theorem sqLo_spec {a s:Int}(h:0≤a):0≤sqLo a s∧sqLo a s*sqLo a s≤a*2^s.toNat∧a*2^s.toNat<(sqLo a s+1)*(sqLo a s+1):=by
 have r:=rt_spec (a.natAbs*2^s.toNat)
 have e:((a.natAbs*2^s.toNat:Nat):Int)=a*2^s.toNat:=by rw[Int.natCast_mul,pow_cast];rw[Int.natAbs_of_nonneg h]
 unfold sqLo
 rw[← e]
 generalize a.natAbs*2^s.toNat=n at *
 refine⟨Int.natCast_nonneg _,?_,?_⟩
 ·have:=Int.ofNat_le.2 r.1
  rw[Int.natCast_mul] at this;exact this
 ·have:=Int.ofNat_lt.2 r.2
  rw[Int.natCast_mul,Int.natCast_add] at this;exact this
theorem sqHi_spec {b s:Int}(h:0≤b):0≤sqHi b s∧b*2^s.toNat≤sqHi b s*sqHi b s∧(sqHi b s-1)*(sqHi b s-1)≤b*2^s.toNat+1:=by
 have r:=rt_spec (b.natAbs*2^s.toNat)
 have e:((b.natAbs*2^s.toNat:Nat):Int)=b*2^s.toNat:=by rw[Int.natCast_mul,pow_cast];rw[Int.natAbs_of_nonneg h]
 unfold sqHi
 rw[← e]
 generalize b.natAbs*2^s.toNat=n at *
 have r1:=Int.ofNat_le.2 r.1
 have r2:=Int.ofNat_lt.2 r.2
 rw[Int.natCast_mul] at r1
 rw[Int.natCast_mul,Int.natCast_add] at r2
 split
 ·rename_i q
  have q1:n≤rt n*rt n:=by omega
  have q2:=Int.ofNat_le.2 q1
  rw[Int.natCast_mul] at q2
  rw[Nat.add_zero]
  refine⟨Int.natCast_nonneg _,q2,?_⟩
  have:(0:Int)≤(rt n:Int):=Int.natCast_nonneg _
  grind
 ·rw[Int.natCast_add]
  refine⟨by omega,Int.le_of_lt r2,?_⟩
  show ((rt n:Int)+1-1)*((rt n:Int)+1-1)≤_
  rw[show (rt n:Int)+1-1=(rt n:Int) by omega]
  omega
def hvP (s a b:Int):Int × Int:=(Int.fdiv (a*2^s.toNat) (1*2^s.toNat+sqHi (1*2^s.toNat+-(-(b*b) / 2^s.toNat)) s),-(Int.fdiv (-(b*2^s.toNat)) (1*2^s.toNat+sqLo (1*2^s.toNat+a*a / 2^s.toNat) s)))
theorem half_alg_lo {x y r:Rat}(x0:0≤x)(y0:0≤y)(r0:0≤r)(h:x*(1+r)≤y)(hr:1+y*y≤r*r):2*x≤y*(1-x*x):=by
 have d0:0<1+r:=by grind
 have dd:=Rat.mul_pos d0 d0
 have z0:=Rat.mul_nonneg x0 (Rat.le_of_lt d0)
 have m1:=Rat.mul_le_mul_of_nonneg_left h z0
 have m2:=Rat.mul_le_mul_of_nonneg_right h y0
 have m3:=Rat.mul_le_mul_of_nonneg_left (show x*(1+r)*(x*(1+r))≤y*y by grind) y0
 have m4:=Rat.mul_le_mul_of_nonneg_right h (Rat.le_of_lt d0)
 have m5:=Rat.mul_le_mul_of_nonneg_left hr y0
 refine Rat.le_of_mul_le_mul_right (c:=(1+r)*(1+r)) ?_ dd
 grind
theorem half_alg_hi {x y r:Rat}(x0:0≤x)(y0:0≤y)(r0:0≤r)(h:y≤x*(1+r))(hr:r*r≤1+y*y):y*(1-x*x)≤2*x:=by
 have d0:0<1+r:=by grind
 have dd:=Rat.mul_pos d0 d0
 have z0:=Rat.mul_nonneg x0 (Rat.le_of_lt d0)
 have m1:=Rat.mul_le_mul_of_nonneg_left h z0
 have m2:=Rat.mul_le_mul_of_nonneg_right h y0
 have m3:=Rat.mul_le_mul_of_nonneg_left (show y*y≤x*(1+r)*(x*(1+r)) by grind) y0
 have m4:=Rat.mul_le_mul_of_nonneg_right h (Rat.le_of_lt d0)
 have m5:=Rat.mul_le_mul_of_nonneg_left hr y0
 refine Rat.le_of_mul_le_mul_right (c:=(1+r)*(1+r)) ?_ dd
 grind
theorem half_int_lo {T a x d r b:Int}(hT:0<T)(x0:0≤x)(a0:0≤a)(ab:a≤b)(r0:0≤r)(hd:d=T+r)(h:x*d≤a*T)(hr:T*T+b*b≤r*r) :
  2*((x:Rat)*(T:Rat)⁻¹)≤(a:Rat)*(T:Rat)⁻¹*(1-(x:Rat)*(T:Rat)⁻¹*((x:Rat)*(T:Rat)⁻¹)):=by
 have T0:(0:Rat)<(T:Rat):=Rat.intCast_pos.2 hT
 have i0:=Rat.inv_pos.2 T0
 have ie:=inv_one T0
 have ii:=Rat.mul_nonneg (Rat.le_of_lt i0) (Rat.le_of_lt i0)
 have h:=Rat.intCast_le_intCast.2 h
 have aa:=Int.mul_le_mul ab ab a0 (show 0≤b by omega)
 have hr:=Rat.intCast_le_intCast.2 (show T*T+a*a≤r*r by omega)
 rw[hd,Rat.intCast_mul,Rat.intCast_mul,Rat.intCast_add] at h
 rw[Rat.intCast_add,Rat.intCast_mul,Rat.intCast_mul,Rat.intCast_mul] at hr
 have x0:(0:Rat)≤(x:Rat):=Rat.intCast_nonneg.2 x0
 have a0:(0:Rat)≤(a:Rat):=Rat.intCast_nonneg.2 a0
 have r0:(0:Rat)≤(r:Rat):=Rat.intCast_nonneg.2 r0
 have m1:=Rat.mul_le_mul_of_nonneg_right h ii
 have m2:=Rat.mul_le_mul_of_nonneg_right hr ii
 refine half_alg_lo (r:=(r:Rat)*(T:Rat)⁻¹) (Rat.mul_nonneg x0 (Rat.le_of_lt i0)) (Rat.mul_nonneg a0 (Rat.le_of_lt i0)) (Rat.mul_nonneg r0 (Rat.le_of_lt i0)) ?_ ?_
 ·generalize (T:Rat)⁻¹=i at *
  generalize (T:Rat)=t at *
  have e1:(x:Rat)*(t+(r:Rat))*(i*i)=(x:Rat)*i*(i*t+(r:Rat)*i):=by grind
  have e2:(a:Rat)*t*(i*i)=(a:Rat)*i*(i*t):=by grind
  rw[e1,e2,ie,Rat.mul_one] at m1
  exact m1
 ·generalize (T:Rat)⁻¹=i at *
  generalize (T:Rat)=t at *
  have e1:(t*t+(a:Rat)*(a:Rat))*(i*i)=(i*t)*(i*t)+(a:Rat)*i*((a:Rat)*i):=by grind
  have e2:(r:Rat)*(r:Rat)*(i*i)=(r:Rat)*i*((r:Rat)*i):=by grind
  rw[e1,e2,ie,Rat.mul_one] at m2
  exact m2
theorem half_int_hi {T b x d r a:Int}(hT:0<T)(x0:0≤x)(a0:0≤a)(ab:a≤b)(r0:0≤r)(hd:d=T+r)(h:b*T≤x*d)(hr:r*r≤T*T+a*a) :
  (b:Rat)*(T:Rat)⁻¹*(1-(x:Rat)*(T:Rat)⁻¹*((x:Rat)*(T:Rat)⁻¹))≤2*((x:Rat)*(T:Rat)⁻¹):=by
 have T0:(0:Rat)<(T:Rat):=Rat.intCast_pos.2 hT
 have i0:=Rat.inv_pos.2 T0
 have ie:=inv_one T0
 have ii:=Rat.mul_nonneg (Rat.le_of_lt i0) (Rat.le_of_lt i0)
 have h:=Rat.intCast_le_intCast.2 h
 have aa:=Int.mul_le_mul ab ab a0 (show 0≤b by omega)
 have hr:=Rat.intCast_le_intCast.2 (show r*r≤T*T+b*b by omega)
 rw[hd,Rat.intCast_mul,Rat.intCast_mul,Rat.intCast_add] at h
 rw[Rat.intCast_add,Rat.intCast_mul,Rat.intCast_mul,Rat.intCast_mul] at hr
 have x0:(0:Rat)≤(x:Rat):=Rat.intCast_nonneg.2 x0
 have b0:(0:Rat)≤(b:Rat):=Rat.intCast_nonneg.2 (by omega)
 have r0:(0:Rat)≤(r:Rat):=Rat.intCast_nonneg.2 r0
 have m1:=Rat.mul_le_mul_of_nonneg_right h ii
 have m2:=Rat.mul_le_mul_of_nonneg_right hr ii
 refine half_alg_hi (r:=(r:Rat)*(T:Rat)⁻¹) (Rat.mul_nonneg x0 (Rat.le_of_lt i0)) (Rat.mul_nonneg b0 (Rat.le_of_lt i0)) (Rat.mul_nonneg r0 (Rat.le_of_lt i0)) ?_ ?_
 ·generalize (T:Rat)⁻¹=i at *
  generalize (T:Rat)=t at *
  have e1:(x:Rat)*(t+(r:Rat))*(i*i)=(x:Rat)*i*(i*t+(r:Rat)*i):=by grind
  have e2:(b:Rat)*t*(i*i)=(b:Rat)*i*(i*t):=by grind
  rw[e1,e2,ie,Rat.mul_one] at m1
  exact m1
 ·generalize (T:Rat)⁻¹=i at *
  generalize (T:Rat)=t at *
  have e1:(t*t+(b:Rat)*(b:Rat))*(i*i)=(i*t)*(i*t)+(b:Rat)*i*((b:Rat)*i):=by grind
  have e2:(r:Rat)*(r:Rat)*(i*i)=(r:Rat)*i*((r:Rat)*i):=by grind
  rw[e1,e2,ie,Rat.mul_one] at m2
  exact m2
theorem root_w {T a b m1 m2 r1 r2:Int}(hT:0<T)(a0:0≤a)(ab:a≤b)(hb:b≤2*T)(f1:m1*T≤a*a)(f2:a*a<m1*T+T)(f3:b*b≤m2*T)(f4:m2*T<b*b+T)
  (r10:0≤r1) (g2:(T+m1)*T<(r1+1)*(r1+1)) (r20:0≤r2) (g3:(T+m2)*T≤r2*r2) (g4:(r2-1)*(r2-1)≤(T+m2)*T+1) (m10:0≤m1):T≤r1∧T≤r2∧r2-r1≤2*(b-a)+4:=by
 have k1:T≤r1:=by
  refine Decidable.byContradiction fun hn=>?_
  have:=Int.mul_le_mul (show r1+1≤T by omega) (show r1+1≤T by omega) (by omega) (by omega)
  have:=Int.mul_nonneg m10 (show 0≤T by omega)
  rw[Int.add_mul] at g2
  omega
 have aa:=Int.mul_le_mul ab ab a0 (show 0≤b by omega)
 have k2:T≤r2:=by
  refine Decidable.byContradiction fun hn=>?_
  have:=Int.mul_le_mul (show r2+1≤T by omega) (show r2+1≤T by omega) (by omega) (by omega)
  have:=Int.mul_nonneg (show 0≤a by omega) a0
  rw[Int.add_mul] at g3
  have:(r2+1)*(r2+1)=r2*r2+2*r2+1:=by grind
  omega
 refine⟨k1,k2,Decidable.byContradiction fun hn=>?_⟩
 have p:=Int.mul_le_mul (show 2*(b-a)+3≤r2-r1-2 by omega) (show 2*T≤r2+r1 by omega) (by omega) (by omega)
 have q:=Int.mul_le_mul_of_nonneg_left (show a+b≤4*T by omega) (show 0≤b-a by omega)
 have e1:(r2-r1-2)*(r2+r1)=(r2-1)*(r2-1)-(r1+1)*(r1+1):=by grind
 have e2:(b-a)*(a+b)=b*b-a*a:=by grind
 have e3:(2*(b-a)+3)*(2*T)=(b-a)*(4*T)+6*T:=by grind
 rw[Int.add_mul] at g2 g3 g4
 omega
theorem hv_w {T a b x y d1 d2 W:Int}(hT:0<T)(a0:0≤a)(hW:b-a=W)(W0:0≤W)(hb:b≤2*T)(h1:2*T≤d1)(h2:d1≤d2)(hd:d2-d1≤2*W+4)(x1:x*d2≤a*T)(x2:a*T<x*d2+d2)(y1:b*T≤y*d1)(y2:y*d1<b*T+d1) :
  0≤x∧x≤y∧2*y≤b+2∧y-x≤4*W+8:=by
 have x0:0≤x:=by
  refine Decidable.byContradiction fun hn=>?_
  have:=Int.mul_le_mul_of_nonneg_right (show x+1≤0 by omega) (show 0≤d2 by omega)
  have:=Int.mul_nonneg a0 (show 0≤T by omega)
  rw[Int.add_mul] at *
  omega
 have ab:=Int.mul_le_mul_of_nonneg_right (show a≤b by omega) (show 0≤T by omega)
 have xy:x≤y:=by
  refine Decidable.byContradiction fun hn=>?_
  have m1:=Int.mul_le_mul_of_nonneg_right (show y+1≤x by omega) (show 0≤d1 by omega)
  have m2:=Int.mul_le_mul_of_nonneg_left h2 x0
  rw[Int.add_mul] at m1
  omega
 have xT:x≤T:=by
  refine Decidable.byContradiction fun hn=>?_
  have m1:=Int.mul_le_mul (show T+1≤x by omega) (show 2*T≤d2 by omega) (by omega) (by omega)
  have m2:=Int.mul_le_mul_of_nonneg_right (show a≤2*T by omega) (show 0≤T by omega)
  have e1:(T+1)*(2*T)=2*T*T+2*T:=by grind
  omega
 refine⟨x0,xy,?_,?_⟩
 ·refine Decidable.byContradiction fun hn=>?_
  have m1:=Int.mul_le_mul (show b+1≤2*(y-1) by omega) h1 (by omega) (by omega)
  have e1:2*(y-1)*d1=2*(y*d1)-2*d1:=by grind
  have e2:(b+1)*(2*T)=2*(b*T)+2*T:=by grind
  omega
 ·refine Decidable.byContradiction fun hn=>?_
  have m1:=Int.mul_le_mul (show 4*W+7≤y-x-2 by omega) h1 (by omega) (by omega)
  have m2:=Int.mul_le_mul (show x+1≤2*T by omega) hd (by omega) (by omega)
  have e1:(y-x-2)*d1=y*d1-d1-(x*d2+d2)+(x+1)*(d2-d1):=by grind
  have e2:(4*W+7)*(2*T)=8*(W*T)+14*T:=by grind
  have e3:2*T*(2*W+4)=4*(W*T)+8*T:=by grind
  have e4:b*T=a*T+W*T:=by rw[← hW];grind
  have e5:=Int.mul_nonneg W0 (show 0≤T by omega)
  omega
theorem hv_step {s a b:Int}(a0:0≤a)(ab:a≤b)(hb:b≤2*2^s.toNat) :
  (0≤(hvP s a b).1∧(hvP s a b).1≤(hvP s a b).2∧2*(hvP s a b).2≤b+2∧(hvP s a b).2-(hvP s a b).1≤4*(b-a)+8) ∧
  2*(((hvP s a b).1:Rat)*(((2^s.toNat:Int):Rat))⁻¹)≤(a:Rat)*(((2^s.toNat:Int):Rat))⁻¹*(1-((hvP s a b).1:Rat)*(((2^s.toNat:Int):Rat))⁻¹*(((hvP s a b).1:Rat)*(((2^s.toNat:Int):Rat))⁻¹)) ∧
  (b:Rat)*(((2^s.toNat:Int):Rat))⁻¹*(1-((hvP s a b).2:Rat)*(((2^s.toNat:Int):Rat))⁻¹*(((hvP s a b).2:Rat)*(((2^s.toNat:Int):Rat))⁻¹))≤2*(((hvP s a b).2:Rat)*(((2^s.toNat:Int):Rat))⁻¹):=by
 have hT:=two_pos s.toNat
 have b0:0≤b:=by omega
 have f1:=Int.ediv_mul_le (a*a) (show (2:Int)^s.toNat≠0 by omega)
 have f2:=Int.lt_ediv_add_one_mul_self (a*a) hT
 have f3:=Int.ediv_mul_le (-(b*b)) (show (2:Int)^s.toNat≠0 by omega)
 have f4:=Int.lt_ediv_add_one_mul_self (-(b*b)) hT
 have m10:=Int.ediv_nonneg (Int.mul_nonneg a0 a0) (show (0:Int)≤2^s.toNat by omega)
 have bb:=Int.mul_nonneg b0 b0
 have m20:0≤-(-(b*b) / 2^s.toNat):=by
  have:-(b*b) / 2^s.toNat≤0:=Int.ediv_le_of_le_mul hT (by omega)
  omega
 have g1:=sqLo_spec (a:=1*2^s.toNat+a*a / 2^s.toNat) (s:=s) (by omega)
 have g2:=sqHi_spec (b:=1*2^s.toNat+-(-(b*b) / 2^s.toNat)) (s:=s) (by omega)
 unfold hvP
 generalize sqLo (1*2^s.toNat+a*a / 2^s.toNat) s=r1 at *
 generalize sqHi (1*2^s.toNat+-(-(b*b) / 2^s.toNat)) s=r2 at *
 generalize a*a / 2^s.toNat=m1 at *
 generalize -(b*b) / 2^s.toNat=m2 at *
 generalize hTT:(2:Int)^s.toNat=T at *
 rw[Int.one_mul] at *
 rw[Int.add_mul,Int.one_mul] at f2 f4
 have rw_:=root_w (T:=T) (a:=a) (b:=b) (m1:=m1) (m2:=-m2) (r1:=r1) (r2:=r2) hT a0 ab hb f1 f2 (by rw[Int.neg_mul];omega) (by rw[Int.neg_mul];omega) g1.1 g1.2.2 g2.1 g2.2.1 g2.2.2 m10
 have r12:r1≤r2:=by
  refine Decidable.byContradiction fun hn=>?_
  have p:=Int.mul_le_mul (show r2+1≤r1 by omega) (show r2+1≤r1 by omega) (by omega) (by omega)
  have e:(r2+1)*(r2+1)=r2*r2+2*r2+1:=by grind
  have aa:=Int.mul_le_mul ab ab a0 b0
  have k1:=g1.2.1
  have k2:=g2.2.1
  rw[Int.add_mul] at k1 k2
  rw[Int.neg_mul] at k2
  omega
 have n1:T+r2≠0:=by omega
 have n2:T+r1≠0:=by omega
 rw[Int.fdiv_eq_ediv_of_nonneg _ (show 0≤T+r2 by omega),Int.fdiv_eq_ediv_of_nonneg _ (show 0≤T+r1 by omega)]
 have q1:=Int.ediv_mul_le (a*T) n1
 have q2:=Int.lt_ediv_add_one_mul_self (a*T) (show 0<T+r2 by omega)
 have q3:=Int.ediv_mul_le (-(b*T)) n2
 have q4:=Int.lt_ediv_add_one_mul_self (-(b*T)) (show 0<T+r1 by omega)
 generalize a*T / (T+r2)=x at *
 generalize -(b*T) / (T+r1)=y at *
 rw[Int.add_mul,Int.one_mul] at q2 q4
 have w:=hv_w (T:=T) (a:=a) (b:=b) (x:=x) (y:=-y) (d1:=T+r1) (d2:=T+r2) (W:=b-a) hT a0 rfl (by omega) hb (by omega) (by omega) (by omega) q1 q2 (by rw[Int.neg_mul];omega) (by rw[Int.neg_mul];omega)
 have k1:=g1.2.1
 have k2:=g2.2.1
 rw[Int.add_mul] at k1 k2
 rw[Int.neg_mul] at k2
 exact⟨w,half_int_lo hT w.1 a0 ab g2.1 rfl q1 (by omega),half_int_hi hT (by omega) a0 ab g1.1 rfl (by rw[Int.neg_mul];omega) (by omega)⟩
def hv (s x1 x2:Int):Nat→Int × Int
 | 0=>(x1,x2)
 | i+1=>hvP s (hv s x1 x2 i).1 (hv s x1 x2 i).2
theorem hv_facts {s x1 x2:Int}(h0:0≤x1)(h1:x1≤x2)(h2:8*x2≤9*2^s.toNat)(h3:64≤(2:Int)^s.toNat):∀ i,0≤(hv s x1 x2 i).1∧(hv s x1 x2 i).1≤(hv s x1 x2 i).2∧8*(hv s x1 x2 i).2≤9*2^s.toNat
 | 0=>⟨h0,h1,h2⟩
 | i+1=>by
  have f:=hv_facts h0 h1 h2 h3 i
  have g:=(hv_step (s:=s) f.1 f.2.1 (by omega)).1
  exact⟨g.1,g.2.1,by show 8*(hvP s (hv s x1 x2 i).1 (hv s x1 x2 i).2).2≤_;omega⟩
theorem hv_small {s x1 x2:Int}(h0:0≤x1)(h1:x1≤x2)(h2:8*x2≤9*2^s.toNat)(h3:64≤(2:Int)^s.toNat):∀ i,2^i*((hv s x1 x2 i).2-2)≤x2
 | 0=>by show 1*(x2-2)≤x2;omega
 | i+1=>by
  have f:=hv_facts h0 h1 h2 h3 i
  have g:=(hv_step (s:=s) f.1 f.2.1 (by omega)).1
  have k:=hv_small h0 h1 h2 h3 i
  have p:=two_pos i
  have m:=Int.mul_le_mul_of_nonneg_left (show 2*((hv s x1 x2 (i+1)).2-2)≤(hv s x1 x2 i).2-2 by show 2*((hvP s (hv s x1 x2 i).1 (hv s x1 x2 i).2).2-2)≤_;omega) (Int.le_of_lt p)
  rw[Int.pow_succ,Int.mul_assoc];omega
theorem hv_wid {s x1 x2:Int}(h0:0≤x1)(h1:x1≤x2)(h2:8*x2≤9*2^s.toNat)(h3:64≤(2:Int)^s.toNat):∀ i,(hv s x1 x2 i).2-(hv s x1 x2 i).1+3≤4^i*(x2-x1+3)
 | 0=>by show x2-x1+3≤1*(x2-x1+3);omega
 | i+1=>by
  have f:=hv_facts h0 h1 h2 h3 i
  have g:=(hv_step (s:=s) f.1 f.2.1 (by omega)).1
  have k:=hv_wid h0 h1 h2 h3 i
  rw[Int.pow_succ,Int.mul_comm (4^i),Int.mul_assoc]
  show (hvP s (hv s x1 x2 i).1 (hv s x1 x2 i).2).2-(hvP s (hv s x1 x2 i).1 (hv s x1 x2 i).2).1+3≤_
  omega
theorem hv_lim {s x1 x2:Int}(h0:0≤x1)(h1:x1≤x2)(h2:8*x2≤9*2^s.toNat)(h3:64≤(2:Int)^s.toNat)(n:Nat) :
  Lq (fun K=>(2:Rat)^n*AT0 (((hv s x1 x2 n).1:Rat)*(((2^s.toNat:Int):Rat))⁻¹) K) (AT0 ((x1:Rat)*(((2^s.toNat:Int):Rat))⁻¹)) ∧
  Lq (AT0 ((x2:Rat)*(((2^s.toNat:Int):Rat))⁻¹)) (fun K=>(2:Rat)^n*AT0 (((hv s x1 x2 n).2:Rat)*(((2^s.toNat:Int):Rat))⁻¹) K):=by
 have T0:(0:Rat)<((2^s.toNat:Int):Rat):=Rat.intCast_pos.2 (two_pos _)
 have i0:=Rat.inv_pos.2 T0
 have ie:=inv_one T0
 have up:∀ {z:Int} {c d:Int},d*z≤c*2^s.toNat→(d:Rat)*((z:Rat)*(((2^s.toNat:Int):Rat))⁻¹)≤(c:Rat):=by
  intro z c d h
  have h:=Rat.intCast_le_intCast.2 h
  rw[Rat.intCast_mul,Rat.intCast_mul] at h
  have m:=Rat.mul_le_mul_of_nonneg_right h (Rat.le_of_lt i0)
  have e:(c:Rat)*((2^s.toNat:Int):Rat)*(((2^s.toNat:Int):Rat))⁻¹=(c:Rat):=by
   rw[Rat.mul_assoc,Rat.mul_comm (((2^s.toNat:Int):Rat)),ie,Rat.mul_one]
  rw[e,Rat.mul_assoc] at m
  exact m
 have nn:∀ {z:Int},0≤z→0≤(z:Rat)*(((2^s.toNat:Int):Rat))⁻¹:=fun h=>Rat.mul_nonneg (Rat.intCast_nonneg.2 h) (Rat.le_of_lt i0)
 have c5:((5:Int):Rat)=5:=rfl
 have c9:((9:Int):Rat)=9:=rfl
 have c8:((8:Int):Rat)=8:=rfl
 have fb:∀ i,0≤(hv s x1 x2 i).1∧(hv s x1 x2 i).1≤(hv s x1 x2 i).2∧8*(hv s x1 x2 i).2≤9*2^s.toNat:=hv_facts h0 h1 h2 h3
 have small:∀ i,8*(hv s x1 x2 (i+1)).2≤5*2^s.toNat:=fun i=>by
  have f:=fb i
  have g:=(hv_step (s:=s) f.1 f.2.1 (by omega)).1
  show 8*(hvP s (hv s x1 x2 i).1 (hv s x1 x2 i).2).2≤_
  omega
 constructor
 ·refine halves_lo (a:=fun i=>((hv s x1 x2 i).1:Rat)*(((2^s.toNat:Int):Rat))⁻¹) ?_ n fun j _=>?_
  ·have:=up (z:=x1) (c:=9) (d:=8) (by omega)
   rw[c9,c8] at this
   show (x1:Rat)*_≤_
   grind
  ·have f:=fb j
   have g:=hv_step (s:=s) f.1 f.2.1 (by omega)
   have sm:=small j
   have g1:(hv s x1 x2 (j+1)).1≤(hv s x1 x2 (j+1)).2:=(fb (j+1)).2.1
   have u:=up (z:=(hv s x1 x2 (j+1)).1) (c:=5) (d:=8) (by omega)
   rw[c5,c8] at u
   exact⟨⟨nn (fb (j+1)).1,by grind⟩,g.2.1⟩
 ·refine halves_hi (a:=fun i=>((hv s x1 x2 i).2:Rat)*(((2^s.toNat:Int):Rat))⁻¹) (nn (by show 0≤x2;omega)) ?_ n fun j _=>?_
  ·have:=up (z:=x2) (c:=9) (d:=8) (by omega)
   rw[c9,c8] at this
   show (x2:Rat)*_≤_
   grind
  ·have f:=fb j
   have g:=hv_step (s:=s) f.1 f.2.1 (by omega)
   have sm:=small j
   have u:=up (z:=(hv s x1 x2 (j+1)).2) (c:=5) (d:=8) (by omega)
   rw[c5,c8] at u
   have g2:=fb (j+1)
   exact⟨⟨nn (by omega),by grind⟩,g.2.2⟩
end Go.Proofs.YtkkbddkpggjgpaaGreatDoor

namespace Go.Proofs.YtkkbddkpggjgpaaGreatDoor
def pt1 (T a b:Int)(j:Nat):Int:=ptLo (aP T a b j).1 (odn j)
def pt2 (T a b:Int)(j:Nat):Int:=ptHi (aP T a b j).2 (odn j)
def sA1 (T a b:Int):Nat→Int:=tyA (sq0 a (pt1 T a b)) (sq0 b (pt2 T a b))
def sA2 (T a b:Int):Nat→Int:=tyB (sq0 a (pt1 T a b)) (sq0 b (pt2 T a b))
theorem aS_AL (X:Rat):∀ j,aS (tA X) j=AL X (j+1)
 | 0=>by
  show tA X 0=0+1*tA X 0
  grind
 | j+1=>by
  have i:=aS_AL X j
  show (if j%2=0 then aS (tA X) j-tA X (j+1) else aS (tA X) j+tA X (j+1))=AL X (j+1)+sg (j+1)*tA X (j+1)
  rw[i]
  unfold sg
  by_cases q:j%2=0
  ·rw[if_pos q,if_neg (by omega)];grind
  ·rw[if_neg q,if_pos (by omega)];grind
theorem tA_0 (X:Rat):tA X 0=X:=by
 show X^(0+1) / ((1:Int):Rat)=X
 rw[Rat.pow_succ,Rat.pow_zero,Rat.one_mul,show ((1:Int):Rat)=1 from rfl]
 grind
theorem pt_enc {T a b:Int}{X:Rat}(h:ArH T a b)(e1:(a:Rat)≤X*T)(e2:X*T≤(b:Rat)):∀ j,((sq0 a (pt1 T a b) j:Int):Rat)≤tA X j*T∧tA X j*T≤((sq0 b (pt2 T a b) j:Int):Rat)
 | 0=>by
  rw[tA_0]
  exact⟨e1,e2⟩
 | j+1=>by
  have p:=aP_enc h e1 e2 (j+1)
  obtain⟨a1,a2,_⟩:=aP_facts h (j+1)
  have d1:=df_lo (odn_pos (j+1)) p.1
  have d2:=df_hi (odn_pos (j+1)) p.2
  rw[← ptLo_eq a1 (odn_pos _)] at d1
  rw[← ptHi_eq a2 (odn_pos _)] at d2
  have e:tA X (j+1)*T=X^(2*(j+1)+1)*T / (odn (j+1):Rat):=by
   unfold tA
   rw[Rat.div_def,Rat.div_def];grind
  rw[e]
  exact⟨d1,d2⟩
theorem X_bd {T a b:Int}{X:Rat}(h:ArH T a b)(e1:(a:Rat)≤X*T)(e2:X*T≤(b:Rat)):0≤X∧X≤1 / 2:=by
 have hT:=h.hT
 have T0:(0:Rat)<T:=Rat.intCast_pos.2 (by omega)
 constructor
 ·have:(0:Rat)*T≤X*T:=by rw[Rat.zero_mul];exact Rat.le_trans (Rat.intCast_nonneg.2 h.h1) e1
  exact Rat.le_of_mul_le_mul_right this T0
 ·refine Rat.le_of_mul_le_mul_right (c:=(T:Rat)) ?_ T0
  have:((2*b:Int):Rat)≤(T:Rat):=Rat.intCast_le_intCast.2 h.h3
  rw[Rat.intCast_mul] at this
  rw[show ((2:Int):Rat)=2 from rfl] at this
  grind
theorem ser_enc {T a b:Int}{X:Rat}(h:ArH T a b)(e1:(a:Rat)≤X*T)(e2:X*T≤(b:Rat))(N:Nat){K:Nat}(hK:N+1≤K) :
  ((sA1 T a b N-(aP T a b N).2:Int):Rat)≤AL X K*T∧AL X K*T≤((sA2 T a b N+(aP T a b N).2:Int):Rat):=by
 have hT:=h.hT
 have T0:(0:Rat)<T:=Rat.intCast_pos.2 (by omega)
 have xb:=X_bd h e1 e2
 have s:=tyS_enc (T:=(T:Rat)) (t:=tA X) (pt_enc h e1 e2) N
 rw[aS_AL] at s
 have n:=AL_near xb.1 (by grind) hK
 have t:=(tA_nn xb.1 (N+1)).2
 have p:=pow_nn xb.1 (2*N+1)
 have q:X^(2*(N+1)+1)≤X^(2*N+1):=by
  rw[odd_succ]
  have xx:=Rat.mul_le_mul_of_nonneg_left xb.2 xb.1
  have m:=Rat.mul_le_mul_of_nonneg_left (show X*X≤1 by grind) p
  rw[Rat.mul_one] at m
  exact m
 have pe:=(aP_enc h e1 e2 N).2
 have t2:=Rat.mul_le_mul_of_nonneg_right (Rat.le_trans t q) (Rat.le_of_lt T0)
 have m1:=Rat.mul_le_mul_of_nonneg_right n.1 (Rat.le_of_lt T0)
 have m2:=Rat.mul_le_mul_of_nonneg_right n.2 (Rat.le_of_lt T0)
 unfold sA1 sA2
 rw[Rat.intCast_sub,Rat.intCast_add]
 constructor<;>grind
theorem pt_bd {T a b:Int}(h:ArH T a b):∀ j,0≤sq0 a (pt1 T a b) j∧sq0 a (pt1 T a b) j≤sq0 b (pt2 T a b) j∧sq0 b (pt2 T a b) j≤T∧sq0 b (pt2 T a b) j-sq0 a (pt1 T a b) j≤(b-a)+8
 | 0=>⟨h.h1,h.h2,by have:=h.h1;have:=h.h2;have:=h.h3;show b≤T;omega,by show b-a≤_;omega⟩
 | j+1=>by
  obtain⟨b1,b2,b3,b4⟩:=aP_facts h (j+1)
  have hn:=odn_pos (j+1)
  have hT:=h.hT
  have l1:ptLo (aP T a b (j+1)).1 (odn (j+1))=_:=ptLo_eq b1 hn
  have l2:ptHi (aP T a b (j+1)).2 (odn (j+1))=_:=ptHi_eq b2 hn
  have f1:=Int.lt_ediv_add_one_mul_self (aP T a b (j+1)).1 hn
  have f2:=Int.lt_ediv_add_one_mul_self (-(aP T a b (j+1)).2) hn
  have f3:=Int.ediv_mul_le (aP T a b (j+1)).1 (show odn (j+1)≠0 by omega)
  have f4:=Int.ediv_mul_le (-(aP T a b (j+1)).2) (show odn (j+1)≠0 by omega)
  have n1:=Int.ediv_nonneg b1 (show 0≤odn (j+1) by omega)
  have n3:3≤odn (j+1):=by unfold odn;omega
  have T0:(0:Rat)<(T:Rat):=Rat.intCast_pos.2 (by omega)
  have eX:(a:Rat)*(T:Rat)⁻¹*(T:Rat)=a:=by rw[Rat.mul_assoc,inv_one T0,Rat.mul_one]
  have pe:=pt_enc (X:=(a:Rat)*(T:Rat)⁻¹) h (by rw[eX];exact Rat.le_refl) (by rw[eX];exact Rat.intCast_le_intCast.2 h.h2) (j+1)
  have ple:=Rat.intCast_le_intCast.1 (Rat.le_trans pe.1 pe.2)
  refine⟨?_,ple,?_,?_⟩
  ·show 0≤ptLo (aP T a b (j+1)).1 (odn (j+1))
   rw[l1];exact n1
  ·show ptHi (aP T a b (j+1)).2 (odn (j+1))≤T
   rw[l2]
   generalize -(aP T a b (j+1)).2 / odn (j+1)=v at *
   refine Decidable.byContradiction fun hq=>?_
   have m:=Int.mul_le_mul_of_nonneg_right (show T+1≤-v by omega) (show 0≤odn (j+1) by omega)
   have m2:=Int.mul_le_mul_of_nonneg_left n3 (show 0≤T by omega)
   grind
  ·show ptHi (aP T a b (j+1)).2 (odn (j+1))-ptLo (aP T a b (j+1)).1 (odn (j+1))≤_
   rw[l1,l2]
   generalize (aP T a b (j+1)).1 / odn (j+1)=u at *
   generalize -(aP T a b (j+1)).2 / odn (j+1)=v at *
   have hx:=h.h2
   refine Decidable.byContradiction fun hq=>?_
   have m:=Int.mul_le_mul_of_nonneg_right (show (b-a)+9≤-v-u by omega) (show 0≤odn (j+1) by omega)
   have m2:=Int.mul_le_mul_of_nonneg_left n3 (show 0≤(b-a)+7 by omega)
   grind
theorem tyS_bdW {p1 p2:Nat→Int}{T W:Int}(h:∀ j,0≤p1 j∧p1 j≤p2 j∧p2 j≤T∧p2 j-p1 j≤W):∀ j:Nat,((-(((j:Int)+1)*T)≤tyA p1 p2 j∧tyA p1 p2 j≤((j:Int)+1)*T)∧-(((j:Int)+1)*T)≤tyB p1 p2 j∧tyB p1 p2 j≤((j:Int)+1)*T)∧tyA p1 p2 j≤tyB p1 p2 j∧tyB p1 p2 j-tyA p1 p2 j≤((j:Int)+1)*W
 | 0=>by
  have a:=h 0
  show ((-(((0:Int)+1)*T)≤p1 0∧p1 0≤((0:Int)+1)*T)∧-(((0:Int)+1)*T)≤p2 0∧p2 0≤((0:Int)+1)*T)∧p1 0≤p2 0∧p2 0-p1 0≤((0:Int)+1)*W
  omega
 | j+1=>by
  have a:=tyS_bdW h j
  have b:=h (j+1)
  have e:(((j+1:Nat):Int)+1)*T=((j:Int)+1)*T+T:=by
   rw[show ((j+1:Nat):Int)=(j:Int)+1 from rfl,Int.add_mul _ 1 T,Int.one_mul]
  have e2:(((j+1:Nat):Int)+1)*W=((j:Int)+1)*W+W:=by
   rw[show ((j+1:Nat):Int)=(j:Int)+1 from rfl,Int.add_mul _ 1 W,Int.one_mul]
  rw[e,e2]
  unfold tyA tyB
  by_cases q:j%2=0
  ·rw[if_pos q,if_pos q];omega
  ·rw[if_neg q,if_neg q];omega
def LoE (f:Nat→Rat)(s:Nat)(lo:Int):Prop:=∀ g:Rat,0<g→∃ N,∀ K,N≤K→(lo:Rat)≤f K*((2^s:Int):Rat)+g
def HiE (f:Nat→Rat)(s:Nat)(hi:Int):Prop:=∀ g:Rat,0<g→∃ N,∀ K,N≤K→f K*((2^s:Int):Rat)≤(hi:Rat)+g
theorem LoE.of {f h:Nat→Rat}{s:Nat}{lo:Int}(hl:∃ N,∀ K,N≤K→(lo:Rat)≤f K*((2^s:Int):Rat))(q:Lq f h):LoE h s lo:=fun g g0=>by
 have T0:(0:Rat)<((2^s:Int):Rat):=Rat.intCast_pos.2 (two_pos s)
 have i0:=Rat.inv_pos.2 T0
 have ie:=inv_one T0
 obtain⟨N,hl⟩:=hl
 obtain⟨M,q⟩:=q (g*(((2^s:Int):Rat))⁻¹) (Rat.mul_pos g0 i0)
 refine⟨N+M,fun K hK=>?_⟩
 have a:=hl K (by omega)
 have b:=Rat.mul_le_mul_of_nonneg_right (q K (by omega)) (Rat.le_of_lt T0)
 rw[Rat.add_mul,Rat.mul_assoc,ie,Rat.mul_one] at b
 exact Rat.le_trans a b
theorem HiE.of {f h:Nat→Rat}{s:Nat}{hi:Int}(hl:∃ N,∀ K,N≤K→f K*((2^s:Int):Rat)≤(hi:Rat))(q:Lq h f):HiE h s hi:=fun g g0=>by
 have T0:(0:Rat)<((2^s:Int):Rat):=Rat.intCast_pos.2 (two_pos s)
 have i0:=Rat.inv_pos.2 T0
 have ie:=inv_one T0
 obtain⟨N,hl⟩:=hl
 obtain⟨M,q⟩:=q (g*(((2^s:Int):Rat))⁻¹) (Rat.mul_pos g0 i0)
 refine⟨N+M,fun K hK=>?_⟩
 have a:=hl K (by omega)
 have b:=Rat.mul_le_mul_of_nonneg_right (q K (by omega)) (Rat.le_of_lt T0)
 rw[Rat.add_mul,Rat.mul_assoc,ie,Rat.mul_one] at b
 exact Rat.le_trans b (by grind)
theorem hv8 {s x1 x2:Int}{n:Nat}(h0:0≤x1)(h1:x1≤x2)(h2:8*x2≤9*2^s.toNat)(h3:1024≤(2:Int)^s.toNat)(hn:2≤n):ArH (2^s.toNat) (hv s x1 x2 n).1 (hv s x1 x2 n).2:=by
 have f:=hv_facts h0 h1 h2 (by omega) n
 have k:=hv_small h0 h1 h2 (by omega) n
 have p:(4:Int)≤2^n:=by
  obtain⟨m,rfl⟩:∃ m,n=m+2:=⟨n-2,by omega⟩
  have:=two_pos m
  rw[Int.pow_succ,Int.pow_succ];omega
 refine⟨by omega,f.1,f.2.1,?_⟩
 refine Decidable.byContradiction fun hq=>?_
 have m:=Int.mul_le_mul (p) (show 2^s.toNat-3≤2*((hv s x1 x2 n).2-2) by omega) (by omega) (by omega)
 have e:2^n*(2*((hv s x1 x2 n).2-2))=2*(2^n*((hv s x1 x2 n).2-2)):=by grind
 omega
theorem ang_lim {t x1 x2:Int}{S n c N:Nat}(ht:t.toNat=S+n+c)(h0:0≤x1)(h1:x1≤x2)(h2:8*x2≤9*2^t.toNat)(h3:1024≤(2:Int)^t.toNat)(hn:2≤n){a b:Int}(ha:(hv t x1 x2 n).1=a)(hb:(hv t x1 x2 n).2=b) :
  LoE (AT0 ((x1:Rat)*(((2^t.toNat:Int):Rat))⁻¹)) S ((sA1 (2^t.toNat) a b N-(aP (2^t.toNat) a b N).2)*2^n / 2^(n+c))∧HiE (AT0 ((x2:Rat)*(((2^t.toNat:Int):Rat))⁻¹)) S (-(-((sA2 (2^t.toNat) a b N+(aP (2^t.toNat) a b N).2)*2^n) / 2^(n+c))):=by
 have H:=hv8 (n:=n) h0 h1 h2 h3 hn
 have L:=hv_lim h0 h1 h2 (by omega) n
 rw[ha,hb] at H L
 have T0:(0:Rat)<((2^t.toNat:Int):Rat):=Rat.intCast_pos.2 (two_pos _)
 have ie:=inv_one T0
 have eX:∀ z:Int,(z:Rat)*(((2^t.toNat:Int):Rat))⁻¹*((2^t.toNat:Int):Rat)=z:=fun z=>by rw[Rat.mul_assoc,ie,Rat.mul_one]
 have ab:=Rat.intCast_le_intCast.2 H.h2
 have x1':(a:Rat)≤(a:Rat)*(((2^t.toNat:Int):Rat))⁻¹*((2^t.toNat:Int):Rat)∧(a:Rat)*(((2^t.toNat:Int):Rat))⁻¹*((2^t.toNat:Int):Rat)≤(b:Rat):=by rw[eX];exact⟨Rat.le_refl,ab⟩
 have x2':(a:Rat)≤(b:Rat)*(((2^t.toNat:Int):Rat))⁻¹*((2^t.toNat:Int):Rat)∧(b:Rat)*(((2^t.toNat:Int):Rat))⁻¹*((2^t.toNat:Int):Rat)≤(b:Rat):=by rw[eX];exact⟨ab,Rat.le_refl⟩
 have b1:=X_bd H x1'.1 x1'.2
 have b2:=X_bd H x2'.1 x2'.2
 have C0:(0:Rat)<((2^(n+c):Int):Rat):=Rat.intCast_pos.2 (two_pos _)
 have n0:(0:Rat)<((2^n:Int):Rat):=Rat.intCast_pos.2 (two_pos _)
 have eT:((2^t.toNat:Int):Rat)=((2^S:Int):Rat)*((2^(n+c):Int):Rat):=by rw[ht,Nat.add_assoc,Int.pow_add,Rat.intCast_mul]
 have en:(2:Rat)^n=((2^n:Int):Rat):=by rw[← zp_nat,Rat.zpow_natCast]
 constructor
 ·refine LoE.of ⟨N+1,fun K hK=>?_⟩ L.1
  have e:=(ser_enc H x1'.1 x1'.2 N hK).1
  have f:=(fl_R (a:=(sA1 (2^t.toNat) a b N-(aP (2^t.toNat) a b N).2)*2^n) (two_pos (n+c))).1
  rw[Rat.intCast_mul] at f
  show _≤(2:Rat)^n*AT0 ((a:Rat)*(((2^t.toNat:Int):Rat))⁻¹) K*_
  unfold AT0
  rw[if_pos b1.2,en]
  have e:=Rat.mul_le_mul_of_nonneg_right e (Rat.le_of_lt n0)
  refine Rat.le_of_mul_le_mul_right (c:=((2^(n+c):Int):Rat)) (Rat.le_trans f (Rat.le_trans e ?_)) C0
  generalize AL ((a:Rat)*(((2^t.toNat:Int):Rat))⁻¹) K=z
  rw[eT];grind
 ·refine HiE.of ⟨N+1,fun K hK=>?_⟩ L.2
  have e:=(ser_enc H x2'.1 x2'.2 N hK).2
  have f:=(ce_R (a:=(sA2 (2^t.toNat) a b N+(aP (2^t.toNat) a b N).2)*2^n) (two_pos (n+c))).1
  rw[Rat.intCast_mul] at f
  show (2:Rat)^n*AT0 ((b:Rat)*(((2^t.toNat:Int):Rat))⁻¹) K*_≤_
  unfold AT0
  rw[if_pos b2.2,en]
  have e:=Rat.mul_le_mul_of_nonneg_right e (Rat.le_of_lt n0)
  refine Rat.le_of_mul_le_mul_right (c:=((2^(n+c):Int):Rat)) (Rat.le_trans ?_ (Rat.le_trans e f)) C0
  generalize AL ((b:Rat)*(((2^t.toNat:Int):Rat))⁻¹) K=z
  rw[eT];grind
theorem hv_ex {t x1 x2:Int}{S n c:Nat}(ht:t.toNat=S+n+c)(h0:0≤x1)(h1:x1≤x2)(h2:8*x2≤9*2^t.toNat)(h3:1024≤(2:Int)^t.toNat)(hn:2≤n):∃ ha hb:Nat→Int,(ha 0=x1∧hb 0=x2) ∧
  (∀ i,ha (i+1)=Int.fdiv (ha i*2^t.toNat) (1*2^t.toNat+sqHi (1*2^t.toNat+-(-(hb i*hb i) / 2^t.toNat)) t)∧hb (i+1)=-(Int.fdiv (-(hb i*2^t.toNat)) (1*2^t.toNat+sqLo (1*2^t.toNat+ha i*ha i / 2^t.toNat) t))) ∧
  (∀ i,0≤ha i∧ha i≤hb i∧8*hb i≤9*2^t.toNat)∧ArH (2^t.toNat) (ha n) (hb n)∧hb n-ha n+3≤4^n*(x2-x1+3) ∧
  ∀ N,LoE (AT0 ((x1:Rat)*(((2^t.toNat:Int):Rat))⁻¹)) S ((sA1 (2^t.toNat) (ha n) (hb n) N-(aP (2^t.toNat) (ha n) (hb n) N).2)*2^n / 2^(n+c))∧HiE (AT0 ((x2:Rat)*(((2^t.toNat:Int):Rat))⁻¹)) S (-(-((sA2 (2^t.toNat) (ha n) (hb n) N+(aP (2^t.toNat) (ha n) (hb n) N).2)*2^n) / 2^(n+c))) :=
 ⟨fun i=>(hv t x1 x2 i).1,fun i=>(hv t x1 x2 i).2,⟨rfl,rfl⟩,fun _=>⟨rfl,rfl⟩,hv_facts h0 h1 h2 (by omega),hv8 h0 h1 h2 h3 hn,hv_wid h0 h1 h2 (by omega) n,fun _=>ang_lim ht h0 h1 h2 h3 hn rfl rfl⟩
end Go.Proofs.YtkkbddkpggjgpaaGreatDoor

namespace Go.Proofs.YtkkbddkpggjgpaaGreatDoor
open Go.RowKit
set_option maxRecDepth 100000
set_option maxHeartbeats 2000000
theorem sq_hi1 {b s:Int}(h:b.natAbs*2^s.toNat-rt (b.natAbs*2^s.toNat)*rt (b.natAbs*2^s.toNat)≠0):sgn false (rt (b.natAbs*2^s.toNat)+(1:Int).toNat)=sqHi b s:=by
 unfold sqHi
 rw[if_neg h];rfl
theorem sq_hi2 {b s:Int}(h:b.natAbs*2^s.toNat-rt (b.natAbs*2^s.toNat)*rt (b.natAbs*2^s.toNat)=0):sgn false (rt (b.natAbs*2^s.toNat))=sqHi b s:=by
 unfold sqHi
 rw[if_pos h];rfl
theorem fx_Sqrt (a b s:Int)(c0:L (a).natAbs≤1000)(c1:L (b).natAbs≤1000)(c2:(0:Int)≤s∧s≤20000):Impl Tryz.prog Amb 211 [(sV a b),(.int .i64 s)] (sV (sqLo a s) (sqHi b s)):=by
 have z1:=L_lit 1 (by decide)
 have m1:=L_abs_shl a s.toNat
 have m2:=L_abs_shl b s.toNat
 have e1:=abs_shl a s.toNat
 have e2:=abs_shl b s.toNat
 exact impl_ob hP hAmb Tryz.func211 (by kernel_rfl) (.lits 2<|.call (N (a.natAbs*2^(s).toNat))<|.lit<|.call (.tup [(N (rt (a.natAbs*2^(s).toNat))),(N ((a.natAbs*2^(s).toNat)-rt (a.natAbs*2^(s).toNat)*rt (a.natAbs*2^(s).toNat)))])<|.lits 2<|.call (N (b.natAbs*2^(s).toNat))<|.lit<|.call (.tup [(N (rt (b.natAbs*2^(s).toNat))),(N ((b.natAbs*2^(s).toNat)-rt (b.natAbs*2^(s).toNat)*rt (b.natAbs*2^(s).toNat)))])<|.lit<|.both (.lit<|.call (N 1)<|.lit<|.call (N ((rt (b.natAbs*2^(s).toNat))+1))<|.lit<|.call (zV (sgn false (rt (a.natAbs*2^(s).toNat))))<|.lit<|.call (zV (sgn false ((rt (b.natAbs*2^(s).toNat))+1)))<|.lits 3<|.ret) (.lit<|.call (zV (sgn false (rt (a.natAbs*2^(s).toNat))))<|.lit<|.call (zV (sgn false (rt (b.natAbs*2^(s).toNat))))<|.lits 3<|.ret))
  (cast_ob (aI True.intro (aI (nat_Shl a.natAbs s oO oO) (have f13:=L_shl a.natAbs (s).toNat;aI (root_Sqrt (a.natAbs*2^(s).toNat) oO) (have f12:=L_sub (a.natAbs*2^(s).toNat) (rt (a.natAbs*2^(s).toNat)*rt (a.natAbs*2^(s).toNat));have f11:=rt_L (a.natAbs*2^(s).toNat);aI (nat_Shl b.natAbs s oO oO) (have f10:=L_shl b.natAbs (s).toNat;aI (root_Sqrt (b.natAbs*2^(s).toNat) oO) (have f9:=L_sub (b.natAbs*2^(s).toNat) (rt (b.natAbs*2^(s).toNat)*rt (b.natAbs*2^(s).toNat));have f8:=rt_L (b.natAbs*2^(s).toNat);aI (fun (h1:(iGt ((lim ((b.natAbs*2^(s).toNat)-rt (b.natAbs*2^(s).toNat)*rt (b.natAbs*2^(s).toNat))).length:Int) 0)=true)=>have _gh1:=iGt_t h1;aI (nat_Of 1 oO) (aI (nat_Add (rt (b.natAbs*2^(s).toNat)) 1 oO oO) (have f4:=L_add (rt (b.natAbs*2^(s).toNat)) 1;aI (int_Nat false (rt (a.natAbs*2^(s).toNat)) oO) (have f3:=L_sgn false (rt (a.natAbs*2^(s).toNat));aI (int_Nat false ((rt (b.natAbs*2^(s).toNat))+1) oO) (have f2:=L_sgn false ((rt (b.natAbs*2^(s).toNat))+1);(Sp_of rfl (sq_hi1 (fun q=>by have z:L (b.natAbs*2^s.toNat-rt (b.natAbs*2^s.toNat)*rt (b.natAbs*2^s.toNat))=0:=(by rw[q];exact L_zero);have e:=L_len (b.natAbs*2^s.toNat-rt (b.natAbs*2^s.toNat)*rt (b.natAbs*2^s.toNat));omega)):vsub (sV (sgn false (rt (a.natAbs*2^(s).toNat))) (sgn false ((rt (b.natAbs*2^(s).toNat))+1))) (sV (sqLo a s) (sqHi b s)))))))) (fun (h5:(iGt ((lim ((b.natAbs*2^(s).toNat)-rt (b.natAbs*2^(s).toNat)*rt (b.natAbs*2^(s).toNat))).length:Int) 0)=false)=>have _gh5:=iGt_f h5;aI (int_Nat false (rt (a.natAbs*2^(s).toNat)) oO) (have f7:=L_sgn false (rt (a.natAbs*2^(s).toNat));aI (int_Nat false (rt (b.natAbs*2^(s).toNat)) oO) (have f6:=L_sgn false (rt (b.natAbs*2^(s).toNat));(Sp_of rfl (sq_hi2 (Decidable.byContradiction fun q=>by have z:=L_pos q;have e:=L_len (b.natAbs*2^s.toNat-rt (b.natAbs*2^s.toNat)*rt (b.natAbs*2^s.toNat));omega)):vsub (sV (sgn false (rt (a.natAbs*2^(s).toNat))) (sgn false (rt (b.natAbs*2^(s).toNat)))) (sV (sqLo a s) (sqHi b s)))))))))))) (by kernel_rfl))
def fx_ang_0_mk (sc o1 o2:Int)(ha hb _ _ _ _ _ _ _ _:Nat→Int)(x:Nat × Int):St:=⟨mkS 74 [(1,(.val (.int .i64 sc))),(2,(.own 0 0)),(4,(.own 1 0)),(5,(.val (.int .i64 ((sc+8)+16)))),(6,(.own 2 0)),(21,(.val (.int .i64 x.2)))],[⟨true,false,[(V.bool (decide ((ha x.1)<0))),(N ((ha x.1).natAbs)),(V.bool (decide ((hb x.1)<0))),(N ((hb x.1).natAbs))]⟩,⟨true,false,[(V.bool false),V.nil,(V.bool false),V.nil]⟩,⟨true,false,[(V.bool (decide (o1<0))),(N o1.natAbs),(V.bool (decide (o2<0))),(N o2.natAbs)]⟩]⟩
def fx_ang_0_I (_ _ _:Int)(_ _ _ _ _ _ _ _ _ _:Nat→Int)(x:Nat × Int):Prop:=x.2=(x.1:Int)∧x.1≤8
def fx_ang_0_mu (_ _ _:Int)(_ _ _ _ _ _ _ _ _ _:Nat→Int)(x:Nat × Int):Nat:=8-x.1
def fx_ang_0_ex (sc o1 o2:Int)(ha hb _ _ _ _ _ _ _ _:Nat→Int)(y:Nat):Ex × St:=(.exit 0,⟨mkS 74 [(1,(.val (.int .i64 sc))),(2,(.own 0 0)),(4,(.own 1 0)),(5,(.val (.int .i64 ((sc+8)+16))))],[⟨true,false,[(V.bool (decide ((ha y)<0))),(N ((ha y).natAbs)),(V.bool (decide ((hb y)<0))),(N ((hb y).natAbs))]⟩,⟨true,false,[(V.bool false),V.nil,(V.bool false),V.nil]⟩,⟨true,false,[(V.bool (decide (o1<0))),(N o1.natAbs),(V.bool (decide (o2<0))),(N o2.natAbs)]⟩]⟩)
def fx_ang_0_J (_ _ _:Int)(_ _ _ _ _ _ _ _ _ _:Nat→Int)(y:Nat):Prop:=y=8
abbrev fx_ang_0_N (sc o1 o2:Int)(ha hb ma1 ma2 aa1 aa2 ra1 ra2 da1 da2:Nat→Int):=NX (fx_ang_0_mk sc o1 o2 ha hb ma1 ma2 aa1 aa2 ra1 ra2 da1 da2) (fx_ang_0_I sc o1 o2 ha hb ma1 ma2 aa1 aa2 ra1 ra2 da1 da2) (fx_ang_0_mu sc o1 o2 ha hb ma1 ma2 aa1 aa2 ra1 ra2 da1 da2) (fx_ang_0_ex sc o1 o2 ha hb ma1 ma2 aa1 aa2 ra1 ra2 da1 da2) (fx_ang_0_J sc o1 o2 ha hb ma1 ma2 aa1 aa2 ra1 ra2 da1 da2)
theorem fx_ang_0 (sc o1 o2:Int)(ha hb ma1 ma2 aa1 aa2 ra1 ra2 da1 da2:Nat→Int)(c0:∀ i:Nat,i<8→Impl Tryz.prog Amb 210 [(sV (ha i) (hb i)),(sV (ha i) (hb i)),(.int .i64 ((sc+8)+16))] (sV (ma1 i) (ma2 i)))(c1:∀ i:Nat,i<8→Impl Tryz.prog Amb 165 [(sV o1 o2),(sV (ma1 i) (ma2 i))] (sV (aa1 i) (aa2 i)))(c2:∀ i:Nat,i<8→Impl Tryz.prog Amb 211 [(sV (aa1 i) (aa2 i)),(.int .i64 ((sc+8)+16))] (sV (ra1 i) (ra2 i)))(c3:∀ i:Nat,i<8→Impl Tryz.prog Amb 165 [(sV o1 o2),(sV (ra1 i) (ra2 i))] (sV (da1 i) (da2 i)))(c4:∀ i:Nat,i<8→Impl Tryz.prog Amb 176 [(sV (ha i) (hb i)),(sV (da1 i) (da2 i)),(.int .i64 ((sc+8)+16))] (sV (ha (i+1)) (hb (i+1))))(c5:0≤sc∧sc≤9000)(x0:Nat × Int)(hI:fx_ang_0_I sc o1 o2 ha hb ma1 ma2 aa1 aa2 ra1 ra2 da1 da2 x0):LoopOk Tryz.prog Amb (loopN Tryz.f175 0) (fx_ang_0_mk sc o1 o2 ha hb ma1 ma2 aa1 aa2 ra1 ra2 da1 da2 x0) (fun e st_=>∃ y,fx_ang_0_J sc o1 o2 ha hb ma1 ma2 aa1 aa2 ra1 ra2 da1 da2 y∧fx_ang_0_ex sc o1 o2 ha hb ma1 ma2 aa1 aa2 ra1 ra2 da1 da2 y=(e,st_)) :=
 loop_ob hP hAmb ⟨[1,2,4,5,6,21],3,[]⟩ (fx_ang_0_mk sc o1 o2 ha hb ma1 ma2 aa1 aa2 ra1 ra2 da1 da2) (fx_ang_0_I sc o1 o2 ha hb ma1 ma2 aa1 aa2 ra1 ra2 da1 da2) (fx_ang_0_mu sc o1 o2 ha hb ma1 ma2 aa1 aa2 ra1 ra2 da1 da2) (fx_ang_0_ex sc o1 o2 ha hb ma1 ma2 aa1 aa2 ra1 ra2 da1 da2) (fx_ang_0_J sc o1 o2 ha hb ma1 ma2 aa1 aa2 ra1 ra2 da1 da2) x0 hI (fun (i,ii)=>.lit<|.both (.lits 6<|.call (sV (ma1 i) (ma2 i))<|.lit<|.call (sV (aa1 i) (aa2 i))<|.lit<|.call (sV (ra1 i) (ra2 i))<|.lit<|.call (sV (da1 i) (da2 i))<|.lit<|.call (sV (ha (i+1)) (hb (i+1)))<|.lits 2<|.yes<|.fin2 ⟨[1,2,4,5,6,21],3,[]⟩) (.fin2 ⟨[1,2,4,5],3,[]⟩)) (by
  rintro ⟨i,ii⟩ hI
  have hI:ii=(i:Int)∧i≤8:=hI
  obtain⟨h1,h2⟩:=hI
  exact cast_ob (aI True.intro (aI (fun (h101:(iLt ii 8)=true)=>have _gh101:=iLt_t h101;aI (c0 i oO ) (aI (c1 i oO ) (aI (c2 i oO ) (aI (c3 i oO ) (aI (c4 i oO ) (aI (fits_i64 oO:(fits .i64 (ii+1))=true) (aI tT ((nx_next ((i+1),(ii+1)) (show (ii+1)=((i+1):Int)∧(i+1)≤8 from ⟨by omega,by omega⟩) (show 8-(i+1)<8-i by omega):fx_ang_0_N sc o1 o2 ha hb ma1 ma2 aa1 aa2 ra1 ra2 da1 da2 (i,ii) .normal (fx_ang_0_mk sc o1 o2 ha hb ma1 ma2 aa1 aa2 ra1 ra2 da1 da2 ((i+1),(ii+1)))))))))))) (fun (h102:(iLt ii 8)=false)=>have _gh102:=iLt_f h102;aI tT ((nx_exit 0 ((fx_ang_0_ex sc o1 o2 ha hb ma1 ma2 aa1 aa2 ra1 ra2 da1 da2 i).2) i (show i=8 from show i=8 by omega) rfl:fx_ang_0_N sc o1 o2 ha hb ma1 ma2 aa1 aa2 ra1 ra2 da1 da2 (i,ii) (.exit 0) ((fx_ang_0_ex sc o1 o2 ha hb ma1 ma2 aa1 aa2 ra1 ra2 da1 da2 i).2)))))) (by kernel_rfl))
def fx_ang_1_mk (_:Nat)(sc o1 o2 q1 q2 ga gb:Int)(pp1 pp2 pt1 pt2:Nat→Int)(x:(Nat × Int)⊕(Nat × Int)):St:=Sum.elim (fun (x:Nat × Int)=>⟨mkS 74 [(1,(.val (.int .i64 sc))),(4,(.own 1 0)),(5,(.val (.int .i64 ((sc+8)+16)))),(7,(.own 3 0)),(8,(.own 4 0)),(9,(.own 5 0)),(10,(.val (.int .u32 x.2)))],[⟨true,false,[(V.bool (decide (ga<0))),(N ga.natAbs),(V.bool (decide (gb<0))),(N gb.natAbs)]⟩,⟨true,false,[(V.bool false),V.nil,(V.bool false),V.nil]⟩,⟨true,false,[(V.bool (decide (o1<0))),(N o1.natAbs),(V.bool (decide (o2<0))),(N o2.natAbs)]⟩,⟨true,false,[(V.bool (decide (q1<0))),(N q1.natAbs),(V.bool (decide (q2<0))),(N q2.natAbs)]⟩,⟨true,false,[(V.bool (decide ((sq0 ga pp1 (2*x.1))<0))),(N ((sq0 ga pp1 (2*x.1)).natAbs)),(V.bool (decide ((sq0 gb pp2 (2*x.1))<0))),(N ((sq0 gb pp2 (2*x.1)).natAbs))]⟩,⟨true,false,[(V.bool (decide ((tyA (sq0 ga pt1) (sq0 gb pt2) (2*x.1))<0))),(N ((tyA (sq0 ga pt1) (sq0 gb pt2) (2*x.1)).natAbs)),(V.bool (decide ((tyB (sq0 ga pt1) (sq0 gb pt2) (2*x.1))<0))),(N ((tyB (sq0 ga pt1) (sq0 gb pt2) (2*x.1)).natAbs))]⟩]⟩) (fun (x:Nat × Int)=>⟨mkS 74 [(1,(.val (.int .i64 sc))),(4,(.own 1 0)),(5,(.val (.int .i64 ((sc+8)+16)))),(7,(.own 3 0)),(8,(.own 4 0)),(9,(.own 5 0)),(10,(.val (.int .u32 x.2)))],[⟨true,false,[(V.bool (decide (ga<0))),(N ga.natAbs),(V.bool (decide (gb<0))),(N gb.natAbs)]⟩,⟨true,false,[(V.bool false),V.nil,(V.bool false),V.nil]⟩,⟨true,false,[(V.bool (decide (o1<0))),(N o1.natAbs),(V.bool (decide (o2<0))),(N o2.natAbs)]⟩,⟨true,false,[(V.bool (decide (q1<0))),(N q1.natAbs),(V.bool (decide (q2<0))),(N q2.natAbs)]⟩,⟨true,false,[(V.bool (decide ((sq0 ga pp1 (2*x.1+1))<0))),(N ((sq0 ga pp1 (2*x.1+1)).natAbs)),(V.bool (decide ((sq0 gb pp2 (2*x.1+1))<0))),(N ((sq0 gb pp2 (2*x.1+1)).natAbs))]⟩,⟨true,false,[(V.bool (decide ((tyA (sq0 ga pt1) (sq0 gb pt2) (2*x.1+1))<0))),(N ((tyA (sq0 ga pt1) (sq0 gb pt2) (2*x.1+1)).natAbs)),(V.bool (decide ((tyB (sq0 ga pt1) (sq0 gb pt2) (2*x.1+1))<0))),(N ((tyB (sq0 ga pt1) (sq0 gb pt2) (2*x.1+1)).natAbs))]⟩]⟩) x
def fx_ang_1_I (nn:Nat)(_ _ _ _ _ _ _:Int)(_ _ _ _:Nat→Int)(x:(Nat × Int)⊕(Nat × Int)):Prop:=Sum.elim (fun (x:Nat × Int)=>2*x.1≤nn∧x.2=4*(x.1:Int)+3) (fun (x:Nat × Int)=>2*x.1+1≤nn∧x.2=4*(x.1:Int)+5) x
def fx_ang_1_mu (nn:Nat)(_ _ _ _ _ _ _:Int)(_ _ _ _:Nat→Int)(x:(Nat × Int)⊕(Nat × Int)):Nat:=Sum.elim (fun (x:Nat × Int)=>nn-2*x.1) (fun (x:Nat × Int)=>nn-(2*x.1+1)) x
def fx_ang_1_ex (_:Nat)(sc o1 o2 q1 q2 ga gb:Int)(pp1 pp2 pt1 pt2:Nat→Int)(y:Nat):Ex × St:=(.exit 2,⟨mkS 74 [(1,(.val (.int .i64 sc))),(4,(.own 1 0)),(5,(.val (.int .i64 ((sc+8)+16)))),(8,(.own 4 0)),(9,(.own 5 0))],[⟨true,false,[(V.bool (decide (ga<0))),(N ga.natAbs),(V.bool (decide (gb<0))),(N gb.natAbs)]⟩,⟨true,false,[(V.bool false),V.nil,(V.bool false),V.nil]⟩,⟨true,false,[(V.bool (decide (o1<0))),(N o1.natAbs),(V.bool (decide (o2<0))),(N o2.natAbs)]⟩,⟨true,false,[(V.bool (decide (q1<0))),(N q1.natAbs),(V.bool (decide (q2<0))),(N q2.natAbs)]⟩,⟨true,false,[(V.bool (decide ((sq0 ga pp1 y)<0))),(N ((sq0 ga pp1 y).natAbs)),(V.bool (decide ((sq0 gb pp2 y)<0))),(N ((sq0 gb pp2 y).natAbs))]⟩,⟨true,false,[(V.bool (decide ((tyA (sq0 ga pt1) (sq0 gb pt2) y)<0))),(N ((tyA (sq0 ga pt1) (sq0 gb pt2) y).natAbs)),(V.bool (decide ((tyB (sq0 ga pt1) (sq0 gb pt2) y)<0))),(N ((tyB (sq0 ga pt1) (sq0 gb pt2) y).natAbs))]⟩]⟩)
def fx_ang_1_J (nn:Nat)(_ _ _ _ _ _ _:Int)(_ _ _ _:Nat→Int)(y:Nat):Prop:=y=nn
abbrev fx_ang_1_N (nn:Nat)(sc o1 o2 q1 q2 ga gb:Int)(pp1 pp2 pt1 pt2:Nat→Int):=NX (fx_ang_1_mk nn sc o1 o2 q1 q2 ga gb pp1 pp2 pt1 pt2) (fx_ang_1_I nn sc o1 o2 q1 q2 ga gb pp1 pp2 pt1 pt2) (fx_ang_1_mu nn sc o1 o2 q1 q2 ga gb pp1 pp2 pt1 pt2) (fx_ang_1_ex nn sc o1 o2 q1 q2 ga gb pp1 pp2 pt1 pt2) (fx_ang_1_J nn sc o1 o2 q1 q2 ga gb pp1 pp2 pt1 pt2)
theorem fx_ang_1 (nn:Nat)(sc o1 o2 q1 q2 ga gb:Int)(pp1 pp2 pt1 pt2:Nat→Int)(c0:∀ j,j≤nn→Impl Tryz.prog Amb 212 [(sV (sq0 ga pp1 j) (sq0 gb pp2 j))] (.bool (decide (nn≤j))))(c1:∀ j,j<nn→Impl Tryz.prog Amb 210 [(sV (sq0 ga pp1 j) (sq0 gb pp2 j)),(sV q1 q2),(.int .i64 ((sc+8)+16))] (sV (sq0 ga pp1 (j+1)) (sq0 gb pp2 (j+1))))(c2:∀ (j:Nat) (k:Int),j<nn→k=odn (j+1)→Impl Tryz.prog Amb 213 [(sV (sq0 ga pp1 (j+1)) (sq0 gb pp2 (j+1))),(.int .u32 k)] (sV (sq0 ga pt1 (j+1)) (sq0 gb pt2 (j+1))))(c3:∀ j,j<nn→j%2=0→Impl Tryz.prog Amb 164 [(sV (tyA (sq0 ga pt1) (sq0 gb pt2) j) (tyB (sq0 ga pt1) (sq0 gb pt2) j)),(sV (sq0 ga pt1 (j+1)) (sq0 gb pt2 (j+1)))] (sV (tyA (sq0 ga pt1) (sq0 gb pt2) (j+1)) (tyB (sq0 ga pt1) (sq0 gb pt2) (j+1))))(c4:∀ j,j<nn→j%2=1→Impl Tryz.prog Amb 165 [(sV (tyA (sq0 ga pt1) (sq0 gb pt2) j) (tyB (sq0 ga pt1) (sq0 gb pt2) j)),(sV (sq0 ga pt1 (j+1)) (sq0 gb pt2 (j+1)))] (sV (tyA (sq0 ga pt1) (sq0 gb pt2) (j+1)) (tyB (sq0 ga pt1) (sq0 gb pt2) (j+1))))(c5:nn≤10000)(x0:(Nat × Int)⊕(Nat × Int))(hI:fx_ang_1_I nn sc o1 o2 q1 q2 ga gb pp1 pp2 pt1 pt2 x0):LoopOk Tryz.prog Amb (loopN Tryz.f175 1) (fx_ang_1_mk nn sc o1 o2 q1 q2 ga gb pp1 pp2 pt1 pt2 x0) (fun e st_=>∃ y,fx_ang_1_J nn sc o1 o2 q1 q2 ga gb pp1 pp2 pt1 pt2 y∧fx_ang_1_ex nn sc o1 o2 q1 q2 ga gb pp1 pp2 pt1 pt2 y=(e,st_)) :=
 loop_ob hP hAmb ⟨[1,4,5,7,8,9,10],6,[]⟩ (fx_ang_1_mk nn sc o1 o2 q1 q2 ga gb pp1 pp2 pt1 pt2) (fx_ang_1_I nn sc o1 o2 q1 q2 ga gb pp1 pp2 pt1 pt2) (fx_ang_1_mu nn sc o1 o2 q1 q2 ga gb pp1 pp2 pt1 pt2) (fx_ang_1_ex nn sc o1 o2 q1 q2 ga gb pp1 pp2 pt1 pt2) (fx_ang_1_J nn sc o1 o2 q1 q2 ga gb pp1 pp2 pt1 pt2) x0 hI (Sum.elim (fun (h,k)=>.lits 2<|.call (.bool (decide (nn≤(2*h))))<|.lit<|.both (.lits 3<|.call (sV (sq0 ga pp1 ((2*h)+1)) (sq0 gb pp2 ((2*h)+1)))<|.lits 3<|.yes<|.lits 3<|.call (sV (sq0 ga pt1 ((2*h)+1)) (sq0 gb pt2 ((2*h)+1)))<|.lit<|.call (sV (tyA (sq0 ga pt1) (sq0 gb pt2) ((2*h)+1)) (tyB (sq0 ga pt1) (sq0 gb pt2) ((2*h)+1)))<|.lits 2<|.yes<|.fin2 ⟨[1,4,5,7,8,9,10],6,[]⟩) (.fin2 ⟨[1,4,5,8,9],6,[]⟩)) (fun (h,k)=>.lits 2<|.call (.bool (decide (nn≤(2*h+1))))<|.lit<|.both (.lits 3<|.call (sV (sq0 ga pp1 ((2*h+1)+1)) (sq0 gb pp2 ((2*h+1)+1)))<|.lits 3<|.no<|.lits 3<|.call (sV (sq0 ga pt1 ((2*h+1)+1)) (sq0 gb pt2 ((2*h+1)+1)))<|.lit<|.call (sV (tyA (sq0 ga pt1) (sq0 gb pt2) ((2*h+1)+1)) (tyB (sq0 ga pt1) (sq0 gb pt2) ((2*h+1)+1)))<|.lits 2<|.yes<|.fin2 ⟨[1,4,5,7,8,9,10],6,[]⟩) (.fin2 ⟨[1,4,5,8,9],6,[]⟩))) (by
  rintro (⟨h,k⟩ | ⟨h,k⟩) hI
  ·skip
   have hI:2*h≤nn∧k=4*(h:Int)+3:=hI
   obtain⟨h1,h2⟩:=hI
   have hk:k=odn (2*h+1):=by unfold odn;omega
   have hw:wRem k 4=k%4:=Int.tmod_eq_emod_of_nonneg oO
   exact cast_ob (aI True.intro (aI (c0 (2*h) h1 ) (aI (fun (h101:(!(decide (nn≤(2*h))))=true)=>have _gh101:=of_decide_eq_false (notb_t h101);aI (c1 (2*h) oO ) (aI (iEq_mk oO:(iEq (wRem k (4:Int)) 3)=true) (aI (c2 (2*h) _ oO hk ) (aI (c3 (2*h) oO oO ) (aI (fits_u32 oO:(fits .u32 (k+2))=true) (aI tT ((nx_next (Sum.inr (h,(k+2))) (show 2*h+1≤nn∧(k+2)=4*(h:Int)+5 from ⟨by omega,by omega⟩) (show nn-(2*h+1)<nn-2*h by omega):fx_ang_1_N nn sc o1 o2 q1 q2 ga gb pp1 pp2 pt1 pt2 (Sum.inl (h,k)) .normal (fx_ang_1_mk nn sc o1 o2 q1 q2 ga gb pp1 pp2 pt1 pt2 (Sum.inr (h,(k+2)))))))))))) (fun (h102:(!(decide (nn≤(2*h))))=false)=>have _gh102:=of_decide_eq_true (notb_f h102);aI tT ((nx_exit 2 ((fx_ang_1_ex nn sc o1 o2 q1 q2 ga gb pp1 pp2 pt1 pt2 (2*h)).2) (2*h) (show (2*h)=nn from show (2*h)=nn by omega) rfl:fx_ang_1_N nn sc o1 o2 q1 q2 ga gb pp1 pp2 pt1 pt2 (Sum.inl (h,k)) (.exit 2) ((fx_ang_1_ex nn sc o1 o2 q1 q2 ga gb pp1 pp2 pt1 pt2 (2*h)).2))))))) (by kernel_rfl)
  ·skip
   have hI:2*h+1≤nn∧k=4*(h:Int)+5:=hI
   obtain⟨h1,h2⟩:=hI
   have hk:k=odn (2*h+1+1):=by unfold odn;omega
   have hw:wRem k 4=k%4:=Int.tmod_eq_emod_of_nonneg oO
   exact cast_ob (aI True.intro (aI (c0 (2*h+1) h1 ) (aI (fun (h101:(!(decide (nn≤(2*h+1))))=true)=>have _gh101:=of_decide_eq_false (notb_t h101);aI (c1 (2*h+1) oO ) (aI (iEq_mkF oO:(iEq (wRem k (4:Int)) 3)=false) (aI (c2 (2*h+1) _ oO hk ) (aI (c4 (2*h+1) oO oO ) (aI (fits_u32 oO:(fits .u32 (k+2))=true) (aI tT ((nx_next (Sum.inl ((h+1),(k+2))) (show 2*(h+1)≤nn∧(k+2)=4*((h+1):Int)+3 from ⟨by omega,by omega⟩) (show nn-2*(h+1)<nn-(2*h+1) by omega):fx_ang_1_N nn sc o1 o2 q1 q2 ga gb pp1 pp2 pt1 pt2 (Sum.inr (h,k)) .normal (fx_ang_1_mk nn sc o1 o2 q1 q2 ga gb pp1 pp2 pt1 pt2 (Sum.inl ((h+1),(k+2)))))))))))) (fun (h102:(!(decide (nn≤(2*h+1))))=false)=>have _gh102:=of_decide_eq_true (notb_f h102);aI tT ((nx_exit 2 ((fx_ang_1_ex nn sc o1 o2 q1 q2 ga gb pp1 pp2 pt1 pt2 (2*h+1)).2) (2*h+1) (show (2*h+1)=nn from show (2*h+1)=nn by omega) rfl:fx_ang_1_N nn sc o1 o2 q1 q2 ga gb pp1 pp2 pt1 pt2 (Sum.inr (h,k)) (.exit 2) ((fx_ang_1_ex nn sc o1 o2 q1 q2 ga gb pp1 pp2 pt1 pt2 (2*h+1)).2))))))) (by kernel_rfl))
theorem fx_ang0 (x1 x2 sc o1 o2 q1 q2 u1 u2 v1 v2 r1 r2:Int)(nn:Nat)(ha:Nat→Int)(hb:Nat→Int)(ma1:Nat→Int)(ma2:Nat→Int)(aa1:Nat→Int)(aa2:Nat→Int)(ra1:Nat→Int)(ra2:Nat→Int)(da1:Nat→Int)(da2:Nat→Int)(pp1:Nat→Int)(pp2:Nat→Int)(pt1:Nat→Int)(pt2:Nat→Int)(c0:∀ i:Nat,i<8→Impl Tryz.prog Amb 210 [(sV (ha i) (hb i)),(sV (ha i) (hb i)),(.int .i64 ((sc+8)+16))] (sV (ma1 i) (ma2 i)))(c1:∀ i:Nat,i<8→Impl Tryz.prog Amb 165 [(sV o1 o2),(sV (ma1 i) (ma2 i))] (sV (aa1 i) (aa2 i)))(c2:∀ i:Nat,i<8→Impl Tryz.prog Amb 211 [(sV (aa1 i) (aa2 i)),(.int .i64 ((sc+8)+16))] (sV (ra1 i) (ra2 i)))(c3:∀ i:Nat,i<8→Impl Tryz.prog Amb 165 [(sV o1 o2),(sV (ra1 i) (ra2 i))] (sV (da1 i) (da2 i)))(c4:∀ i:Nat,i<8→Impl Tryz.prog Amb 176 [(sV (ha i) (hb i)),(sV (da1 i) (da2 i)),(.int .i64 ((sc+8)+16))] (sV (ha (i+1)) (hb (i+1))))(c5:0≤sc∧sc≤9000)(c6:Impl Tryz.prog Amb 189 [(sV x1 x2),(.int .i64 (((sc+8)+16)-sc))] (sV (ha 0) (hb 0)))(c7:Impl Tryz.prog Amb 174 [(.int .i64 ((sc+8)+16))] (sV o1 o2))(c8:Impl Tryz.prog Amb 210 [(sV (ha 8) (hb 8)),(sV (ha 8) (hb 8)),(.int .i64 ((sc+8)+16))] (sV q1 q2))(c9:∀ j,j≤nn→Impl Tryz.prog Amb 212 [(sV (sq0 (ha 8) pp1 j) (sq0 (hb 8) pp2 j))] (.bool (decide (nn≤j))))(c10:∀ j,j<nn→Impl Tryz.prog Amb 210 [(sV (sq0 (ha 8) pp1 j) (sq0 (hb 8) pp2 j)),(sV q1 q2),(.int .i64 ((sc+8)+16))] (sV (sq0 (ha 8) pp1 (j+1)) (sq0 (hb 8) pp2 (j+1))))(c11:∀ (j:Nat) (k:Int),j<nn→k=odn (j+1)→Impl Tryz.prog Amb 213 [(sV (sq0 (ha 8) pp1 (j+1)) (sq0 (hb 8) pp2 (j+1))),(.int .u32 k)] (sV (sq0 (ha 8) pt1 (j+1)) (sq0 (hb 8) pt2 (j+1))))(c12:∀ j,j<nn→j%2=0→Impl Tryz.prog Amb 164 [(sV (tyA (sq0 (ha 8) pt1) (sq0 (hb 8) pt2) j) (tyB (sq0 (ha 8) pt1) (sq0 (hb 8) pt2) j)),(sV (sq0 (ha 8) pt1 (j+1)) (sq0 (hb 8) pt2 (j+1)))] (sV (tyA (sq0 (ha 8) pt1) (sq0 (hb 8) pt2) (j+1)) (tyB (sq0 (ha 8) pt1) (sq0 (hb 8) pt2) (j+1))))(c13:∀ j,j<nn→j%2=1→Impl Tryz.prog Amb 165 [(sV (tyA (sq0 (ha 8) pt1) (sq0 (hb 8) pt2) j) (tyB (sq0 (ha 8) pt1) (sq0 (hb 8) pt2) j)),(sV (sq0 (ha 8) pt1 (j+1)) (sq0 (hb 8) pt2 (j+1)))] (sV (tyA (sq0 (ha 8) pt1) (sq0 (hb 8) pt2) (j+1)) (tyB (sq0 (ha 8) pt1) (sq0 (hb 8) pt2) (j+1))))(c14:nn≤10000)(c15:Impl Tryz.prog Amb 148 [(sV (tyA (sq0 (ha 8) pt1) (sq0 (hb 8) pt2) nn) (tyB (sq0 (ha 8) pt1) (sq0 (hb 8) pt2) nn)),(zV (sq0 (hb 8) pp2 nn))] (sV u1 u2))(c16:Impl Tryz.prog Amb 189 [(sV u1 u2),(.int .i64 8)] (sV v1 v2))(c17:Impl Tryz.prog Amb 142 [(sV v1 v2),(.int .i64 (((sc+8)+16)-sc))] (sV r1 r2)):Impl Tryz.prog Amb 175 [(sV x1 x2),(.int .i64 sc)] (sV r1 r2):=by
 exact impl_ob hP hAmb Tryz.func175 (by kernel_rfl) (.lit<|.yes<|.lit<|.yes<|.lits 2<|.yes<|.lit<|.call (sV (ha 0) (hb 0))<|.lits 2<|.call (sV o1 o2)<|.lit<|.loop ⟨[1,2,4,5,6,21],3,[]⟩ ((fx_ang_0_mk sc o1 o2 ha hb ma1 ma2 aa1 aa2 ra1 ra2 da1 da2 (0,0))) (Nat) (fx_ang_0_ex sc o1 o2 ha hb ma1 ma2 aa1 aa2 ra1 ra2 da1 da2) (fx_ang_0_J sc o1 o2 ha hb ma1 ma2 aa1 aa2 ra1 ra2 da1 da2) (fun y=>.lits 3<|.call (sV q1 q2)<|.lits 3<|.loop ⟨[1,4,5,7,8,9,10],6,[]⟩ ((fx_ang_1_mk nn sc o1 o2 q1 q2 (ha y) (hb y) pp1 pp2 pt1 pt2 (Sum.inl (0,3)))) (Nat) (fx_ang_1_ex nn sc o1 o2 q1 q2 (ha y) (hb y) pp1 pp2 pt1 pt2) (fx_ang_1_J nn sc o1 o2 q1 q2 (ha y) (hb y) pp1 pp2 pt1 pt2) (fun z=>.lits 3<|.call (sV u1 u2)<|.lit<|.call (sV v1 v2)<|.lit<|.yes<|.lit<|.call (sV r1 r2)<|.lits 2<|.ret)))
  (cast_ob (aI True.intro (aI (fits_i64 oS:(fits .i64 (sc+8))=true) (aI (fits_i64 oS:(fits .i64 ((sc+8)+16))=true) (aI (fits_i64 oS:(fits .i64 (((sc+8)+16)-sc))=true) (aI (c6 ) (aI (c7 ) (aI tT (aI (rfl:(fx_ang_0_mk sc o1 o2 ha hb ma1 ma2 aa1 aa2 ra1 ra2 da1 da2 (0,0))=(fx_ang_0_mk sc o1 o2 ha hb ma1 ma2 aa1 aa2 ra1 ra2 da1 da2 (0,0))) (aI (fx_ang_0 sc o1 o2 ha hb ma1 ma2 aa1 aa2 ra1 ra2 da1 da2 c0 c1 c2 c3 c4 c5 (0,0) (show 0=(0:Int)∧0≤8 from ⟨by omega,by omega⟩)) (fun y (hJ:fx_ang_0_J sc o1 o2 ha hb ma1 ma2 aa1 aa2 ra1 ra2 da1 da2 y)=>have hJ:y=8:=hJ;have hY:=hJ;aI ((hY ▸ c8) ) (aI tT (aI (rfl:(fx_ang_1_mk nn sc o1 o2 q1 q2 (ha y) (hb y) pp1 pp2 pt1 pt2 (Sum.inl (0,3)))=(fx_ang_1_mk nn sc o1 o2 q1 q2 (ha y) (hb y) pp1 pp2 pt1 pt2 (Sum.inl (0,3)))) (aI (fx_ang_1 nn sc o1 o2 q1 q2 (ha y) (hb y) pp1 pp2 pt1 pt2 (hY ▸ c9) (hY ▸ c10) (hY ▸ c11) (hY ▸ c12) (hY ▸ c13) c14 (Sum.inl (0,3)) (show 2*0≤nn∧3=4*(0:Int)+3 from ⟨by omega,by omega⟩)) (fun z (hJ:fx_ang_1_J nn sc o1 o2 q1 q2 (ha y) (hb y) pp1 pp2 pt1 pt2 z)=>have hJ:z=nn:=hJ;have hZ:=hJ;aI ((hZ ▸ hY ▸ c15) ) (aI (c16 ) (aI (fits_i64 oS:(fits .i64 (((sc+8)+16)-sc))=true) (aI (c17 ) ((vsub_refl (sV r1 r2)))))))))))))))))))) (by kernel_rfl))
theorem fx_AtanAP (m ee sc a x1 x2 o1 o2 p1 p2 h1_ h2_ z1 z2 a1 a2 y1 y2:Int)(c0:(0:Int)≤sc∧sc≤5000)(c1:0≤m)(c2:x1≤o2)(c3:x2≤o2)(c4:L (x1).natAbs≤1000)(c5:L (x2).natAbs≤1000)(c6:L (o1).natAbs≤1000)(c7:L (o2).natAbs≤1000)(c8:L (y1).natAbs≤1000)(c9:L (y2).natAbs≤1000)(c10:Impl Tryz.prog Amb 129 [(.bool false),(N m.natAbs)] (zV a))(c11:Impl Tryz.prog Amb 173 [(yV a ee),(.int .i64 (sc+24))] (sV x1 x2))(c12:Impl Tryz.prog Amb 174 [(.int .i64 (sc+24))] (sV o1 o2))(c13:Impl Tryz.prog Amb 175 [(sV x1 x2),(.int .i64 (sc+24))] (sV y1 y2)):Impl Tryz.prog Amb 111 [(yV m ee),(.int .i64 sc)] (sV (y1 / 2^24) (-(-y2 / 2^24))):=by
 have k1:=cmpI_le x1 o2
 have k2:=cmpI_le x2 o2
 have lo1:=L_lit 1 (by decide)
 have lo2:=L_abs_add o2 1
 exact impl_ob hP hAmb Tryz.func111 (by kernel_rfl) (.lit<|.yes<|.lits 2<|.call (zV a)<|.lits 3<|.call (sV x1 x2)<|.lit<|.call (sV o1 o2)<|.lits 4<|.call (.int .i64 (cmpI x1 o2))<|.lit<|.yes<|.lits 3<|.call (.int .i64 (cmpI x2 o2))<|.lit<|.no<|.lits 2<|.call (sV y1 y2)<|.lits 2<|.no<|.lits 2<|.yes<|.lit<|.call (sV (y1 / 2^(((sc+24)-sc)).toNat) (-(-y2 / 2^(((sc+24)-sc)).toNat)))<|.lits 2<|.ret)
  (cast_ob (aI True.intro (aI (fits_i64 oS:(fits .i64 (sc+24))=true) (aI (c10 ) (aI (c11 ) (aI (c12 ) (aI (int_Cmp x1 o2 oS oS) (have f6:=cmpI_range x1 o2;aI (iLe_mk oO:(iLe (cmpI x1 o2) 0)=true) (aI (int_Cmp x2 o2 oS oS) (have f5:=cmpI_range x2 o2;aI (iGt_mkF oO:(iGt (cmpI x2 o2) 0)=false) (aI (c13 ) (aI (decide_eq_false oO:(decide (m<0))=false) (aI (fits_i64 oS:(fits .i64 ((sc+24)-sc))=true) (aI (fx_Half y1 y2 ((sc+24)-sc) oS oS oS) (have f4:=L_abs_neg (-y2 / 2^(((sc+24)-sc)).toNat);have f3:=L_abs_shr (-y2) (((sc+24)-sc)).toNat;have f2:=L_abs_neg y2;have f1:=L_abs_shr y1 (((sc+24)-sc)).toNat;(by rw[show ((sc+24)-sc).toNat=24 by omega];exact vsub_refl _:vsub (sV (y1 / 2^(((sc+24)-sc)).toNat) (-(-y2 / 2^(((sc+24)-sc)).toNat))) (sV (y1 / 2^24) (-(-y2 / 2^24)))))))))))))))))) (by kernel_rfl))
theorem fx_AtanAN (m ee sc a x1 x2 o1 o2 p1 p2 h1_ h2_ z1 z2 a1 a2 y1 y2:Int)(c0:(0:Int)≤sc∧sc≤5000)(c1:m<0)(c2:x1≤o2)(c3:x2≤o2)(c4:L (x1).natAbs≤1000)(c5:L (x2).natAbs≤1000)(c6:L (o1).natAbs≤1000)(c7:L (o2).natAbs≤1000)(c8:L (y1).natAbs≤1000)(c9:L (y2).natAbs≤1000)(c10:Impl Tryz.prog Amb 129 [(.bool false),(N m.natAbs)] (zV a))(c11:Impl Tryz.prog Amb 173 [(yV a ee),(.int .i64 (sc+24))] (sV x1 x2))(c12:Impl Tryz.prog Amb 174 [(.int .i64 (sc+24))] (sV o1 o2))(c13:Impl Tryz.prog Amb 175 [(sV x1 x2),(.int .i64 (sc+24))] (sV y1 y2)):Impl Tryz.prog Amb 111 [(yV m ee),(.int .i64 sc)] (sV ((-y2) / 2^24) (-(-(-y1) / 2^24))):=by
 have k1:=cmpI_le x1 o2
 have k2:=cmpI_le x2 o2
 have lo1:=L_lit 1 (by decide)
 have lo2:=L_abs_add o2 1
 exact impl_ob hP hAmb Tryz.func111 (by kernel_rfl) (.lit<|.yes<|.lits 2<|.call (zV a)<|.lits 3<|.call (sV x1 x2)<|.lit<|.call (sV o1 o2)<|.lits 4<|.call (.int .i64 (cmpI x1 o2))<|.lit<|.yes<|.lits 3<|.call (.int .i64 (cmpI x2 o2))<|.lit<|.no<|.lits 2<|.call (sV y1 y2)<|.lits 2<|.yes<|.lits 2<|.call (sV (-y2) (-y1))<|.lits 3<|.yes<|.lit<|.call (sV ((-y2) / 2^(((sc+24)-sc)).toNat) (-(-(-y1) / 2^(((sc+24)-sc)).toNat)))<|.lits 2<|.ret)
  (cast_ob (aI True.intro (aI (fits_i64 oS:(fits .i64 (sc+24))=true) (aI (c10 ) (aI (c11 ) (aI (c12 ) (aI (int_Cmp x1 o2 oS oS) (have f8:=cmpI_range x1 o2;aI (iLe_mk oO:(iLe (cmpI x1 o2) 0)=true) (aI (int_Cmp x2 o2 oS oS) (have f7:=cmpI_range x2 o2;aI (iGt_mkF oO:(iGt (cmpI x2 o2) 0)=false) (aI (c13 ) (aI (decide_eq_true oO:(decide (m<0))=true) (aI (fx_Neg y1 y2 oS oS) (have f6:=L_abs_neg y2;have f5:=L_abs_neg y1;aI (fits_i64 oS:(fits .i64 ((sc+24)-sc))=true) (aI (fx_Half (-y2) (-y1) ((sc+24)-sc) oS oS oS) (have f4:=L_abs_neg (-(-y1) / 2^(((sc+24)-sc)).toNat);have f3:=L_abs_shr (-(-y1)) (((sc+24)-sc)).toNat;have f2:=L_abs_neg (-y1);have f1:=L_abs_shr (-y2) (((sc+24)-sc)).toNat;(by rw[show ((sc+24)-sc).toNat=24 by omega];exact vsub_refl _:vsub (sV ((-y2) / 2^(((sc+24)-sc)).toNat) (-(-(-y1) / 2^(((sc+24)-sc)).toNat))) (sV ((-y2) / 2^24) (-(-(-y1) / 2^24))))))))))))))))))) (by kernel_rfl))
theorem fx_AtanCP (m ee sc a x1 x2 o1 o2 p1 p2 h1_ h2_ z1 z2 a1 a2 y1 y2:Int)(c0:(0:Int)≤sc∧sc≤5000)(c1:0≤m)(c2:x1≤o2)(c3:o2<x2)(c4:L (x1).natAbs≤1000)(c5:L (x2).natAbs≤1000)(c6:L (o1).natAbs≤1000)(c7:L (o2).natAbs≤1000)(c8:L (y1).natAbs≤1000)(c9:L (y2).natAbs≤1000)(c10:Impl Tryz.prog Amb 129 [(.bool false),(N m.natAbs)] (zV a))(c11:Impl Tryz.prog Amb 173 [(yV a ee),(.int .i64 (sc+24))] (sV x1 x2))(c12:Impl Tryz.prog Amb 174 [(.int .i64 (sc+24))] (sV o1 o2))(c13:Impl Tryz.prog Amb 175 [(sV x1 (o2+(1:Int))),(.int .i64 (sc+24))] (sV y1 y2)):Impl Tryz.prog Amb 111 [(yV m ee),(.int .i64 sc)] (sV (y1 / 2^24) (-(-y2 / 2^24))):=by
 have k1:=cmpI_le x1 o2
 have k2:=cmpI_le x2 o2
 have lo1:=L_lit 1 (by decide)
 have lo2:=L_abs_add o2 1
 exact impl_ob hP hAmb Tryz.func111 (by kernel_rfl) (.lit<|.yes<|.lits 2<|.call (zV a)<|.lits 3<|.call (sV x1 x2)<|.lit<|.call (sV o1 o2)<|.lits 4<|.call (.int .i64 (cmpI x1 o2))<|.lit<|.yes<|.lits 3<|.call (.int .i64 (cmpI x2 o2))<|.lit<|.yes<|.lits 2<|.call (zV (1:Int))<|.lit<|.call (zV (o2+(1:Int)))<|.lits 3<|.call (sV y1 y2)<|.lits 2<|.no<|.lits 2<|.yes<|.lit<|.call (sV (y1 / 2^(((sc+24)-sc)).toNat) (-(-y2 / 2^(((sc+24)-sc)).toNat)))<|.lits 2<|.ret)
  (cast_ob (aI True.intro (aI (fits_i64 oS:(fits .i64 (sc+24))=true) (aI (c10 ) (aI (c11 ) (aI (c12 ) (aI (int_Cmp x1 o2 oS oS) (have f8:=cmpI_range x1 o2;aI (iLe_mk oO:(iLe (cmpI x1 o2) 0)=true) (aI (int_Cmp x2 o2 oS oS) (have f7:=cmpI_range x2 o2;aI (iGt_mk oO:(iGt (cmpI x2 o2) 0)=true) (aI (int_Of 1 oS) (have f6:=(L_i64 oS:L (1:Int).natAbs≤2);aI (int_Add o2 (1:Int) oS oS) (have f5:=L_abs_add o2 (1:Int);aI (c13 ) (aI (decide_eq_false oO:(decide (m<0))=false) (aI (fits_i64 oS:(fits .i64 ((sc+24)-sc))=true) (aI (fx_Half y1 y2 ((sc+24)-sc) oS oS oS) (have f4:=L_abs_neg (-y2 / 2^(((sc+24)-sc)).toNat);have f3:=L_abs_shr (-y2) (((sc+24)-sc)).toNat;have f2:=L_abs_neg y2;have f1:=L_abs_shr y1 (((sc+24)-sc)).toNat;(by rw[show ((sc+24)-sc).toNat=24 by omega];exact vsub_refl _:vsub (sV (y1 / 2^(((sc+24)-sc)).toNat) (-(-y2 / 2^(((sc+24)-sc)).toNat))) (sV (y1 / 2^24) (-(-y2 / 2^24)))))))))))))))))))) (by kernel_rfl))
theorem fx_AtanCN (m ee sc a x1 x2 o1 o2 p1 p2 h1_ h2_ z1 z2 a1 a2 y1 y2:Int)(c0:(0:Int)≤sc∧sc≤5000)(c1:m<0)(c2:x1≤o2)(c3:o2<x2)(c4:L (x1).natAbs≤1000)(c5:L (x2).natAbs≤1000)(c6:L (o1).natAbs≤1000)(c7:L (o2).natAbs≤1000)(c8:L (y1).natAbs≤1000)(c9:L (y2).natAbs≤1000)(c10:Impl Tryz.prog Amb 129 [(.bool false),(N m.natAbs)] (zV a))(c11:Impl Tryz.prog Amb 173 [(yV a ee),(.int .i64 (sc+24))] (sV x1 x2))(c12:Impl Tryz.prog Amb 174 [(.int .i64 (sc+24))] (sV o1 o2))(c13:Impl Tryz.prog Amb 175 [(sV x1 (o2+(1:Int))),(.int .i64 (sc+24))] (sV y1 y2)):Impl Tryz.prog Amb 111 [(yV m ee),(.int .i64 sc)] (sV ((-y2) / 2^24) (-(-(-y1) / 2^24))):=by
 have k1:=cmpI_le x1 o2
 have k2:=cmpI_le x2 o2
 have lo1:=L_lit 1 (by decide)
 have lo2:=L_abs_add o2 1
 exact impl_ob hP hAmb Tryz.func111 (by kernel_rfl) (.lit<|.yes<|.lits 2<|.call (zV a)<|.lits 3<|.call (sV x1 x2)<|.lit<|.call (sV o1 o2)<|.lits 4<|.call (.int .i64 (cmpI x1 o2))<|.lit<|.yes<|.lits 3<|.call (.int .i64 (cmpI x2 o2))<|.lit<|.yes<|.lits 2<|.call (zV (1:Int))<|.lit<|.call (zV (o2+(1:Int)))<|.lits 3<|.call (sV y1 y2)<|.lits 2<|.yes<|.lits 2<|.call (sV (-y2) (-y1))<|.lits 3<|.yes<|.lit<|.call (sV ((-y2) / 2^(((sc+24)-sc)).toNat) (-(-(-y1) / 2^(((sc+24)-sc)).toNat)))<|.lits 2<|.ret)
  (cast_ob (aI True.intro (aI (fits_i64 oS:(fits .i64 (sc+24))=true) (aI (c10 ) (aI (c11 ) (aI (c12 ) (aI (int_Cmp x1 o2 oS oS) (have f10:=cmpI_range x1 o2;aI (iLe_mk oO:(iLe (cmpI x1 o2) 0)=true) (aI (int_Cmp x2 o2 oS oS) (have f9:=cmpI_range x2 o2;aI (iGt_mk oO:(iGt (cmpI x2 o2) 0)=true) (aI (int_Of 1 oS) (have f8:=(L_i64 oS:L (1:Int).natAbs≤2);aI (int_Add o2 (1:Int) oS oS) (have f7:=L_abs_add o2 (1:Int);aI (c13 ) (aI (decide_eq_true oO:(decide (m<0))=true) (aI (fx_Neg y1 y2 oS oS) (have f6:=L_abs_neg y2;have f5:=L_abs_neg y1;aI (fits_i64 oS:(fits .i64 ((sc+24)-sc))=true) (aI (fx_Half (-y2) (-y1) ((sc+24)-sc) oS oS oS) (have f4:=L_abs_neg (-(-y1) / 2^(((sc+24)-sc)).toNat);have f3:=L_abs_shr (-(-y1)) (((sc+24)-sc)).toNat;have f2:=L_abs_neg (-y1);have f1:=L_abs_shr (-y2) (((sc+24)-sc)).toNat;(by rw[show ((sc+24)-sc).toNat=24 by omega];exact vsub_refl _:vsub (sV ((-y2) / 2^(((sc+24)-sc)).toNat) (-(-(-y1) / 2^(((sc+24)-sc)).toNat))) (sV ((-y2) / 2^24) (-(-(-y1) / 2^24))))))))))))))))))))) (by kernel_rfl))
theorem fx_AtanBP (m ee sc a x1 x2 o1 o2 p1 p2 h1_ h2_ z1 z2 a1 a2 y1 y2:Int)(c0:(0:Int)≤sc∧sc≤5000)(c1:0≤m)(c2:o2<x1)(c3:o2<x2)(c4:L (x1).natAbs≤1000)(c5:L (x2).natAbs≤1000)(c6:L (o1).natAbs≤1000)(c7:L (o2).natAbs≤1000)(c8:L (y1).natAbs≤1000)(c9:L (y2).natAbs≤1000)(c10:Impl Tryz.prog Amb 129 [(.bool false),(N m.natAbs)] (zV a))(c11:Impl Tryz.prog Amb 173 [(yV a ee),(.int .i64 (sc+24))] (sV x1 x2))(c12:Impl Tryz.prog Amb 174 [(.int .i64 (sc+24))] (sV o1 o2))(c13:Impl Tryz.prog Amb 104 [(.int .i64 ((sc+24)+2))] (sV p1 p2))(c14:Impl Tryz.prog Amb 142 [(sV p1 p2),(.int .i64 3)] (sV h1_ h2_))(c15:Impl Tryz.prog Amb 176 [(sV o1 o2),(sV x1 x2),(.int .i64 (sc+24))] (sV z1 z2))(c16:Impl Tryz.prog Amb 175 [(sV z1 z2),(.int .i64 (sc+24))] (sV a1 a2))(c17:Impl Tryz.prog Amb 164 [(sV h1_ h2_),(sV a1 a2)] (sV y1 y2)):Impl Tryz.prog Amb 111 [(yV m ee),(.int .i64 sc)] (sV (y1 / 2^24) (-(-y2 / 2^24))):=by
 have k1:=cmpI_le x1 o2
 have k2:=cmpI_le x2 o2
 have lo1:=L_lit 1 (by decide)
 have lo2:=L_abs_add o2 1
 exact impl_ob hP hAmb Tryz.func111 (by kernel_rfl) (.lit<|.yes<|.lits 2<|.call (zV a)<|.lits 3<|.call (sV x1 x2)<|.lit<|.call (sV o1 o2)<|.lits 4<|.call (.int .i64 (cmpI x1 o2))<|.lit<|.no<|.lit<|.yes<|.lit<|.call (sV p1 p2)<|.lit<|.call (sV h1_ h2_)<|.lits 3<|.call (sV z1 z2)<|.lit<|.call (sV a1 a2)<|.lit<|.call (sV y1 y2)<|.lits 2<|.no<|.lits 2<|.yes<|.lit<|.call (sV (y1 / 2^(((sc+24)-sc)).toNat) (-(-y2 / 2^(((sc+24)-sc)).toNat)))<|.lits 2<|.ret)
  (cast_ob (aI True.intro (aI (fits_i64 oS:(fits .i64 (sc+24))=true) (aI (c10 ) (aI (c11 ) (aI (c12 ) (aI (int_Cmp x1 o2 oS oS) (have f5:=cmpI_range x1 o2;aI (iLe_mkF oO:(iLe (cmpI x1 o2) 0)=false) (aI (fits_i64 oS:(fits .i64 ((sc+24)+2))=true) (aI (c13 ) (aI (c14 ) (aI (c15 ) (aI (c16 ) (aI (c17 ) (aI (decide_eq_false oO:(decide (m<0))=false) (aI (fits_i64 oS:(fits .i64 ((sc+24)-sc))=true) (aI (fx_Half y1 y2 ((sc+24)-sc) oS oS oS) (have f4:=L_abs_neg (-y2 / 2^(((sc+24)-sc)).toNat);have f3:=L_abs_shr (-y2) (((sc+24)-sc)).toNat;have f2:=L_abs_neg y2;have f1:=L_abs_shr y1 (((sc+24)-sc)).toNat;(by rw[show ((sc+24)-sc).toNat=24 by omega];exact vsub_refl _:vsub (sV (y1 / 2^(((sc+24)-sc)).toNat) (-(-y2 / 2^(((sc+24)-sc)).toNat))) (sV (y1 / 2^24) (-(-y2 / 2^24))))))))))))))))))))) (by kernel_rfl))
theorem fx_AtanBN (m ee sc a x1 x2 o1 o2 p1 p2 h1_ h2_ z1 z2 a1 a2 y1 y2:Int)(c0:(0:Int)≤sc∧sc≤5000)(c1:m<0)(c2:o2<x1)(c3:o2<x2)(c4:L (x1).natAbs≤1000)(c5:L (x2).natAbs≤1000)(c6:L (o1).natAbs≤1000)(c7:L (o2).natAbs≤1000)(c8:L (y1).natAbs≤1000)(c9:L (y2).natAbs≤1000)(c10:Impl Tryz.prog Amb 129 [(.bool false),(N m.natAbs)] (zV a))(c11:Impl Tryz.prog Amb 173 [(yV a ee),(.int .i64 (sc+24))] (sV x1 x2))(c12:Impl Tryz.prog Amb 174 [(.int .i64 (sc+24))] (sV o1 o2))(c13:Impl Tryz.prog Amb 104 [(.int .i64 ((sc+24)+2))] (sV p1 p2))(c14:Impl Tryz.prog Amb 142 [(sV p1 p2),(.int .i64 3)] (sV h1_ h2_))(c15:Impl Tryz.prog Amb 176 [(sV o1 o2),(sV x1 x2),(.int .i64 (sc+24))] (sV z1 z2))(c16:Impl Tryz.prog Amb 175 [(sV z1 z2),(.int .i64 (sc+24))] (sV a1 a2))(c17:Impl Tryz.prog Amb 164 [(sV h1_ h2_),(sV a1 a2)] (sV y1 y2)):Impl Tryz.prog Amb 111 [(yV m ee),(.int .i64 sc)] (sV ((-y2) / 2^24) (-(-(-y1) / 2^24))):=by
 have k1:=cmpI_le x1 o2
 have k2:=cmpI_le x2 o2
 have lo1:=L_lit 1 (by decide)
 have lo2:=L_abs_add o2 1
 exact impl_ob hP hAmb Tryz.func111 (by kernel_rfl) (.lit<|.yes<|.lits 2<|.call (zV a)<|.lits 3<|.call (sV x1 x2)<|.lit<|.call (sV o1 o2)<|.lits 4<|.call (.int .i64 (cmpI x1 o2))<|.lit<|.no<|.lit<|.yes<|.lit<|.call (sV p1 p2)<|.lit<|.call (sV h1_ h2_)<|.lits 3<|.call (sV z1 z2)<|.lit<|.call (sV a1 a2)<|.lit<|.call (sV y1 y2)<|.lits 2<|.yes<|.lits 2<|.call (sV (-y2) (-y1))<|.lits 3<|.yes<|.lit<|.call (sV ((-y2) / 2^(((sc+24)-sc)).toNat) (-(-(-y1) / 2^(((sc+24)-sc)).toNat)))<|.lits 2<|.ret)
  (cast_ob (aI True.intro (aI (fits_i64 oS:(fits .i64 (sc+24))=true) (aI (c10 ) (aI (c11 ) (aI (c12 ) (aI (int_Cmp x1 o2 oS oS) (have f7:=cmpI_range x1 o2;aI (iLe_mkF oO:(iLe (cmpI x1 o2) 0)=false) (aI (fits_i64 oS:(fits .i64 ((sc+24)+2))=true) (aI (c13 ) (aI (c14 ) (aI (c15 ) (aI (c16 ) (aI (c17 ) (aI (decide_eq_true oO:(decide (m<0))=true) (aI (fx_Neg y1 y2 oS oS) (have f6:=L_abs_neg y2;have f5:=L_abs_neg y1;aI (fits_i64 oS:(fits .i64 ((sc+24)-sc))=true) (aI (fx_Half (-y2) (-y1) ((sc+24)-sc) oS oS oS) (have f4:=L_abs_neg (-(-y1) / 2^(((sc+24)-sc)).toNat);have f3:=L_abs_shr (-(-y1)) (((sc+24)-sc)).toNat;have f2:=L_abs_neg (-y1);have f1:=L_abs_shr (-y2) (((sc+24)-sc)).toNat;(by rw[show ((sc+24)-sc).toNat=24 by omega];exact vsub_refl _:vsub (sV ((-y2) / 2^(((sc+24)-sc)).toNat) (-(-(-y1) / 2^(((sc+24)-sc)).toNat))) (sV ((-y2) / 2^24) (-(-(-y1) / 2^24)))))))))))))))))))))) (by kernel_rfl))
end Go.Proofs.YtkkbddkpggjgpaaGreatDoor

namespace Go.Proofs.YtkkbddkpggjgpaaGreatDoor
open Go.RowKit
set_option maxRecDepth 100000
set_option maxHeartbeats 4000000
theorem sp_eqA {a b c d:Int}(h1:a=c)(h2:b=d):(V.agg [.bool (decide (a<0)),N a.natAbs,.bool (decide (b<0)),N b.natAbs])=.agg [.bool (decide (c<0)),N c.natAbs,.bool (decide (d<0)),N d.natAbs]:=by subst h1;subst h2;rfl
theorem ang_w {s1 s2 p N D:Int}(h:s2-s1≤N*(D+8))(hN:0≤N∧N≤8000)(hD:0≤D∧D+3≤65536*67108867)(hp:0≤p∧p<8):-(-((s2+p)*2^8) / 2^24)-(s1-p)*2^8 / 2^24≤1099511627776:=by
 have m:=Int.mul_le_mul (hN.2) (show D+8≤4398046900000 by omega) oO oO
 have w:=half_w (a:=(s1-p)*2^8) (b:=(s2+p)*2^8) (W:=549755813888) (n:=24) oO
 omega
theorem sc_inv {x:Int}{S n:Nat}:(x:Rat)*(((2^S:Int):Rat))⁻¹=((x*2^n:Int):Rat)*(((2^(S+n):Int):Rat))⁻¹:=by
 have P0:(0:Rat)<((2^S:Int):Rat):=Rat.intCast_pos.2 (two_pos S)
 have Q0:(0:Rat)<((2^(S+n):Int):Rat):=Rat.intCast_pos.2 (two_pos _)
 have ie:=inv_one P0
 have je:=inv_one Q0
 refine Rat.le_antisymm ?_ ?_
 all_goals
  refine Rat.le_of_mul_le_mul_right (c:=((2^(S+n):Int):Rat)) ?_ Q0
  have e:((2^(S+n):Int):Rat)=((2^S:Int):Rat)*((2^n:Int):Rat):=by rw[Int.pow_add,Rat.intCast_mul]
  have e1:(x:Rat)*(((2^S:Int):Rat))⁻¹*((2^(S+n):Int):Rat)=(x:Rat)*((2^n:Int):Rat):=by
   rw[e]
   have:(x:Rat)*(((2^S:Int):Rat))⁻¹*(((2^S:Int):Rat)*((2^n:Int):Rat))=(x:Rat)*((2^n:Int):Rat)*((((2^S:Int):Rat))⁻¹*((2^S:Int):Rat)):=by grind
   rw[this,ie,Rat.mul_one]
  have e2:((x*2^n:Int):Rat)*(((2^(S+n):Int):Rat))⁻¹*((2^(S+n):Int):Rat)=(x:Rat)*((2^n:Int):Rat):=by rw[Rat.mul_assoc,je,Rat.mul_one,Rat.intCast_mul]
  rw[e1,e2]
  exact Rat.le_refl
theorem sq0_1 (T a b:Int):∀ j,sq0 a (fun j=>(aP T a b j).1) j=(aP T a b j).1∧sq0 b (fun j=>(aP T a b j).2) j=(aP T a b j).2
 | 0=>⟨rfl,rfl⟩
 | _+1=>⟨rfl,rfl⟩
theorem sqr_L {a s:Int}:L (sqLo a s).natAbs≤L a.natAbs+s.toNat / 32+1∧L (sqHi a s).natAbs≤L a.natAbs+s.toNat / 32+2:=by
 have m1:=L_abs_shl a s.toNat
 rw[abs_shl] at m1
 have r:=rt_L (a.natAbs*2^s.toNat)
 have z1:=L_lit 1 (by decide)
 have ad:=L_add (rt (a.natAbs*2^s.toNat)) 1
 unfold sqLo sqHi
 rw[Int.natAbs_natCast,Int.natAbs_natCast]
 refine⟨by omega,?_⟩
 split
 ·rw[Nat.add_zero];omega
 ·omega
theorem sq_T2 {t:Nat}{a b:Int}(h0:0≤a)(h1:a≤b)(h2:8*b≤9*2^t)(ht:t≤6000):L (a*a / 2^t).natAbs≤200∧L (-(-(b*b) / 2^t)).natAbs≤200:=by
 have P:=two_pos t
 have key:0≤a*a / 2^t∧a*a / 2^t≤8192*2^t∧0≤-(-(b*b) / 2^t)∧-(-(b*b) / 2^t)≤8192*2^t:=by
  generalize (2:Int)^t=T at *
  have aa:=Int.mul_nonneg h0 h0
  have bb:=Int.mul_nonneg (show 0≤b by omega) (show 0≤b by omega)
  have m1:=Int.mul_le_mul (show b≤2*T by omega) (show b≤2*T by omega) (show 0≤b by omega) oO
  have m0:=Int.mul_le_mul h1 h1 h0 (show 0≤b by omega)
  have e:2*T*(2*T)=4*T*T:=by grind
  have g0:a*a / T≤4*T:=Int.ediv_le_of_le_mul P oO
  have g1:-(b*b) / T≤0:=Int.ediv_le_of_le_mul P oO
  have g2:-(4*T)≤-(b*b) / T:=Int.le_ediv_of_mul_le P (by rw[Int.neg_mul];omega)
  have g3:=Int.ediv_nonneg aa (show 0≤T by omega)
  omega
 exact⟨L_T key.1 key.2.1 ht,L_T key.2.2.1 key.2.2.2 ht⟩
theorem fx_angE (x1 x2 sc:Int)(hs:24≤sc∧sc≤4600)(h0:0≤x1)(h1:x1≤x2)(hT:x2≤2^sc.toNat+1)(hw:x2-x1≤4) :
  ∃ r1 r2:Int,Impl Tryz.prog Amb 175 [(sV x1 x2),(.int .i64 sc)] (sV r1 r2)∧LoE (AT0 ((x1:Rat)*(((2^sc.toNat:Int):Rat))⁻¹)) sc.toNat r1∧HiE (AT0 ((x2:Rat)*(((2^sc.toNat:Int):Rat))⁻¹)) sc.toNat r2∧(r2-r1≤1099511627776∧L r1.natAbs≤210∧L r2.natAbs≤210):=by
 obtain⟨S,hS⟩:∃ S:Nat,(S:Int)=sc:=⟨sc.toNat,by omega⟩
 have hSn:sc.toNat=S:=by omega
 have tn:(sc+8+16).toNat=S+24:=by omega
 have PSp:=two_pos S
 have big:(16777216:Int)≤2^S:=by
  have p:=Int.ofNat_le.2 (Nat.pow_le_pow_right (n:=2) oO (show 24≤S by omega))
  rw[← pow_cast,← pow_cast] at p
  exact p
 have eT:(2:Int)^(S+24)=2^S*16777216:=Int.pow_add _ _ _
 have q1:8*(x2*16777216)≤9*2^(S+24):=by rw[hSn] at hT;omega
 have qa:0≤x1*16777216:=by omega
 have qb:x1*16777216≤x2*16777216:=by omega
 -- the halvings
 obtain⟨ha,hb,⟨a0,b0⟩,nx,hf,H8,W8,LIM⟩:=hv_ex (t:=sc+8+16) (S:=S) (n:=8) (c:=16) oO qa qb (by rw[tn];exact q1) (by rw[tn];omega) oO
 have t6:S+24≤6000:=by omega
 rw[show (4:Int)^8=65536 from rfl] at W8
 have h8:=H8.h2
 have lh:∀ i,L (ha i).natAbs≤200∧L (hb i).natAbs≤200:=fun i=>by
  have f:=hf i
  rw[tn] at f
  exact⟨L_T f.1 oO t6,L_T oO oO t6⟩
 have hO:=fx_One (sc+8+16) oO
 have lO:=L_pow1 (sc+8+16).toNat
 have hTw:=fx_Twice x1 x2 ((sc+8+16)-sc) (by
  have:L x1.natAbs≤200:=L_T h0 (by rw[hSn] at hT;omega) (show S≤6000 by omega)
  omega) (by
  have:L x2.natAbs≤200:=L_T oO (by rw[hSn] at hT;omega) (show S≤6000 by omega)
  omega) oO
 rw[show (sc+8+16-sc).toNat=24 by omega,show (2:Int)^24=16777216 from rfl] at hTw
 -- the squares under the roots
 have lm:∀ i,L (ha i*ha i / (2^(sc+8+16).toNat)).natAbs≤200∧L (-(-(hb i*hb i) / (2^(sc+8+16).toNat))).natAbs≤200:=fun i=>sq_T2 (hf i).1 (hf i).2.1 (hf i).2.2 oO
 have P:=two_pos (sc+8+16).toNat
 have nn:∀ i,0≤ha i*ha i / (2^(sc+8+16).toNat):=fun i=>Int.ediv_nonneg (Int.mul_nonneg (hf i).1 (hf i).1) oO
 have nm:∀ i,0≤-(-(hb i*hb i) / (2^(sc+8+16).toNat)):=fun i=>by
  have:=Int.mul_nonneg (show 0≤hb i by have:=hf i;omega) (show 0≤hb i by have:=hf i;omega)
  have:-(hb i*hb i) / (2^(sc+8+16).toNat)≤0:=Int.ediv_le_of_le_mul P oO
  omega
 have lp:∀ i,L (1*(2^(sc+8+16).toNat)+ha i*ha i / (2^(sc+8+16).toNat)).natAbs≤360∧L (1*(2^(sc+8+16).toNat)+-(-(hb i*hb i) / (2^(sc+8+16).toNat))).natAbs≤360:=fun i=>by
  have:=lm i
  have l1:=L_abs_add (1*(2^(sc+8+16).toNat)) (ha i*ha i / (2^(sc+8+16).toNat))
  have l2:=L_abs_add (1*(2^(sc+8+16).toNat)) (-(-(hb i*hb i) / (2^(sc+8+16).toNat)))
  omega
 -- the series
 obtain⟨N,hN,hs8,hl⟩:=aP_small (t:=(sc+8+16).toNat) H8
 have pf:=aP_facts H8
 have pb:=pt_bd H8
 have sb:=tyS_bdW pb
 have z1:=sq0_1 (2^(sc+8+16).toNat) (ha 8) (hb 8)
 have mN:=Int.mul_le_mul_of_nonneg_right (show (N:Int)+1≤8000 by omega) (Int.le_of_lt P)
 have lpp:∀ j,L (aP (2^(sc+8+16).toNat) (ha 8) (hb 8) j).1.natAbs≤200∧L (aP (2^(sc+8+16).toNat) (ha 8) (hb 8) j).2.natAbs≤200:=fun j=>by
  have a:=pf j
  have o:(aP (2^(sc+8+16).toNat) (ha 8) (hb 8) j).1≤(2^(sc+8+16).toNat):=by
   have q:=pt_bd H8 0
   have T0:(0:Rat)<(((2^(sc+8+16).toNat):Int):Rat):=Rat.intCast_pos.2 oO
   have eX:(ha 8:Rat)*((((2^(sc+8+16).toNat):Int):Rat))⁻¹*(((2^(sc+8+16).toNat):Int):Rat)=ha 8:=by rw[Rat.mul_assoc,inv_one T0,Rat.mul_one]
   have pe:=aP_enc (X:=(ha 8:Rat)*((((2^(sc+8+16).toNat):Int):Rat))⁻¹) H8 (by rw[eX];exact Rat.le_refl) (by rw[eX];exact Rat.intCast_le_intCast.2 H8.h2) j
   have:=Rat.intCast_le_intCast.1 (Rat.le_trans pe.1 pe.2)
   omega
  rw[tn] at *
  exact⟨L_T a.1 oO t6,L_T a.2.1 oO t6⟩
 have lpt:∀ j,L (sq0 (ha 8) (pt1 (2^(sc+8+16).toNat) (ha 8) (hb 8)) j).natAbs≤200∧L (sq0 (hb 8) (pt2 (2^(sc+8+16).toNat) (ha 8) (hb 8)) j).natAbs≤200:=fun j=>by
  have a:=pb j
  rw[tn] at *
  exact⟨L_T a.1 oO t6,L_T oO oO t6⟩
 have lts:∀ j,j≤N→L (sA1 (2^(sc+8+16).toNat) (ha 8) (hb 8) j).natAbs≤201∧L (sA2 (2^(sc+8+16).toNat) (ha 8) (hb 8) j).natAbs≤201:=fun j hj=>by
  have a:=(sb j).1
  have m:=Int.mul_le_mul_of_nonneg_right (show (j:Int)+1≤8000 by omega) (Int.le_of_lt P)
  have k:∀ {x:Int},-(((j:Int)+1)*(2^(sc+8+16).toNat))≤x→x≤((j:Int)+1)*(2^(sc+8+16).toNat)→L x.natAbs≤201:=by
   intro x g1 g2
   have:=L_T (x:=(x.natAbs:Int)) (t:=S+24) oO (by rw[tn] at *;omega) t6
   rw[Int.natAbs_natCast] at this
   omega
  unfold sA1 sA2
  exact⟨k a.1.1 a.1.2,k a.2.1 a.2.2⟩
 have lq1:=lm 8
 have lw:=lts N (Nat.le_refl _)
 have lw1:=L_abs_sub (sA1 (2^(sc+8+16).toNat) (ha 8) (hb 8) N) (aP (2^(sc+8+16).toNat) (ha 8) (hb 8) N).2
 have lw2:=L_abs_add (sA2 (2^(sc+8+16).toNat) (ha 8) (hb 8) N) (aP (2^(sc+8+16).toNat) (ha 8) (hb 8) N).2
 have lw3:=(lpp N).2
 have hWd:=fx_Wide (sA1 (2^(sc+8+16).toNat) (ha 8) (hb 8) N) (sA2 (2^(sc+8+16).toNat) (ha 8) (hb 8) N) (aP (2^(sc+8+16).toNat) (ha 8) (hb 8) N).2 oO oO oO
 have hT8:=fx_Twice (sA1 (2^(sc+8+16).toNat) (ha 8) (hb 8) N-(aP (2^(sc+8+16).toNat) (ha 8) (hb 8) N).2) (sA2 (2^(sc+8+16).toNat) (ha 8) (hb 8) N+(aP (2^(sc+8+16).toNat) (ha 8) (hb 8) N).2) 8 oO oO oO
 rw[show (8:Int).toNat=8 from rfl] at hT8
 have o1:=L_abs_shl (sA1 (2^(sc+8+16).toNat) (ha 8) (hb 8) N-(aP (2^(sc+8+16).toNat) (ha 8) (hb 8) N).2) 8
 have o2:=L_abs_shl (sA2 (2^(sc+8+16).toNat) (ha 8) (hb 8) N+(aP (2^(sc+8+16).toNat) (ha 8) (hb 8) N).2) 8
 have hHf:=fx_Half ((sA1 (2^(sc+8+16).toNat) (ha 8) (hb 8) N-(aP (2^(sc+8+16).toNat) (ha 8) (hb 8) N).2)*2^8) ((sA2 (2^(sc+8+16).toNat) (ha 8) (hb 8) N+(aP (2^(sc+8+16).toNat) (ha 8) (hb 8) N).2)*2^8) ((sc+8+16)-sc) oO oO oO
 rw[show (sc+8+16-sc).toNat=24 by omega] at hHf
 have o3:=L_abs_shr ((sA1 (2^(sc+8+16).toNat) (ha 8) (hb 8) N-(aP (2^(sc+8+16).toNat) (ha 8) (hb 8) N).2)*2^8) 24
 have o4:=L_abs_neg ((sA2 (2^(sc+8+16).toNat) (ha 8) (hb 8) N+(aP (2^(sc+8+16).toNat) (ha 8) (hb 8) N).2)*2^8)
 have o5:=L_abs_shr (-((sA2 (2^(sc+8+16).toNat) (ha 8) (hb 8) N+(aP (2^(sc+8+16).toNat) (ha 8) (hb 8) N).2)*2^8)) 24
 have o6:=L_abs_neg (-((sA2 (2^(sc+8+16).toNat) (ha 8) (hb 8) N+(aP (2^(sc+8+16).toNat) (ha 8) (hb 8) N).2)*2^8) / 2^24)
 have LM:=LIM N
 refine⟨_,_,fx_ang0 x1 x2 sc (1*(2^(sc+8+16).toNat)) (1*(2^(sc+8+16).toNat)) (ha 8*ha 8 / (2^(sc+8+16).toNat)) (-(-(hb 8*hb 8) / (2^(sc+8+16).toNat))) _ _ _ _ _ _ N ha hb (fun i=>ha i*ha i / (2^(sc+8+16).toNat)) (fun i=>-(-(hb i*hb i) / (2^(sc+8+16).toNat))) (fun i=>1*(2^(sc+8+16).toNat)+ha i*ha i / (2^(sc+8+16).toNat)) (fun i=>1*(2^(sc+8+16).toNat)+-(-(hb i*hb i) / (2^(sc+8+16).toNat)))
  (fun i=>sqLo (1*(2^(sc+8+16).toNat)+ha i*ha i / (2^(sc+8+16).toNat)) (sc+8+16)) (fun i=>sqHi (1*(2^(sc+8+16).toNat)+-(-(hb i*hb i) / (2^(sc+8+16).toNat))) (sc+8+16)) (fun i=>1*(2^(sc+8+16).toNat)+sqLo (1*(2^(sc+8+16).toNat)+ha i*ha i / (2^(sc+8+16).toNat)) (sc+8+16)) (fun i=>1*(2^(sc+8+16).toNat)+sqHi (1*(2^(sc+8+16).toNat)+-(-(hb i*hb i) / (2^(sc+8+16).toNat))) (sc+8+16))
  (fun j=>(aP (2^(sc+8+16).toNat) (ha 8) (hb 8) j).1) (fun j=>(aP (2^(sc+8+16).toNat) (ha 8) (hb 8) j).2) (pt1 (2^(sc+8+16).toNat) (ha 8) (hb 8)) (pt2 (2^(sc+8+16).toNat) (ha 8) (hb 8)) ?_ ?_ ?_ ?_ ?_ oO ?_ hO ?_ ?_ ?_ ?_ ?_ ?_ oO ?_ hT8 hHf,?_,?_,?_,?_,?_⟩
 ·intro i _
  have:=lh i
  exact fx_Mul (ha i) (hb i) (ha i) (hb i) (sc+8+16) oO oO oO oO oO
 ·intro i _
  have:=lm i
  exact fx_Add (1*(2^(sc+8+16).toNat)) (1*(2^(sc+8+16).toNat)) (ha i*ha i / (2^(sc+8+16).toNat)) (-(-(hb i*hb i) / (2^(sc+8+16).toNat))) oO oO oO oO
 ·intro i _
  have:=lp i
  exact fx_Sqrt (1*(2^(sc+8+16).toNat)+ha i*ha i / (2^(sc+8+16).toNat)) (1*(2^(sc+8+16).toNat)+-(-(hb i*hb i) / (2^(sc+8+16).toNat))) (sc+8+16) oO oO oO
 ·intro i _
  have:=lp i
  have r1:=(sqr_L (a:=1*(2^(sc+8+16).toNat)+ha i*ha i / (2^(sc+8+16).toNat)) (s:=sc+8+16)).1
  have r2:=(sqr_L (a:=1*(2^(sc+8+16).toNat)+-(-(hb i*hb i) / (2^(sc+8+16).toNat))) (s:=sc+8+16)).2
  exact fx_Add (1*(2^(sc+8+16).toNat)) (1*(2^(sc+8+16).toNat)) (sqLo (1*(2^(sc+8+16).toNat)+ha i*ha i / (2^(sc+8+16).toNat)) (sc+8+16)) (sqHi (1*(2^(sc+8+16).toNat)+-(-(hb i*hb i) / (2^(sc+8+16).toNat))) (sc+8+16)) oO oO oO oO
 ·intro i _
  have:=lp i
  have l:=lh i
  have r1:=(sqr_L (a:=1*(2^(sc+8+16).toNat)+ha i*ha i / (2^(sc+8+16).toNat)) (s:=sc+8+16)).1
  have r2:=(sqr_L (a:=1*(2^(sc+8+16).toNat)+-(-(hb i*hb i) / (2^(sc+8+16).toNat))) (s:=sc+8+16)).2
  have n1:=(sqLo_spec (a:=1*(2^(sc+8+16).toNat)+ha i*ha i / (2^(sc+8+16).toNat)) (s:=sc+8+16) (by have:=nn i;omega)).1
  have n2:=(sqHi_spec (b:=1*(2^(sc+8+16).toNat)+-(-(hb i*hb i) / (2^(sc+8+16).toNat))) (s:=sc+8+16) (by have:=nm i;omega)).1
  have a1:=L_abs_add (1*(2^(sc+8+16).toNat)) (sqLo (1*(2^(sc+8+16).toNat)+ha i*ha i / (2^(sc+8+16).toNat)) (sc+8+16))
  have a2:=L_abs_add (1*(2^(sc+8+16).toNat)) (sqHi (1*(2^(sc+8+16).toNat)+-(-(hb i*hb i) / (2^(sc+8+16).toNat))) (sc+8+16))
  exact impl_eq (sp_eqA (nx i).1.symm (nx i).2.symm) (fx_Div (ha i) (hb i) (1*(2^(sc+8+16).toNat)+sqLo (1*(2^(sc+8+16).toNat)+ha i*ha i / (2^(sc+8+16).toNat)) (sc+8+16)) (1*(2^(sc+8+16).toNat)+sqHi (1*(2^(sc+8+16).toNat)+-(-(hb i*hb i) / (2^(sc+8+16).toNat))) (sc+8+16)) (sc+8+16) oO oO oO oO oO oO oO)
 ·exact impl_eq (sp_eqA a0.symm b0.symm) hTw
 ·have:=lh 8
  exact fx_Mul (ha 8) (hb 8) (ha 8) (hb 8) (sc+8+16) oO oO oO oO oO
 ·intro j hj
  have l:=lpp j
  refine impl_eq (congrArg V.bool (decide_eq_decide.2 ?_)) (impl_arg (fun w S l h=>by rw[(z1 j).1,(z1 j).2] at h;exact h) (fx_Tiny (aP (2^(sc+8+16).toNat) (ha 8) (hb 8) j).1 (aP (2^(sc+8+16).toNat) (ha 8) (hb 8) j).2 oO))
  constructor
  ·intro hq
   refine Decidable.byContradiction fun hn=>hl j oO ?_
   omega
  ·intro hq
   rw[show j=N by omega]
   have:=(pf N).2.1
   omega
 ·intro j hj
  have l:=lpp j
  have m:=fx_Mul (aP (2^(sc+8+16).toNat) (ha 8) (hb 8) j).1 (aP (2^(sc+8+16).toNat) (ha 8) (hb 8) j).2 (ha 8*ha 8 / (2^(sc+8+16).toNat)) (-(-(hb 8*hb 8) / (2^(sc+8+16).toNat))) (sc+8+16) oO oO oO oO oO
  exact impl_arg (fun w S l h=>by rw[(z1 j).1,(z1 j).2] at h;exact h) m
 ·intro j k hj hk
  have l:=lpp (j+1)
  subst hk
  exact fx_Part (aP (2^(sc+8+16).toNat) (ha 8) (hb 8) (j+1)).1 (aP (2^(sc+8+16).toNat) (ha 8) (hb 8) (j+1)).2 (odn (j+1)) oO oO (by unfold odn;omega)
 ·intro j hj he
  have l:=lpt (j+1)
  have l2:=lts j oO
  exact impl_eq (sp_eqA (if_pos he).symm (if_pos he).symm) (fx_Sub (sA1 (2^(sc+8+16).toNat) (ha 8) (hb 8) j) (sA2 (2^(sc+8+16).toNat) (ha 8) (hb 8) j) (sq0 (ha 8) (pt1 (2^(sc+8+16).toNat) (ha 8) (hb 8)) (j+1)) (sq0 (hb 8) (pt2 (2^(sc+8+16).toNat) (ha 8) (hb 8)) (j+1)) oO oO oO oO)
 ·intro j hj he
  have l:=lpt (j+1)
  have l2:=lts j oO
  exact impl_eq (sp_eqA (if_neg oO).symm (if_neg oO).symm) (fx_Add (sA1 (2^(sc+8+16).toNat) (ha 8) (hb 8) j) (sA2 (2^(sc+8+16).toNat) (ha 8) (hb 8) j) (sq0 (ha 8) (pt1 (2^(sc+8+16).toNat) (ha 8) (hb 8)) (j+1)) (sq0 (hb 8) (pt2 (2^(sc+8+16).toNat) (ha 8) (hb 8)) (j+1)) oO oO oO oO)
 ·exact impl_arg (fun w S l h=>by rw[(z1 N).2] at h;exact h) hWd
 ·rw[hSn,sc_inv (n:=24),← tn]
  exact LM.1
 ·rw[hSn,sc_inv (n:=24),← tn]
  exact LM.2
 ·exact ang_w (sb N).2.2 oO oO (by have:=(pf N).2.1;omega)
 ·omega
 ·omega
end Go.Proofs.YtkkbddkpggjgpaaGreatDoor

namespace Go.Proofs.YtkkbddkpggjgpaaGreatDoor
theorem EnE.half {f:Nat→Rat}{t s n:Nat}{a b:Int}{g:Rat}(ht:t=s+n)(h:EnE f t a b (g*((2^t:Int):Rat))):EnE f s (a / 2^n) (-(-b / 2^n)) (g*((2^s:Int):Rat)):=by
 obtain⟨N,h⟩:=h
 refine⟨N,fun K hK=>?_⟩
 have q:=h K hK
 have e1:f K*((2^t:Int):Rat)+g*((2^t:Int):Rat)=(f K+g)*((2^t:Int):Rat):=by grind
 have P0:(0:Rat)<((2^n:Int):Rat):=Rat.intCast_pos.2 (two_pos n)
 have f1:=(fl_R (a:=a) (two_pos n)).1
 have f2:=(ce_R (a:=b) (two_pos n)).1
 have e:((2^t:Int):Rat)=((2^s:Int):Rat)*((2^n:Int):Rat):=by rw[ht,Int.pow_add,Rat.intCast_mul]
 rw[e] at q
 constructor
 ·refine Rat.le_of_mul_le_mul_right (c:=((2^n:Int):Rat)) ?_ P0
  have:=q.1
  grind
 ·refine Rat.le_of_mul_le_mul_right (c:=((2^n:Int):Rat)) ?_ P0
  have:=q.2
  grind
end Go.Proofs.YtkkbddkpggjgpaaGreatDoor

namespace Go.Proofs.YtkkbddkpggjgpaaGreatDoor
theorem en_of {f1 f2 h:Nat→Rat}{s:Nat}{y1 y2:Int}(l:LoE f1 s y1)(u:HiE f2 s y2)(q1:Lqe f1 h tq)(q2:Lqe h f2 tq):EnE h s y1 y2 (3*tq*((2^s:Int):Rat)):=by
 have T0:(0:Rat)<((2^s:Int):Rat):=Rat.intCast_pos.2 (two_pos s)
 have t0:=tq_pos
 have p:=Rat.mul_pos t0 T0
 obtain⟨N1,l⟩:=l _ p
 obtain⟨N2,u⟩:=u _ p
 obtain⟨N3,q1⟩:=q1 tq t0
 obtain⟨N4,q2⟩:=q2 tq t0
 refine⟨N1+N2+N3+N4,fun K hK=>?_⟩
 have l:=l K (by omega)
 have u:=u K (by omega)
 have q1:f1 K≤h K+tq+tq:=q1 K (by omega)
 have q2:h K≤f2 K+tq+tq:=q2 K (by omega)
 have m1:=Rat.mul_le_mul_of_nonneg_right q1 (Rat.le_of_lt T0)
 have m2:=Rat.mul_le_mul_of_nonneg_right q2 (Rat.le_of_lt T0)
 constructor<;>grind
theorem en_comp {f1 f2:Nat→Rat}{s:Nat}{a1 a2 h1 h2:Int}{X:Rat}(l:LoE f1 s a1)(u:HiE f2 s a2)(hX:¬ X≤1)(q1:Lq f1 (AT0 X⁻¹))(q2:Lq (AT0 X⁻¹) f2)(c1:(h1:Rat)≤cQ*((2^s:Int):Rat))(c2:cQ*((2^s:Int):Rat)≤(h2:Rat)) :
  EnE (ATp X) s (h1-a2) (h2-a1) (3*tq*((2^s:Int):Rat)):=by
 have T0:(0:Rat)<((2^s:Int):Rat):=Rat.intCast_pos.2 (two_pos s)
 have t0:=tq_pos
 have p:=Rat.mul_pos t0 T0
 obtain⟨N1,l⟩:=l _ p
 obtain⟨N2,u⟩:=u _ p
 obtain⟨N3,q1⟩:=q1 tq t0
 obtain⟨N4,q2⟩:=q2 tq t0
 refine⟨N1+N2+N3+N4,fun K hK=>?_⟩
 have l:=l K (by omega)
 have u:=u K (by omega)
 have q1:=q1 K (by omega)
 have q2:=q2 K (by omega)
 have m1:=Rat.mul_le_mul_of_nonneg_right q1 (Rat.le_of_lt T0)
 have m2:=Rat.mul_le_mul_of_nonneg_right q2 (Rat.le_of_lt T0)
 rw[ATp_2 hX,Rat.intCast_sub,Rat.intCast_sub]
 generalize AT0 X⁻¹ K=z at *
 constructor<;>grind
theorem EnE.congr {f h:Nat→Rat}{s:Nat}{a b:Int}{g:Rat}(e:EnE f s a b g)(q:∀ K,h K=f K):EnE h s a b g:=by
 have:h=f:=funext q
 rw[this];exact e
theorem EnE.ng {f:Nat→Rat}{t:Nat}{a b:Int}{x:Rat}(h:EnE f t a b x):EnE (fun K=>-(f K)) t (-b) (-a) x:=by
 obtain⟨N,h⟩:=h
 refine⟨N,fun K hK=>?_⟩
 have h:=h K hK
 rw[Rat.intCast_neg,Rat.intCast_neg]
 constructor<;>grind
theorem at_0_lq {x y:Rat}(h0:0≤x)(h:x≤y)(h1:y≤4 / 3):Lqe (AT0 x) (AT0 y) tq:=Lqe.of (AT0_le h0 h h1) (Rat.le_of_lt tq_pos)
theorem en_mid {s:Nat}{y1 y2:Int}{X u v:Rat}(l:LoE (AT0 u) s y1)(r:HiE (AT0 v) s y2)(u0:0≤u)(uX:u≤X)(u1:u≤1)(Xv:X≤v)(v1:v≤4 / 3):EnE (ATp X) s y1 y2 (3*tq*((2^s:Int):Rat)):=by
 by_cases h:X≤1
 ·exact (en_of l r (at_0_lq u0 uX (by grind)) (at_0_lq (by grind) Xv v1)).congr fun K=>ATp_1 h K
 ·exact en_of l r (comp_lo (by grind) u0 u1) (comp_hi (by grind) Xv v1)
theorem inv_span {T x1 x2 z1 z2:Int}(hT:0<T)(h1:T<x1)(h2:x1≤x2)(h3:x2≤x1+1)(e1:z1*x2≤T*T)(e2:T*T<z1*x2+x2)(e3:T*T≤z2*x1)(e4:z2*x1<T*T+x1) :
  0≤z1∧z1≤z2∧z2≤T∧z2-z1≤4:=by
 have TT:=Int.mul_pos hT hT
 have a0:0≤z1:=by
  refine Decidable.byContradiction fun hn=>?_
  have:=Int.mul_le_mul_of_nonneg_right (show z1≤-1 by omega) (show 0≤x2 by omega)
  omega
 have a1:z2≤T:=by
  refine Decidable.byContradiction fun hn=>?_
  have:=Int.mul_le_mul_of_nonneg_right (show T+1≤z2 by omega) (show 0≤x1 by omega)
  have:=Int.mul_le_mul_of_nonneg_left (show T+1≤x1 by omega) (show 0≤T by omega)
  rw[Int.add_mul] at *
  rw[Int.mul_add] at *
  omega
 have a2:z1≤z2:=by
  refine Decidable.byContradiction fun hn=>?_
  have m1:=Int.mul_le_mul_of_nonneg_right (show z2+1≤z1 by omega) (show 0≤x1 by omega)
  have m2:=Int.mul_le_mul_of_nonneg_left h2 a0
  rw[Int.add_mul] at m1
  omega
 refine⟨a0,a2,a1,Decidable.byContradiction fun hn=>?_⟩
 have m1:=Int.mul_le_mul_of_nonneg_right (show z1+5≤z2 by omega) (show 0≤x1 by omega)
 have m2:=Int.mul_le_mul_of_nonneg_left h3 a0
 rw[Int.add_mul] at m1
 rw[Int.mul_add] at m2
 omega
theorem inv_enc {T x z:Int}{X:Rat}(hT:0<T)(X1:1<X):((X*(T:Rat)≤(x:Rat)∧0≤z∧z*x≤T*T)→(z:Rat)*(T:Rat)⁻¹≤X⁻¹)∧(((x:Rat)≤X*(T:Rat)∧0≤z∧T*T≤z*x)→X⁻¹≤(z:Rat)*(T:Rat)⁻¹):=by
 have T0:(0:Rat)<(T:Rat):=Rat.intCast_pos.2 hT
 have i0:=Rat.inv_pos.2 T0
 have ie:=inv_one T0
 have X0:0<X:=by grind
 have j0:=Rat.inv_pos.2 X0
 have je:=inv_one X0
 have TX:=Rat.mul_pos T0 X0
 have e1:(z:Rat)*(T:Rat)⁻¹*((T:Rat)*X)=(z:Rat)*X:=by
  have:(z:Rat)*(T:Rat)⁻¹*((T:Rat)*X)=(z:Rat)*X*((T:Rat)⁻¹*(T:Rat)):=by grind
  rw[this,ie,Rat.mul_one]
 have e2:X⁻¹*((T:Rat)*X)=(T:Rat):=by
  have:X⁻¹*((T:Rat)*X)=(T:Rat)*(X⁻¹*X):=by grind
  rw[this,je,Rat.mul_one]
 constructor
 ·intro ⟨h1,h2,h3⟩
  have h3:=Rat.intCast_le_intCast.2 h3
  rw[Rat.intCast_mul,Rat.intCast_mul] at h3
  have m:=Rat.mul_le_mul_of_nonneg_left h1 (show (0:Rat)≤(z:Rat) from Rat.intCast_nonneg.2 h2)
  refine Rat.le_of_mul_le_mul_right (c:=(T:Rat)*X) ?_ TX
  rw[e1,e2]
  refine Rat.le_of_mul_le_mul_right (c:=(T:Rat)) ?_ T0
  grind
 ·intro ⟨h1,h2,h3⟩
  have h3:=Rat.intCast_le_intCast.2 h3
  rw[Rat.intCast_mul,Rat.intCast_mul] at h3
  have m:=Rat.mul_le_mul_of_nonneg_left h1 (show (0:Rat)≤(z:Rat) from Rat.intCast_nonneg.2 h2)
  refine Rat.le_of_mul_le_mul_right (c:=(T:Rat)*X) ?_ TX
  rw[e1,e2]
  refine Rat.le_of_mul_le_mul_right (c:=(T:Rat)) ?_ T0
  grind
theorem at_sc {x:Int}{T:Int}{X:Rat}(hT:0<T):((x:Rat)≤X*(T:Rat)→(x:Rat)*(T:Rat)⁻¹≤X)∧(X*(T:Rat)≤(x:Rat)→X≤(x:Rat)*(T:Rat)⁻¹):=by
 have T0:(0:Rat)<(T:Rat):=Rat.intCast_pos.2 hT
 have ie:=inv_one T0
 have e:(x:Rat)*(T:Rat)⁻¹*(T:Rat)=(x:Rat):=by rw[Rat.mul_assoc,ie,Rat.mul_one]
 exact⟨fun h=>Rat.le_of_mul_le_mul_right (by rw[e];exact h) T0,fun h=>Rat.le_of_mul_le_mul_right (by rw[e];exact h) T0⟩
end Go.Proofs.YtkkbddkpggjgpaaGreatDoor

namespace Go.Proofs.YtkkbddkpggjgpaaGreatDoor
open Go.RowKit
set_option maxRecDepth 100000
set_option maxHeartbeats 2000000
theorem pi_all:(List.range 400).all (fun t=>decide (piLo (t:Int)*2^(430-t)≤ptPi) && decide (ptPi≤piHi (t:Int)*2^(430-t)))=true:=by kernel_rfl
theorem cQ2:dv ptPi (-430)=cQ*2:=of_decide_eq_true (by kernel_rfl)
theorem pq_at {t:Nat}(ht:t<400):((piLo (t:Int):Int):Rat)≤cQ*((2^(t+1):Int):Rat)∧cQ*((2^(t+1):Int):Rat)≤((piHi (t:Int):Int):Rat):=by
 have h:=List.all_eq_true.1 pi_all t (List.mem_range.2 ht)
 simp only [Bool.and_eq_true,decide_eq_true_eq] at h
 have a:=(cl_sc (t:=t) oO).1 h.1
 have b:=(cl_sc (t:=t) oO).2 h.2
 have e:cQ*((2^(t+1):Int):Rat)=dv ptPi (-430)*((2^t:Int):Rat):=by
  rw[cQ2,Int.pow_succ,Rat.intCast_mul]
  show cQ*(((2^t:Int):Rat)*2)=_
  grind
 rw[e];exact⟨a,b⟩
end Go.Proofs.YtkkbddkpggjgpaaGreatDoor






namespace Go.Proofs.YtkkbddkpggjgpaaGreatDoor
open Go.RowKit
set_option maxRecDepth 100000
set_option maxHeartbeats 2000000
def gE:Rat:=dv 1 (-40)
theorem gE_b:0<gE∧gE*65536+gE<1:=⟨of_decide_eq_true (by kernel_rfl),of_decide_eq_true (by kernel_rfl)⟩
theorem pow_up {a b:Nat}(h:a≤b):((2^a:Int):Rat)≤((2^b:Int):Rat):=Rat.intCast_le_intCast.2 (by rw[pow_cast,pow_cast];exact Int.ofNat_le.2 (Nat.pow_le_pow_right oO h))
end Go.Proofs.YtkkbddkpggjgpaaGreatDoor
