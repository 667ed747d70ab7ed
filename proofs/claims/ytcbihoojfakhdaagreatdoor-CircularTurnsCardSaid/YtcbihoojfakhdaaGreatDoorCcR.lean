/-
  Lower layers: what functions of the program compute, and zxd facts. Conditions: as the theorems say.
-/
import Derived.Test.YtcbihoojfakhdaaGreatDoorCcQ
set_option linter.unusedVariables false
set_option linter.unusedSimpArgs false
namespace Go.Proofs.YtcbihoojfakhdaaGreatDoor
def Sm (f:Nat→Rat):Nat→Rat
 | 0=>0
 | n+1=>Sm f n+f n
theorem zqa {f g:Nat→Rat}:∀ {n:Nat},(∀ i,i<n→f i=g i)→Sm f n=Sm g n
 | 0,_=>rfl
 | n+1,h=>by
  show Sm f n+f n=Sm g n+g n
  rw [zqa (n:=n) (fun i hi=>h i (by omega)),h n (by omega)]
theorem zqb (f g:Nat→Rat):∀ n,Sm (fun i=>f i+g i) n=Sm f n+Sm g n
 | 0=>by show (0:Rat)=0+0; grind
 | n+1=>by
  show Sm (fun i=>f i+g i) n+(f n+g n)=Sm f n+f n+(Sm g n+g n)
  rw [zqb f g n]; grind
theorem zqc (f:Nat→Rat)(c:Rat):∀ n,Sm f n*c=Sm (fun i=>f i*c) n
 | 0=>by show (0:Rat)*c=0; grind
 | n+1=>by
  show (Sm f n+f n)*c=Sm (fun i=>f i*c) n+f n*c
  rw [← zqc f c n]; grind
theorem zqd (f:Nat→Rat):∀ n,Sm f (n+1)=f 0+Sm (fun i=>f (i+1)) n
 | 0=>by show (0:Rat)+f 0=f 0+0; grind
 | n+1=>by
  show Sm f (n+1)+f (n+1)=f 0+(Sm (fun i=>f (i+1)) n+f (n+1))
  rw [zqd f n]; grind
theorem zqe {f g:Nat→Rat}:∀ {n:Nat},(∀ i,i<n→f i≤g i)→Sm f n≤Sm g n
 | 0,_=>Rat.le_refl
 | n+1,h=>by
  have a:=zqe (n:=n) (fun i hi=>h i (by omega))
  have b:=h n (by omega)
  show Sm f n+f n≤Sm g n+g n
  grind
theorem zqf {f:Nat→Rat}(h:∀ i,0≤f i):∀ n,0≤Sm f n
 | 0=>Rat.le_refl
 | n+1=>Rat.add_nonneg (zqf h n) (h n)
theorem zqg {f:Nat→Rat}(h:∀ i,0≤f i){n m:Nat}(hn:n≤m):Sm f n≤Sm f m:=by
 obtain ⟨k,rfl⟩:∃ k,m=n+k:=⟨m-n,by omega⟩
 induction k with
 | zero=>exact Rat.le_refl
 | succ k ih =>
  have a:=ih (by omega)
  have b:=h (n+k)
  show Sm f n≤Sm f (n+k)+f (n+k)
  grind
theorem zqh (f:Nat→Nat→Rat):∀ K,Sm (fun n=>Sm (fun i=>f i (n-i)) (n+1)) K=Sm (fun i=>Sm (f i) (K-i)) K
 | 0=>rfl
 | K+1=>by
  have h:=zqh f K
  have e:Sm (fun i=>Sm (f i) (K+1-i)) (K+1)=Sm (fun i=>Sm (f i) (K-i)+f i (K-i)) (K+1):=zqa fun i hi=>by
   rw [show K+1-i=(K-i)+1 by omega]; rfl
  rw [e,zqb]
  show Sm (fun n=>Sm (fun i=>f i (n-i)) (n+1)) K+Sm (fun i=>f i (K-i)) (K+1)=Sm (fun i=>Sm (f i) (K-i)) K+Sm (f K) (K-K)+Sm (fun i=>f i (K-i)) (K+1)
  rw [h,Nat.sub_self]
  show _=_+0+_
  grind
theorem zqi (f g:Nat→Rat)(K:Nat):∀ n,Sm f n*Sm g K=Sm (fun i=>Sm (fun j=>f i*g j) K) n
 | 0=>by show (0:Rat)*_=0; grind
 | n+1=>by
  have h:=zqi f g K n
  have e:f n*Sm g K=Sm (fun j=>f n*g j) K:=by
   rw [Rat.mul_comm,zqc]
   exact zqa fun i _=>Rat.mul_comm _ _
  show (Sm f n+f n)*Sm g K=Sm (fun i=>Sm (fun j=>f i*g j) K) n+Sm (fun j=>f n*g j) K
  rw [← h,← e]; grind
def nx (n:Nat):Int:=(n:Int)+1
theorem zqj (n:Nat):(0:Rat)<(nx n:Rat):=Rat.intCast_pos.2 (by unfold nx; omega)
def tE (x:Rat):Nat→Rat
 | 0=>1
 | n+1=>tE x n*x / (nx n:Rat)
theorem zqk (x:Rat)(n:Nat):tE x n*x=(nx n:Rat)*tE x (n+1):=by
 show tE x n*x=(nx n:Rat)*(tE x n*x / (nx n:Rat))
 have:=zqj n
 rw [Rat.mul_comm (nx n:Rat),Rat.div_mul_cancel (by grind)]
theorem zql {x:Rat}(h:0≤x):∀ n,0≤tE x n
 | 0=>by show (0:Rat)≤1; decide
 | n+1=>by
  show 0≤tE x n*x / (nx n:Rat)
  rw [Rat.div_def]
  exact Rat.mul_nonneg (Rat.mul_nonneg (zql h n) h) (Rat.le_of_lt (Rat.inv_pos.2 (zqj n)))
def EP (x:Rat)(K:Nat):Rat:=Sm (tE x) K
theorem zqm (x y:Rat):∀ n,tE (x+y) n=Sm (fun i=>tE x i*tE y (n-i)) (n+1)
 | 0=>by show (1:Rat)=0+1*1; grind
 | n+1=>by
  have h:=zqm x y n
  have np:=zqj n
  have key:Sm (fun i=>tE x i*tE y (n-i)) (n+1)*(x+y)=(nx n:Rat)*Sm (fun i=>tE x i*tE y (n+1-i)) (n+2):=by
   have ex:Sm (fun i=>tE x i*tE y (n-i)) (n+1)*x=Sm (fun i=>(i:Rat)*(tE x i*tE y (n+1-i))) (n+2):=by
    rw [zqc,zqd (fun i=>(i:Rat)*(tE x i*tE y (n+1-i))) (n+1)]
    have z:(((0:Nat):Nat):Rat)*(tE x 0*tE y (n+1-0))=0:=by
     rw [show ((0:Nat):Rat)=0 from rfl]; grind
    rw [z,Rat.zero_add]
    refine zqa fun i hi=>?_
    rw [show n+1-(i+1)=n-i by omega]
    have t:=zqk x i
    have c:((i+1:Nat):Rat)=(nx i:Rat):=rfl
    show tE x i*tE y (n-i)*x=((i+1:Nat):Rat)*(tE x (i+1)*tE y (n-i))
    rw [c]
    grind
   have ey:Sm (fun i=>tE x i*tE y (n-i)) (n+1)*y=Sm (fun i=>((nx n:Rat)-(i:Rat))*(tE x i*tE y (n+1-i))) (n+2):=by
    rw [zqc]
    show _=Sm (fun i=>((nx n:Rat)-(i:Rat))*(tE x i*tE y (n+1-i))) (n+1)+((nx n:Rat)-((n+1:Nat):Rat))*(tE x (n+1)*tE y (n+1-(n+1)))
    have c:((n+1:Nat):Rat)=(nx n:Rat):=rfl
    rw [c]
    have z:((nx n:Rat)-(nx n:Rat))*(tE x (n+1)*tE y (n+1-(n+1)))=0:=by grind
    rw [z,Rat.add_zero]
    refine zqa fun i hi=>?_
    have t:=zqk y (n-i)
    rw [show n+1-i=(n-i)+1 by omega]
    have d:(nx (n-i):Rat)=(nx n:Rat)-(i:Rat):=by
     have e:nx (n-i)=nx n-(i:Int):=by unfold nx; omega
     rw [e,Rat.intCast_sub]; rfl
    rw [← d]
    grind
   rw [show Sm (fun i=>tE x i*tE y (n-i)) (n+1)*(x+y)=Sm (fun i=>tE x i*tE y (n-i)) (n+1)*x+Sm (fun i=>tE x i*tE y (n-i)) (n+1)*y by grind,ex,ey,← zqb,Rat.mul_comm (nx n:Rat),zqc]
   exact zqa fun i _=>by grind
  show tE (x+y) n*(x+y) / (nx n:Rat)=_
  rw [h,key,Rat.mul_comm,Rat.mul_div_cancel (by grind)]
theorem zqn (x y:Rat)(K:Nat):EP (x+y) K=Sm (fun i=>Sm (fun j=>tE x i*tE y j) (K-i)) K:=by
 unfold EP
 rw [← zqh (fun i j=>tE x i*tE y j) K]
 exact zqa fun n _=>zqm x y n
theorem zqo {x y:Rat}(hx:0≤x)(hy:0≤y)(K:Nat):EP (x+y) K≤EP x K*EP y K∧EP x K*EP y K≤EP (x+y) (2*K):=by
 have nn:∀ i j,0≤tE x i*tE y j:=fun i j=>Rat.mul_nonneg (zql hx i) (zql hy j)
 have p:EP x K*EP y K=Sm (fun i=>Sm (fun j=>tE x i*tE y j) K) K:=zqi _ _ K K
 rw [p,zqn,zqn]
 constructor
 ·exact zqe fun i _=>zqg (nn i) (by omega)
 ·refine Rat.le_trans (zqe (g:=fun i=>Sm (fun j=>tE x i*tE y j) (2*K-i)) fun i hi=>zqg (nn i) (by omega)) (zqg (fun i=>zqf (nn i) _) (by omega))
theorem zqp {x:Rat}(h:0≤x)(K:Nat):0≤EP x K:=zqf (zql h) K
theorem zqq {x:Rat}(h:0≤x){n m:Nat}(hn:n≤m):EP x n≤EP x m:=zqg (zql h) hn
end Go.Proofs.YtcbihoojfakhdaaGreatDoor

namespace Go.Proofs.YtcbihoojfakhdaaGreatDoor
theorem zqr {x:Rat}(h0:0≤x){m:Nat}(h:2*x≤(nx m:Rat)):2*tE x (m+1)≤tE x m:=by
 have np:=zqj m
 have t:=zqk x m
 have p:=zql h0 m
 refine Rat.le_of_mul_le_mul_right (c:=(nx m:Rat)) ?_ np
 have e:2*tE x (m+1)*(nx m:Rat)=tE x m*(2*x):=by grind
 rw [e]
 exact Rat.mul_le_mul_of_nonneg_left h p
theorem zqs {a b:Nat}(h:a≤b):(nx a:Rat)≤(nx b:Rat):=Rat.intCast_le_intCast.2 (by unfold nx; omega)
theorem zqt {x:Rat}(h0:0≤x){n:Nat}(h:2*x≤(nx n:Rat))(K:Nat):EP x K≤EP x (n+1)+tE x n:=by
 have key:∀ k,EP x (n+1+k)+tE x (n+k)≤EP x (n+1)+tE x n:=by
  intro k
  induction k with
  | zero=>exact Rat.le_refl
  | succ k ih =>
   have a:=zqr h0 (m:=n+k) (Rat.le_trans h (zqs (by omega)))
   have e:EP x (n+1+(k+1))=EP x (n+1+k)+tE x (n+k+1):=by
    show Sm (tE x) (n+1+k)+tE x (n+1+k)=_
    rw [show n+1+k=n+k+1 by omega]; rfl
   rw [e]
   show EP x (n+1+k)+tE x (n+k+1)+tE x (n+k+1)≤_
   grind
 have a:=key K
 have b:=zqq h0 (show K≤n+1+K by omega)
 have c:=zql h0 (n+K)
 grind
def dbl (v:Rat):Nat→Rat
 | 0=>v
 | i+1=>dbl v i+dbl v i
theorem zqu (v:Rat):∀ i,dbl v i=v*((2^i:Int):Rat)
 | 0=>by show v=v*((1:Int):Rat); rw [show ((1:Int):Rat)=1 from rfl]; grind
 | i+1=>by
  show dbl v i+dbl v i=_
  rw [zqu v i,Int.pow_succ,Rat.intCast_mul,show ((2:Int):Rat)=2 from rfl]; grind
theorem zqv {q:Rat}(h:1≤q):∀ n:Nat,1≤q^n
 | 0=>by rw [Rat.pow_zero]; exact Rat.le_refl
 | n+1=>by
  have a:=zqv h n
  have m:=Rat.mul_le_mul_of_nonneg_left h (show (0:Rat)≤q^n by grind)
  rw [Rat.pow_succ]; grind
end Go.Proofs.YtcbihoojfakhdaaGreatDoor
















namespace Go.Proofs.YtcbihoojfakhdaaGreatDoor
open Go.RowKit
set_option maxRecDepth 100000
set_option maxHeartbeats 400000
theorem zqw {x:Int}{t c:Nat}(h:x.natAbs≤c*2^t)(hc:c≤2^20)(ht:t≤2000):L x.natAbs≤70:=by
 refine zjf (n:=t+21) ?_ oO
 have e:(2:Nat)^(t+21)=2*(2^20*2^t):=by rw [Nat.pow_add]; omega
 have p:=Nat.mul_le_mul_right (2^t) hc
 have:=Nat.pow_pos (n:=t) (show 0<2 by omega)
 omega
end Go.Proofs.YtcbihoojfakhdaaGreatDoor





namespace Go.Proofs.YtcbihoojfakhdaaGreatDoor
def eps:Rat:=dv 1 (-400)
end Go.Proofs.YtcbihoojfakhdaaGreatDoor


namespace Go.Proofs.YtcbihoojfakhdaaGreatDoor
def Lq (f g:Nat→Rat):Prop:=∀ e:Rat,0<e→∃ N,∀ K,N≤K→f K≤g K+e
def Lm (f g:Nat→Rat):Prop:=Lq f g∧Lq g f
def Bn (f:Nat→Rat)(B:Rat):Prop:=∃ N,∀ K,N≤K→-B≤f K∧f K≤B
theorem Lq.refl (f:Nat→Rat):Lq f f:=fun e h=>⟨0,fun K _=>by grind⟩
theorem Lm.refl (f:Nat→Rat):Lm f f:=⟨Lq.refl f,Lq.refl f⟩
theorem Lm.symm {f g:Nat→Rat}(h:Lm f g):Lm g f:=⟨h.2,h.1⟩
theorem r8:(0:Rat)<1 / 8∧(0:Rat)<1 / 2∧(0:Rat)<2⁻¹:=⟨of_decide_eq_true (by kernel_rfl),of_decide_eq_true (by kernel_rfl),of_decide_eq_true (by kernel_rfl)⟩
theorem zqx {e:Rat}(h:0<e):0<e / 2:=by rw [Rat.div_def]; exact Rat.mul_pos h r8.2.2
theorem zqy (e:Rat):e / 2+e / 2=e:=by rw [Rat.div_def]; grind
theorem Lq.trans {f g h:Nat→Rat}(a:Lq f g)(b:Lq g h):Lq f h:=fun e he=>by
 obtain ⟨N,p⟩:=a (e / 2) (zqx he)
 obtain ⟨M,q⟩:=b (e / 2) (zqx he)
 refine ⟨N+M,fun K hK=>?_⟩
 have x:=p K (by omega)
 have y:=q K (by omega)
 have z:=zqy e
 grind
theorem Lm.trans {f g h:Nat→Rat}(a:Lm f g)(b:Lm g h):Lm f h:=⟨a.1.trans b.1,b.2.trans a.2⟩
theorem Lq.of_le {f g:Nat→Rat}{N:Nat}(h:∀ K,N≤K→f K≤g K):Lq f g:=fun e he=>⟨N,fun K hK=>by have:=h K hK; grind⟩
theorem Lm.of_eq {f g:Nat→Rat}{N:Nat}(h:∀ K,N≤K→f K=g K):Lm f g:=⟨.of_le (N:=N) fun K hK=>by rw [h K hK]; exact Rat.le_refl,.of_le (N:=N) fun K hK=>by rw [h K hK]; exact Rat.le_refl⟩
theorem zqz {p x P a:Rat}(h1:-P≤p)(h2:p≤P)(h3:-a≤x)(h4:x≤a):-(P*a)≤p*x∧p*x≤P*a:=by
 have m1:=Rat.mul_nonneg (show 0≤P-p by grind) (show 0≤a+x by grind)
 have m2:=Rat.mul_nonneg (show 0≤P+p by grind) (show 0≤a-x by grind)
 have m3:=Rat.mul_nonneg (show 0≤P+p by grind) (show 0≤a+x by grind)
 have m4:=Rat.mul_nonneg (show 0≤P-p by grind) (show 0≤a-x by grind)
 constructor<;>grind
theorem zr0 {B:Rat}(h:0<B):B⁻¹*B=1:=Rat.inv_mul_cancel _ (by grind)
theorem Bn.pos {f:Nat→Rat}{B:Rat}(h:Bn f B):∃ C,0<C∧Bn f C:=by
 obtain ⟨N,h⟩:=h
 have a:=h N (Nat.le_refl _)
 refine ⟨B+1,by grind,N,fun K hK=>?_⟩
 have b:=h K hK
 constructor<;>grind
theorem Lq.mul_aux {f f' g g':Nat→Rat}{A B:Rat}(h:Lm f f')(k:Lm g g')(hf:Bn f A)(hg:Bn g' B):Lq (fun K=>f K*g K) (fun K=>f' K*g' K):=fun e he=>by
 obtain ⟨A',A0,N1,b1⟩:=hf.pos
 obtain ⟨B',B0,N2,b2⟩:=hg.pos
 have iA:=Rat.inv_pos.2 A0
 have iB:=Rat.inv_pos.2 B0
 have eA:=zr0 A0
 have eB:=zr0 B0
 obtain ⟨N3,c1⟩:=h.1 _ (Rat.mul_pos (zqx he) iB)
 obtain ⟨N4,c2⟩:=h.2 _ (Rat.mul_pos (zqx he) iB)
 obtain ⟨N5,c3⟩:=k.1 _ (Rat.mul_pos (zqx he) iA)
 obtain ⟨N6,c4⟩:=k.2 _ (Rat.mul_pos (zqx he) iA)
 refine ⟨N1+N2+N3+N4+N5+N6,fun K hK=>?_⟩
 have b1:=b1 K (by omega)
 have b2:=b2 K (by omega)
 have c1:=c1 K (by omega)
 have c2:=c2 K (by omega)
 have c3:=c3 K (by omega)
 have c4:=c4 K (by omega)
 have z:=zqy e
 have m1:=(zqz b1.1 b1.2 (x:=g K-g' K) (a:=e / 2*A'⁻¹) (by grind) (by grind)).2
 have m2:=(zqz b2.1 b2.2 (x:=f K-f' K) (a:=e / 2*B'⁻¹) (by grind) (by grind)).2
 have q1:A'*(e / 2*A'⁻¹)=e / 2:=by grind
 have q2:B'*(e / 2*B'⁻¹)=e / 2:=by grind
 rw [q1] at m1
 rw [q2] at m2
 show f K*g K≤f' K*g' K+e
 grind
theorem Lm.bn {f g:Nat→Rat}{A:Rat}(h:Lm f g)(b:Bn f A):Bn g (A+1):=by
 obtain ⟨N,b⟩:=b
 obtain ⟨N1,h1⟩:=h.1 1 (by decide)
 obtain ⟨N2,h2⟩:=h.2 1 (by decide)
 refine ⟨N+N1+N2,fun K hK=>?_⟩
 have b:=b K (by omega)
 have h1:=h1 K (by omega)
 have h2:=h2 K (by omega)
 constructor<;>grind
theorem Lm.mul {f f' g g':Nat→Rat}{A B:Rat}(h:Lm f f')(k:Lm g g')(hf:Bn f A)(hg:Bn g B):Lm (fun K=>f K*g K) (fun K=>f' K*g' K) :=
 ⟨Lq.mul_aux h k hf (k.bn hg),Lq.mul_aux h.symm k.symm (h.bn hf) hg⟩
theorem zr1 {f g:Nat→Rat}:∀ {n:Nat},(∀ i,i<n→-(g i)≤f i∧f i≤g i)→-(Sm g n)≤Sm f n∧Sm f n≤Sm g n
 | 0,_=>by show -(0:Rat)≤0∧(0:Rat)≤0; constructor<;>decide
 | n+1,h=>by
  have a:=zr1 (n:=n) (fun i hi=>h i (by omega))
  have b:=h n (by omega)
  show -(Sm g n+g n)≤Sm f n+f n∧Sm f n+f n≤Sm g n+g n
  constructor<;>grind
theorem zr2 {x a:Rat}(h1:-a≤x)(h2:x≤a):∀ n,-(tE a n)≤tE x n∧tE x n≤tE a n
 | 0=>by show -(1:Rat)≤1∧(1:Rat)≤1; constructor<;>decide
 | n+1=>by
  have i:=zr2 h1 h2 n
  have m:=zqz i.1 i.2 h1 h2
  have np:=zqj n
  have e1:=zqk x n
  have e2:=zqk a n
  constructor
  ·exact Rat.le_of_mul_le_mul_right (c:=(nx n:Rat)) (by grind) np
  ·exact Rat.le_of_mul_le_mul_right (c:=(nx n:Rat)) (by grind) np
theorem zr3 (c:Rat)(f:Nat→Rat)(n:Nat):Sm (fun j=>c*f j) n=c*Sm f n:=by
 rw [Rat.mul_comm,zqc]
 exact zqa fun i _=>Rat.mul_comm _ _
theorem zr4 (r:Rat):∃ n:Nat,r≤(n:Rat):=by
 refine ⟨r.ceil.toNat,?_⟩
 have a:r≤(r.ceil:Rat):=Rat.le_ceil
 have b:((r.ceil:Int):Rat)≤((r.ceil.toNat:Int):Rat):=Rat.intCast_le_intCast.2 (by omega)
 exact Rat.le_trans a b
theorem two_pow_ge:∀ n:Nat,(n:Rat)≤(2:Rat)^n
 | 0=>by rw [Rat.pow_zero]; decide
 | n+1=>by
  have a:=two_pow_ge n
  have b:=zqv (q:=2) (by decide) n
  rw [Rat.pow_succ,Rat.natCast_add]
  show (n:Rat)+1≤_
  grind
theorem zr5 {a:Rat}(h0:0≤a){m:Nat}(h:2*a≤(nx m:Rat)):∀ j,tE a (m+j)*(2:Rat)^j≤tE a m
 | 0=>by rw [Rat.pow_zero,Rat.mul_one]; exact Rat.le_refl
 | j+1=>by
  have i:=zr5 h0 h j
  have t:=zqr h0 (m:=m+j) (Rat.le_trans h (zqs (by omega)))
  have p:(0:Rat)≤(2:Rat)^j:=by have:=zqv (q:=2) (by decide) j; grind
  have m1:=Rat.mul_le_mul_of_nonneg_right t p
  rw [Rat.pow_succ]
  show tE a (m+j+1)*_≤_
  grind
theorem zr6 {a:Rat}(h0:0≤a){e:Rat}(he:0<e):∃ N,∀ K,N≤K→tE a K≤e∧2*a≤(nx K:Rat):=by
 obtain ⟨m,hm⟩:=zr4 (2*a)
 have hm':2*a≤(nx m:Rat):=Rat.le_trans hm (Rat.intCast_le_intCast.2 (show (m:Int)≤nx m by unfold nx; omega))
 obtain ⟨j,hj⟩:=zr4 (tE a m*e⁻¹)
 have ie:=zr0 he
 have i0:=Rat.inv_pos.2 he
 refine ⟨m+j,fun K hK=>⟨?_,Rat.le_trans hm' (zqs (by omega))⟩⟩
 obtain ⟨i,rfl⟩:∃ i,K=m+(j+i):=⟨K-m-j,by omega⟩
 have d:=zr5 h0 hm' (j+i)
 have g:=two_pow_ge (j+i)
 have n1:(j:Rat)≤((j+i:Nat):Rat):=by
  rw [Rat.natCast_add]
  have:(0:Rat)≤(i:Rat):=Rat.natCast_nonneg
  grind
 have p:(1:Rat)≤(2:Rat)^(j+i):=zqv (by decide) _
 refine Rat.le_of_mul_le_mul_right (c:=(2:Rat)^(j+i)) ?_ (by grind)
 have m1:=Rat.mul_le_mul_of_nonneg_left (show tE a m*e⁻¹≤(2:Rat)^(j+i) by grind) (Rat.le_of_lt he)
 have q:e*(tE a m*e⁻¹)=tE a m:=by grind
 rw [q] at m1
 exact Rat.le_trans d m1
theorem zr7 {a:Rat}(h0:0≤a){e:Rat}(he:0<e):∃ N,∀ K,N≤K→∀ M,EP a M≤EP a K+e:=by
 obtain ⟨N,h⟩:=zr6 h0 he
 refine ⟨N+1,fun K hK M=>?_⟩
 obtain ⟨n,rfl⟩:∃ n,K=n+1:=⟨K-1,by omega⟩
 have b:=h n (by omega)
 have c:=zqt h0 b.2 M
 grind
theorem zr8 {a:Rat}(h0:0≤a):∃ B,0<B∧∀ K,EP a K≤B:=by
 obtain ⟨N,h⟩:=zr7 h0 (e:=1) (by decide)
 have p:=zqp h0 N
 exact ⟨EP a N+1,by grind,fun K=>h N (Nat.le_refl _) K⟩
theorem zr9 (x:Rat):∃ a,0≤a∧-a≤x∧x≤a:=by
 rcases (Rat.le_total:0≤x∨x≤0) with h | h
 ·exact ⟨x,h,by grind,Rat.le_refl⟩
 ·exact ⟨-x,by grind,by grind,by grind⟩
end Go.Proofs.YtcbihoojfakhdaaGreatDoor


namespace Go.Proofs.YtcbihoojfakhdaaGreatDoor
def rE (T y1 y2:Int):Nat→Int × Int
 | 0=>(T,T)
 | j+1=>(ovLo (rm1 (rE T y1 y2 j).1 (rE T y1 y2 j).2 y1 y2 T) (rm2 (rE T y1 y2 j).1 (rE T y1 y2 j).2 y1 y2 T) ((j:Int)+1),ovHi (rm1 (rE T y1 y2 j).1 (rE T y1 y2 j).2 y1 y2 T) (rm2 (rE T y1 y2 j).1 (rE T y1 y2 j).2 y1 y2 T) ((j:Int)+1))
theorem zra {T y1 y2:Int}{x:Rat}(hT:0<T)(e1:(y1:Rat)≤x*T)(e2:x*T≤(y2:Rat)):∀ j,((rE T y1 y2 j).1:Rat)≤tE x j*T∧tE x j*T≤((rE T y1 y2 j).2:Rat)
 | 0=>by
  show (T:Rat)≤1*T∧1*(T:Rat)≤T
  rw [Rat.one_mul]; exact ⟨Rat.le_refl,Rat.le_refl⟩
 | j+1=>by
  have a:=zra hT e1 e2 j
  have b:=zp7 hT a.1 a.2 e1 e2
  have n0:(0:Int)<(j:Int)+1:=by omega
  have c:=zpa n0 b.1 b.2
  have e:tE x j*x*(T:Rat) / (((j:Int)+1:Int):Rat)=tE x (j+1)*T:=by
   show tE x j*x*(T:Rat) / (nx j:Rat)=tE x j*x / (nx j:Rat)*T
   rw [Rat.div_def,Rat.div_def]; grind
  rw [e] at c
  exact c
theorem zrb {a b n:Int}{B:Nat}(hn:0<n)(ha:a.natAbs≤B)(hb:b.natAbs≤B):(ovLo a b n).natAbs≤B∧(ovHi a b n).natAbs≤B:=by
 have key:∀ z:Int,z.natAbs≤B→(Int.fdiv z n).natAbs≤B:=by
  intro z hz
  rw [Int.fdiv_eq_ediv_of_nonneg _ (Int.le_of_lt hn)]
  have f1:=Int.ediv_mul_le z (show n≠0 by omega)
  have f2:=Int.lt_ediv_add_one_mul_self z hn
  generalize z / n=q at *
  have u:q≤B:=by
   refine Decidable.byContradiction fun h=>?_
   have m:=Int.mul_le_mul_of_nonneg_left (show (1:Int)≤n by omega) (show 0≤q by omega)
   omega
  have l:-(B:Int)≤q:=by
   refine Decidable.byContradiction fun h=>?_
   have m:=Int.mul_le_mul_of_nonneg_left (show (1:Int)≤n by omega) (show 0≤-(q+1) by omega)
   have e:-(q+1)*n=-((q+1)*n):=Int.neg_mul _ _
   omega
  omega
 unfold ovLo ovHi
 have k1:=key (min a b) (by omega)
 have k2:=key (-(max a b)) (by omega)
 omega
end Go.Proofs.YtcbihoojfakhdaaGreatDoor

namespace Go.Proofs.YtcbihoojfakhdaaGreatDoor
def EnE (f:Nat→Rat)(s:Nat)(lo hi:Int)(g:Rat):Prop:=∃ N,∀ K,N≤K→(lo:Rat)≤f K*((2^s:Int):Rat)+g∧f K*((2^s:Int):Rat)≤(hi:Rat)+g
theorem EnE.mono {f:Nat→Rat}{s:Nat}{lo hi:Int}{g g':Rat}(h:EnE f s lo hi g)(hg:g≤g'):EnE f s lo hi g':=by
 obtain ⟨N,h⟩:=h
 exact ⟨N,fun K hK=>by have:=h K hK; constructor<;>grind⟩
theorem EnE.near {f f':Nat→Rat}{s:Nat}{lo hi:Int}{g e:Rat}(h:EnE f s lo hi g)(hn:∃ N,∀ K,N≤K→f K≤f' K+e∧f' K≤f K+e):EnE f' s lo hi (g+e*((2^s:Int):Rat)):=by
 obtain ⟨N,h⟩:=h
 obtain ⟨M,hn⟩:=hn
 have P:(0:Rat)<((2^s:Int):Rat):=Rat.intCast_pos.2 (zi5 s)
 refine ⟨N+M,fun K hK=>?_⟩
 have a:=h K (by omega)
 have b:=hn K (by omega)
 have m1:=Rat.mul_le_mul_of_nonneg_right b.1 (Rat.le_of_lt P)
 have m2:=Rat.mul_le_mul_of_nonneg_right b.2 (Rat.le_of_lt P)
 constructor<;>grind
theorem zrc {l h:Int}{X Y:Rat}(h1:(l:Rat)≤X)(h2:Y≤(h:Rat))(g:X<Y+1):l≤h:=by
 refine Decidable.byContradiction fun hn=>?_
 have:((h+1:Int):Rat)≤(l:Rat):=Rat.intCast_le_intCast.2 (by omega)
 rw [Rat.intCast_add,show ((1:Int):Rat)=1 from rfl] at this
 grind
theorem EnE.le {f f':Nat→Rat}{s:Nat}{a b c d:Int}{g g':Rat}(h:EnE f s a b g)(k:EnE f' s c d g')(hl:Lq f f')(hg:g+g'<1):a≤d:=by
 obtain ⟨N,h⟩:=h
 obtain ⟨M,k⟩:=k
 have P:(0:Rat)<((2^s:Int):Rat):=Rat.intCast_pos.2 (zi5 s)
 have i0:=Rat.inv_pos.2 P
 have ie:=zr0 P
 have e0:0<(1-g-g')*(1 / 2):=Rat.mul_pos (by grind) r8.2.1
 obtain ⟨Q,q⟩:=hl ((1-g-g')*(1 / 2)*(((2^s:Int):Rat))⁻¹) (Rat.mul_pos e0 i0)
 have h:=(h (N+M+Q) (by omega)).1
 have k:=(k (N+M+Q) (by omega)).2
 have q:=Rat.mul_le_mul_of_nonneg_right (q (N+M+Q) (by omega)) (Rat.le_of_lt P)
 have z:(1-g-g')*(1 / 2)*(((2^s:Int):Rat))⁻¹*((2^s:Int):Rat)=(1-g-g')*(1 / 2):=by rw [Rat.mul_assoc,ie,Rat.mul_one]
 exact zrc (X:=f (N+M+Q)*((2^s:Int):Rat)+g) (Y:=f' (N+M+Q)*((2^s:Int):Rat)-g') h (by grind) (by grind)
theorem EnE.scale {f:Nat→Rat}{s n:Nat}{a b:Int}{g:Rat}(h:EnE f s a b g):EnE f (s+n) (a*2^n) (b*2^n) (g*((2^n:Int):Rat)):=by
 obtain ⟨N,h⟩:=h
 have P:(0:Rat)<((2^n:Int):Rat):=Rat.intCast_pos.2 (zi5 n)
 refine ⟨N,fun K hK=>?_⟩
 have q:=h K hK
 rw [Int.pow_add,Rat.intCast_mul,Rat.intCast_mul,Rat.intCast_mul]
 have m1:=Rat.mul_le_mul_of_nonneg_right q.1 (Rat.le_of_lt P)
 have m2:=Rat.mul_le_mul_of_nonneg_right q.2 (Rat.le_of_lt P)
 constructor<;>grind
theorem EnE.meet {f:Nat→Rat}{s n:Nat}{a b c d:Int}{g g':Rat}(h:EnE f s a b g)(k:EnE f (s+n) c d g')(hg:g*((2^n:Int):Rat)+g'<1):a*2^n≤d∧c≤b*2^n :=
 ⟨h.scale.le k (Lq.refl f) hg,k.le h.scale (Lq.refl f) (by grind)⟩
theorem EnE.of_lim {f f':Nat→Rat}{s:Nat}{lo hi:Int}{g:Rat}(h:EnE f s lo hi 0)(hl:Lm f f')(g0:0<g):EnE f' s lo hi g:=by
 have P:(0:Rat)<((2^s:Int):Rat):=Rat.intCast_pos.2 (zi5 s)
 have i0:=Rat.inv_pos.2 P
 have ie:=zr0 P
 obtain ⟨N1,h1⟩:=hl.1 (g*(((2^s:Int):Rat))⁻¹) (Rat.mul_pos g0 i0)
 obtain ⟨N2,h2⟩:=hl.2 (g*(((2^s:Int):Rat))⁻¹) (Rat.mul_pos g0 i0)
 have r:=h.near (f':=f') (e:=g*(((2^s:Int):Rat))⁻¹) ⟨N1+N2,fun K hK=>⟨h1 K (by omega),h2 K (by omega)⟩⟩
 rw [Rat.mul_assoc,ie,Rat.mul_one] at r
 exact r.mono (by grind)
theorem zrd (x:Rat):∀ n,tE (-x) n=tE x n∨tE (-x) n=-(tE x n)
 | 0=>.inl rfl
 | n+1=>by
  have e1:tE (-x) (n+1)=tE (-x) n*-x / (nx n:Rat):=rfl
  have e2:tE x (n+1)=tE x n*x / (nx n:Rat):=rfl
  rcases zrd x n with h | h
  ·right; rw [e1,e2,h,Rat.div_def,Rat.div_def]; grind
  ·left; rw [e1,e2,h,Rat.div_def,Rat.div_def]; grind
theorem zre (x:Rat):∃ a,(0≤a∧-a≤x∧x≤a)∧(a=x∨a=-x):=by
 rcases (Rat.le_total:0≤x∨x≤0) with h | h
 ·exact ⟨x,⟨h,by grind,Rat.le_refl⟩,.inl rfl⟩
 ·exact ⟨-x,⟨by grind,by grind,by grind⟩,.inr rfl⟩
def reLo (T y1 y2:Int)(j:Nat):Int:=(rE T y1 y2 j).1
def reHi (T y1 y2:Int)(j:Nat):Int:=(rE T y1 y2 j).2
end Go.Proofs.YtcbihoojfakhdaaGreatDoor

namespace Go.Proofs.YtcbihoojfakhdaaGreatDoor
def iP:Nat→Rat × Rat
 | 0=>(1,0)
 | n+1=>(-(iP n).2,(iP n).1)
theorem zrf (a:Nat):∀ b,(iP (a+b)).1=(iP a).1*(iP b).1-(iP a).2*(iP b).2∧(iP (a+b)).2=(iP a).1*(iP b).2+(iP a).2*(iP b).1
 | 0=>by
  show (iP a).1=(iP a).1*1-(iP a).2*0∧(iP a).2=(iP a).1*0+(iP a).2*1
  constructor<;>grind
 | b+1=>by
  have h:=zrf a b
  have e1:(iP (a+(b+1))).1=-(iP (a+b)).2:=rfl
  have e2:(iP (a+(b+1))).2=(iP (a+b)).1:=rfl
  have e3:(iP (b+1)).1=-(iP b).2:=rfl
  have e4:(iP (b+1)).2=(iP b).1:=rfl
  rw [e1,e2,e3,e4,h.1,h.2]
  constructor<;>grind
theorem iP_bd:∀ n,(-1≤(iP n).1∧(iP n).1≤1)∧(-1≤(iP n).2∧(iP n).2≤1)
 | 0=>by show (-1≤(1:Rat)∧(1:Rat)≤1)∧(-1≤(0:Rat)∧(0:Rat)≤1); decide
 | n+1=>by
  have h:=iP_bd n
  show (-1≤-(iP n).2∧-(iP n).2≤1)∧(-1≤(iP n).1∧(iP n).1≤1)
  refine ⟨⟨by grind,by grind⟩,h.1⟩
def tC (x:Rat)(n:Nat):Rat:=(iP n).1*tE x n
def tS (x:Rat)(n:Nat):Rat:=(iP n).2*tE x n
def CS (x:Rat)(K:Nat):Rat:=Sm (tC x) K
def SN (x:Rat)(K:Nat):Rat:=Sm (tS x) K
theorem zrg {u t g:Rat}(h:-1≤u∧u≤1)(h1:-g≤t)(h2:t≤g):-g≤u*t∧u*t≤g:=by
 have m:=zqz h.1 h.2 h1 h2
 rw [Rat.one_mul] at m; exact m
theorem zrh {x a:Rat}(h1:-a≤x)(h2:x≤a)(n:Nat):-(tE a n)≤tC x n∧tC x n≤tE a n:=zrg (iP_bd n).1 (zr2 h1 h2 n).1 (zr2 h1 h2 n).2
theorem zri {x a:Rat}(h1:-a≤x)(h2:x≤a)(n:Nat):-(tE a n)≤tS x n∧tS x n≤tE a n:=zrg (iP_bd n).2 (zr2 h1 h2 n).1 (zr2 h1 h2 n).2
theorem zrj {f g:Nat→Rat}(h:∀ i,-(g i)≤f i∧f i≤g i)(K:Nat):∀ k,-(Sm g (K+k)-Sm g K)≤Sm f (K+k)-Sm f K∧Sm f (K+k)-Sm f K≤Sm g (K+k)-Sm g K
 | 0=>by show -(Sm g K-Sm g K)≤Sm f K-Sm f K∧Sm f K-Sm f K≤Sm g K-Sm g K; constructor<;>grind
 | k+1=>by
  have i:=zrj h K k
  have b:=h (K+k)
  have e1:Sm f (K+(k+1))=Sm f (K+k)+f (K+k):=rfl
  have e2:Sm g (K+(k+1))=Sm g (K+k)+g (K+k):=rfl
  rw [e1,e2]
  constructor<;>grind
def Tri (f g:Nat→Rat)(K:Nat):Rat:=Sm (fun i=>Sm (fun j=>f i*g j) (K-i)) K
theorem zrk (f g:Nat→Rat)(K:Nat):Sm f K*Sm g K-Tri f g K=Sm (fun i=>f i*(Sm g K-Sm g (K-i))) K:=by
 have q:Tri f g K=Sm (fun i=>f i*Sm g (K-i)) K:=zqa fun i _=>zr3 _ _ _
 have r:Sm (fun i=>f i*Sm g K) K=Sm (fun i=>f i*(Sm g K-Sm g (K-i))) K+Sm (fun i=>f i*Sm g (K-i)) K:=by
  rw [← zqb]
  exact zqa fun i _=>by grind
 rw [q,zqc,r]; grind
theorem zrl {f g F G:Nat→Rat}(hf:∀ i,-(F i)≤f i∧f i≤F i)(hg:∀ i,-(G i)≤g i∧g i≤G i)(K:Nat) :
  -(Sm F K*Sm G K-Tri F G K)≤Sm f K*Sm g K-Tri f g K∧Sm f K*Sm g K-Tri f g K≤Sm F K*Sm G K-Tri F G K:=by
 rw [zrk,zrk]
 refine zr1 fun i hi=>?_
 have s:=zrj hg (K-i) i
 rw [show K-i+i=K by omega] at s
 exact zqz (hf i).1 (hf i).2 s.1 s.2
theorem zrm (f g:Nat→Rat)(K:Nat):Tri f g K=Sm (fun n=>Sm (fun i=>f i*g (n-i)) (n+1)) K:=(zqh (fun i j=>f i*g j) K).symm
theorem zrn (f g:Nat→Rat):∀ n,Sm (fun i=>f i-g i) n=Sm f n-Sm g n
 | 0=>by show (0:Rat)=0-0; grind
 | n+1=>by
  show Sm (fun i=>f i-g i) n+(f n-g n)=Sm f n+f n-(Sm g n+g n)
  rw [zrn f g n]; grind
theorem zro (x y:Rat)(K:Nat):Tri (tE x) (tE y) K=EP (x+y) K:=(zqn x y K).symm
theorem zrp (x y:Rat)(K:Nat):CS (x+y) K=Tri (tC x) (tC y) K-Tri (tS x) (tS y) K:=by
 rw [zrm,zrm,← zrn]
 refine zqa fun n _=>?_
 rw [← zrn]
 unfold tC
 rw [zqm,← zr3]
 refine zqa fun i hi=>?_
 have a:=(zrf i (n-i)).1
 rw [show i+(n-i)=n by omega] at a
 rw [a]
 unfold tS
 grind
theorem zrq (x y:Rat)(K:Nat):SN (x+y) K=Tri (tC x) (tS y) K+Tri (tS x) (tC y) K:=by
 rw [zrm,zrm,← zqb]
 refine zqa fun n _=>?_
 rw [← zqb]
 unfold tS
 rw [zqm,← zr3]
 refine zqa fun i hi=>?_
 have a:=(zrf i (n-i)).2
 rw [show i+(n-i)=n by omega] at a
 rw [a]
 unfold tC
 grind
theorem zrr {a b:Rat}(a0:0≤a)(b0:0≤b){e:Rat}(he:0<e):∃ N,∀ K,N≤K→Sm (tE a) K*Sm (tE b) K-Tri (tE a) (tE b) K≤e:=by
 obtain ⟨N,h⟩:=zr7 (Rat.add_nonneg a0 b0) he
 refine ⟨N,fun K hK=>?_⟩
 have c:=h K hK (2*K)
 have d:Sm (tE a) K*Sm (tE b) K≤EP (a+b) (2*K):=(zqo a0 b0 K).2
 rw [zro]
 grind
theorem Lm.of_near {f g:Nat→Rat}(h:∀ e:Rat,0<e→∃ N,∀ K,N≤K→f K≤g K+e∧g K≤f K+e):Lm f g :=
 ⟨fun e he=>by obtain ⟨N,h⟩:=h e he; exact ⟨N,fun K hK=>(h K hK).1⟩,fun e he=>by obtain ⟨N,h⟩:=h e he; exact ⟨N,fun K hK=>(h K hK).2⟩⟩
theorem zrs (x y:Rat):Lm (CS (x+y)) (fun K=>CS x K*CS y K-SN x K*SN y K):=by
 obtain ⟨a,a0,a1,a2⟩:=zr9 x
 obtain ⟨b,b0,b1,b2⟩:=zr9 y
 refine Lm.of_near fun e he=>?_
 obtain ⟨N,h⟩:=zrr a0 b0 (zqx he)
 refine ⟨N,fun K hK=>?_⟩
 have c:=h K hK
 have z:=zqy e
 have f1:=zrl (zrh a1 a2) (zrh b1 b2) K
 have f2:=zrl (zri a1 a2) (zri b1 b2) K
 rw [zrp]
 unfold CS SN
 constructor<;>grind
theorem zrt (x y:Rat):Lm (SN (x+y)) (fun K=>CS x K*SN y K+SN x K*CS y K):=by
 obtain ⟨a,a0,a1,a2⟩:=zr9 x
 obtain ⟨b,b0,b1,b2⟩:=zr9 y
 refine Lm.of_near fun e he=>?_
 obtain ⟨N,h⟩:=zrr a0 b0 (zqx he)
 refine ⟨N,fun K hK=>?_⟩
 have c:=h K hK
 have z:=zqy e
 have f1:=zrl (zrh a1 a2) (zri b1 b2) K
 have f2:=zrl (zri a1 a2) (zrh b1 b2) K
 rw [zrq]
 unfold CS SN
 constructor<;>grind
theorem zru (x y:Rat){e:Rat}(he:0<e):∃ N,∀ K,N≤K→(CS (x+y) K≤CS x K*CS y K-SN x K*SN y K+e∧CS x K*CS y K-SN x K*SN y K≤CS (x+y) K+e)∧(SN (x+y) K≤CS x K*SN y K+SN x K*CS y K+e∧CS x K*SN y K+SN x K*CS y K≤SN (x+y) K+e):=by
 obtain ⟨N1,h1⟩:=(zrs x y).1 e he
 obtain ⟨N2,h2⟩:=(zrs x y).2 e he
 obtain ⟨N3,h3⟩:=(zrt x y).1 e he
 obtain ⟨N4,h4⟩:=(zrt x y).2 e he
 exact ⟨N1+N2+N3+N4,fun K hK=>⟨⟨h1 K (by omega),h2 K (by omega)⟩,h3 K (by omega),h4 K (by omega)⟩⟩
theorem zrv (x:Rat):∀ n,tC (-x) n=tC x n∧tS (-x) n=-(tS x n)
 | 0=>by
  show (1:Rat)*1=1*1∧(0:Rat)*1=-(0*1)
  constructor<;>grind
 | n+1=>by
  have h:=zrv x n
  unfold tC tS at h ⊢
  show -(iP n).2*(tE (-x) n*-x / (nx n:Rat))=-(iP n).2*(tE x n*x / (nx n:Rat))∧(iP n).1*(tE (-x) n*-x / (nx n:Rat))=-((iP n).1*(tE x n*x / (nx n:Rat)))
  rw [Rat.div_def,Rat.div_def]
  constructor<;>grind
theorem zrw (f:Nat→Rat):∀ n,Sm (fun i=>-(f i)) n=-(Sm f n)
 | 0=>by show (0:Rat)=-0; grind
 | n+1=>by
  show Sm (fun i=>-(f i)) n+-(f n)=-(Sm f n+f n)
  rw [zrw f n]; grind
theorem zrx (x:Rat)(K:Nat):CS (-x) K=CS x K:=zqa fun i _=>(zrv x i).1
theorem zry (x:Rat)(K:Nat):SN (-x) K=-(SN x K):=by
 unfold SN
 rw [← zrw]
 exact zqa fun i _=>(zrv x i).2
theorem zrz (x:Rat):∃ B,0<B∧Bn (CS x) B∧Bn (SN x) B:=by
 obtain ⟨a,a0,a1,a2⟩:=zr9 x
 obtain ⟨B,B0,hB⟩:=zr8 a0
 refine ⟨B,B0,⟨0,fun K _=>?_⟩,⟨0,fun K _=>?_⟩⟩
 ·have b:=zr1 (n:=K) fun i _=>zrh a1 a2 i
  have c:Sm (tE a) K≤B:=hB K
  unfold CS; constructor<;>grind
 ·have b:=zr1 (n:=K) fun i _=>zri a1 a2 i
  have c:Sm (tE a) K≤B:=hB K
  unfold SN; constructor<;>grind
theorem tE_0 (n:Nat):tE 0 (n+1)=0:=by
 show tE 0 n*0 / (nx n:Rat)=0
 rw [Rat.mul_zero,Rat.div_def,Rat.zero_mul]
theorem CS_zero:∀ K,1≤K→CS 0 K=1∧SN 0 K=0
 | 0,h=>absurd h (by omega)
 | 1,_=>by show (0:Rat)+1*1=1∧(0:Rat)+0*1=0; constructor<;>grind
 | K+2,_=>by
  have a:=CS_zero (K+1) (by omega)
  show CS 0 (K+1)+(iP (K+1)).1*tE 0 (K+1)=1∧SN 0 (K+1)+(iP (K+1)).2*tE 0 (K+1)=0
  rw [a.1,a.2,tE_0]
  constructor<;>grind
theorem zs0 (x:Rat):Lm (fun K=>CS x K*CS x K+SN x K*SN x K) (fun _=>1):=by
 have h:=zrs x (-x)
 rw [show x+-x=0 by grind] at h
 refine Lm.trans (Lm.of_eq (N:=0) fun K _=>?_) (h.symm.trans (Lm.of_eq (N:=1) fun K hK=>(CS_zero K hK).1))
 rw [zrx,zry]; grind
theorem zs1 (x:Rat):0≤x*x:=by
 rcases (Rat.le_total:0≤x∨x≤0) with h | h
 ·exact Rat.mul_nonneg h h
 ·have:=Rat.mul_nonneg (show 0≤-x by grind) (show 0≤-x by grind); grind
theorem zs2 {x e:Rat}(he:0<e)(h:x*x≤1+e):-(1+e)≤x∧x≤1+e:=by
 constructor
 ·refine Decidable.byContradiction fun hn=>?_
  have m:=Rat.mul_le_mul_of_nonneg_left (show 1+e≤-x by grind) (show 0≤-x by grind)
  have m2:=Rat.mul_le_mul_of_nonneg_right (show 1≤1+e by grind) (show 0≤-x by grind)
  grind
 ·refine Decidable.byContradiction fun hn=>?_
  have m:=Rat.mul_le_mul_of_nonneg_left (show 1+e≤x by grind) (show 0≤x by grind)
  have m2:=Rat.mul_le_mul_of_nonneg_right (show 1≤1+e by grind) (show 0≤x by grind)
  grind
theorem zs3 (x:Rat){e:Rat}(he:0<e):∃ N,∀ K,N≤K→(-(1+e)≤CS x K∧CS x K≤1+e)∧(-(1+e)≤SN x K∧SN x K≤1+e):=by
 obtain ⟨N,h⟩:=(zs0 x).1 e he
 refine ⟨N,fun K hK=>?_⟩
 have h:CS x K*CS x K+SN x K*SN x K≤1+e:=h K hK
 have a:=zs1 (CS x K)
 have b:=zs1 (SN x K)
 exact ⟨zs2 he (by grind),zs2 he (by grind)⟩
theorem zs4 {x a:Rat}(a0:0≤a)(h1:-a≤x)(h2:x≤a){n:Nat}(hn:2*a≤(nx n:Rat)){K:Nat}(hK:n+1≤K) :
  (CS x (n+1)-tE a n≤CS x K∧CS x K≤CS x (n+1)+tE a n)∧(SN x (n+1)-tE a n≤SN x K∧SN x K≤SN x (n+1)+tE a n):=by
 have t:=zqt a0 hn K
 have g1:=zrj (zrh h1 h2) (n+1) (K-(n+1))
 have g2:=zrj (zri h1 h2) (n+1) (K-(n+1))
 rw [show n+1+(K-(n+1))=K by omega] at g1 g2
 unfold EP at t
 unfold CS SN
 refine ⟨⟨?_,?_⟩,⟨?_,?_⟩⟩<;>grind
end Go.Proofs.YtcbihoojfakhdaaGreatDoor

namespace Go.Proofs.YtcbihoojfakhdaaGreatDoor
def ptPi:Int:=8710598741881011095307514925528767253835697869117002946683736815061430642517439960281687965396170617911066893946226934353316672095
def cQ:Rat:=dv ptPi (-431)
theorem CQ_num:(-eps≤CS cQ 96-tE cQ 95∧CS cQ 96+tE cQ 95≤eps)∧(1-eps≤SN cQ 96-tE cQ 95∧SN cQ 96+tE cQ 95≤1+eps) :=
 ⟨⟨of_decide_eq_true (by kernel_rfl),of_decide_eq_true (by kernel_rfl)⟩,of_decide_eq_true (by kernel_rfl),of_decide_eq_true (by kernel_rfl)⟩
theorem cQ_b:157≤100*cQ∧1000*cQ≤1571:=⟨of_decide_eq_true (by kernel_rfl),of_decide_eq_true (by kernel_rfl)⟩
theorem CQ {K:Nat}(hK:96≤K):(-eps≤CS cQ K∧CS cQ K≤eps)∧(-eps≤SN cQ K-1∧SN cQ K-1≤eps):=by
 have b:=cQ_b
 have t:=zs4 (x:=cQ) (a:=cQ) (by grind) (by grind) Rat.le_refl (n:=95) (Rat.le_trans (show 2*cQ≤96 by grind) (of_decide_eq_true (by kernel_rfl))) hK
 have n:=CQ_num
 refine ⟨⟨?_,?_⟩,⟨?_,?_⟩⟩<;>grind
theorem eps0:0<eps:=of_decide_eq_true (by kernel_rfl)
theorem rotN:∀ n:Nat,∃ N,∀ K,N≤K→(-(6*((n:Rat)*eps))≤CS ((n:Rat)*cQ) K-(iP n).1∧CS ((n:Rat)*cQ) K-(iP n).1≤6*((n:Rat)*eps))∧(-(6*((n:Rat)*eps))≤SN ((n:Rat)*cQ) K-(iP n).2∧SN ((n:Rat)*cQ) K-(iP n).2≤6*((n:Rat)*eps))
 | 0=>by
  refine ⟨1,fun K hK=>?_⟩
  have e:(((0:Nat):Nat):Rat)=0:=rfl
  rw [e,Rat.zero_mul,Rat.zero_mul,(CS_zero K hK).1,(CS_zero K hK).2]
  have e1:(iP 0).1=1:=rfl
  have e2:(iP 0).2=0:=rfl
  rw [e1,e2]
  refine ⟨⟨?_,?_⟩,⟨?_,?_⟩⟩<;>grind
 | n+1=>by
  obtain ⟨N1,h1⟩:=rotN n
  obtain ⟨N2,h2⟩:=zs3 ((n:Rat)*cQ) (e:=1) (by decide)
  have e0:=eps0
  obtain ⟨N3,hh⟩:=zru ((n:Rat)*cQ) cQ e0
  refine ⟨N1+N2+N3+96,fun K hK=>?_⟩
  have h1:=h1 K (by omega)
  have h2:=h2 K (by omega)
  obtain ⟨⟨h3,h4⟩,h5,h6⟩:=hh K (by omega)
  have q:=CQ (K:=K) (by omega)
  have c:((n+1:Nat):Rat)=(n:Rat)+1:=by rw [Rat.natCast_add]; rfl
  have cm:((n:Rat)+1)*cQ=(n:Rat)*cQ+cQ:=by grind
  have e1:(iP (n+1)).1=-(iP n).2:=rfl
  have e2:(iP (n+1)).2=(iP n).1:=rfl
  rw [c,cm,e1,e2]
  have n0:(0:Rat)≤(n:Rat)*eps:=Rat.mul_nonneg Rat.natCast_nonneg (Rat.le_of_lt e0)
  have d:((n:Rat)+1)*eps=(n:Rat)*eps+eps:=by grind
  rw [d]
  generalize (n:Rat)*eps=ne at *
  generalize CS ((n:Rat)*cQ+cQ) K=A' at *
  generalize SN ((n:Rat)*cQ+cQ) K=B' at *
  generalize CS ((n:Rat)*cQ) K=A at *
  generalize SN ((n:Rat)*cQ) K=B at *
  generalize CS cQ K=u at *
  generalize SN cQ K=v at *
  have m1:=zqz (P:=2) (a:=eps) (p:=A) (x:=u) (by grind) (by grind) q.1.1 q.1.2
  have m2:=zqz (P:=2) (a:=eps) (p:=B) (x:=v-1) (by grind) (by grind) q.2.1 q.2.2
  have m3:=zqz (P:=2) (a:=eps) (p:=A) (x:=v-1) (by grind) (by grind) q.2.1 q.2.2
  have m4:=zqz (P:=2) (a:=eps) (p:=B) (x:=u) (by grind) (by grind) q.1.1 q.1.2
  have r1:A*u-B*v=A*u-B*(v-1)-B:=by grind
  have r2:A*v+B*u=A*(v-1)+A+B*u:=by grind
  rw [r1] at h3 h4
  rw [r2] at h5 h6
  clear r1 r2 h2 q
  generalize A*u=x1 at *
  generalize B*(v-1)=x2 at *
  generalize A*(v-1)=x3 at *
  generalize B*u=x4 at *
  refine ⟨⟨?_,?_⟩,⟨?_,?_⟩⟩<;>grind
def iZ (k:Int):Rat × Rat:=if k%4=0 then (1,0) else if k%4=1 then (0,1) else if k%4=2 then (-1,0) else (0,-1)
theorem iZ_0 {k:Int}(h:k%4=0):iZ k=(1,0):=by unfold iZ; rw [if_pos h]
theorem iZ_1 {k:Int}(h:k%4=1):iZ k=(0,1):=by unfold iZ; rw [if_neg (by omega),if_pos h]
theorem iZ_2 {k:Int}(h:k%4=2):iZ k=(-1,0):=by unfold iZ; rw [if_neg (by omega),if_neg (by omega),if_pos h]
theorem iZ_3 {k:Int}(h:k%4=3):iZ k=(0,-1):=by unfold iZ; rw [if_neg (by omega),if_neg (by omega),if_neg (by omega)]
theorem r0n:-(0:Rat)=0:=by grind
theorem iP_Z:∀ n:Nat,iP n=iZ (n:Int)
 | 0=>rfl
 | n+1=>by
  have h:=iP_Z n
  have e:iP (n+1)=(-(iP n).2,(iP n).1):=rfl
  rw [e,h]
  have c:((n+1:Nat):Int)=(n:Int)+1:=rfl
  rw [c]
  rcases (show (n:Int)%4=0∨(n:Int)%4=1∨(n:Int)%4=2∨(n:Int)%4=3 by omega) with q | q | q | q
  ·rw [iZ_0 q,iZ_1 (by omega)]; show (-(0:Rat),(1:Rat))=_; rw [r0n]
  ·rw [iZ_1 q,iZ_2 (by omega)]
  ·rw [iZ_2 q,iZ_3 (by omega)]; show (-(0:Rat),(-1:Rat))=_; rw [r0n]
  ·rw [iZ_3 q,iZ_0 (by omega)]; show (-(-1:Rat),(0:Rat))=_; rw [show -(-1:Rat)=1 by grind]
theorem zs5 (k:Int):(iZ (-k)).1=(iZ k).1∧(iZ (-k)).2=-(iZ k).2:=by
 rcases (show k%4=0∨k%4=1∨k%4=2∨k%4=3 by omega) with q | q | q | q
 ·rw [iZ_0 q,iZ_0 (by omega)]; exact ⟨rfl,r0n.symm⟩
 ·rw [iZ_1 q,iZ_3 (by omega)]; exact ⟨rfl,rfl⟩
 ·rw [iZ_2 q,iZ_2 (by omega)]; exact ⟨rfl,r0n.symm⟩
 ·rw [iZ_3 q,iZ_1 (by omega)]; exact ⟨rfl,by show (1:Rat)=-(-1:Rat); grind⟩
theorem rotZ (k:Int){M:Nat}(hk:k.natAbs≤M):∃ N,∀ K,N≤K→(-(6*((M:Rat)*eps))≤CS ((k:Rat)*cQ) K-(iZ k).1∧CS ((k:Rat)*cQ) K-(iZ k).1≤6*((M:Rat)*eps))∧(-(6*((M:Rat)*eps))≤SN ((k:Rat)*cQ) K-(iZ k).2∧SN ((k:Rat)*cQ) K-(iZ k).2≤6*((M:Rat)*eps)):=by
 have e0:=Rat.le_of_lt eps0
 rcases (show 0≤k∨k≤0 by omega) with h | h
 ·obtain ⟨n,rfl⟩:∃ n:Nat,k=(n:Int):=⟨k.toNat,by omega⟩
  obtain ⟨N,a⟩:=rotN n
  refine ⟨N,fun K hK=>?_⟩
  have a:=a K hK
  have le:(n:Rat)≤(M:Rat):=Rat.natCast_le_natCast.2 (by omega)
  have m:=Rat.mul_le_mul_of_nonneg_right le e0
  have c:(((n:Int)):Rat)=(n:Rat):=rfl
  rw [c,← iP_Z]
  refine ⟨⟨?_,?_⟩,⟨?_,?_⟩⟩<;>grind
 ·obtain ⟨n,rfl⟩:∃ n:Nat,k=-(n:Int):=⟨(-k).toNat,by omega⟩
  obtain ⟨N,a⟩:=rotN n
  refine ⟨N,fun K hK=>?_⟩
  have a:=a K hK
  have le:(n:Rat)≤(M:Rat):=Rat.natCast_le_natCast.2 (by omega)
  have m:=Rat.mul_le_mul_of_nonneg_right le e0
  have c:((-(n:Int):Int):Rat)*cQ=-((n:Rat)*cQ):=by
   rw [Rat.intCast_neg]
   show -(n:Rat)*cQ=_
   rw [Rat.neg_mul]
  have z:=zs5 (n:Int)
  rw [← iP_Z] at z
  rw [c,zrx,zry,z.1,z.2]
  refine ⟨⟨?_,?_⟩,⟨?_,?_⟩⟩<;>grind
def qS (k:Int)(c s:Rat):Rat:=s*(iZ k).1+c*(iZ k).2
def qC (k:Int)(c s:Rat):Rat:=c*(iZ k).1-s*(iZ k).2
def qerr (M:Nat):Rat:=25*((M:Rat)*eps)
theorem zs6 (d:Rat)(k:Int){M:Nat}(hk:k.natAbs≤M)(hM:1≤M):∃ N,∀ K,N≤K →
  (SN d K≤qS k (CS (d-(k:Rat)*cQ) K) (SN (d-(k:Rat)*cQ) K)+qerr M∧qS k (CS (d-(k:Rat)*cQ) K) (SN (d-(k:Rat)*cQ) K)≤SN d K+qerr M) ∧
  (CS d K≤qC k (CS (d-(k:Rat)*cQ) K) (SN (d-(k:Rat)*cQ) K)+qerr M∧qC k (CS (d-(k:Rat)*cQ) K) (SN (d-(k:Rat)*cQ) K)≤CS d K+qerr M):=by
 have e0:=eps0
 have hd:d-(k:Rat)*cQ+(k:Rat)*cQ=d:=by grind
 obtain ⟨N1,hh⟩:=zru (d-(k:Rat)*cQ) ((k:Rat)*cQ) e0
 rw [hd] at hh
 obtain ⟨N5,h5⟩:=rotZ k hk
 obtain ⟨N6,h6⟩:=zs3 (d-(k:Rat)*cQ) (e:=1) (by decide)
 refine ⟨N1+N5+N6,fun K hK=>?_⟩
 obtain ⟨⟨h1,h2⟩,h3,h4⟩:=hh K (by omega)
 have h5:=h5 K (by omega)
 have h6:=h6 K (by omega)
 have M1:(1:Rat)≤(M:Rat):=Rat.natCast_le_natCast.2 hM
 have me:=Rat.mul_le_mul_of_nonneg_right M1 (Rat.le_of_lt e0)
 unfold qS qC qerr
 generalize (M:Rat)*eps=E at *
 generalize CS (d-(k:Rat)*cQ) K=c at *
 generalize SN (d-(k:Rat)*cQ) K=s at *
 generalize CS ((k:Rat)*cQ) K=u at *
 generalize SN ((k:Rat)*cQ) K=v at *
 generalize (iZ k).1=a at *
 generalize (iZ k).2=b at *
 generalize CS d K=C at *
 generalize SN d K=S at *
 have m1:=zqz (P:=2) (a:=6*E) (p:=c) (x:=u-a) (by grind) (by grind) h5.1.1 h5.1.2
 have m2:=zqz (P:=2) (a:=6*E) (p:=c) (x:=v-b) (by grind) (by grind) h5.2.1 h5.2.2
 have m3:=zqz (P:=2) (a:=6*E) (p:=s) (x:=u-a) (by grind) (by grind) h5.1.1 h5.1.2
 have m4:=zqz (P:=2) (a:=6*E) (p:=s) (x:=v-b) (by grind) (by grind) h5.2.1 h5.2.2
 have r1:c*u-s*v=c*(u-a)+c*a-(s*(v-b)+s*b):=by grind
 have r2:c*v+s*u=c*(v-b)+c*b+(s*(u-a)+s*a):=by grind
 rw [r1] at h1 h2
 rw [r2] at h3 h4
 clear r1 r2 h5 h6
 generalize c*(u-a)=x1 at *
 generalize c*(v-b)=x2 at *
 generalize s*(u-a)=x3 at *
 generalize s*(v-b)=x4 at *
 refine ⟨⟨?_,?_⟩,⟨?_,?_⟩⟩<;>grind
theorem zs7 {u:Rat}(h0:0≤u)(h1:u≤1){K:Nat}(hK:4≤K):0≤SN u K∧SN u K≤u:=by
 have t:=(zs4 (x:=u) (a:=u) h0 (by grind) Rat.le_refl (n:=3) (Rat.le_trans (show 2*u≤4 by grind) (of_decide_eq_true (by kernel_rfl))) hK).2
 have e1:=zqk u 0
 have e2:=zqk u 1
 have e3:=zqk u 2
 have z0:tE u 0=1:=rfl
 have c0:(nx 0:Rat)=1:=rfl
 have c1:(nx 1:Rat)=2:=rfl
 have c2:(nx 2:Rat)=3:=rfl
 have s:SN u (3+1)=0+0*tE u 0+1*tE u 1+-0*tE u 2+-1*tE u 3:=rfl
 rw [s] at t
 rw [z0,c0] at e1
 rw [c1] at e2
 rw [c2] at e3
 have t1:tE u 1=u:=by grind
 rw [t1] at e2 t
 have m:=Rat.mul_le_mul_of_nonneg_left h1 h0
 have m2:=Rat.mul_le_mul_of_nonneg_left (show u*u≤1 by grind) h0
 have t3:6*tE u 3=u*(u*u):=by grind
 have p3:=zql h0 3
 constructor<;>grind
theorem zs8 {u:Rat}(h0:0≤u)(h1:u≤1){K:Nat}(hK:3≤K):1-u*u≤CS u K∧CS u K≤1:=by
 have t:=(zs4 (x:=u) (a:=u) h0 (by grind) Rat.le_refl (n:=2) (Rat.le_trans (show 2*u≤3 by grind) (of_decide_eq_true (by kernel_rfl))) hK).1
 have e1:=zqk u 0
 have e2:=zqk u 1
 have z0:tE u 0=1:=rfl
 have c0:(nx 0:Rat)=1:=rfl
 have c1:(nx 1:Rat)=2:=rfl
 have s:CS u (2+1)=0+1*tE u 0+-0*tE u 1+-1*tE u 2:=rfl
 rw [s] at t
 rw [z0,c0] at e1
 rw [c1] at e2
 rw [z0] at t
 have t1:tE u 1=u:=by grind
 rw [t1] at e2 t
 constructor<;>grind
theorem lip {x h:Rat}(h0:0≤h)(h2:h≤2){e:Rat}(he:0<e):∃ N,∀ K,N≤K →
  (-(h+e)≤SN (x+h) K-SN x K∧SN (x+h) K-SN x K≤h+e)∧(-(h+e)≤CS (x+h) K-CS x K∧CS (x+h) K-CS x K≤h+e):=by
 have hh:=zqy h
 have hp:h / 2+h / 2=h:=hh
 generalize hu:h / 2=u at *
 have e8:0<e*(1 / 8):=Rat.mul_pos he r8.1
 obtain ⟨N1,p1⟩:=zru (x+u) u e8
 obtain ⟨N2,p2⟩:=zru (x+u) (-u) e8
 rw [show x+u+u=x+h by grind] at p1
 rw [show x+u+-u=x by grind] at p2
 obtain ⟨N9,a9⟩:=zs3 (x+u) e8
 refine ⟨N1+N2+N9+4,fun K hK=>?_⟩
 obtain ⟨⟨a5,a6⟩,a1,a2⟩:=p1 K (by omega)
 obtain ⟨⟨a7,a8⟩,a3,a4⟩:=p2 K (by omega)
 have a9:=a9 K (by omega)
 have b:=zs7 (u:=u) (by grind) (by grind) (K:=K) (by omega)
 rw [zrx,zry] at a3 a4 a7 a8
 have he8:e=8*(e*(1 / 8)):=by grind
 generalize e*(1 / 8)=d at *
 generalize CS (x+u) K=c at *
 generalize SN (x+u) K=s at *
 generalize CS u K=p at *
 generalize SN u K=q at *
 have m1:=zqz (P:=1+d) (a:=u) (p:=c) (x:=q) a9.1.1 a9.1.2 (by grind) b.2
 have m2:=zqz (P:=1+d) (a:=u) (p:=s) (x:=q) a9.2.1 a9.2.2 (by grind) b.2
 have u1:u≤1:=by grind
 have m3:=Rat.mul_le_mul_of_nonneg_left u1 (Rat.le_of_lt e8)
 have r:(1+d)*u=u+d*u:=by grind
 rw [r] at m1 m2
 rw [Rat.mul_neg] at a3 a4 a7 a8
 clear a9 b
 generalize c*q=x1 at *
 generalize s*q=x2 at *
 generalize s*p=x3 at *
 generalize c*p=x4 at *
 generalize d*u=x5 at *
 refine ⟨⟨?_,?_⟩,⟨?_,?_⟩⟩<;>grind
end Go.Proofs.YtcbihoojfakhdaaGreatDoor

namespace Go.Proofs.YtcbihoojfakhdaaGreatDoor
theorem fl2' {A T n:Int}(hT:0<T)(hn:0<n):A / T / n*(T*n)≤A:=by
 rw [Int.ediv_ediv_of_nonneg (Int.le_of_lt hT)]
 have p:=Int.mul_pos hT hn
 exact Int.ediv_mul_le _ (by omega)
theorem ce2' {B T n:Int}(hT:0<T)(hn:0<n):B≤-(-(-(-B / T)) / n)*(T*n):=by
 have f:=fl2' (A:=-B) hT hn
 rw [Int.neg_neg]
 generalize -B / T / n=g at *
 have e1:-g*(T*n)=-(g*(T*n)):=Int.neg_mul _ _
 omega
def mT (i j:Nat):Int:=(((i+2*j:Nat):Int)+1)*(((i+2*j:Nat):Int)+2)
theorem zs9 (i j:Nat):2≤mT i j:=by
 unfold mT
 have:=Int.mul_le_mul (show (1:Int)≤((i+2*j:Nat):Int)+1 by omega) (show (2:Int)≤((i+2*j:Nat):Int)+2 by omega) (by omega) (by omega)
 omega
theorem zsa {i j:Nat}(hi:i≤1)(hj:j≤10000):mT i j<4294967296:=by
 unfold mT
 have:=Int.mul_le_mul (show ((i+2*j:Nat):Int)+1≤20002 by omega) (show ((i+2*j:Nat):Int)+2≤20003 by omega) (by omega) (by omega)
 omega
def ty (T q1 q2 a b:Int)(i:Nat):Nat→Int × Int
 | 0=>(a,b)
 | j+1=>(ptLo ((ty T q1 q2 a b i j).1*q1 / T) (mT i j),ptHi (-(-((ty T q1 q2 a b i j).2*q2) / T)) (mT i j))
structure TyH (T q1 q2 a b:Int):Prop where
 hT:16≤T
 q0:0≤q1
 q12:q1≤q2
 qT:q2≤T
 qw:q2-q1≤1
 a0:0≤a
 ab:a≤b
 bT:b≤T
 aw:b-a≤1
theorem zsb {T q1 q2 p1 p2 m:Int}(hT:16≤T)(q0:0≤q1)(q12:q1≤q2)(qT:q2≤T)(qw:q2-q1≤1)(m2:2≤m)(p0:0≤p1)(p12:p1≤p2)(pT:p2≤T)(pw:p2-p1≤8) :
  (0≤p1*q1 / T∧p1*q1 / T≤T)∧(0≤-(-(p2*q2) / T)∧-(-(p2*q2) / T)≤T)∧0≤ptLo (p1*q1 / T) m∧ptLo (p1*q1 / T) m≤ptHi (-(-(p2*q2) / T)) m∧ptHi (-(-(p2*q2) / T)) m≤T ∧
  ptHi (-(-(p2*q2) / T)) m-ptLo (p1*q1 / T) m≤8∧2*ptHi (-(-(p2*q2) / T)) m≤p2+1∧ptLo (p1*q1 / T) m*(T*m)≤p1*q1∧p2*q2≤ptHi (-(-(p2*q2) / T)) m*(T*m):=by
 have T0:0<T:=by omega
 have m0:0<m:=by omega
 have A0:=Int.mul_nonneg p0 q0
 have B0:=Int.mul_nonneg (show 0≤p2 by omega) (show 0≤q2 by omega)
 have k1:=Int.mul_le_mul_of_nonneg_right pw (show 0≤q2 by omega)
 have k2:=Int.mul_le_mul_of_nonneg_left qw p0
 have k3:=Int.mul_le_mul_of_nonneg_left qT (show 0≤p2 by omega)
 have k4:=Int.mul_le_mul_of_nonneg_right p12 q0
 have k5:=Int.mul_le_mul_of_nonneg_left q12 (show 0≤p2 by omega)
 rw [Int.sub_mul] at k1
 rw [Int.mul_sub,Int.mul_one] at k2
 have e1:p1*q1≤p2*q2:=Int.le_trans k4 k5
 have e2:p2*q2-p1*q1≤9*T:=by omega
 have f0:0≤p1*q1 / T:=Int.ediv_nonneg A0 (Int.le_of_lt T0)
 have c0:0≤-(-(p2*q2) / T):=by have:=Int.ediv_le_ediv T0 (show -(p2*q2)≤0 by omega); rw [Int.zero_ediv] at this; omega
 rw [zox f0 m0,zoy c0 m0]
 have g1:=fl2' (A:=p1*q1) T0 m0
 have g2:=ce2' (B:=p2*q2) T0 m0
 clear k1 k2 k4 k5
 have a1:=Int.ediv_mul_le (p1*q1) (show T≠0 by omega)
 have a2:=Int.lt_ediv_add_one_mul_self (p1*q1) T0
 have b1:=Int.ediv_mul_le (-(p2*q2)) (show T≠0 by omega)
 have b2:=Int.lt_ediv_add_one_mul_self (-(p2*q2)) T0
 generalize hP1:p1*q1 / T=P1 at *
 generalize hP2:-(p2*q2) / T=P2 at *
 -- P2 is the negative of the ceiling
 have u1:-P2≤p2:=by
  refine Decidable.byContradiction fun hn=>?_
  have m:=Int.mul_le_mul_of_nonneg_right (show P2+1≤-p2 by omega) (Int.le_of_lt T0)
  rw [Int.neg_mul] at m
  omega
 have u2:P1≤-P2:=by
  refine Decidable.byContradiction fun hn=>?_
  have m:=Int.mul_le_mul_of_nonneg_right (show 1≤P1+P2 by omega) (Int.le_of_lt T0)
  rw [Int.add_mul] at m
  omega
 have u3:-P2-P1≤10:=by
  refine Decidable.byContradiction fun hn=>?_
  have m:=Int.mul_le_mul_of_nonneg_right (show P1+1+(P2+1)≤-9 by omega) (Int.le_of_lt T0)
  rw [Int.add_mul] at m
  omega
 have z1:=Int.ediv_mul_le P1 (show m≠0 by omega)
 have z2:=Int.lt_ediv_add_one_mul_self P1 m0
 have y1:=Int.ediv_mul_le (- -P2) (show m≠0 by omega)
 have y2:=Int.lt_ediv_add_one_mul_self (- -P2) m0
 have x0:0≤P1 / m:=Int.ediv_nonneg f0 (by omega)
 generalize P1 / m=d1 at *
 generalize - -P2 / m=d2 at *
 clear a1 a2 b1 b2
 have w1:d1≤-d2:=by
  refine Decidable.byContradiction fun hn=>?_
  have k:=Int.mul_le_mul_of_nonneg_right (show 1≤d1+d2 by omega) (Int.le_of_lt m0)
  rw [Int.add_mul] at k
  omega
 have w2:-d2-d1≤8:=by
  refine Decidable.byContradiction fun hn=>?_
  have k:=Int.mul_le_mul_of_nonneg_right (show d1+1+(d2+1)≤-7 by omega) (Int.le_of_lt m0)
  rw [Int.add_mul] at k
  omega
 have w3:2*-d2≤p2+1:=by
  by_cases h:-d2≤0
  ·omega
  ·have k:=Int.mul_le_mul_of_nonneg_left m2 (show 0≤-d2-1 by omega)
   have k':(-d2-1)*m=-((d2+1)*m):=by rw [← Int.neg_mul]; congr 1; omega
   omega
 refine ⟨⟨f0,by omega⟩,⟨c0,by omega⟩,x0,w1,by omega,w2,w3,g1,g2⟩
theorem zsc {T q1 q2 a b:Int}(h:TyH T q1 q2 a b)(i:Nat):∀ j,0≤(ty T q1 q2 a b i j).1∧(ty T q1 q2 a b i j).1≤(ty T q1 q2 a b i j).2∧(ty T q1 q2 a b i j).2≤T∧(ty T q1 q2 a b i j).2-(ty T q1 q2 a b i j).1≤8
 | 0=>by
  have:=h.aw
  exact ⟨h.a0,h.ab,h.bT,show b-a≤8 by omega⟩
 | j+1=>by
  obtain ⟨a1,a2,a3,a4⟩:=zsc h i j
  have s:=zsb h.hT h.q0 h.q12 h.qT h.qw (zs9 i j) a1 a2 a3 a4
  exact ⟨s.2.2.1,s.2.2.2.1,s.2.2.2.2.1,s.2.2.2.2.2.1⟩
theorem zsd {T q1 q2 a b:Int}(h:TyH T q1 q2 a b)(i j:Nat) :
  (0≤(ty T q1 q2 a b i j).1*q1 / T∧(ty T q1 q2 a b i j).1*q1 / T≤T)∧(0≤-(-((ty T q1 q2 a b i j).2*q2) / T)∧-(-((ty T q1 q2 a b i j).2*q2) / T)≤T) ∧
  2*(ty T q1 q2 a b i (j+1)).2≤(ty T q1 q2 a b i j).2+1∧(ty T q1 q2 a b i (j+1)).1*(T*mT i j)≤(ty T q1 q2 a b i j).1*q1∧(ty T q1 q2 a b i j).2*q2≤(ty T q1 q2 a b i (j+1)).2*(T*mT i j):=by
 obtain ⟨a1,a2,a3,a4⟩:=zsc h i j
 have s:=zsb h.hT h.q0 h.q12 h.qT h.qw (zs9 i j) a1 a2 a3 a4
 exact ⟨s.1,s.2.1,s.2.2.2.2.2.2.1,s.2.2.2.2.2.2.2.1,s.2.2.2.2.2.2.2.2⟩
theorem zse {t:Nat}{q1 q2 a b:Int}(h:TyH (2^t) q1 q2 a b)(i:Nat):∃ n,n≤t∧(ty (2^t) q1 q2 a b i n).2<8∧∀ j,j<n→¬ (ty (2^t) q1 q2 a b i j).2<8:=by
 have dec:∀ j,j≤t→(ty (2^t) q1 q2 a b i j).2≤2^(t-j)+1:=by
  intro j
  induction j with
  | zero =>
   intro _
   have:=h.bT
   show b≤2^(t-0)+1
   rw [Nat.sub_zero]; omega
  | succ j ih =>
   intro hj
   have a:=ih (by omega)
   have n:=(zsd h i j).2.2.1
   have p:(2:Int)^(t-j)=2*2^(t-(j+1)):=by rw [show t-j=(t-(j+1))+1 by omega,Int.pow_succ,Int.mul_comm]
   omega
 have e:=dec t (Nat.le_refl _)
 rw [Nat.sub_self] at e
 have e2:(2:Int)^0=1:=rfl
 obtain ⟨n,n1,n2,n3⟩:=zow (P:=fun j=>(ty (2^t) q1 q2 a b i j).2<8) (n:=t) (by rw [e2] at e; omega)
 exact ⟨n,n1,n2,n3⟩
theorem zsf {T q1 q2 a b:Int}(h:TyH T q1 q2 a b){i:Nat}{X:Rat}(hq1:(q1:Rat)≤X*X*(T:Rat))(hq2:X*X*(T:Rat)≤(q2:Rat))(ha:(a:Rat)≤tE X i*(T:Rat))(hb:tE X i*(T:Rat)≤(b:Rat)) :
  ∀ j,(((ty T q1 q2 a b i j).1:Int):Rat)≤tE X (i+2*j)*(T:Rat)∧tE X (i+2*j)*(T:Rat)≤(((ty T q1 q2 a b i j).2:Int):Rat)
 | 0=>⟨ha,hb⟩
 | j+1=>by
  have p:=zsf h hq1 hq2 ha hb j
  obtain ⟨f1,f2,f3,f4⟩:=zsc h i j
  obtain ⟨_,_,_,n1,n2⟩:=zsd h i j
  have T0:(0:Rat)<(T:Rat):=Rat.intCast_pos.2 (by have:=h.hT; omega)
  have m0:(0:Rat)<(mT i j:Rat):=Rat.intCast_pos.2 (by have:=zs9 i j; omega)
  have t1:=zqk X (i+2*j)
  have t2:=zqk X (i+2*j+1)
  have me:(mT i j:Rat)=(nx (i+2*j):Rat)*(nx (i+2*j+1):Rat):=by
   unfold mT nx
   rw [Rat.intCast_mul]
   congr 2
  have key:tE X (i+2*(j+1))*(mT i j:Rat)=tE X (i+2*j)*(X*X):=by
   rw [me,show i+2*(j+1)=i+2*j+1+1 by omega]
   grind
  have n1:=Rat.intCast_le_intCast.2 n1
  have n2:=Rat.intCast_le_intCast.2 n2
  simp only [Rat.intCast_mul] at n1 n2
  have f1:(0:Rat)≤(((ty T q1 q2 a b i j).1:Int):Rat):=Rat.intCast_nonneg.2 f1
  have f2:(0:Rat)≤(((ty T q1 q2 a b i j).2:Int):Rat):=Rat.intCast_nonneg.2 (by omega)
  have q0:(0:Rat)≤(q1:Rat):=Rat.intCast_nonneg.2 h.q0
  have q0':(0:Rat)≤X*X*(T:Rat):=Rat.le_trans q0 hq1
  have Tm:=Rat.mul_pos T0 m0
  have m1:=Rat.mul_le_mul_of_nonneg_left hq1 f1
  have m2:=Rat.mul_le_mul_of_nonneg_right p.1 q0'
  have m3:=Rat.mul_le_mul_of_nonneg_left hq2 f2
  have m4:=Rat.mul_le_mul_of_nonneg_right p.2 q0'
  have e:tE X (i+2*(j+1))*(T:Rat)*((T:Rat)*(mT i j:Rat))=tE X (i+2*j)*(T:Rat)*(X*X*(T:Rat)):=by
   have:tE X (i+2*(j+1))*(T:Rat)*((T:Rat)*(mT i j:Rat))=tE X (i+2*(j+1))*(mT i j:Rat)*((T:Rat)*(T:Rat)):=by grind
   rw [this,key]; grind
  constructor
  ·refine Rat.le_of_mul_le_mul_right (c:=(T:Rat)*(mT i j:Rat)) ?_ Tm
   rw [e]; exact Rat.le_trans n1 (Rat.le_trans m1 m2)
  ·refine Rat.le_of_mul_le_mul_right (c:=(T:Rat)*(mT i j:Rat)) ?_ Tm
   rw [e]; exact Rat.le_trans m4 (Rat.le_trans m3 n2)
def tyA (p1 p2:Nat→Int):Nat→Int
 | 0=>p1 0
 | j+1=>if j%2=0 then tyA p1 p2 j+-(p2 (j+1)) else tyA p1 p2 j+p1 (j+1)
def tyB (p1 p2:Nat→Int):Nat→Int
 | 0=>p2 0
 | j+1=>if j%2=0 then tyB p1 p2 j+-(p1 (j+1)) else tyB p1 p2 j+p2 (j+1)
def aS (t:Nat→Rat):Nat→Rat
 | 0=>t 0
 | j+1=>if j%2=0 then aS t j-t (j+1) else aS t j+t (j+1)
theorem zsg {p1 p2:Nat→Int}{t:Nat→Rat}{T:Rat}(h:∀ j,(p1 j:Rat)≤t j*T∧t j*T≤(p2 j:Rat)):∀ j,((tyA p1 p2 j:Int):Rat)≤aS t j*T∧aS t j*T≤((tyB p1 p2 j:Int):Rat)
 | 0=>h 0
 | j+1=>by
  have a:=zsg h j
  have b:=h (j+1)
  unfold tyA tyB aS
  by_cases q:j%2=0
  ·rw [if_pos q,if_pos q,if_pos q,Rat.intCast_add,Rat.intCast_add,Rat.intCast_neg,Rat.intCast_neg]
   constructor<;>grind
  ·rw [if_neg q,if_neg q,if_neg q,Rat.intCast_add,Rat.intCast_add]
   constructor<;>grind
theorem zsh {p1 p2:Nat→Int}{T:Int}(h:∀ j,0≤p1 j∧p1 j≤p2 j∧p2 j≤T∧p2 j-p1 j≤8):∀ j:Nat,((-(((j:Int)+1)*T)≤tyA p1 p2 j∧tyA p1 p2 j≤((j:Int)+1)*T)∧-(((j:Int)+1)*T)≤tyB p1 p2 j∧tyB p1 p2 j≤((j:Int)+1)*T)∧tyA p1 p2 j≤tyB p1 p2 j∧tyB p1 p2 j-tyA p1 p2 j≤8*((j:Int)+1)
 | 0=>by
  have a:=h 0
  show ((-(((0:Int)+1)*T)≤p1 0∧p1 0≤((0:Int)+1)*T)∧-(((0:Int)+1)*T)≤p2 0∧p2 0≤((0:Int)+1)*T)∧p1 0≤p2 0∧p2 0-p1 0≤8*((0:Int)+1)
  omega
 | j+1=>by
  have a:=zsh h j
  have b:=h (j+1)
  have e:(((j+1:Nat):Int)+1)*T=((j:Int)+1)*T+T:=by
   rw [show ((j+1:Nat):Int)=(j:Int)+1 from rfl,Int.add_mul _ 1 T,Int.one_mul]
  rw [e]
  have e2:((j+1:Nat):Int)=(j:Int)+1:=rfl
  unfold tyA tyB
  by_cases q:j%2=0
  ·rw [if_pos q,if_pos q,e2]; omega
  ·rw [if_neg q,if_neg q,e2]; omega
def sg (l:Nat):Rat:=if l%2=0 then 1 else -1
theorem zsi (l:Nat):sg (l+1)=-(sg l):=by
 unfold sg
 by_cases h:l%2=0
 ·rw [if_pos h,if_neg (by omega)]
 ·rw [if_neg h,if_pos (by omega)]; grind
theorem iP_even:∀ l,(iP (2*l)).1=sg l∧(iP (2*l)).2=0
 | 0=>⟨rfl,rfl⟩
 | l+1=>by
  have h:=iP_even l
  have e1:(iP (2*(l+1))).1=-(iP (2*l)).1:=rfl
  have e2:(iP (2*(l+1))).2=-(iP (2*l)).2:=rfl
  rw [e1,e2,h.1,h.2,zsi]
  exact ⟨rfl,r0n⟩
theorem zsj (l:Nat):(iP (2*l+1)).1=0∧(iP (2*l+1)).2=sg l:=by
 have h:=iP_even l
 have e1:(iP (2*l+1)).1=-(iP (2*l)).2:=rfl
 have e2:(iP (2*l+1)).2=(iP (2*l)).1:=rfl
 rw [e1,e2,h.1,h.2]
 exact ⟨r0n,rfl⟩
theorem zsk (X:Rat):∀ j,aS (fun l=>tE X (0+2*l)) j=CS X (2*j+1)
 | 0=>by
  show tE X 0=0+1*tE X 0
  grind
 | j+1=>by
  have h:=zsk X j
  have e:CS X (2*(j+1)+1)=CS X (2*j+1)+(iP (2*j+1)).1*tE X (2*j+1)+(iP (2*(j+1))).1*tE X (2*(j+1)):=rfl
  rw [e,(zsj j).1,(iP_even (j+1)).1,zsi,← h]
  unfold sg
  show (if j%2=0 then aS (fun l=>tE X (0+2*l)) j-tE X (0+2*(j+1)) else aS (fun l=>tE X (0+2*l)) j+tE X (0+2*(j+1)))=_
  rw [show 0+2*(j+1)=2*(j+1) by omega]
  by_cases q:j%2=0
  ·rw [if_pos q,if_pos q]; grind
  ·rw [if_neg q,if_neg q]; grind
theorem zsl (X:Rat):∀ j,aS (fun l=>tE X (1+2*l)) j=SN X (2*j+2)
 | 0=>by
  show tE X 1=0+0*tE X 0+1*tE X 1
  grind
 | j+1=>by
  have h:=zsl X j
  have e:SN X (2*(j+1)+2)=SN X (2*j+2)+(iP (2*(j+1))).2*tE X (2*(j+1))+(iP (2*(j+1)+1)).2*tE X (2*(j+1)+1):=rfl
  rw [e,(zsj (j+1)).2,(iP_even (j+1)).2,zsi,← h]
  unfold sg
  show (if j%2=0 then aS (fun l=>tE X (1+2*l)) j-tE X (1+2*(j+1)) else aS (fun l=>tE X (1+2*l)) j+tE X (1+2*(j+1)))=_
  rw [show 1+2*(j+1)=2*(j+1)+1 by omega]
  by_cases q:j%2=0
  ·rw [if_pos q,if_pos q]; grind
  ·rw [if_neg q,if_neg q]; grind
theorem zsm {T q1 q2:Int}(h:TyH T q1 q2 T T){X:Rat}(X0:0≤X)(X1:X≤1)(hq1:(q1:Rat)≤X*X*(T:Rat))(hq2:X*X*(T:Rat)≤(q2:Rat)){n:Nat}(hn:1≤n){K:Nat}(hK:2*n+1≤K) :
  ((tyA (fun j=>(ty T q1 q2 T T 0 j).1) (fun j=>(ty T q1 q2 T T 0 j).2) n-(ty T q1 q2 T T 0 n).2:Int):Rat)≤CS X K*(T:Rat)∧CS X K*(T:Rat)≤((tyB (fun j=>(ty T q1 q2 T T 0 j).1) (fun j=>(ty T q1 q2 T T 0 j).2) n+(ty T q1 q2 T T 0 n).2:Int):Rat):=by
 have T0:(0:Rat)<(T:Rat):=Rat.intCast_pos.2 (by have:=h.hT; omega)
 have one:tE X 0=1:=rfl
 have e:=zsf h (i:=0) hq1 hq2 (by rw [one,Rat.one_mul]; exact Rat.le_refl) (by rw [one,Rat.one_mul]; exact Rat.le_refl)
 have s:=zsg e n
 rw [zsk] at s
 have en:=(e n).2
 rw [show 0+2*n=2*n by omega] at en
 have t:=(zs4 (x:=X) (a:=X) X0 (by grind) Rat.le_refl (n:=2*n) (Rat.le_trans (show 2*X≤2 by grind) (show (2:Rat)≤(nx (2*n):Rat) from zqs (a:=1) (by omega))) hK).1
 have m1:=Rat.mul_le_mul_of_nonneg_right t.1 (Rat.le_of_lt T0)
 have m2:=Rat.mul_le_mul_of_nonneg_right t.2 (Rat.le_of_lt T0)
 rw [Rat.intCast_sub,Rat.intCast_add]
 constructor<;>grind
theorem zsn {T q1 q2 x:Int}(h:TyH T q1 q2 x x){X:Rat}(X0:0≤X)(X1:X≤1)(hx:(x:Rat)=X*(T:Rat))(hq1:(q1:Rat)≤X*X*(T:Rat))(hq2:X*X*(T:Rat)≤(q2:Rat)){n:Nat}{K:Nat}(hK:2*n+2≤K) :
  ((tyA (fun j=>(ty T q1 q2 x x 1 j).1) (fun j=>(ty T q1 q2 x x 1 j).2) n-(ty T q1 q2 x x 1 n).2:Int):Rat)≤SN X K*(T:Rat)∧SN X K*(T:Rat)≤((tyB (fun j=>(ty T q1 q2 x x 1 j).1) (fun j=>(ty T q1 q2 x x 1 j).2) n+(ty T q1 q2 x x 1 n).2:Int):Rat):=by
 have T0:(0:Rat)<(T:Rat):=Rat.intCast_pos.2 (by have:=h.hT; omega)
 have t1:tE X 1=X:=by
  have a:=zqk X 0
  have c0:(nx 0:Rat)=1:=rfl
  have z0:tE X 0=1:=rfl
  rw [c0,z0] at a
  grind
 have e:=zsf h (i:=1) hq1 hq2 (by rw [t1,hx]; exact Rat.le_refl) (by rw [t1,hx]; exact Rat.le_refl)
 have s:=zsg e n
 rw [zsl] at s
 have en:=(e n).2
 rw [show 1+2*n=2*n+1 by omega] at en
 have t:=(zs4 (x:=X) (a:=X) X0 (by grind) Rat.le_refl (n:=2*n+1) (Rat.le_trans (show 2*X≤2 by grind) (show (2:Rat)≤(nx (2*n+1):Rat) from zqs (a:=1) (by omega))) hK).2
 have m1:=Rat.mul_le_mul_of_nonneg_right t.1 (Rat.le_of_lt T0)
 have m2:=Rat.mul_le_mul_of_nonneg_right t.2 (Rat.le_of_lt T0)
 rw [Rat.intCast_sub,Rat.intCast_add]
 constructor<;>grind
end Go.Proofs.YtcbihoojfakhdaaGreatDoor

namespace Go.Proofs.YtcbihoojfakhdaaGreatDoor
open Go.RowKit
set_option maxRecDepth 100000
set_option maxHeartbeats 2000000
def fx_tay_0_mk (_ _:Nat)(q1 q2 sc:Int)(pp1 pp2 _ _:Nat→Int)(x:(Nat × Int)⊕(Nat × Int)):St:=Sum.elim (fun (x:Nat × Int)=>⟨mkS 40 [(2,(.val (.int .u32 x.2))),(3,(.val (.int .i64 sc))),(4,(.own 0 0)),(5,(.own 1 0)),(8,(.own 2 0)),(9,(.own 3 0)),(10,(.val (.bool true)))],[⟨true,false,[(V.bool (decide ((pp1 (2*x.1))<0))),(N ((pp1 (2*x.1)).natAbs)),(V.bool (decide ((pp2 (2*x.1))<0))),(N ((pp2 (2*x.1)).natAbs))]⟩,⟨true,false,[(V.bool (decide (q1<0))),(N q1.natAbs),(V.bool (decide (q2<0))),(N q2.natAbs)]⟩,⟨true,false,[(V.bool false),V.nil,(V.bool false),V.nil]⟩,⟨true,false,[(V.bool (decide ((tyA pp1 pp2 (2*x.1))<0))),(N ((tyA pp1 pp2 (2*x.1)).natAbs)),(V.bool (decide ((tyB pp1 pp2 (2*x.1))<0))),(N ((tyB pp1 pp2 (2*x.1)).natAbs))]⟩]⟩) (fun (x:Nat × Int)=>⟨mkS 40 [(2,(.val (.int .u32 x.2))),(3,(.val (.int .i64 sc))),(4,(.own 0 0)),(5,(.own 1 0)),(8,(.own 2 0)),(9,(.own 3 0)),(10,(.val (.bool false)))],[⟨true,false,[(V.bool (decide ((pp1 (2*x.1+1))<0))),(N ((pp1 (2*x.1+1)).natAbs)),(V.bool (decide ((pp2 (2*x.1+1))<0))),(N ((pp2 (2*x.1+1)).natAbs))]⟩,⟨true,false,[(V.bool (decide (q1<0))),(N q1.natAbs),(V.bool (decide (q2<0))),(N q2.natAbs)]⟩,⟨true,false,[(V.bool false),V.nil,(V.bool false),V.nil]⟩,⟨true,false,[(V.bool (decide ((tyA pp1 pp2 (2*x.1+1))<0))),(N ((tyA pp1 pp2 (2*x.1+1)).natAbs)),(V.bool (decide ((tyB pp1 pp2 (2*x.1+1))<0))),(N ((tyB pp1 pp2 (2*x.1+1)).natAbs))]⟩]⟩) x
def fx_tay_0_I (nn i0:Nat)(_ _ _:Int)(_ _ _ _:Nat→Int)(x:(Nat × Int)⊕(Nat × Int)):Prop:=Sum.elim (fun (x:Nat × Int)=>2*x.1≤nn∧x.2=(i0:Int)+4*(x.1:Int)) (fun (x:Nat × Int)=>2*x.1+1≤nn∧x.2=(i0:Int)+4*(x.1:Int)+2) x
def fx_tay_0_mu (nn _:Nat)(_ _ _:Int)(_ _ _ _:Nat→Int)(x:(Nat × Int)⊕(Nat × Int)):Nat:=Sum.elim (fun (x:Nat × Int)=>nn-2*x.1) (fun (x:Nat × Int)=>nn-(2*x.1+1)) x
def fx_tay_0_ex (_ _:Nat)(q1 q2 _:Int)(pp1 pp2 _ _:Nat→Int)(y:Nat):Ex × St:=(.exit 0,⟨mkS 40 [(4,(.own 0 0)),(8,(.own 2 0)),(9,(.own 3 0))],[⟨true,false,[(V.bool (decide ((pp1 y)<0))),(N ((pp1 y).natAbs)),(V.bool (decide ((pp2 y)<0))),(N ((pp2 y).natAbs))]⟩,⟨true,false,[(V.bool (decide (q1<0))),(N q1.natAbs),(V.bool (decide (q2<0))),(N q2.natAbs)]⟩,⟨true,false,[(V.bool false),V.nil,(V.bool false),V.nil]⟩,⟨true,false,[(V.bool (decide ((tyA pp1 pp2 y)<0))),(N ((tyA pp1 pp2 y).natAbs)),(V.bool (decide ((tyB pp1 pp2 y)<0))),(N ((tyB pp1 pp2 y).natAbs))]⟩]⟩)
def fx_tay_0_J (nn _:Nat)(_ _ _:Int)(_ _ _ _:Nat→Int)(y:Nat):Prop:=y=nn
abbrev fx_tay_0_N (nn i0:Nat)(q1 q2 sc:Int)(pp1 pp2 mm1 mm2:Nat→Int):=NX (fx_tay_0_mk nn i0 q1 q2 sc pp1 pp2 mm1 mm2) (fx_tay_0_I nn i0 q1 q2 sc pp1 pp2 mm1 mm2) (fx_tay_0_mu nn i0 q1 q2 sc pp1 pp2 mm1 mm2) (fx_tay_0_ex nn i0 q1 q2 sc pp1 pp2 mm1 mm2) (fx_tay_0_J nn i0 q1 q2 sc pp1 pp2 mm1 mm2)
theorem zso (nn i0:Nat)(q1 q2 sc:Int)(pp1 pp2 mm1 mm2:Nat→Int)(c0:∀ j,j≤nn→Impl Tryz.prog Amb 241 [(sV (pp1 j) (pp2 j))] (.bool (decide (nn≤j))))(c1:∀ j,j<nn→Impl Tryz.prog Amb 236 [(sV (pp1 j) (pp2 j)),(sV q1 q2),(.int .i64 sc)] (sV (mm1 j) (mm2 j)))(c2:∀ (j:Nat) (k:Int),j<nn→k=mT i0 j→Impl Tryz.prog Amb 242 [(sV (mm1 j) (mm2 j)),(.int .u32 k)] (sV (pp1 (j+1)) (pp2 (j+1))))(c3:∀ j,j<nn→j%2=0→Impl Tryz.prog Amb 164 [(sV (tyA pp1 pp2 j) (tyB pp1 pp2 j)),(sV (pp1 (j+1)) (pp2 (j+1)))] (sV (tyA pp1 pp2 (j+1)) (tyB pp1 pp2 (j+1))))(c4:∀ j,j<nn→j%2=1→Impl Tryz.prog Amb 179 [(sV (tyA pp1 pp2 j) (tyB pp1 pp2 j)),(sV (pp1 (j+1)) (pp2 (j+1)))] (sV (tyA pp1 pp2 (j+1)) (tyB pp1 pp2 (j+1))))(c5:nn≤10000∧i0≤1)(x0:(Nat × Int)⊕(Nat × Int))(hI:fx_tay_0_I nn i0 q1 q2 sc pp1 pp2 mm1 mm2 x0):LoopOk Tryz.prog Amb (loopN Tryz.f237 0) (fx_tay_0_mk nn i0 q1 q2 sc pp1 pp2 mm1 mm2 x0) (fun e st_=>∃ y,fx_tay_0_J nn i0 q1 q2 sc pp1 pp2 mm1 mm2 y∧fx_tay_0_ex nn i0 q1 q2 sc pp1 pp2 mm1 mm2 y=(e,st_)) :=
 z6m hP hAmb ⟨[2,3,4,5,8,9,10],4,[]⟩ (fx_tay_0_mk nn i0 q1 q2 sc pp1 pp2 mm1 mm2) (fx_tay_0_I nn i0 q1 q2 sc pp1 pp2 mm1 mm2) (fx_tay_0_mu nn i0 q1 q2 sc pp1 pp2 mm1 mm2) (fx_tay_0_ex nn i0 q1 q2 sc pp1 pp2 mm1 mm2) (fx_tay_0_J nn i0 q1 q2 sc pp1 pp2 mm1 mm2) x0 hI (Sum.elim (fun (h,k)=>.lits 2<|.call (.bool (decide (nn≤(2*h))))<|.lit<|.both (.lits 3<|.call (sV (mm1 (2*h)) (mm2 (2*h)))<|.lit<|.yes<|.lit<|.yes<|.lit<|.yes<|.lit<|.call (sV (pp1 ((2*h)+1)) (pp2 ((2*h)+1)))<|.lits 2<|.yes<|.lits 4<|.call (sV (tyA pp1 pp2 ((2*h)+1)) (tyB pp1 pp2 ((2*h)+1)))<|.lits 2<|.fin2 ⟨[2,3,4,5,8,9,10],4,[]⟩) (.fin2 ⟨[4,8,9],4,[]⟩)) (fun (h,k)=>.lits 2<|.call (.bool (decide (nn≤(2*h+1))))<|.lit<|.both (.lits 3<|.call (sV (mm1 (2*h+1)) (mm2 (2*h+1)))<|.lit<|.yes<|.lit<|.yes<|.lit<|.yes<|.lit<|.call (sV (pp1 ((2*h+1)+1)) (pp2 ((2*h+1)+1)))<|.lits 2<|.yes<|.lits 4<|.call (sV (tyA pp1 pp2 ((2*h+1)+1)) (tyB pp1 pp2 ((2*h+1)+1)))<|.lits 2<|.fin2 ⟨[2,3,4,5,8,9,10],4,[]⟩) (.fin2 ⟨[4,8,9],4,[]⟩))) (by
  rintro (⟨h,k⟩ | ⟨h,k⟩) hI
  ·skip
   have hI:2*h≤nn∧k=(i0:Int)+4*(h:Int):=hI
   obtain ⟨h1,h2⟩:=hI
   have hk:(k+1)*(k+2)=mT i0 (2*h):=by unfold mT; rw [show ((i0+2*(2*h):Nat):Int)=k by omega]
   have hk1:=zs9 i0 (2*h)
   have hk2:=zsa (i:=i0) (j:=(2*h)) c5.2 oO
   exact z6d (aI True.intro (aI (c0 (2*h) h1 ) (aI (fun (h101:(!(decide (nn≤(2*h))))=true)=>have _gh101:=of_decide_eq_false (z7q h101); aI (c1 (2*h) oO ) (aI (z7v oO:(fits .u32 (k+1))=true) (aI (z7v oO:(fits .u32 (k+2))=true) (aI (z7v oO:(fits .u32 ((k+1)*(k+2)))=true) (aI (c2 (2*h) _ oO hk ) (aI (z7v oO:(fits .u32 (k+2))=true) (aI (c3 (2*h) oO oO ) (aI tT ((z6j (Sum.inr (h,(k+2))) (show 2*h+1≤nn∧(k+2)=(i0:Int)+4*(h:Int)+2 from ⟨by omega,by omega⟩) (show nn-(2*h+1)<nn-2*h by omega):fx_tay_0_N nn i0 q1 q2 sc pp1 pp2 mm1 mm2 (Sum.inl (h,k)) .normal (fx_tay_0_mk nn i0 q1 q2 sc pp1 pp2 mm1 mm2 (Sum.inr (h,(k+2)))))))))))))) (fun (h102:(!(decide (nn≤(2*h))))=false)=>have _gh102:=of_decide_eq_true (z7r h102); aI tT ((z6k 0 ((fx_tay_0_ex nn i0 q1 q2 sc pp1 pp2 mm1 mm2 (2*h)).2) (2*h) (show (2*h)=nn from show (2*h)=nn by omega) rfl:fx_tay_0_N nn i0 q1 q2 sc pp1 pp2 mm1 mm2 (Sum.inl (h,k)) (.exit 0) ((fx_tay_0_ex nn i0 q1 q2 sc pp1 pp2 mm1 mm2 (2*h)).2))))))) (by kernel_rfl)
  ·skip
   have hI:2*h+1≤nn∧k=(i0:Int)+4*(h:Int)+2:=hI
   obtain ⟨h1,h2⟩:=hI
   have hk:(k+1)*(k+2)=mT i0 (2*h+1):=by unfold mT; rw [show ((i0+2*(2*h+1):Nat):Int)=k by omega]
   have hk1:=zs9 i0 (2*h+1)
   have hk2:=zsa (i:=i0) (j:=(2*h+1)) c5.2 oO
   exact z6d (aI True.intro (aI (c0 (2*h+1) h1 ) (aI (fun (h101:(!(decide (nn≤(2*h+1))))=true)=>have _gh101:=of_decide_eq_false (z7q h101); aI (c1 (2*h+1) oO ) (aI (z7v oO:(fits .u32 (k+1))=true) (aI (z7v oO:(fits .u32 (k+2))=true) (aI (z7v oO:(fits .u32 ((k+1)*(k+2)))=true) (aI (c2 (2*h+1) _ oO hk ) (aI (z7v oO:(fits .u32 (k+2))=true) (aI (c4 (2*h+1) oO oO ) (aI tT ((z6j (Sum.inl ((h+1),(k+2))) (show 2*(h+1)≤nn∧(k+2)=(i0:Int)+4*((h+1):Int) from ⟨by omega,by omega⟩) (show nn-2*(h+1)<nn-(2*h+1) by omega):fx_tay_0_N nn i0 q1 q2 sc pp1 pp2 mm1 mm2 (Sum.inr (h,k)) .normal (fx_tay_0_mk nn i0 q1 q2 sc pp1 pp2 mm1 mm2 (Sum.inl ((h+1),(k+2)))))))))))))) (fun (h102:(!(decide (nn≤(2*h+1))))=false)=>have _gh102:=of_decide_eq_true (z7r h102); aI tT ((z6k 0 ((fx_tay_0_ex nn i0 q1 q2 sc pp1 pp2 mm1 mm2 (2*h+1)).2) (2*h+1) (show (2*h+1)=nn from show (2*h+1)=nn by omega) rfl:fx_tay_0_N nn i0 q1 q2 sc pp1 pp2 mm1 mm2 (Sum.inr (h,k)) (.exit 0) ((fx_tay_0_ex nn i0 q1 q2 sc pp1 pp2 mm1 mm2 (2*h+1)).2))))))) (by kernel_rfl))
theorem zsp (nn:Nat)(i0:Nat)(q1 q2 sc:Int)(pp1:Nat→Int)(pp2:Nat→Int)(mm1:Nat→Int)(mm2:Nat→Int)(c0:∀ j,j≤nn→Impl Tryz.prog Amb 241 [(sV (pp1 j) (pp2 j))] (.bool (decide (nn≤j))))(c1:∀ j,j<nn→Impl Tryz.prog Amb 236 [(sV (pp1 j) (pp2 j)),(sV q1 q2),(.int .i64 sc)] (sV (mm1 j) (mm2 j)))(c2:∀ (j:Nat) (k:Int),j<nn→k=mT i0 j→Impl Tryz.prog Amb 242 [(sV (mm1 j) (mm2 j)),(.int .u32 k)] (sV (pp1 (j+1)) (pp2 (j+1))))(c3:∀ j,j<nn→j%2=0→Impl Tryz.prog Amb 164 [(sV (tyA pp1 pp2 j) (tyB pp1 pp2 j)),(sV (pp1 (j+1)) (pp2 (j+1)))] (sV (tyA pp1 pp2 (j+1)) (tyB pp1 pp2 (j+1))))(c4:∀ j,j<nn→j%2=1→Impl Tryz.prog Amb 179 [(sV (tyA pp1 pp2 j) (tyB pp1 pp2 j)),(sV (pp1 (j+1)) (pp2 (j+1)))] (sV (tyA pp1 pp2 (j+1)) (tyB pp1 pp2 (j+1))))(c5:nn≤10000∧i0≤1)(c6:∀ j,j≤nn→L (tyA pp1 pp2 j).natAbs≤8192∧L (tyB pp1 pp2 j).natAbs≤8192∧L (pp2 j).natAbs≤8192):Impl Tryz.prog Amb 237 [(sV (pp1 0) (pp2 0)),(sV q1 q2),(.int .u32 (i0:Int)),(.int .i64 sc)] (sV (tyA pp1 pp2 nn-pp2 nn) (tyB pp1 pp2 nn+pp2 nn)):=by
 exact z6e hP hAmb Tryz.func237 (by kernel_rfl) (.lits 2<|.loop ⟨[2,3,4,5,8,9,10],4,[]⟩ ((fx_tay_0_mk nn i0 q1 q2 sc pp1 pp2 mm1 mm2 (Sum.inl (0,(i0:Int))))) (Nat) (fx_tay_0_ex nn i0 q1 q2 sc pp1 pp2 mm1 mm2) (fx_tay_0_J nn i0 q1 q2 sc pp1 pp2 mm1 mm2) (fun y=>.lits 3<|.call (sV ((tyA pp1 pp2 y)-(pp2 y)) ((tyB pp1 pp2 y)+(pp2 y)))<|.lits 2<|.ret))
  (z6d (aI True.intro (aI tT (aI (rfl:(fx_tay_0_mk nn i0 q1 q2 sc pp1 pp2 mm1 mm2 (Sum.inl (0,(i0:Int))))=(fx_tay_0_mk nn i0 q1 q2 sc pp1 pp2 mm1 mm2 (Sum.inl (0,(i0:Int))))) (aI (zso nn i0 q1 q2 sc pp1 pp2 mm1 mm2 c0 c1 c2 c3 c4 c5 (Sum.inl (0,(i0:Int))) (show 2*0≤nn∧(i0:Int)=(i0:Int)+4*(0:Int) from ⟨by omega,by omega⟩)) (fun y (hJ:fx_tay_0_J nn i0 q1 q2 sc pp1 pp2 mm1 mm2 y)=>have hJ:y=nn:=hJ; have hY:=hJ; have cl:=c6 y oO; aI (zl9 (tyA pp1 pp2 y) (tyB pp1 pp2 y) (pp2 y) oS oS oS) (have f2:=zcw (tyB pp1 pp2 y) (pp2 y); have f1:=zgs (tyA pp1 pp2 y) (pp2 y); (by rw [show y=nn from hY]; exact z5w _:vsub (sV ((tyA pp1 pp2 y)-(pp2 y)) ((tyB pp1 pp2 y)+(pp2 y))) (sV (tyA pp1 pp2 nn-pp2 nn) (tyB pp1 pp2 nn+pp2 nn))))))))) (by kernel_rfl))
theorem zsq (x q1 q2 s1 s2 o1 o2 k1 k2 sc:Int)(c0:Impl Tryz.prog Amb 236 [(sV x x),(sV x x),(.int .i64 sc)] (sV q1 q2))(c1:Impl Tryz.prog Amb 237 [(sV x x),(sV q1 q2),(.int .u32 1),(.int .i64 sc)] (sV s1 s2))(c2:Impl Tryz.prog Amb 213 [(.int .i64 sc)] (sV o1 o2))(c3:Impl Tryz.prog Amb 237 [(sV o1 o2),(sV q1 q2),(.int .u32 0),(.int .i64 sc)] (sV k1 k2))(c4:L (x).natAbs≤8192):Impl Tryz.prog Amb 206 [(zV x),(.int .i64 sc)] (.tup [(sV s1 s2),(sV k1 k2)]):=by
 exact z6e hP hAmb Tryz.func206 (by kernel_rfl) (.lits 2<|.call (sV x x)<|.lits 4<|.call (sV q1 q2)<|.lits 4<|.call (sV s1 s2)<|.lit<|.call (sV o1 o2)<|.lits 2<|.call (sV k1 k2)<|.lits 3<|.ret)
  (z6d (aI True.intro (aI (zl3 x oS) (aI (c0 ) (aI (c1 ) (aI (c2 ) (aI (c3 ) ((z5w (.tup [(sV s1 s2),(sV k1 k2)]))))))))) (by kernel_rfl))
theorem zsr (m ee sc x1 x2 p1 p2 h1_ h2_ q t1 t2 z1 z2 r1 r2:Int)(c0:Impl Tryz.prog Amb 161 [(yV m ee),(.int .i64 (sc+48))] (sV x1 x2))(c1:Impl Tryz.prog Amb 117 [(.int .i64 ((sc+48)+1))] (sV p1 p2))(c2:Impl Tryz.prog Amb 162 [(sV p1 p2),(.int .i64 2)] (sV h1_ h2_))(c3:Impl Tryz.prog Amb 163 [(sV x1 x2),(sV h1_ h2_)] (.int .i64 q))(c4:Impl Tryz.prog Amb 165 [(sV h1_ h2_),(.int .i64 q)] (sV t1 t2))(c5:Impl Tryz.prog Amb 164 [(sV x1 x2),(sV t1 t2)] (sV z1 z2))(c6:Impl Tryz.prog Amb 162 [(sV z1 z2),(.int .i64 ((sc+48)-sc))] (sV r1 r2))(c7:(0:Int)≤sc∧sc≤5000):Impl Tryz.prog Amb 94 [(yV m ee),(.int .i64 sc)] (.tup [(.int .i64 q),(sV r1 r2)]):=by
 exact z6e hP hAmb Tryz.func94 (by kernel_rfl) (.lit<|.yes<|.lits 2<|.call (sV x1 x2)<|.lit<|.yes<|.lit<|.call (sV p1 p2)<|.lit<|.call (sV h1_ h2_)<|.lits 5<|.call (.int .i64 q)<|.lits 3<|.call (sV t1 t2)<|.lit<|.call (sV z1 z2)<|.lit<|.yes<|.lit<|.call (sV r1 r2)<|.lits 2<|.ret)
  (z6d (aI True.intro (aI (z7t oS:(fits .i64 (sc+48))=true) (aI (c0 ) (aI (z7t oS:(fits .i64 ((sc+48)+1))=true) (aI (c1 ) (aI (c2 ) (aI (c3 ) (aI (c4 ) (aI (c5 ) (aI (z7t oS:(fits .i64 ((sc+48)-sc))=true) (aI (c6 ) ((z5w (.tup [(.int .i64 q),(sV r1 r2)])))))))))))))) (by kernel_rfl))
theorem zss (m ee f x1 x2 y p1 p2 q r:Int)(c0:Impl Tryz.prog Amb 161 [(yV m ee),(.int .i64 (f+64))] (sV x1 x2))(c1:Impl Tryz.prog Amb 155 [(zV x1),(.int .i64 (f+1))] (zV y))(c2:Impl Tryz.prog Amb 117 [(.int .i64 (f+64))] (sV p1 p2))(c3:Impl Tryz.prog Amb 182 [(zV y),(zV p1)] (.tup [(zV q),(zV r),(.bool true)]))(c4:(0:Int)≤f∧f≤5000):Impl Tryz.prog Amb 203 [(yV m ee),(.int .i64 f)] (zV q):=by
 exact z6e hP hAmb Tryz.func203 (by kernel_rfl) (.lit<|.yes<|.lits 2<|.call (sV x1 x2)<|.lits 2<|.yes<|.lit<|.call (zV y)<|.lit<|.call (sV p1 p2)<|.lits 2<|.call (.tup [(zV q),(zV r),(.bool true)])<|.lits 5<|.ret)
  (z6d (aI True.intro (aI (z7t oS:(fits .i64 (f+64))=true) (aI (c0 ) (aI (z7t oS:(fits .i64 (f+1))=true) (aI (c1 ) (aI (c2 ) (aI (c3 ) ((z5w (zV q)))))))))) (by kernel_rfl))
theorem zst (m ee more sc q r1 r2 x s1 s2 k1 k2 u1 u2:Int)(c0:(0:Int)≤sc∧sc≤5000)(c1:(wRem ((wRem q 4+4)+more) 4)=0)(c2:0≤r1)(c3:(0:Int)≤more∧more≤1)(c4:Impl Tryz.prog Amb 94 [(yV m ee),(.int .i64 (sc+24))] (.tup [(.int .i64 q),(sV r1 r2)]))(c5:Impl Tryz.prog Amb 129 [(.bool false),(N r1.natAbs)] (zV x))(c6:Impl Tryz.prog Amb 206 [(zV x),(.int .i64 (sc+24))] (.tup [(sV s1 s2),(sV k1 k2)]))(c7:Impl Tryz.prog Amb 162 [(sV (s1-(r2-r1)) (s2+(r2-r1))),(.int .i64 ((sc+24)-sc))] (sV u1 u2))(c8:L (r1).natAbs≤8192)(c9:L (r2).natAbs≤8192)(c10:L (s1).natAbs≤8192)(c11:L (s2).natAbs≤8192)(c12:L (k1).natAbs≤8192)(c13:L (k2).natAbs≤8192):Impl Tryz.prog Amb 157 [(yV m ee),(.int .i64 more),(.int .i64 sc)] (sV u1 u2):=by
 have w1:=zo2 (v:=q) (n:=4) oO
 exact z6e hP hAmb Tryz.func157 (by kernel_rfl) (.lit<|.yes<|.lits 2<|.call (.tup [(.int .i64 q),(sV r1 r2)])<|.lits 5<|.call (zV x)<|.lit<|.call (.tup [(sV s1 s2),(sV k1 k2)])<|.lits 3<|.no<|.lits 4<|.call (sV (-s2) (-s1))<|.lits 2<|.call (sV (-k2) (-k1))<|.lits 3<|.yes<|.lit<|.yes<|.lit<|.no<|.no<|.no<|.no<|.yes<|.lits 4<|.call (zV (r2-r1))<|.lit<|.call (sV (s1-(r2-r1)) (s2+(r2-r1)))<|.lit<|.yes<|.lit<|.call (sV u1 u2)<|.lits 2<|.ret)
  (z6d (aI True.intro (aI (z7t oS:(fits .i64 (sc+24))=true) (aI (c4 ) (aI (c5 ) (aI (c6 ) (aI (decide_eq_false oO:(decide (r1<0))=false) (aI (zl6 s1 s2 oS oS) (have f7:=zcy s2; have f6:=zcy s1; aI (zl6 k1 k2 oS oS) (have f5:=zcy k2; have f4:=zcy k1; aI (z7t oS:(fits .i64 ((wRem q (4:Int))+4))=true) (aI (z7t oS:(fits .i64 (((wRem q (4:Int))+4)+more))=true) (aI (z7i c1:(iEq (wRem (((wRem q (4:Int))+4)+more) (4:Int)) (0:Int))=true) (aI (zlb r1 r2 oS oS) (have f3:=zgs r2 r1; aI (zl9 s1 s2 (r2-r1) oS oS oS) (have f2:=zcw s2 (r2-r1); have f1:=zgs s1 (r2-r1); aI (z7t oS:(fits .i64 ((sc+24)-sc))=true) (aI (c7 ) ((z5w (sV u1 u2)))))))))))))))))) (by kernel_rfl))
theorem zsu (m ee more sc q r1 r2 x s1 s2 k1 k2 u1 u2:Int)(c0:(0:Int)≤sc∧sc≤5000)(c1:(wRem ((wRem q 4+4)+more) 4)=0)(c2:r1<0)(c3:(0:Int)≤more∧more≤1)(c4:Impl Tryz.prog Amb 94 [(yV m ee),(.int .i64 (sc+24))] (.tup [(.int .i64 q),(sV r1 r2)]))(c5:Impl Tryz.prog Amb 129 [(.bool false),(N r1.natAbs)] (zV x))(c6:Impl Tryz.prog Amb 206 [(zV x),(.int .i64 (sc+24))] (.tup [(sV s1 s2),(sV k1 k2)]))(c7:Impl Tryz.prog Amb 162 [(sV ((-s2)-(r2-r1)) ((-s1)+(r2-r1))),(.int .i64 ((sc+24)-sc))] (sV u1 u2))(c8:L (r1).natAbs≤8192)(c9:L (r2).natAbs≤8192)(c10:L (s1).natAbs≤8192)(c11:L (s2).natAbs≤8192)(c12:L (k1).natAbs≤8192)(c13:L (k2).natAbs≤8192):Impl Tryz.prog Amb 157 [(yV m ee),(.int .i64 more),(.int .i64 sc)] (sV u1 u2):=by
 have w1:=zo2 (v:=q) (n:=4) oO
 exact z6e hP hAmb Tryz.func157 (by kernel_rfl) (.lit<|.yes<|.lits 2<|.call (.tup [(.int .i64 q),(sV r1 r2)])<|.lits 5<|.call (zV x)<|.lit<|.call (.tup [(sV s1 s2),(sV k1 k2)])<|.lits 3<|.yes<|.lits 2<|.call (sV (-s2) (-s1))<|.lits 5<|.call (sV (-(-s1)) (-(-s2)))<|.lits 2<|.call (sV (-k2) (-k1))<|.lits 3<|.yes<|.lit<|.yes<|.lit<|.no<|.no<|.no<|.no<|.yes<|.lits 4<|.call (zV (r2-r1))<|.lit<|.call (sV ((-s2)-(r2-r1)) ((-s1)+(r2-r1)))<|.lit<|.yes<|.lit<|.call (sV u1 u2)<|.lits 2<|.ret)
  (z6d (aI True.intro (aI (z7t oS:(fits .i64 (sc+24))=true) (aI (c4 ) (aI (c5 ) (aI (c6 ) (aI (decide_eq_true oO:(decide (r1<0))=true) (aI (zl6 s1 s2 oS oS) (have f9:=zcy s2; have f8:=zcy s1; aI (zl6 (-s2) (-s1) oS oS) (have f7:=zcy (-s1); have f6:=zcy (-s2); aI (zl6 k1 k2 oS oS) (have f5:=zcy k2; have f4:=zcy k1; aI (z7t oS:(fits .i64 ((wRem q (4:Int))+4))=true) (aI (z7t oS:(fits .i64 (((wRem q (4:Int))+4)+more))=true) (aI (z7i c1:(iEq (wRem (((wRem q (4:Int))+4)+more) (4:Int)) (0:Int))=true) (aI (zlb r1 r2 oS oS) (have f3:=zgs r2 r1; aI (zl9 (-s2) (-s1) (r2-r1) oS oS oS) (have f2:=zcw (-s1) (r2-r1); have f1:=zgs (-s2) (r2-r1); aI (z7t oS:(fits .i64 ((sc+24)-sc))=true) (aI (c7 ) ((z5w (sV u1 u2))))))))))))))))))) (by kernel_rfl))
theorem zsv (m ee more sc q r1 r2 x s1 s2 k1 k2 u1 u2:Int)(c0:(0:Int)≤sc∧sc≤5000)(c1:(wRem ((wRem q 4+4)+more) 4)=1)(c2:0≤r1)(c3:(0:Int)≤more∧more≤1)(c4:Impl Tryz.prog Amb 94 [(yV m ee),(.int .i64 (sc+24))] (.tup [(.int .i64 q),(sV r1 r2)]))(c5:Impl Tryz.prog Amb 129 [(.bool false),(N r1.natAbs)] (zV x))(c6:Impl Tryz.prog Amb 206 [(zV x),(.int .i64 (sc+24))] (.tup [(sV s1 s2),(sV k1 k2)]))(c7:Impl Tryz.prog Amb 162 [(sV (k1-(r2-r1)) (k2+(r2-r1))),(.int .i64 ((sc+24)-sc))] (sV u1 u2))(c8:L (r1).natAbs≤8192)(c9:L (r2).natAbs≤8192)(c10:L (s1).natAbs≤8192)(c11:L (s2).natAbs≤8192)(c12:L (k1).natAbs≤8192)(c13:L (k2).natAbs≤8192):Impl Tryz.prog Amb 157 [(yV m ee),(.int .i64 more),(.int .i64 sc)] (sV u1 u2):=by
 have w1:=zo2 (v:=q) (n:=4) oO
 exact z6e hP hAmb Tryz.func157 (by kernel_rfl) (.lit<|.yes<|.lits 2<|.call (.tup [(.int .i64 q),(sV r1 r2)])<|.lits 5<|.call (zV x)<|.lit<|.call (.tup [(sV s1 s2),(sV k1 k2)])<|.lits 3<|.no<|.lits 4<|.call (sV (-s2) (-s1))<|.lits 2<|.call (sV (-k2) (-k1))<|.lits 3<|.yes<|.lit<|.yes<|.lit<|.no<|.no<|.no<|.yes<|.lits 4<|.call (zV (r2-r1))<|.lit<|.call (sV (k1-(r2-r1)) (k2+(r2-r1)))<|.lit<|.yes<|.lit<|.call (sV u1 u2)<|.lits 2<|.ret)
  (z6d (aI True.intro (aI (z7t oS:(fits .i64 (sc+24))=true) (aI (c4 ) (aI (c5 ) (aI (c6 ) (aI (decide_eq_false oO:(decide (r1<0))=false) (aI (zl6 s1 s2 oS oS) (have f7:=zcy s2; have f6:=zcy s1; aI (zl6 k1 k2 oS oS) (have f5:=zcy k2; have f4:=zcy k1; aI (z7t oS:(fits .i64 ((wRem q (4:Int))+4))=true) (aI (z7t oS:(fits .i64 (((wRem q (4:Int))+4)+more))=true) (aI (z7i c1:(iEq (wRem (((wRem q (4:Int))+4)+more) (4:Int)) (1:Int))=true) (aI (zlb r1 r2 oS oS) (have f3:=zgs r2 r1; aI (zl9 k1 k2 (r2-r1) oS oS oS) (have f2:=zcw k2 (r2-r1); have f1:=zgs k1 (r2-r1); aI (z7t oS:(fits .i64 ((sc+24)-sc))=true) (aI (c7 ) ((z5w (sV u1 u2)))))))))))))))))) (by kernel_rfl))
theorem zsw (m ee more sc q r1 r2 x s1 s2 k1 k2 u1 u2:Int)(c0:(0:Int)≤sc∧sc≤5000)(c1:(wRem ((wRem q 4+4)+more) 4)=1)(c2:r1<0)(c3:(0:Int)≤more∧more≤1)(c4:Impl Tryz.prog Amb 94 [(yV m ee),(.int .i64 (sc+24))] (.tup [(.int .i64 q),(sV r1 r2)]))(c5:Impl Tryz.prog Amb 129 [(.bool false),(N r1.natAbs)] (zV x))(c6:Impl Tryz.prog Amb 206 [(zV x),(.int .i64 (sc+24))] (.tup [(sV s1 s2),(sV k1 k2)]))(c7:Impl Tryz.prog Amb 162 [(sV (k1-(r2-r1)) (k2+(r2-r1))),(.int .i64 ((sc+24)-sc))] (sV u1 u2))(c8:L (r1).natAbs≤8192)(c9:L (r2).natAbs≤8192)(c10:L (s1).natAbs≤8192)(c11:L (s2).natAbs≤8192)(c12:L (k1).natAbs≤8192)(c13:L (k2).natAbs≤8192):Impl Tryz.prog Amb 157 [(yV m ee),(.int .i64 more),(.int .i64 sc)] (sV u1 u2):=by
 have w1:=zo2 (v:=q) (n:=4) oO
 exact z6e hP hAmb Tryz.func157 (by kernel_rfl) (.lit<|.yes<|.lits 2<|.call (.tup [(.int .i64 q),(sV r1 r2)])<|.lits 5<|.call (zV x)<|.lit<|.call (.tup [(sV s1 s2),(sV k1 k2)])<|.lits 3<|.yes<|.lits 2<|.call (sV (-s2) (-s1))<|.lits 5<|.call (sV (-(-s1)) (-(-s2)))<|.lits 2<|.call (sV (-k2) (-k1))<|.lits 3<|.yes<|.lit<|.yes<|.lit<|.no<|.no<|.no<|.yes<|.lits 4<|.call (zV (r2-r1))<|.lit<|.call (sV (k1-(r2-r1)) (k2+(r2-r1)))<|.lit<|.yes<|.lit<|.call (sV u1 u2)<|.lits 2<|.ret)
  (z6d (aI True.intro (aI (z7t oS:(fits .i64 (sc+24))=true) (aI (c4 ) (aI (c5 ) (aI (c6 ) (aI (decide_eq_true oO:(decide (r1<0))=true) (aI (zl6 s1 s2 oS oS) (have f9:=zcy s2; have f8:=zcy s1; aI (zl6 (-s2) (-s1) oS oS) (have f7:=zcy (-s1); have f6:=zcy (-s2); aI (zl6 k1 k2 oS oS) (have f5:=zcy k2; have f4:=zcy k1; aI (z7t oS:(fits .i64 ((wRem q (4:Int))+4))=true) (aI (z7t oS:(fits .i64 (((wRem q (4:Int))+4)+more))=true) (aI (z7i c1:(iEq (wRem (((wRem q (4:Int))+4)+more) (4:Int)) (1:Int))=true) (aI (zlb r1 r2 oS oS) (have f3:=zgs r2 r1; aI (zl9 k1 k2 (r2-r1) oS oS oS) (have f2:=zcw k2 (r2-r1); have f1:=zgs k1 (r2-r1); aI (z7t oS:(fits .i64 ((sc+24)-sc))=true) (aI (c7 ) ((z5w (sV u1 u2))))))))))))))))))) (by kernel_rfl))
theorem zsx (m ee more sc q r1 r2 x s1 s2 k1 k2 u1 u2:Int)(c0:(0:Int)≤sc∧sc≤5000)(c1:(wRem ((wRem q 4+4)+more) 4)=2)(c2:0≤r1)(c3:(0:Int)≤more∧more≤1)(c4:Impl Tryz.prog Amb 94 [(yV m ee),(.int .i64 (sc+24))] (.tup [(.int .i64 q),(sV r1 r2)]))(c5:Impl Tryz.prog Amb 129 [(.bool false),(N r1.natAbs)] (zV x))(c6:Impl Tryz.prog Amb 206 [(zV x),(.int .i64 (sc+24))] (.tup [(sV s1 s2),(sV k1 k2)]))(c7:Impl Tryz.prog Amb 162 [(sV ((-s2)-(r2-r1)) ((-s1)+(r2-r1))),(.int .i64 ((sc+24)-sc))] (sV u1 u2))(c8:L (r1).natAbs≤8192)(c9:L (r2).natAbs≤8192)(c10:L (s1).natAbs≤8192)(c11:L (s2).natAbs≤8192)(c12:L (k1).natAbs≤8192)(c13:L (k2).natAbs≤8192):Impl Tryz.prog Amb 157 [(yV m ee),(.int .i64 more),(.int .i64 sc)] (sV u1 u2):=by
 have w1:=zo2 (v:=q) (n:=4) oO
 exact z6e hP hAmb Tryz.func157 (by kernel_rfl) (.lit<|.yes<|.lits 2<|.call (.tup [(.int .i64 q),(sV r1 r2)])<|.lits 5<|.call (zV x)<|.lit<|.call (.tup [(sV s1 s2),(sV k1 k2)])<|.lits 3<|.no<|.lits 4<|.call (sV (-s2) (-s1))<|.lits 2<|.call (sV (-k2) (-k1))<|.lits 3<|.yes<|.lit<|.yes<|.lit<|.no<|.no<|.yes<|.lits 4<|.call (zV (r2-r1))<|.lit<|.call (sV ((-s2)-(r2-r1)) ((-s1)+(r2-r1)))<|.lit<|.yes<|.lit<|.call (sV u1 u2)<|.lits 2<|.ret)
  (z6d (aI True.intro (aI (z7t oS:(fits .i64 (sc+24))=true) (aI (c4 ) (aI (c5 ) (aI (c6 ) (aI (decide_eq_false oO:(decide (r1<0))=false) (aI (zl6 s1 s2 oS oS) (have f7:=zcy s2; have f6:=zcy s1; aI (zl6 k1 k2 oS oS) (have f5:=zcy k2; have f4:=zcy k1; aI (z7t oS:(fits .i64 ((wRem q (4:Int))+4))=true) (aI (z7t oS:(fits .i64 (((wRem q (4:Int))+4)+more))=true) (aI (z7i c1:(iEq (wRem (((wRem q (4:Int))+4)+more) (4:Int)) (2:Int))=true) (aI (zlb r1 r2 oS oS) (have f3:=zgs r2 r1; aI (zl9 (-s2) (-s1) (r2-r1) oS oS oS) (have f2:=zcw (-s1) (r2-r1); have f1:=zgs (-s2) (r2-r1); aI (z7t oS:(fits .i64 ((sc+24)-sc))=true) (aI (c7 ) ((z5w (sV u1 u2)))))))))))))))))) (by kernel_rfl))
theorem zsy (m ee more sc q r1 r2 x s1 s2 k1 k2 u1 u2:Int)(c0:(0:Int)≤sc∧sc≤5000)(c1:(wRem ((wRem q 4+4)+more) 4)=2)(c2:r1<0)(c3:(0:Int)≤more∧more≤1)(c4:Impl Tryz.prog Amb 94 [(yV m ee),(.int .i64 (sc+24))] (.tup [(.int .i64 q),(sV r1 r2)]))(c5:Impl Tryz.prog Amb 129 [(.bool false),(N r1.natAbs)] (zV x))(c6:Impl Tryz.prog Amb 206 [(zV x),(.int .i64 (sc+24))] (.tup [(sV s1 s2),(sV k1 k2)]))(c7:Impl Tryz.prog Amb 162 [(sV ((-(-s1))-(r2-r1)) ((-(-s2))+(r2-r1))),(.int .i64 ((sc+24)-sc))] (sV u1 u2))(c8:L (r1).natAbs≤8192)(c9:L (r2).natAbs≤8192)(c10:L (s1).natAbs≤8192)(c11:L (s2).natAbs≤8192)(c12:L (k1).natAbs≤8192)(c13:L (k2).natAbs≤8192):Impl Tryz.prog Amb 157 [(yV m ee),(.int .i64 more),(.int .i64 sc)] (sV u1 u2):=by
 have w1:=zo2 (v:=q) (n:=4) oO
 exact z6e hP hAmb Tryz.func157 (by kernel_rfl) (.lit<|.yes<|.lits 2<|.call (.tup [(.int .i64 q),(sV r1 r2)])<|.lits 5<|.call (zV x)<|.lit<|.call (.tup [(sV s1 s2),(sV k1 k2)])<|.lits 3<|.yes<|.lits 2<|.call (sV (-s2) (-s1))<|.lits 5<|.call (sV (-(-s1)) (-(-s2)))<|.lits 2<|.call (sV (-k2) (-k1))<|.lits 3<|.yes<|.lit<|.yes<|.lit<|.no<|.no<|.yes<|.lits 4<|.call (zV (r2-r1))<|.lit<|.call (sV ((-(-s1))-(r2-r1)) ((-(-s2))+(r2-r1)))<|.lit<|.yes<|.lit<|.call (sV u1 u2)<|.lits 2<|.ret)
  (z6d (aI True.intro (aI (z7t oS:(fits .i64 (sc+24))=true) (aI (c4 ) (aI (c5 ) (aI (c6 ) (aI (decide_eq_true oO:(decide (r1<0))=true) (aI (zl6 s1 s2 oS oS) (have f9:=zcy s2; have f8:=zcy s1; aI (zl6 (-s2) (-s1) oS oS) (have f7:=zcy (-s1); have f6:=zcy (-s2); aI (zl6 k1 k2 oS oS) (have f5:=zcy k2; have f4:=zcy k1; aI (z7t oS:(fits .i64 ((wRem q (4:Int))+4))=true) (aI (z7t oS:(fits .i64 (((wRem q (4:Int))+4)+more))=true) (aI (z7i c1:(iEq (wRem (((wRem q (4:Int))+4)+more) (4:Int)) (2:Int))=true) (aI (zlb r1 r2 oS oS) (have f3:=zgs r2 r1; aI (zl9 (-(-s1)) (-(-s2)) (r2-r1) oS oS oS) (have f2:=zcw (-(-s2)) (r2-r1); have f1:=zgs (-(-s1)) (r2-r1); aI (z7t oS:(fits .i64 ((sc+24)-sc))=true) (aI (c7 ) ((z5w (sV u1 u2))))))))))))))))))) (by kernel_rfl))
theorem zsz (m ee more sc q r1 r2 x s1 s2 k1 k2 u1 u2:Int)(c0:(0:Int)≤sc∧sc≤5000)(c1:(wRem ((wRem q 4+4)+more) 4)=3)(c2:0≤r1)(c3:(0:Int)≤more∧more≤1)(c4:Impl Tryz.prog Amb 94 [(yV m ee),(.int .i64 (sc+24))] (.tup [(.int .i64 q),(sV r1 r2)]))(c5:Impl Tryz.prog Amb 129 [(.bool false),(N r1.natAbs)] (zV x))(c6:Impl Tryz.prog Amb 206 [(zV x),(.int .i64 (sc+24))] (.tup [(sV s1 s2),(sV k1 k2)]))(c7:Impl Tryz.prog Amb 162 [(sV ((-k2)-(r2-r1)) ((-k1)+(r2-r1))),(.int .i64 ((sc+24)-sc))] (sV u1 u2))(c8:L (r1).natAbs≤8192)(c9:L (r2).natAbs≤8192)(c10:L (s1).natAbs≤8192)(c11:L (s2).natAbs≤8192)(c12:L (k1).natAbs≤8192)(c13:L (k2).natAbs≤8192):Impl Tryz.prog Amb 157 [(yV m ee),(.int .i64 more),(.int .i64 sc)] (sV u1 u2):=by
 have w1:=zo2 (v:=q) (n:=4) oO
 exact z6e hP hAmb Tryz.func157 (by kernel_rfl) (.lit<|.yes<|.lits 2<|.call (.tup [(.int .i64 q),(sV r1 r2)])<|.lits 5<|.call (zV x)<|.lit<|.call (.tup [(sV s1 s2),(sV k1 k2)])<|.lits 3<|.no<|.lits 4<|.call (sV (-s2) (-s1))<|.lits 2<|.call (sV (-k2) (-k1))<|.lits 3<|.yes<|.lit<|.yes<|.lit<|.no<|.yes<|.lits 4<|.call (zV (r2-r1))<|.lit<|.call (sV ((-k2)-(r2-r1)) ((-k1)+(r2-r1)))<|.lit<|.yes<|.lit<|.call (sV u1 u2)<|.lits 2<|.ret)
  (z6d (aI True.intro (aI (z7t oS:(fits .i64 (sc+24))=true) (aI (c4 ) (aI (c5 ) (aI (c6 ) (aI (decide_eq_false oO:(decide (r1<0))=false) (aI (zl6 s1 s2 oS oS) (have f7:=zcy s2; have f6:=zcy s1; aI (zl6 k1 k2 oS oS) (have f5:=zcy k2; have f4:=zcy k1; aI (z7t oS:(fits .i64 ((wRem q (4:Int))+4))=true) (aI (z7t oS:(fits .i64 (((wRem q (4:Int))+4)+more))=true) (aI (z7i c1:(iEq (wRem (((wRem q (4:Int))+4)+more) (4:Int)) (3:Int))=true) (aI (zlb r1 r2 oS oS) (have f3:=zgs r2 r1; aI (zl9 (-k2) (-k1) (r2-r1) oS oS oS) (have f2:=zcw (-k1) (r2-r1); have f1:=zgs (-k2) (r2-r1); aI (z7t oS:(fits .i64 ((sc+24)-sc))=true) (aI (c7 ) ((z5w (sV u1 u2)))))))))))))))))) (by kernel_rfl))
theorem zt0 (m ee more sc q r1 r2 x s1 s2 k1 k2 u1 u2:Int)(c0:(0:Int)≤sc∧sc≤5000)(c1:(wRem ((wRem q 4+4)+more) 4)=3)(c2:r1<0)(c3:(0:Int)≤more∧more≤1)(c4:Impl Tryz.prog Amb 94 [(yV m ee),(.int .i64 (sc+24))] (.tup [(.int .i64 q),(sV r1 r2)]))(c5:Impl Tryz.prog Amb 129 [(.bool false),(N r1.natAbs)] (zV x))(c6:Impl Tryz.prog Amb 206 [(zV x),(.int .i64 (sc+24))] (.tup [(sV s1 s2),(sV k1 k2)]))(c7:Impl Tryz.prog Amb 162 [(sV ((-k2)-(r2-r1)) ((-k1)+(r2-r1))),(.int .i64 ((sc+24)-sc))] (sV u1 u2))(c8:L (r1).natAbs≤8192)(c9:L (r2).natAbs≤8192)(c10:L (s1).natAbs≤8192)(c11:L (s2).natAbs≤8192)(c12:L (k1).natAbs≤8192)(c13:L (k2).natAbs≤8192):Impl Tryz.prog Amb 157 [(yV m ee),(.int .i64 more),(.int .i64 sc)] (sV u1 u2):=by
 have w1:=zo2 (v:=q) (n:=4) oO
 exact z6e hP hAmb Tryz.func157 (by kernel_rfl) (.lit<|.yes<|.lits 2<|.call (.tup [(.int .i64 q),(sV r1 r2)])<|.lits 5<|.call (zV x)<|.lit<|.call (.tup [(sV s1 s2),(sV k1 k2)])<|.lits 3<|.yes<|.lits 2<|.call (sV (-s2) (-s1))<|.lits 5<|.call (sV (-(-s1)) (-(-s2)))<|.lits 2<|.call (sV (-k2) (-k1))<|.lits 3<|.yes<|.lit<|.yes<|.lit<|.no<|.yes<|.lits 4<|.call (zV (r2-r1))<|.lit<|.call (sV ((-k2)-(r2-r1)) ((-k1)+(r2-r1)))<|.lit<|.yes<|.lit<|.call (sV u1 u2)<|.lits 2<|.ret)
  (z6d (aI True.intro (aI (z7t oS:(fits .i64 (sc+24))=true) (aI (c4 ) (aI (c5 ) (aI (c6 ) (aI (decide_eq_true oO:(decide (r1<0))=true) (aI (zl6 s1 s2 oS oS) (have f9:=zcy s2; have f8:=zcy s1; aI (zl6 (-s2) (-s1) oS oS) (have f7:=zcy (-s1); have f6:=zcy (-s2); aI (zl6 k1 k2 oS oS) (have f5:=zcy k2; have f4:=zcy k1; aI (z7t oS:(fits .i64 ((wRem q (4:Int))+4))=true) (aI (z7t oS:(fits .i64 (((wRem q (4:Int))+4)+more))=true) (aI (z7i c1:(iEq (wRem (((wRem q (4:Int))+4)+more) (4:Int)) (3:Int))=true) (aI (zlb r1 r2 oS oS) (have f3:=zgs r2 r1; aI (zl9 (-k2) (-k1) (r2-r1) oS oS oS) (have f2:=zcw (-k1) (r2-r1); have f1:=zgs (-k2) (r2-r1); aI (z7t oS:(fits .i64 ((sc+24)-sc))=true) (aI (c7 ) ((z5w (sV u1 u2))))))))))))))))))) (by kernel_rfl))
end Go.Proofs.YtcbihoojfakhdaaGreatDoor

namespace Go.Proofs.YtcbihoojfakhdaaGreatDoor
open Go.RowKit
set_option maxRecDepth 100000
set_option maxHeartbeats 2000000
theorem pi_all:(List.range 400).all (fun t=>decide (piLo (t:Int)*2^(430-t)≤ptPi) && decide (ptPi≤piHi (t:Int)*2^(430-t)))=true:=by kernel_rfl
theorem cQ2:dv ptPi (-430)=cQ*2:=of_decide_eq_true (by kernel_rfl)
theorem zt1 {t:Nat}(ht:t<400):((piLo (t:Int):Int):Rat)≤cQ*((2^(t+1):Int):Rat)∧cQ*((2^(t+1):Int):Rat)≤((piHi (t:Int):Int):Rat):=by
 have h:=List.all_eq_true.1 pi_all t (List.mem_range.2 ht)
 simp only [Bool.and_eq_true,decide_eq_true_eq] at h
 have a:=(zpg (t:=t) oO).1 h.1
 have b:=(zpg (t:=t) oO).2 h.2
 have e:cQ*((2^(t+1):Int):Rat)=dv ptPi (-430)*((2^t:Int):Rat):=by
  rw [cQ2,Int.pow_succ,Rat.intCast_mul]
  show cQ*(((2^t:Int):Rat)*2)=_
  grind
 rw [e]; exact ⟨a,b⟩
theorem zt2 {d c T:Rat}{p1 p2 q1 q2 k:Int}(hp1:(p1:Rat)≤d*T)(hp2:d*T≤(p2:Rat))(hp:p2≤p1+1)(hq1:(q1:Rat)≤c*T)(hq2:c*T≤(q2:Rat))(hq:q2-q1≤16777216)(hT:4722366482869645213696≤T)
  (c1:157≤100*c) (c2:1000*c≤1571) (hk:k=Int.fdiv (((p1+p2)*2^1)+(q1+q2)) ((q1+q2)*2^1)) (d1:-4294967296≤d) (d2:d≤4294967296):(-4294967295≤k∧k≤4294967295)∧-80≤100*(d-(k:Rat)*c)∧100*(d-(k:Rat)*c)≤80:=by
 have T0:0<T:=by grind
 have m1:=Rat.mul_le_mul_of_nonneg_right c1 (Rat.le_of_lt T0)
 have m2:=Rat.mul_le_mul_of_nonneg_right c2 (Rat.le_of_lt T0)
 have m1:157*T≤100*(c*T):=by rw [← Rat.mul_assoc]; exact m1
 have m2:1000*(c*T)≤1571*T:=by rw [← Rat.mul_assoc]; exact m2
 have m3:=Rat.mul_le_mul_of_nonneg_right d1 (Rat.le_of_lt T0)
 have m4:=Rat.mul_le_mul_of_nonneg_right d2 (Rat.le_of_lt T0)
 have hpR:(p2:Rat)≤(p1:Rat)+1:=by
  have:(p2:Rat)≤((p1+1:Int):Rat):=Rat.intCast_le_intCast.2 hp
  rw [Rat.intCast_add] at this; exact this
 have hqR:(q2:Rat)≤(q1:Rat)+16777216:=by
  have:(q2:Rat)≤((q1+16777216:Int):Rat):=Rat.intCast_le_intCast.2 oO
  rw [Rat.intCast_add] at this; exact this
 have q0:0<q1+q2:=by
  have:(0:Rat)<((q1+q2:Int):Rat):=by rw [Rat.intCast_add]; grind
  exact Rat.intCast_pos.1 this
 rw [Int.fdiv_eq_ediv_of_nonneg _ oO] at hk
 have f1:=Int.ediv_mul_le (((p1+p2)*2^1)+(q1+q2)) (show (q1+q2)*2^1≠0 by omega)
 have f2:=Int.lt_ediv_add_one_mul_self (((p1+p2)*2^1)+(q1+q2)) (show 0<(q1+q2)*2^1 by omega)
 rw [← hk] at f1 f2
 rw [show (2:Int)^1=2 from rfl] at f1 f2
 have g1:((k*((q1+q2)*2):Int):Rat)≤(((p1+p2)*2+(q1+q2):Int):Rat):=Rat.intCast_le_intCast.2 f1
 have g2:(((p1+p2)*2+(q1+q2):Int):Rat)≤(((k+1)*((q1+q2)*2):Int):Rat):=Rat.intCast_le_intCast.2 (Int.le_of_lt f2)
 simp only [Rat.intCast_mul,Rat.intCast_add,show ((2:Int):Rat)=2 from rfl,show ((1:Int):Rat)=1 from rfl] at g1 g2
 have K1:k≤4294967295:=by
  refine Decidable.byContradiction fun hn=>?_
  have kR:(4294967296:Rat)≤(k:Rat):=Rat.intCast_le_intCast.2 (show (4294967296:Int)≤k by omega)
  have m:=Rat.mul_le_mul_of_nonneg_right kR (show 0≤((q1:Rat)+(q2:Rat))*2 by grind)
  clear f1 f2 hk
  grind
 have K2:-4294967295≤k:=by
  refine Decidable.byContradiction fun hn=>?_
  have kR:(k:Rat)+1≤-4294967295:=by
   have:=Rat.intCast_le_intCast.2 (show k+1≤-4294967295 by omega)
   rw [Rat.intCast_add] at this; exact this
  have m:=Rat.mul_le_mul_of_nonneg_right kR (show 0≤((q1:Rat)+(q2:Rat))*2 by grind)
  clear f1 f2 hk
  grind
 refine ⟨⟨K2,K1⟩,?_⟩
 have k1R:(k:Rat)≤4294967296:=Rat.intCast_le_intCast.2 (show k≤4294967296 by omega)
 have k2R:-4294967296≤(k:Rat):=Rat.intCast_le_intCast.2 (show -4294967296≤k by omega)
 have mb:=zqz (p:=(k:Rat)) (P:=4294967296) (x:=(q1:Rat)+(q2:Rat)-2*(c*T)) (a:=16777216) k2R k1R (by grind) (by grind)
 have e1:(k:Rat)*((q1:Rat)+(q2:Rat)-2*(c*T))=(k:Rat)*((q1:Rat)+(q2:Rat))-2*((k:Rat)*(c*T)):=by grind
 have e2:(k:Rat)*(((q1:Rat)+(q2:Rat))*2)=2*((k:Rat)*((q1:Rat)+(q2:Rat))):=by grind
 have e3:((k:Rat)+1)*(((q1:Rat)+(q2:Rat))*2)=2*((k:Rat)*((q1:Rat)+(q2:Rat)))+2*((q1:Rat)+(q2:Rat)):=by grind
 have e4:100*(d-(k:Rat)*c)*T=100*(d*T-(k:Rat)*(c*T)):=by grind
 rw [e1] at mb
 rw [e2] at g1
 rw [e3] at g2
 clear f1 f2 hk K1 K2 e1 e2 e3
 constructor
 ·refine Rat.le_of_mul_le_mul_right (c:=T) ?_ T0
  rw [e4]
  generalize (k:Rat)*(c*T)=x1 at *
  generalize (k:Rat)*((q1:Rat)+(q2:Rat))=x2 at *
  generalize c*T=C at *
  generalize d*T=D at *
  clear c1 c2 d1 d2 e4 k1R k2R hp hq q0
  grind
 ·refine Rat.le_of_mul_le_mul_right (c:=T) ?_ T0
  rw [e4]
  generalize (k:Rat)*(c*T)=x1 at *
  generalize (k:Rat)*((q1:Rat)+(q2:Rat))=x2 at *
  generalize c*T=C at *
  generalize d*T=D at *
  clear c1 c2 d1 d2 e4 k1R k2R hp hq q0
  grind
theorem zt3 (m ee sc:Int)(hs:24≤sc∧sc≤320)(hm:L (m).natAbs≤20)(he:-440≤ee∧ee≤130)(d1:-4294967296≤dv m ee)(d2:dv m ee≤4294967296) :
  ∃ q r1 r2:Int,Impl Tryz.prog Amb 94 [(yV m ee),(.int .i64 sc)] (.tup [(.int .i64 q),(sV r1 r2)])∧(-4294967295≤q∧q≤4294967295)∧r1≤r2∧r2-r1≤300∧(-80≤100*(dv m ee-(q:Rat)*cQ)∧100*(dv m ee-(q:Rat)*cQ)≤80) ∧
   (r1:Rat)≤(dv m ee-(q:Rat)*cQ)*((2^sc.toNat:Int):Rat)∧(dv m ee-(q:Rat)*cQ)*((2^sc.toNat:Int):Rat)≤(r2:Rat):=by
 obtain ⟨t,ht⟩:∃ t:Nat,(t:Int)=sc+48:=⟨(sc+48).toNat,by omega⟩
 have hO:=zpn m ee (sc+48) oO oO oO
 have lf:=zog m ee (sc+48)
 have sc1:=(zp0 (dv m ee) t).1
 have sc2:=(zp1 (dv m ee) t).1
 have fc:=(zp2 (dv m ee) t).1
 have cl:=zt1 (t:=t+1) oO
 have tt:((t+1:Nat):Int)=sc+48+1:=by omega
 rw [tt] at cl
 rw [ht] at sc1 sc2 fc
 have b:=zlf (s:=sc+48+1) oO
 have bw:piHi (sc+48+1)-piLo (sc+48+1)<16777216:=by
  have:=zba (piHi (sc+48+1)-piLo (sc+48+1)).natAbs
  have p:=Nat.pow_le_pow_right (n:=2) oO b.2.2
  omega
 have hP:Impl Tryz.prog Amb 117 [(.int .i64 ((sc+48)+1))] (sV (piLo (sc+48+1)) (piHi (sc+48+1))):=zle (sc+48+1) oO
 generalize piLo (sc+48+1)=p1 at *
 generalize piHi (sc+48+1)=p2 at *
 generalize flr (dv m ee) (sc+48)=x1 at *
 generalize cei (dv m ee) (sc+48)=x2 at *
 have hH:=zl5 p1 p2 2 oO oO oO
 have he1:=zpd (a:=p1) (b:=p2) (X:=cQ) (t:=t+1+1) (s:=t) (n:=2) oO cl.1 cl.2
 have hw1:=zpe (a:=p1) (b:=p2) (W:=4194304) (n:=2) oO
 have o1:=zgz p1 2
 have o2:=zcy p2
 have o3:=zgz (-p2) 2
 have o4:=zcy (-p2 / 2^2)
 have e2:(2:Int).toNat=2:=rfl
 rw [e2] at hH
 generalize p1 / 2^2=h1 at *
 generalize -(-p2 / 2^2)=h2 at *
 have cb:=cQ_b
 have T72:(4722366482869645213696:Rat)≤((2^t:Int):Rat):=by
  have p:=Int.ofNat_le.2 (Nat.pow_le_pow_right (n:=2) oO (show 72≤t by omega))
  rw [← zak,← zak] at p
  exact Rat.intCast_le_intCast.2 p
 have nk:=zt2 (k:=Int.fdiv (((x1+x2)*2^1)+(h1+h2)) ((h1+h2)*2^1)) sc1 sc2 fc he1.1 he1.2 oO T72 cb.1 cb.2 rfl d1 d2
 have h12:0<h1+h2:=by
  have:(0:Rat)<((h1+h2:Int):Rat):=by
   rw [Rat.intCast_add]
   have m1:=Rat.mul_le_mul_of_nonneg_right cb.1 (show (0:Rat)≤((2^t:Int):Rat) by grind)
   have hR:(h2:Rat)≤(h1:Rat)+16777216:=by
    have:(h2:Rat)≤((h1+16777216:Int):Rat):=Rat.intCast_le_intCast.2 oO
    rw [Rat.intCast_add] at this; exact this
   grind
  exact Rat.intCast_pos.1 this
 have hN:=zq9 x1 x2 h1 h2 oO oO oO oO h12 oO
 generalize Int.fdiv (((x1+x2)*2^1)+(h1+h2)) ((h1+h2)*2^1)=q at *
 have m1:=zcx h1 q
 have m2:=zcx h2 q
 have lk:=zgp (n:=q) oO
 have hT:=zpq h1 h2 q oO oO oO
 have te:=zpf (k:=q) he1.1 he1.2
 have h1le:h1≤h2:=Rat.intCast_le_intCast.1 (Rat.le_trans he1.1 he1.2)
 have tw:=tm_w (W:=4294967296) h1le (k:=q) oO oO
 have tL:L (tmLo h1 h2 q).natAbs≤430∧L (tmHi h1 h2 q).natAbs≤430:=by unfold tmLo tmHi; split<;>omega
 generalize tmLo h1 h2 q=t1 at *
 generalize tmHi h1 h2 q=t2 at *
 have n1:=zcy t1
 have n2:=zcy t2
 have a1:=zcw x1 (-t2)
 have a2:=zcw x2 (-t1)
 have hS:=zl8 x1 x2 t1 t2 oO oO oO oO
 have hH2:=zl5 (x1+-t2) (x2+-t1) (sc+48-sc) oO oO oO
 have e48:(sc+48-sc).toNat=48:=by omega
 rw [e48] at hH2
 have hw:=zpe (a:=x1+-t2) (b:=x2+-t1) (W:=257) (n:=48) oO
 have he:=zpd (a:=x1+-t2) (b:=x2+-t1) (X:=dv m ee-(q:Rat)*cQ) (t:=t) (s:=sc.toNat) (n:=48) oO (by rw [Rat.intCast_add,Rat.intCast_neg]; grind) (by rw [Rat.intCast_add,Rat.intCast_neg]; grind)
 refine ⟨q,_,_,zsr m ee sc x1 x2 p1 p2 h1 h2 q t1 t2 _ _ _ _ hO hP hH hN hT hS hH2 oO,nk.1,Rat.intCast_le_intCast.1 (Rat.le_trans he.1 he.2),?_,nk.2,he.1,he.2⟩
 omega
end Go.Proofs.YtcbihoojfakhdaaGreatDoor
