/-
  Lower layers: what functions of the program compute, and zxd facts. Conditions: as the theorems say.
-/
import Derived.Test.YtcbihoojfakhdaaGreatDoorCcS
set_option linter.unusedVariables false
set_option linter.unusedSimpArgs false
namespace Go.Proofs.YtcbihoojfakhdaaGreatDoor
theorem zul {v:Nat}{y1 y2:Int}(h1:2*y1.natAbs≤2^v)(h2:2*y2.natAbs≤2^v):∀ j,j≤v→(rE (2^v) y1 y2 j).1.natAbs≤2^(v-j)∧(rE (2^v) y1 y2 j).2.natAbs≤2^(v-j):=by
 intro j
 induction j with
 | zero =>
  intro _
  show ((2:Int)^v).natAbs≤2^(v-0)∧((2:Int)^v).natAbs≤2^(v-0)
  rw [zak,Int.natAbs_natCast]; exact ⟨Nat.le_refl _,Nat.le_refl _⟩
 | succ j ih =>
  intro hj
  have a:=ih (by omega)
  have p:2^(v-j)=2*2^(v-(j+1)):=by rw [show v-j=(v-(j+1))+1 by omega,Nat.pow_succ,Nat.mul_comm]
  have r:=zp8 (c:=y1) (d:=y2) (C:=2^(v-(j+1))) (S:=2^v / 2) (zi5 v) a.1 a.2 (by omega) (by omega) (by
   rw [zp9,p]
   have:=Nat.mul_le_mul_left (2^(v-(j+1))) (show 2*(2^v / 2)≤2^v by omega)
   rw [Nat.mul_comm 2,Nat.mul_assoc]; exact this)
  exact zrb (by omega) r.1 r.2
theorem zum {v:Nat}{y1 y2:Int}(h1:2*y1.natAbs≤2^v)(h2:2*y2.natAbs≤2^v):∃ N,N≤v∧((rE (2^v) y1 y2 N).1.natAbs≤1∧(rE (2^v) y1 y2 N).2.natAbs≤1)∧∀ j,j<N→¬ ((rE (2^v) y1 y2 j).1.natAbs≤1∧(rE (2^v) y1 y2 j).2.natAbs≤1):=by
 have a:=zul h1 h2 v (Nat.le_refl _)
 rw [Nat.sub_self,Nat.pow_zero] at a
 exact zow (P:=fun j=>(rE (2^v) y1 y2 j).1.natAbs≤1∧(rE (2^v) y1 y2 j).2.natAbs≤1) a
theorem zun {a b c d T X Y W1 W2 D:Int}(hT:0<T)(ha:-X≤a∧a≤X)(hb:-X≤b∧b≤X)(hc:-Y≤c∧c≤Y)(hd:-Y≤d∧d≤Y)(w1:b-a≤W1)(w2:d-c≤W2)(hab:a≤b)(hcd:c≤d)(hD:X*W2+W1*Y≤D*T):rm2 a b c d T-rm1 a b c d T≤D+1:=by
 have X0:0≤X:=by omega
 have Y0:0≤Y:=by omega
 have key:∀ {x x' y y':Int},(-X≤x∧x≤X)→(-Y≤y'∧y'≤Y)→(-W1≤x-x'∧x-x'≤W1)→(-W2≤y-y'∧y-y'≤W2)→x*y-x'*y'≤D*T:=by
  intro x x' y y' hx hy h3 h1
  have e:x*y-x'*y'=x*(y-y')+(x-x')*y':=by rw [Int.mul_sub,Int.sub_mul]; omega
  have bd:∀ {p q P Q:Int},(-P≤p∧p≤P)→(-Q≤q∧q≤Q)→p*q≤P*Q:=by
   intro p q P Q hp hq
   have m1:=Int.mul_nonneg (show 0≤P-p by omega) (show 0≤Q+q by omega)
   have m2:=Int.mul_nonneg (show 0≤P+p by omega) (show 0≤Q-q by omega)
   have e1:(P-p)*(Q+q)=P*Q+P*q-p*Q-p*q:=by rw [Int.sub_mul,Int.mul_add,Int.mul_add]; omega
   have e2:(P+p)*(Q-q)=P*Q-P*q+p*Q-p*q:=by rw [Int.add_mul,Int.mul_sub,Int.mul_sub]; omega
   omega
  have m1:=bd hx h1
  have m2:=bd h3 hy
  rw [e]; omega
 have pick1:mx4 a b c d=a*c∨mx4 a b c d=a*d∨mx4 a b c d=b*c∨mx4 a b c d=b*d:=by unfold mx4; omega
 have pick2:mn4 a b c d=a*c∨mn4 a b c d=a*d∨mn4 a b c d=b*c∨mn4 a b c d=b*d:=by unfold mn4; omega
 have D':mx4 a b c d-mn4 a b c d≤D*T:=by
  rcases pick1 with h | h | h | h<;>rcases pick2 with k | k | k | k<;>rw [h,k]<;>exact key (by omega) (by omega) (by omega) (by omega)
 unfold rm1 rm2
 have f1:=Int.lt_ediv_add_one_mul_self (mn4 a b c d) hT
 have f2:=Int.lt_ediv_add_one_mul_self (-(mx4 a b c d)) hT
 generalize mn4 a b c d / T=q1 at *
 generalize -(mx4 a b c d) / T=q2 at *
 refine Decidable.byContradiction fun hn=>?_
 have m:=Int.mul_le_mul_of_nonneg_right (show D≤-q2-q1-2 by omega) (Int.le_of_lt hT)
 rw [Int.sub_mul,Int.sub_mul,Int.neg_mul] at m
 rw [Int.add_mul,Int.one_mul] at f1 f2
 omega
theorem zuo {v:Nat}{y1 y2:Int}(h1:4*y1.natAbs≤2^v)(h2:4*y2.natAbs≤2^v)(hy:y1≤y2)(hw:y2-y1≤1):∀ j,j≤v→(rE (2^v) y1 y2 j).2-(rE (2^v) y1 y2 j).1≤3∧(rE (2^v) y1 y2 j).1≤(rE (2^v) y1 y2 j).2
 | 0,_=>by
  show (2:Int)^v-2^v≤3∧(2:Int)^v≤2^v
  omega
 | j+1,hj=>by
  have i:=zuo h1 h2 hy hw j (by omega)
  have a:=zul (by omega) (by omega) j (by omega) (v:=v) (y1:=y1) (y2:=y2)
  have p:2^(v-j)≤2^v:=Nat.pow_le_pow_right (by omega) (by omega)
  have pc:((2^v:Nat):Int)=(2:Int)^v:=(zak _).symm
  have r:=zun (X:=2^v) (Y:=2^v / 4) (W1:=3) (W2:=1) (D:=2) (zi5 v) (a:=(rE (2^v) y1 y2 j).1) (b:=(rE (2^v) y1 y2 j).2) (c:=y1) (d:=y2) (by omega) (by omega) (by omega) (by omega) i.1 hw i.2 hy (by omega)
  exact zuc (by omega) (zud (zi5 v)) r
def csL (p1 p2:Nat→Int):Nat→Int
 | 0=>0
 | i+1=>if i%2=0 then csL p1 p2 i+p1 (2*i) else csL p1 p2 i+-(p2 (2*i))
def csH (p1 p2:Nat→Int):Nat→Int
 | 0=>0
 | i+1=>if i%2=0 then csH p1 p2 i+p2 (2*i) else csH p1 p2 i+-(p1 (2*i))
def snL (p1 p2:Nat→Int):Nat→Int
 | 0=>0
 | i+1=>if i%2=0 then snL p1 p2 i+p1 (2*i+1) else snL p1 p2 i+-(p2 (2*i+1))
def snH (p1 p2:Nat→Int):Nat→Int
 | 0=>0
 | i+1=>if i%2=0 then snH p1 p2 i+p2 (2*i+1) else snH p1 p2 i+-(p1 (2*i+1))
theorem CS_2 (x:Rat)(i:Nat):CS x (2*(i+1))=CS x (2*i)+sg i*tE x (2*i)∧SN x (2*(i+1))=SN x (2*i)+sg i*tE x (2*i+1):=by
 have e1:CS x (2*(i+1))=CS x (2*i)+(iP (2*i)).1*tE x (2*i)+(iP (2*i+1)).1*tE x (2*i+1):=rfl
 have e2:SN x (2*(i+1))=SN x (2*i)+(iP (2*i)).2*tE x (2*i)+(iP (2*i+1)).2*tE x (2*i+1):=rfl
 rw [e1,e2,(iP_even i).1,(iP_even i).2,(zsj i).1,(zsj i).2]
 constructor<;>grind
theorem zup {p1 p2:Nat→Int}{x T:Rat}(h:∀ j,(p1 j:Rat)≤tE x j*T∧tE x j*T≤(p2 j:Rat)):∀ i,(((csL p1 p2 i:Int):Rat)≤CS x (2*i)*T∧CS x (2*i)*T≤((csH p1 p2 i:Int):Rat))∧(((snL p1 p2 i:Int):Rat)≤SN x (2*i)*T∧SN x (2*i)*T≤((snH p1 p2 i:Int):Rat))
 | 0=>by
  have e1:CS x (2*0)=0:=rfl
  have e2:SN x (2*0)=0:=rfl
  rw [e1,e2,Rat.zero_mul]
  exact ⟨⟨Rat.le_refl,Rat.le_refl⟩,Rat.le_refl,Rat.le_refl⟩
 | i+1=>by
  have a:=zup h i
  have b:=h (2*i)
  have c:=h (2*i+1)
  rw [(CS_2 x i).1,(CS_2 x i).2]
  unfold csL csH snL snH sg
  by_cases q:i%2=0
  ·rw [if_pos q,if_pos q,if_pos q,if_pos q,if_pos q]
   simp only [Rat.intCast_add]
   refine ⟨⟨?_,?_⟩,⟨?_,?_⟩⟩<;>grind
  ·rw [if_neg q,if_neg q,if_neg q,if_neg q,if_neg q]
   simp only [Rat.intCast_add,Rat.intCast_neg]
   refine ⟨⟨?_,?_⟩,⟨?_,?_⟩⟩<;>grind
theorem zuq {p1 p2:Nat→Int}{n:Nat}(h:∀ j,j≤n→p1 j≤p2 j∧p2 j-p1 j≤3):∀ i,2*i≤n+1→(csL p1 p2 i≤csH p1 p2 i∧csH p1 p2 i-csL p1 p2 i≤3*(i:Int))∧(2*i≤n→snL p1 p2 i≤snH p1 p2 i∧snH p1 p2 i-snL p1 p2 i≤3*(i:Int))
 | 0,_=>by show ((0:Int)≤0∧(0:Int)-0≤3*((0:Nat):Int))∧(_→(0:Int)≤0∧(0:Int)-0≤3*((0:Nat):Int)); omega
 | i+1,hi=>by
  have a:=zuq h i (by omega)
  have b:=h (2*i) (by omega)
  have c:=fun q:2*(i+1)≤n=>h (2*i+1) (by omega)
  have e:((i+1:Nat):Int)=(i:Int)+1:=rfl
  unfold csL csH snL snH
  rw [e]
  by_cases q:i%2=0
  ·rw [if_pos q,if_pos q,if_pos q,if_pos q]
   refine ⟨by omega,fun z=>?_⟩
   have c:=c z
   have a:=a.2 (by omega)
   omega
  ·rw [if_neg q,if_neg q,if_neg q,if_neg q]
   refine ⟨by omega,fun z=>?_⟩
   have c:=c z
   have a:=a.2 (by omega)
   omega
theorem zur {p1 p2:Nat→Int}{x T:Rat}(T0:0<T)(h:∀ j,(p1 j:Rat)≤tE x j*T∧tE x j*T≤(p2 j:Rat))(x1:-1≤2*x)(x2:2*x≤1){n:Nat}(n1:(p1 n).natAbs≤1)(n2:(p2 n).natAbs≤1){K:Nat}(hK:n+1≤K) :
  (((csL p1 p2 ((n+1) / 2)-3:Int):Rat)≤CS x K*T∧CS x K*T≤((csH p1 p2 ((n+1) / 2)+3:Int):Rat))∧(((snL p1 p2 (n / 2)-3:Int):Rat)≤SN x K*T∧SN x K*T≤((snH p1 p2 (n / 2)+3:Int):Rat)):=by
 obtain ⟨a,⟨a0,a1,a2⟩,ha⟩:=zre x
 have l:=h n
 have h1:((-1:Int):Rat)≤((p1 n:Int):Rat):=Rat.intCast_le_intCast.2 (by omega)
 have h2:((p2 n:Int):Rat)≤((1:Int):Rat):=Rat.intCast_le_intCast.2 (by omega)
 rw [show ((-1:Int):Rat)=-1 from rfl] at h1
 rw [show ((1:Int):Rat)=1 from rfl] at h2
 have ta:tE a n*T≤1:=by
  rcases ha with e | e
  ·rw [e]; grind
  ·rw [e]
   rcases zrd x n with q | q
   ·rw [q]; grind
   ·rw [q]; grind
 have a12:2*a≤1:=by
  rcases ha with e | e
  ·rw [e]; exact x2
  ·rw [e]; grind
 have et:=zqt a0 (n:=n) (Rat.le_trans a12 (show (1:Rat)≤(nx n:Rat) from zqs (a:=0) (by omega))) K
 have es:EP a (n+1)=EP a n+tE a n:=rfl
 rw [es] at et
 have g1:=zrj (zrh a1 a2) n (K-n)
 have g2:=zrj (zri a1 a2) n (K-n)
 rw [show n+(K-n)=K by omega] at g1 g2
 have c:=(zup h ((n+1) / 2)).1
 have s:=(zup h (n / 2)).2
 have ec:CS x (2*((n+1) / 2))=CS x n:=by
  by_cases q:n%2=0
  ·rw [show 2*((n+1) / 2)=n by omega]
  ·obtain ⟨m,hm⟩:∃ m,n=2*m+1:=⟨n / 2,by omega⟩
   rw [show 2*((n+1) / 2)=2*m+1+1 by omega,hm]
   show CS x (2*m+1)+(iP (2*m+1)).1*tE x (2*m+1)=_
   rw [(zsj m).1]; grind
 have esn:SN x (2*(n / 2))=SN x n:=by
  by_cases q:n%2=0
  ·rw [show 2*(n / 2)=n by omega]
  ·obtain ⟨m,hm⟩:∃ m,n=2*m+1:=⟨n / 2,by omega⟩
   rw [show 2*(n / 2)=2*m by omega,hm]
   show _=SN x (2*m)+(iP (2*m)).2*tE x (2*m)
   rw [(iP_even m).2]; grind
 rw [ec] at c
 rw [esn] at s
 have g1:-(EP a K-EP a n)≤CS x K-CS x n∧CS x K-CS x n≤EP a K-EP a n:=g1
 have g2:-(EP a K-EP a n)≤SN x K-SN x n∧SN x K-SN x n≤EP a K-EP a n:=g2
 have m1:=Rat.mul_le_mul_of_nonneg_right (show -(2*tE a n)≤CS x K-CS x n by grind) (Rat.le_of_lt T0)
 have m2:=Rat.mul_le_mul_of_nonneg_right (show CS x K-CS x n≤2*tE a n by grind) (Rat.le_of_lt T0)
 have m3:=Rat.mul_le_mul_of_nonneg_right (show -(2*tE a n)≤SN x K-SN x n by grind) (Rat.le_of_lt T0)
 have m4:=Rat.mul_le_mul_of_nonneg_right (show SN x K-SN x n≤2*tE a n by grind) (Rat.le_of_lt T0)
 simp only [Rat.intCast_sub,Rat.intCast_add,show ((3:Int):Rat)=3 from rfl]
 clear g1 g2 et es h
 refine ⟨⟨?_,?_⟩,⟨?_,?_⟩⟩<;>grind
structure Sq where
 s1:Int
 s2:Int
 c1:Int
 c2:Int
def rD (T:Int)(z:Sq):Nat→Sq
 | 0=>z
 | i+1=>⟨rm1 (rD T z i).s1 (rD T z i).s2 (rD T z i).c1 (rD T z i).c2 T*2,rm2 (rD T z i).s1 (rD T z i).s2 (rD T z i).c1 (rD T z i).c2 T*2,
   T+-(rm2 (rD T z i).s1 (rD T z i).s2 (rD T z i).s1 (rD T z i).s2 T*2),T+-(rm1 (rD T z i).s1 (rD T z i).s2 (rD T z i).s1 (rD T z i).s2 T*2)⟩
def uD (x:Rat):Nat→Nat→Rat × Rat
 | 0,K=>(SN x K,CS x K)
 | i+1,K=>(2*((uD x i K).1*(uD x i K).2),1-2*((uD x i K).1*(uD x i K).1))
theorem zus {T:Int}{z:Sq}{x:Rat}{K:Nat}(hT:0<T)(h1:(z.s1:Rat)≤SN x K*T∧SN x K*T≤(z.s2:Rat))(h2:(z.c1:Rat)≤CS x K*T∧CS x K*T≤(z.c2:Rat)):∀ i,(((rD T z i).s1:Rat)≤(uD x i K).1*T∧(uD x i K).1*T≤((rD T z i).s2:Rat))∧(((rD T z i).c1:Rat)≤(uD x i K).2*T∧(uD x i K).2*T≤((rD T z i).c2:Rat))
 | 0=>⟨h1,h2⟩
 | i+1=>by
  have a:=zus hT h1 h2 i
  have p:=zp7 hT a.1.1 a.1.2 a.2.1 a.2.2
  have q:=zp7 hT a.1.1 a.1.2 a.1.1 a.1.2
  show (((rm1 _ _ _ _ T*2:Int):Rat)≤2*((uD x i K).1*(uD x i K).2)*T∧2*((uD x i K).1*(uD x i K).2)*T≤((rm2 _ _ _ _ T*2:Int):Rat))∧(((T+-(rm2 _ _ _ _ T*2):Int):Rat)≤(1-2*((uD x i K).1*(uD x i K).1))*T∧(1-2*((uD x i K).1*(uD x i K).1))*T≤((T+-(rm1 _ _ _ _ T*2):Int):Rat))
  simp only [Rat.intCast_add,Rat.intCast_neg,Rat.intCast_mul,show ((2:Int):Rat)=2 from rfl]
  refine ⟨⟨?_,?_⟩,⟨?_,?_⟩⟩<;>grind
theorem zut (x:Rat):∀ i,Lm (fun K=>(uD x i K).1) (SN (dbl x i))∧Lm (fun K=>(uD x i K).2) (CS (dbl x i))
 | 0=>⟨Lm.refl _,Lm.refl _⟩
 | i+1=>by
  have a:=zut x i
  obtain ⟨B,_,hC,hS⟩:=zrz (dbl x i)
  have p:=Lm.mul a.1.symm a.2.symm hS hC
  have q:=Lm.mul a.1.symm a.1.symm hS hS
  have e:dbl x (i+1)=dbl x i+dbl x i:=rfl
  rw [e]
  constructor
  ·refine Lm.of_near fun e he=>?_
   have e4:0<e*(1 / 8):=Rat.mul_pos he r8.1
   obtain ⟨N1,h1⟩:=zru (dbl x i) (dbl x i) e4
   obtain ⟨N2,h2⟩:=p.1 _ e4
   obtain ⟨N3,h3⟩:=p.2 _ e4
   refine ⟨N1+N2+N3,fun K hK=>?_⟩
   have h1:=(h1 K (by omega)).2
   have h2:SN (dbl x i) K*CS (dbl x i) K≤(uD x i K).1*(uD x i K).2+e*(1 / 8):=h2 K (by omega)
   have h3:(uD x i K).1*(uD x i K).2≤SN (dbl x i) K*CS (dbl x i) K+e*(1 / 8):=h3 K (by omega)
   show 2*((uD x i K).1*(uD x i K).2)≤SN (dbl x i+dbl x i) K+e∧SN (dbl x i+dbl x i) K≤2*((uD x i K).1*(uD x i K).2)+e
   generalize (uD x i K).1*(uD x i K).2=z1 at *
   constructor<;>grind
  ·refine Lm.of_near fun e he=>?_
   have e4:0<e*(1 / 8):=Rat.mul_pos he r8.1
   obtain ⟨N1,h1⟩:=zru (dbl x i) (dbl x i) e4
   obtain ⟨N2,h2⟩:=q.1 _ e4
   obtain ⟨N3,h3⟩:=q.2 _ e4
   obtain ⟨N4,h4⟩:=(zs0 (dbl x i)).1 _ e4
   obtain ⟨N5,h5⟩:=(zs0 (dbl x i)).2 _ e4
   refine ⟨N1+N2+N3+N4+N5,fun K hK=>?_⟩
   have h1:=(h1 K (by omega)).1
   have h2:SN (dbl x i) K*SN (dbl x i) K≤(uD x i K).1*(uD x i K).1+e*(1 / 8):=h2 K (by omega)
   have h3:(uD x i K).1*(uD x i K).1≤SN (dbl x i) K*SN (dbl x i) K+e*(1 / 8):=h3 K (by omega)
   have h4:CS (dbl x i) K*CS (dbl x i) K+SN (dbl x i) K*SN (dbl x i) K≤1+e*(1 / 8):=h4 K (by omega)
   have h5:1≤CS (dbl x i) K*CS (dbl x i) K+SN (dbl x i) K*SN (dbl x i) K+e*(1 / 8):=h5 K (by omega)
   show 1-2*((uD x i K).1*(uD x i K).1)≤CS (dbl x i+dbl x i) K+e∧CS (dbl x i+dbl x i) K≤1-2*((uD x i K).1*(uD x i K).1)+e
   generalize (uD x i K).1*(uD x i K).1=z1 at *
   constructor<;>grind
theorem zuu {T:Int}{z:Sq}{x:Rat}{N0 h:Nat}{W:Int}(hT:0<T)(W1:1≤W)(hW:16^h*W*4≤T)(henc:∀ K,N0≤K→((z.s1:Rat)≤SN x K*T∧SN x K*T≤(z.s2:Rat))∧((z.c1:Rat)≤CS x K*T∧CS x K*T≤(z.c2:Rat)))
  (hs:z.s1≤z.s2∧z.s2-z.s1≤W) (hc:z.c1≤z.c2∧z.c2-z.c1≤W):∀ i,i≤h→((rD T z i).s1≤(rD T z i).s2∧(rD T z i).s2-(rD T z i).s1≤16^i*W)∧((rD T z i).c1≤(rD T z i).c2∧(rD T z i).c2-(rD T z i).c1≤16^i*W) ∧
   ((-(2*T)≤(rD T z i).s1∧(rD T z i).s2≤2*T)∧(-(2*T)≤(rD T z i).c1∧(rD T z i).c2≤2*T)):=by
 have size:∀ i,i≤h→(((rD T z i).s1≤(rD T z i).s2∧(rD T z i).s2-(rD T z i).s1≤16^i*W)∧((rD T z i).c1≤(rD T z i).c2∧(rD T z i).c2-(rD T z i).c1≤16^i*W))→((-(2*T)≤(rD T z i).s1∧(rD T z i).s2≤2*T)∧(-(2*T)≤(rD T z i).c1∧(rD T z i).c2≤2*T)):=by
  intro i hi hw
  have hw2:=hw
  have T0:(0:Rat)<(T:Rat):=Rat.intCast_pos.2 hT
  have i0:=Rat.inv_pos.2 T0
  have ie:=zr0 T0
  have e2:=Rat.mul_pos i0 r8.2.1
  obtain ⟨N1,a1⟩:=zs3 (dbl x i) e2
  obtain ⟨l1,l2⟩:=zut x i
  obtain ⟨N2,b1⟩:=l1.1 _ e2
  obtain ⟨N3,b2⟩:=l1.2 _ e2
  obtain ⟨N4,b3⟩:=l2.1 _ e2
  obtain ⟨N5,b4⟩:=l2.2 _ e2
  obtain ⟨K,hK⟩:∃ K,K=N0+N1+N2+N3+N4+N5:=⟨_,rfl⟩
  have a1:=a1 K (by omega)
  have b1:(uD x i K).1≤SN (dbl x i) K+(T:Rat)⁻¹*(1 / 2):=b1 K (by omega)
  have b2:SN (dbl x i) K≤(uD x i K).1+(T:Rat)⁻¹*(1 / 2):=b2 K (by omega)
  have b3:(uD x i K).2≤CS (dbl x i) K+(T:Rat)⁻¹*(1 / 2):=b3 K (by omega)
  have b4:CS (dbl x i) K≤(uD x i K).2+(T:Rat)⁻¹*(1 / 2):=b4 K (by omega)
  have en:=henc K (by omega)
  have d:=zus hT en.1 en.2 i
  clear henc hw l1 l2 en hK
  generalize (uD x i K).1=u at *
  generalize (uD x i K).2=w at *
  generalize SN (dbl x i) K=S at *
  generalize CS (dbl x i) K=Cc at *
  have hT2:(T:Rat)⁻¹*(1 / 2)*2=(T:Rat)⁻¹:=by grind
  have m1:=Rat.mul_le_mul_of_nonneg_right (show u≤1+(T:Rat)⁻¹ by grind) (Rat.le_of_lt T0)
  have m2:=Rat.mul_le_mul_of_nonneg_right (show -(1+(T:Rat)⁻¹)≤u by grind) (Rat.le_of_lt T0)
  have m3:=Rat.mul_le_mul_of_nonneg_right (show w≤1+(T:Rat)⁻¹ by grind) (Rat.le_of_lt T0)
  have m4:=Rat.mul_le_mul_of_nonneg_right (show -(1+(T:Rat)⁻¹)≤w by grind) (Rat.le_of_lt T0)
  have ee:(1+(T:Rat)⁻¹)*(T:Rat)=(T:Rat)+1:=by rw [Rat.add_mul,ie,Rat.one_mul]
  rw [ee] at m1 m3
  rw [Rat.neg_mul,ee] at m2 m4
  have q1:(rD T z i).s1≤T+1:=by
   refine Rat.intCast_le_intCast.1 ?_
   rw [Rat.intCast_add]; exact Rat.le_trans d.1.1 m1
  have q2:-(T+1)≤(rD T z i).s2:=by
   refine Rat.intCast_le_intCast.1 ?_
   rw [Rat.intCast_neg,Rat.intCast_add]; exact Rat.le_trans m2 d.1.2
  have q3:(rD T z i).c1≤T+1:=by
   refine Rat.intCast_le_intCast.1 ?_
   rw [Rat.intCast_add]; exact Rat.le_trans d.2.1 m3
  have q4:-(T+1)≤(rD T z i).c2:=by
   refine Rat.intCast_le_intCast.1 ?_
   rw [Rat.intCast_neg,Rat.intCast_add]; exact Rat.le_trans m4 d.2.2
  have pi_:(1:Int)≤16^i:=Int.pow_pos (by decide)
  have ph:(16:Int)^i≤16^h:=by
   obtain ⟨k,rfl⟩:∃ k,h=i+k:=⟨h-i,by omega⟩
   rw [Int.pow_add]
   have pk:(1:Int)≤16^k:=Int.pow_pos (by decide)
   have:=Int.mul_le_mul_of_nonneg_left pk (show (0:Int)≤16^i by omega)
   omega
  have mW:=Int.mul_le_mul_of_nonneg_right ph (show 0≤W by omega)
  have mI:=Int.mul_le_mul_of_nonneg_right pi_ (show 0≤W by omega)
  omega
 intro i
 induction i with
 | zero =>
  intro hi
  have e:(16:Int)^0*W=W:=by rw [Int.pow_zero,Int.one_mul]
  have b:((rD T z 0).s1≤(rD T z 0).s2∧(rD T z 0).s2-(rD T z 0).s1≤16^0*W)∧((rD T z 0).c1≤(rD T z 0).c2∧(rD T z 0).c2-(rD T z 0).c1≤16^0*W):=by rw [e]; exact ⟨hs,hc⟩
  exact ⟨b.1,b.2,size 0 hi b⟩
 | succ i ih =>
  intro hi
  obtain ⟨⟨a1,a2⟩,⟨b1,b2⟩,⟨s1,s2⟩,c1,c2⟩:=ih (by omega)
  have mI:W≤16^i*W:=by
   have pi_:(1:Int)≤16^i:=Int.pow_pos (by decide)
   have:=Int.mul_le_mul_of_nonneg_right pi_ (show 0≤W by omega)
   omega
  have e:(16:Int)^(i+1)*W=16*(16^i*W):=by rw [Int.pow_succ,Int.mul_comm (16^i) 16,Int.mul_assoc]
  have p:=zun (X:=2*T) (Y:=2*T) (W1:=16^i*W) (W2:=16^i*W) (D:=4*(16^i*W)) hT (a:=(rD T z i).s1) (b:=(rD T z i).s2) (c:=(rD T z i).c1) (d:=(rD T z i).c2) (by omega) (by omega) (by omega) (by omega) a2 b2 a1 b1 (by
   have:16^i*W*(2*T)=2*T*(16^i*W):=Int.mul_comm _ _
   have e3:4*(16^i*W)*T=2*T*(16^i*W)+2*T*(16^i*W):=by grind
   omega)
  have q:=zun (X:=2*T) (Y:=2*T) (W1:=16^i*W) (W2:=16^i*W) (D:=4*(16^i*W)) hT (a:=(rD T z i).s1) (b:=(rD T z i).s2) (c:=(rD T z i).s1) (d:=(rD T z i).s2) (by omega) (by omega) (by omega) (by omega) a2 a2 a1 a1 (by
   have:16^i*W*(2*T)=2*T*(16^i*W):=Int.mul_comm _ _
   have e3:4*(16^i*W)*T=2*T*(16^i*W)+2*T*(16^i*W):=by grind
   omega)
  have pl:=zud (a:=(rD T z i).s1) (b:=(rD T z i).s2) (c:=(rD T z i).c1) (d:=(rD T z i).c2) hT
  have ql:=zud (a:=(rD T z i).s1) (b:=(rD T z i).s2) (c:=(rD T z i).s1) (d:=(rD T z i).s2) hT
  have b:((rD T z (i+1)).s1≤(rD T z (i+1)).s2∧(rD T z (i+1)).s2-(rD T z (i+1)).s1≤16^(i+1)*W)∧((rD T z (i+1)).c1≤(rD T z (i+1)).c2∧(rD T z (i+1)).c2-(rD T z (i+1)).c1≤16^(i+1)*W):=by
   rw [e]
   show (rm1 _ _ _ _ T*2≤rm2 _ _ _ _ T*2∧rm2 _ _ _ _ T*2-rm1 _ _ _ _ T*2≤_)∧(T+-(rm2 _ _ _ _ T*2)≤T+-(rm1 _ _ _ _ T*2)∧T+-(rm1 _ _ _ _ T*2)-(T+-(rm2 _ _ _ _ T*2))≤_)
   omega
  exact ⟨b.1,b.2,size (i+1) hi b⟩
end Go.Proofs.YtcbihoojfakhdaaGreatDoor

namespace Go.Proofs.YtcbihoojfakhdaaGreatDoor
open Go.RowKit
set_option maxRecDepth 100000
set_option maxHeartbeats 2000000
theorem zuv (k:Int)(h:0≤k):wRem k 4=k%4:=Int.tmod_eq_emod_of_nonneg h
theorem zuw (k:Int)(h:0≤k):wRem k 2=k%2:=Int.tmod_eq_emod_of_nonneg h
def r17_0_mk (_:Nat)(m ee hv v ma mb y1 y2:Int)(pp1 pp2 _ _:Nat→Int)(x:(Nat × Int)⊕((Nat × Int)⊕((Nat × Int)⊕(Nat × Int)))):St:=Sum.elim (fun (x:Nat × Int)=>⟨mkS 82 [(1,(.val (.int .i64 v))),(2,(.val (.int .i64 hv))),(6,(.own 1 0)),(7,(.own 2 0)),(10,(.own 4 0)),(11,(.own 5 0)),(12,(.own 6 0)),(13,(.own 7 0)),(14,(.val (.int .i64 x.2)))],[⟨true,false,[(V.bool (decide (m<0))),(N m.natAbs),(V.int .i64 ee)]⟩,⟨true,false,[(V.bool false),V.nil,(V.bool false),V.nil]⟩,⟨true,false,[(V.bool false),V.nil,(V.bool false),V.nil]⟩,⟨true,false,[(V.bool (decide (ma<0))),(N ma.natAbs),(V.int .i64 mb)]⟩,⟨true,false,[(V.bool (decide (y1<0))),(N y1.natAbs),(V.bool (decide (y2<0))),(N y2.natAbs)]⟩,⟨true,false,[(V.bool (decide ((snL pp1 pp2 (2*x.1))<0))),(N ((snL pp1 pp2 (2*x.1)).natAbs)),(V.bool (decide ((snH pp1 pp2 (2*x.1))<0))),(N ((snH pp1 pp2 (2*x.1)).natAbs))]⟩,⟨true,false,[(V.bool (decide ((csL pp1 pp2 (2*x.1))<0))),(N ((csL pp1 pp2 (2*x.1)).natAbs)),(V.bool (decide ((csH pp1 pp2 (2*x.1))<0))),(N ((csH pp1 pp2 (2*x.1)).natAbs))]⟩,⟨true,false,[(V.bool (decide ((pp1 (4*x.1))<0))),(N ((pp1 (4*x.1)).natAbs)),(V.bool (decide ((pp2 (4*x.1))<0))),(N ((pp2 (4*x.1)).natAbs))]⟩]⟩) (fun (x:(Nat × Int)⊕((Nat × Int)⊕(Nat × Int)))=>Sum.elim (fun (x:Nat × Int)=>⟨mkS 82 [(1,(.val (.int .i64 v))),(2,(.val (.int .i64 hv))),(6,(.own 1 0)),(7,(.own 2 0)),(10,(.own 4 0)),(11,(.own 5 0)),(12,(.own 6 0)),(13,(.own 7 0)),(14,(.val (.int .i64 x.2)))],[⟨true,false,[(V.bool (decide (m<0))),(N m.natAbs),(V.int .i64 ee)]⟩,⟨true,false,[(V.bool false),V.nil,(V.bool false),V.nil]⟩,⟨true,false,[(V.bool false),V.nil,(V.bool false),V.nil]⟩,⟨true,false,[(V.bool (decide (ma<0))),(N ma.natAbs),(V.int .i64 mb)]⟩,⟨true,false,[(V.bool (decide (y1<0))),(N y1.natAbs),(V.bool (decide (y2<0))),(N y2.natAbs)]⟩,⟨true,false,[(V.bool (decide ((snL pp1 pp2 (2*x.1))<0))),(N ((snL pp1 pp2 (2*x.1)).natAbs)),(V.bool (decide ((snH pp1 pp2 (2*x.1))<0))),(N ((snH pp1 pp2 (2*x.1)).natAbs))]⟩,⟨true,false,[(V.bool (decide ((csL pp1 pp2 (2*x.1+1))<0))),(N ((csL pp1 pp2 (2*x.1+1)).natAbs)),(V.bool (decide ((csH pp1 pp2 (2*x.1+1))<0))),(N ((csH pp1 pp2 (2*x.1+1)).natAbs))]⟩,⟨true,false,[(V.bool (decide ((pp1 (4*x.1+1))<0))),(N ((pp1 (4*x.1+1)).natAbs)),(V.bool (decide ((pp2 (4*x.1+1))<0))),(N ((pp2 (4*x.1+1)).natAbs))]⟩]⟩) (fun (x:(Nat × Int)⊕(Nat × Int))=>Sum.elim (fun (x:Nat × Int)=>⟨mkS 82 [(1,(.val (.int .i64 v))),(2,(.val (.int .i64 hv))),(6,(.own 1 0)),(7,(.own 2 0)),(10,(.own 4 0)),(11,(.own 5 0)),(12,(.own 6 0)),(13,(.own 7 0)),(14,(.val (.int .i64 x.2)))],[⟨true,false,[(V.bool (decide (m<0))),(N m.natAbs),(V.int .i64 ee)]⟩,⟨true,false,[(V.bool false),V.nil,(V.bool false),V.nil]⟩,⟨true,false,[(V.bool false),V.nil,(V.bool false),V.nil]⟩,⟨true,false,[(V.bool (decide (ma<0))),(N ma.natAbs),(V.int .i64 mb)]⟩,⟨true,false,[(V.bool (decide (y1<0))),(N y1.natAbs),(V.bool (decide (y2<0))),(N y2.natAbs)]⟩,⟨true,false,[(V.bool (decide ((snL pp1 pp2 (2*x.1+1))<0))),(N ((snL pp1 pp2 (2*x.1+1)).natAbs)),(V.bool (decide ((snH pp1 pp2 (2*x.1+1))<0))),(N ((snH pp1 pp2 (2*x.1+1)).natAbs))]⟩,⟨true,false,[(V.bool (decide ((csL pp1 pp2 (2*x.1+1))<0))),(N ((csL pp1 pp2 (2*x.1+1)).natAbs)),(V.bool (decide ((csH pp1 pp2 (2*x.1+1))<0))),(N ((csH pp1 pp2 (2*x.1+1)).natAbs))]⟩,⟨true,false,[(V.bool (decide ((pp1 (4*x.1+2))<0))),(N ((pp1 (4*x.1+2)).natAbs)),(V.bool (decide ((pp2 (4*x.1+2))<0))),(N ((pp2 (4*x.1+2)).natAbs))]⟩]⟩) (fun (x:Nat × Int)=>⟨mkS 82 [(1,(.val (.int .i64 v))),(2,(.val (.int .i64 hv))),(6,(.own 1 0)),(7,(.own 2 0)),(10,(.own 4 0)),(11,(.own 5 0)),(12,(.own 6 0)),(13,(.own 7 0)),(14,(.val (.int .i64 x.2)))],[⟨true,false,[(V.bool (decide (m<0))),(N m.natAbs),(V.int .i64 ee)]⟩,⟨true,false,[(V.bool false),V.nil,(V.bool false),V.nil]⟩,⟨true,false,[(V.bool false),V.nil,(V.bool false),V.nil]⟩,⟨true,false,[(V.bool (decide (ma<0))),(N ma.natAbs),(V.int .i64 mb)]⟩,⟨true,false,[(V.bool (decide (y1<0))),(N y1.natAbs),(V.bool (decide (y2<0))),(N y2.natAbs)]⟩,⟨true,false,[(V.bool (decide ((snL pp1 pp2 (2*x.1+1))<0))),(N ((snL pp1 pp2 (2*x.1+1)).natAbs)),(V.bool (decide ((snH pp1 pp2 (2*x.1+1))<0))),(N ((snH pp1 pp2 (2*x.1+1)).natAbs))]⟩,⟨true,false,[(V.bool (decide ((csL pp1 pp2 (2*x.1+2))<0))),(N ((csL pp1 pp2 (2*x.1+2)).natAbs)),(V.bool (decide ((csH pp1 pp2 (2*x.1+2))<0))),(N ((csH pp1 pp2 (2*x.1+2)).natAbs))]⟩,⟨true,false,[(V.bool (decide ((pp1 (4*x.1+3))<0))),(N ((pp1 (4*x.1+3)).natAbs)),(V.bool (decide ((pp2 (4*x.1+3))<0))),(N ((pp2 (4*x.1+3)).natAbs))]⟩]⟩) x) x) x
def r17_0_I (nn:Nat)(_ _ _ _ _ _ _ _:Int)(_ _ _ _:Nat→Int)(x:(Nat × Int)⊕((Nat × Int)⊕((Nat × Int)⊕(Nat × Int)))):Prop:=Sum.elim (fun (x:Nat × Int)=>4*x.1+0≤nn∧x.2=4*(x.1:Int)+0) (fun (x:(Nat × Int)⊕((Nat × Int)⊕(Nat × Int)))=>Sum.elim (fun (x:Nat × Int)=>4*x.1+1≤nn∧x.2=4*(x.1:Int)+1) (fun (x:(Nat × Int)⊕(Nat × Int))=>Sum.elim (fun (x:Nat × Int)=>4*x.1+2≤nn∧x.2=4*(x.1:Int)+2) (fun (x:Nat × Int)=>4*x.1+3≤nn∧x.2=4*(x.1:Int)+3) x) x) x
def r17_0_mu (nn:Nat)(_ _ _ _ _ _ _ _:Int)(_ _ _ _:Nat→Int)(x:(Nat × Int)⊕((Nat × Int)⊕((Nat × Int)⊕(Nat × Int)))):Nat:=Sum.elim (fun (x:Nat × Int)=>nn-(4*x.1+0)) (fun (x:(Nat × Int)⊕((Nat × Int)⊕(Nat × Int)))=>Sum.elim (fun (x:Nat × Int)=>nn-(4*x.1+1)) (fun (x:(Nat × Int)⊕(Nat × Int))=>Sum.elim (fun (x:Nat × Int)=>nn-(4*x.1+2)) (fun (x:Nat × Int)=>nn-(4*x.1+3)) x) x) x
def r17_0_ex (_:Nat)(m ee hv v ma mb y1 y2:Int)(pp1 pp2 _ _:Nat→Int)(y:Nat × Nat × Nat):Ex × St:=(.exit 0,⟨mkS 82 [(1,(.val (.int .i64 v))),(2,(.val (.int .i64 hv))),(6,(.own 1 0)),(7,(.own 2 0)),(11,(.own 5 0)),(12,(.own 6 0))],[⟨true,false,[(V.bool (decide (m<0))),(N m.natAbs),(V.int .i64 ee)]⟩,⟨true,false,[(V.bool false),V.nil,(V.bool false),V.nil]⟩,⟨true,false,[(V.bool false),V.nil,(V.bool false),V.nil]⟩,⟨true,false,[(V.bool (decide (ma<0))),(N ma.natAbs),(V.int .i64 mb)]⟩,⟨true,false,[(V.bool (decide (y1<0))),(N y1.natAbs),(V.bool (decide (y2<0))),(N y2.natAbs)]⟩,⟨true,false,[(V.bool (decide ((snL pp1 pp2 y.2.2)<0))),(N ((snL pp1 pp2 y.2.2).natAbs)),(V.bool (decide ((snH pp1 pp2 y.2.2)<0))),(N ((snH pp1 pp2 y.2.2).natAbs))]⟩,⟨true,false,[(V.bool (decide ((csL pp1 pp2 y.2.1)<0))),(N ((csL pp1 pp2 y.2.1).natAbs)),(V.bool (decide ((csH pp1 pp2 y.2.1)<0))),(N ((csH pp1 pp2 y.2.1).natAbs))]⟩,⟨true,false,[(V.bool (decide ((pp1 y.1)<0))),(N ((pp1 y.1).natAbs)),(V.bool (decide ((pp2 y.1)<0))),(N ((pp2 y.1).natAbs))]⟩]⟩)
def r17_0_J (nn:Nat)(_ _ _ _ _ _ _ _:Int)(_ _ _ _:Nat→Int)(y:Nat × Nat × Nat):Prop:=y.1=nn∧y.2.1=(nn+1) / 2∧y.2.2=nn / 2
abbrev r17_0_N (nn:Nat)(m ee hv v ma mb y1 y2:Int)(pp1 pp2 mm1 mm2:Nat→Int):=NX (r17_0_mk nn m ee hv v ma mb y1 y2 pp1 pp2 mm1 mm2) (r17_0_I nn m ee hv v ma mb y1 y2 pp1 pp2 mm1 mm2) (r17_0_mu nn m ee hv v ma mb y1 y2 pp1 pp2 mm1 mm2) (r17_0_ex nn m ee hv v ma mb y1 y2 pp1 pp2 mm1 mm2) (r17_0_J nn m ee hv v ma mb y1 y2 pp1 pp2 mm1 mm2)
theorem zux (nn:Nat)(m ee hv v ma mb y1 y2:Int)(pp1 pp2 mm1 mm2:Nat→Int)(c0:∀ j,j≤nn→Impl Tryz.prog Amb 74 [(sV (pp1 j) (pp2 j))] (.bool (decide (nn≤j))))(c1:∀ j,j<nn→Impl Tryz.prog Amb 99 [(sV (pp1 j) (pp2 j))] (sV (-(pp2 j)) (-(pp1 j))))(c2:∀ i,i%2=0→2*i<nn→Impl Tryz.prog Amb 47 [(sV (csL pp1 pp2 i) (csH pp1 pp2 i)),(sV (pp1 (2*i)) (pp2 (2*i)))] (sV (csL pp1 pp2 (i+1)) (csH pp1 pp2 (i+1))))(c3:∀ i,i%2=1→2*i<nn→Impl Tryz.prog Amb 47 [(sV (csL pp1 pp2 i) (csH pp1 pp2 i)),(sV (-(pp2 (2*i))) (-(pp1 (2*i))))] (sV (csL pp1 pp2 (i+1)) (csH pp1 pp2 (i+1))))(c4:∀ i,i%2=0→2*i+1<nn→Impl Tryz.prog Amb 47 [(sV (snL pp1 pp2 i) (snH pp1 pp2 i)),(sV (pp1 (2*i+1)) (pp2 (2*i+1)))] (sV (snL pp1 pp2 (i+1)) (snH pp1 pp2 (i+1))))(c5:∀ i,i%2=1→2*i+1<nn→Impl Tryz.prog Amb 47 [(sV (snL pp1 pp2 i) (snH pp1 pp2 i)),(sV (-(pp2 (2*i+1))) (-(pp1 (2*i+1))))] (sV (snL pp1 pp2 (i+1)) (snH pp1 pp2 (i+1))))(c6:∀ j,j<nn→Impl Tryz.prog Amb 75 [(sV (pp1 j) (pp2 j)),(sV y1 y2),(.int .i64 v)] (sV (mm1 j) (mm2 j)))(c7:∀ (j:Nat) (kk:Int),j<nn→kk=(j:Int)+1→Impl Tryz.prog Amb 29 [(sV (mm1 j) (mm2 j)),(.int .i64 kk)] (sV (pp1 (j+1)) (pp2 (j+1))))(c8:nn≤10000)(c9:(-1000:Int)≤v∧v≤10000)(x0:(Nat × Int)⊕((Nat × Int)⊕((Nat × Int)⊕(Nat × Int))))(hI:r17_0_I nn m ee hv v ma mb y1 y2 pp1 pp2 mm1 mm2 x0):LoopOk Tryz.prog Amb (loopN Tryz.f198 0) (r17_0_mk nn m ee hv v ma mb y1 y2 pp1 pp2 mm1 mm2 x0) (fun e st_=>∃ y,r17_0_J nn m ee hv v ma mb y1 y2 pp1 pp2 mm1 mm2 y∧r17_0_ex nn m ee hv v ma mb y1 y2 pp1 pp2 mm1 mm2 y=(e,st_)) :=
 z6m hP hAmb ⟨[1,2,6,7,10,11,12,13,14],8,[]⟩ (r17_0_mk nn m ee hv v ma mb y1 y2 pp1 pp2 mm1 mm2) (r17_0_I nn m ee hv v ma mb y1 y2 pp1 pp2 mm1 mm2) (r17_0_mu nn m ee hv v ma mb y1 y2 pp1 pp2 mm1 mm2) (r17_0_ex nn m ee hv v ma mb y1 y2 pp1 pp2 mm1 mm2) (r17_0_J nn m ee hv v ma mb y1 y2 pp1 pp2 mm1 mm2) x0 hI (Sum.elim (fun (h,k)=>.lits 2<|.call (.bool (decide (nn≤(4*h))))<|.lit<|.both (.lits 4<|.no<|.lits 2<|.no<|.lits 3<|.call (sV (csL pp1 pp2 (2*h+1)) (csH pp1 pp2 (2*h+1)))<|.lits 4<|.call (sV (mm1 (4*h)) (mm2 (4*h)))<|.lit<|.yes<|.lit<|.call (sV (pp1 (4*h+1)) (pp2 (4*h+1)))<|.lits 2<|.yes<|.fin2 ⟨[1,2,6,7,10,11,12,13,14],8,[]⟩) (.fin2 ⟨[1,2,6,7,11,12],8,[]⟩)) (Sum.elim (fun (h,k)=>.lits 2<|.call (.bool (decide (nn≤(4*h+1))))<|.lit<|.both (.lits 4<|.no<|.lits 2<|.yes<|.lits 3<|.call (sV (snL pp1 pp2 (2*h+1)) (snH pp1 pp2 (2*h+1)))<|.lits 4<|.call (sV (mm1 (4*h+1)) (mm2 (4*h+1)))<|.lit<|.yes<|.lit<|.call (sV (pp1 (4*h+2)) (pp2 (4*h+2)))<|.lits 2<|.yes<|.fin2 ⟨[1,2,6,7,10,11,12,13,14],8,[]⟩) (.fin2 ⟨[1,2,6,7,11,12],8,[]⟩)) (Sum.elim (fun (h,k)=>.lits 2<|.call (.bool (decide (nn≤(4*h+2))))<|.lit<|.both (.lits 4<|.yes<|.lits 2<|.call (sV (-(pp2 (4*h+2))) (-(pp1 (4*h+2))))<|.lits 3<|.no<|.lits 3<|.call (sV (csL pp1 pp2 (2*h+2)) (csH pp1 pp2 (2*h+2)))<|.lits 4<|.call (sV (mm1 (4*h+2)) (mm2 (4*h+2)))<|.lit<|.yes<|.lit<|.call (sV (pp1 (4*h+3)) (pp2 (4*h+3)))<|.lits 2<|.yes<|.fin2 ⟨[1,2,6,7,10,11,12,13,14],8,[]⟩) (.fin2 ⟨[1,2,6,7,11,12],8,[]⟩)) (fun (h,k)=>.lits 2<|.call (.bool (decide (nn≤(4*h+3))))<|.lit<|.both (.lits 4<|.yes<|.lits 2<|.call (sV (-(pp2 (4*h+3))) (-(pp1 (4*h+3))))<|.lits 3<|.yes<|.lits 3<|.call (sV (snL pp1 pp2 (2*(h+1))) (snH pp1 pp2 (2*(h+1))))<|.lits 4<|.call (sV (mm1 (4*h+3)) (mm2 (4*h+3)))<|.lit<|.yes<|.lit<|.call (sV (pp1 (4*(h+1))) (pp2 (4*(h+1))))<|.lits 2<|.yes<|.fin2 ⟨[1,2,6,7,10,11,12,13,14],8,[]⟩) (.fin2 ⟨[1,2,6,7,11,12],8,[]⟩))))) (by
  rintro (⟨h,k⟩ | ⟨h,k⟩ | ⟨h,k⟩ | ⟨h,k⟩) hI
  ·skip
   have hI:4*h+0≤nn∧k=4*(h:Int)+0:=hI
   obtain ⟨h1,h2⟩:=hI
   have r4:=zuv k oO
   have r2:=zuw k oO
   exact z6d (aI True.intro (aI (c0 (4*h) h1 ) (aI (fun (h101:(!(decide (nn≤(4*h))))=true)=>have _gh101:=of_decide_eq_false (z7q h101); aI (z7m oO:(iGt (wRem k (4:Int)) 1)=false) (aI (z7n oO:(iEq (wRem k (2:Int)) 1)=false) (aI ((show _ from (by have q:=c2 (2*h) oO oO; rw [show 2*(2*h)=4*h by omega] at q; exact q)) ) (aI (c6 (4*h) oO ) (aI (z7t oO:(fits .i64 (k+1))=true) (aI (c7 (4*h) (k+1) oO oO ) (aI (z7t oO:(fits .i64 (k+1))=true) (aI tT ((z6j (Sum.inr (Sum.inl (h,(k+1)))) (show 4*h+1≤nn∧(k+1)=4*(h:Int)+1 from ⟨by omega,by omega⟩) (show nn-(4*h+1)<nn-(4*h+0) by omega):r17_0_N nn m ee hv v ma mb y1 y2 pp1 pp2 mm1 mm2 (Sum.inl (h,k)) .normal (r17_0_mk nn m ee hv v ma mb y1 y2 pp1 pp2 mm1 mm2 (Sum.inr (Sum.inl (h,(k+1))))))))))))))) (fun (h102:(!(decide (nn≤(4*h))))=false)=>have _gh102:=of_decide_eq_true (z7r h102); aI tT ((z6k 0 ((r17_0_ex nn m ee hv v ma mb y1 y2 pp1 pp2 mm1 mm2 ((4*h),(2*h),(2*h))).2) ((4*h),(2*h),(2*h)) (show (4*h)=nn∧(2*h)=(nn+1) / 2∧(2*h)=nn / 2 from show (4*h)=nn∧(2*h)=(nn+1) / 2∧(2*h)=nn / 2 from ⟨by omega,by omega,by omega⟩) rfl:r17_0_N nn m ee hv v ma mb y1 y2 pp1 pp2 mm1 mm2 (Sum.inl (h,k)) (.exit 0) ((r17_0_ex nn m ee hv v ma mb y1 y2 pp1 pp2 mm1 mm2 ((4*h),(2*h),(2*h))).2))))))) (by kernel_rfl)
  ·skip
   have hI:4*h+1≤nn∧k=4*(h:Int)+1:=hI
   obtain ⟨h1,h2⟩:=hI
   have r4:=zuv k oO
   have r2:=zuw k oO
   exact z6d (aI True.intro (aI (c0 (4*h+1) h1 ) (aI (fun (h101:(!(decide (nn≤(4*h+1))))=true)=>have _gh101:=of_decide_eq_false (z7q h101); aI (z7m oO:(iGt (wRem k (4:Int)) 1)=false) (aI (z7i oO:(iEq (wRem k (2:Int)) 1)=true) (aI ((show _ from (by have q:=c4 (2*h) oO oO; rw [show 2*(2*h)=4*h by omega] at q; exact q)) ) (aI (c6 (4*h+1) oO ) (aI (z7t oO:(fits .i64 (k+1))=true) (aI (c7 (4*h+1) (k+1) oO oO ) (aI (z7t oO:(fits .i64 (k+1))=true) (aI tT ((z6j (Sum.inr (Sum.inr (Sum.inl (h,(k+1))))) (show 4*h+2≤nn∧(k+1)=4*(h:Int)+2 from ⟨by omega,by omega⟩) (show nn-(4*h+2)<nn-(4*h+1) by omega):r17_0_N nn m ee hv v ma mb y1 y2 pp1 pp2 mm1 mm2 (Sum.inr (Sum.inl (h,k))) .normal (r17_0_mk nn m ee hv v ma mb y1 y2 pp1 pp2 mm1 mm2 (Sum.inr (Sum.inr (Sum.inl (h,(k+1)))))))))))))))) (fun (h102:(!(decide (nn≤(4*h+1))))=false)=>have _gh102:=of_decide_eq_true (z7r h102); aI tT ((z6k 0 ((r17_0_ex nn m ee hv v ma mb y1 y2 pp1 pp2 mm1 mm2 ((4*h+1),(2*h+1),(2*h))).2) ((4*h+1),(2*h+1),(2*h)) (show (4*h+1)=nn∧(2*h+1)=(nn+1) / 2∧(2*h)=nn / 2 from show (4*h+1)=nn∧(2*h+1)=(nn+1) / 2∧(2*h)=nn / 2 from ⟨by omega,by omega,by omega⟩) rfl:r17_0_N nn m ee hv v ma mb y1 y2 pp1 pp2 mm1 mm2 (Sum.inr (Sum.inl (h,k))) (.exit 0) ((r17_0_ex nn m ee hv v ma mb y1 y2 pp1 pp2 mm1 mm2 ((4*h+1),(2*h+1),(2*h))).2))))))) (by kernel_rfl)
  ·skip
   have hI:4*h+2≤nn∧k=4*(h:Int)+2:=hI
   obtain ⟨h1,h2⟩:=hI
   have r4:=zuv k oO
   have r2:=zuw k oO
   exact z6d (aI True.intro (aI (c0 (4*h+2) h1 ) (aI (fun (h101:(!(decide (nn≤(4*h+2))))=true)=>have _gh101:=of_decide_eq_false (z7q h101); aI (z7h oO:(iGt (wRem k (4:Int)) 1)=true) (aI (c1 (4*h+2) oO ) (aI (z7n oO:(iEq (wRem k (2:Int)) 1)=false) (aI ((show _ from (by have q:=c3 (2*h+1) oO oO; rw [show 2*(2*h+1)=4*h+2 by omega] at q; exact q)) ) (aI (c6 (4*h+2) oO ) (aI (z7t oO:(fits .i64 (k+1))=true) (aI (c7 (4*h+2) (k+1) oO oO ) (aI (z7t oO:(fits .i64 (k+1))=true) (aI tT ((z6j (Sum.inr (Sum.inr (Sum.inr (h,(k+1))))) (show 4*h+3≤nn∧(k+1)=4*(h:Int)+3 from ⟨by omega,by omega⟩) (show nn-(4*h+3)<nn-(4*h+2) by omega):r17_0_N nn m ee hv v ma mb y1 y2 pp1 pp2 mm1 mm2 (Sum.inr (Sum.inr (Sum.inl (h,k)))) .normal (r17_0_mk nn m ee hv v ma mb y1 y2 pp1 pp2 mm1 mm2 (Sum.inr (Sum.inr (Sum.inr (h,(k+1))))))))))))))))) (fun (h102:(!(decide (nn≤(4*h+2))))=false)=>have _gh102:=of_decide_eq_true (z7r h102); aI tT ((z6k 0 ((r17_0_ex nn m ee hv v ma mb y1 y2 pp1 pp2 mm1 mm2 ((4*h+2),(2*h+1),(2*h+1))).2) ((4*h+2),(2*h+1),(2*h+1)) (show (4*h+2)=nn∧(2*h+1)=(nn+1) / 2∧(2*h+1)=nn / 2 from show (4*h+2)=nn∧(2*h+1)=(nn+1) / 2∧(2*h+1)=nn / 2 from ⟨by omega,by omega,by omega⟩) rfl:r17_0_N nn m ee hv v ma mb y1 y2 pp1 pp2 mm1 mm2 (Sum.inr (Sum.inr (Sum.inl (h,k)))) (.exit 0) ((r17_0_ex nn m ee hv v ma mb y1 y2 pp1 pp2 mm1 mm2 ((4*h+2),(2*h+1),(2*h+1))).2))))))) (by kernel_rfl)
  ·skip
   have hI:4*h+3≤nn∧k=4*(h:Int)+3:=hI
   obtain ⟨h1,h2⟩:=hI
   have r4:=zuv k oO
   have r2:=zuw k oO
   exact z6d (aI True.intro (aI (c0 (4*h+3) h1 ) (aI (fun (h101:(!(decide (nn≤(4*h+3))))=true)=>have _gh101:=of_decide_eq_false (z7q h101); aI (z7h oO:(iGt (wRem k (4:Int)) 1)=true) (aI (c1 (4*h+3) oO ) (aI (z7i oO:(iEq (wRem k (2:Int)) 1)=true) (aI ((show _ from (by have q:=c5 (2*h+1) oO oO; rw [show 2*(2*h+1)=4*h+2 by omega] at q; exact q)) ) (aI (c6 (4*h+3) oO ) (aI (z7t oO:(fits .i64 (k+1))=true) (aI (c7 (4*h+3) (k+1) oO oO ) (aI (z7t oO:(fits .i64 (k+1))=true) (aI tT ((z6j (Sum.inl ((h+1),(k+1))) (show 4*(h+1)+0≤nn∧(k+1)=4*((h+1):Int)+0 from ⟨by omega,by omega⟩) (show nn-(4*(h+1)+0)<nn-(4*h+3) by omega):r17_0_N nn m ee hv v ma mb y1 y2 pp1 pp2 mm1 mm2 (Sum.inr (Sum.inr (Sum.inr (h,k)))) .normal (r17_0_mk nn m ee hv v ma mb y1 y2 pp1 pp2 mm1 mm2 (Sum.inl ((h+1),(k+1))))))))))))))) (fun (h102:(!(decide (nn≤(4*h+3))))=false)=>have _gh102:=of_decide_eq_true (z7r h102); aI tT ((z6k 0 ((r17_0_ex nn m ee hv v ma mb y1 y2 pp1 pp2 mm1 mm2 ((4*h+3),(2*h+2),(2*h+1))).2) ((4*h+3),(2*h+2),(2*h+1)) (show (4*h+3)=nn∧(2*h+2)=(nn+1) / 2∧(2*h+1)=nn / 2 from show (4*h+3)=nn∧(2*h+2)=(nn+1) / 2∧(2*h+1)=nn / 2 from ⟨by omega,by omega,by omega⟩) rfl:r17_0_N nn m ee hv v ma mb y1 y2 pp1 pp2 mm1 mm2 (Sum.inr (Sum.inr (Sum.inr (h,k)))) (.exit 0) ((r17_0_ex nn m ee hv v ma mb y1 y2 pp1 pp2 mm1 mm2 ((4*h+3),(2*h+2),(2*h+1))).2))))))) (by kernel_rfl))
def r17_1_mk (m ee hv v ma mb y1 y2 t1 t2 _ _:Int)(sa sb ca cb _ _ _ _ _ _:Nat→Int)(x:Nat × Int):St:=⟨mkS 82 [(1,(.val (.int .i64 v))),(6,(.own 1 0)),(7,(.own 2 0)),(11,(.own 5 0)),(12,(.own 6 0)),(63,(.val (.int .i64 hv))),(64,(.val (.int .i64 x.2)))],[⟨true,false,[(V.bool (decide (m<0))),(N m.natAbs),(V.int .i64 ee)]⟩,⟨true,false,[(V.bool false),V.nil,(V.bool false),V.nil]⟩,⟨true,false,[(V.bool false),V.nil,(V.bool false),V.nil]⟩,⟨true,false,[(V.bool (decide (ma<0))),(N ma.natAbs),(V.int .i64 mb)]⟩,⟨true,false,[(V.bool (decide (y1<0))),(N y1.natAbs),(V.bool (decide (y2<0))),(N y2.natAbs)]⟩,⟨true,false,[(V.bool (decide ((sa x.1)<0))),(N ((sa x.1).natAbs)),(V.bool (decide ((sb x.1)<0))),(N ((sb x.1).natAbs))]⟩,⟨true,false,[(V.bool (decide ((ca x.1)<0))),(N ((ca x.1).natAbs)),(V.bool (decide ((cb x.1)<0))),(N ((cb x.1).natAbs))]⟩,⟨true,false,[(V.bool (decide (t1<0))),(N t1.natAbs),(V.bool (decide (t2<0))),(N t2.natAbs)]⟩]⟩
def r17_1_I (_ _ hv _ _ _ _ _ _ _ _ _:Int)(_ _ _ _ _ _ _ _ _ _:Nat→Int)(x:Nat × Int):Prop:=x.2=(x.1:Int)∧(x.1:Int)≤hv
def r17_1_mu (_ _ hv _ _ _ _ _ _ _ _ _:Int)(_ _ _ _ _ _ _ _ _ _:Nat→Int)(x:Nat × Int):Nat:=(hv-x.1).toNat
def r17_1_ex (m ee _ _ ma mb y1 y2 t1 t2 _ _:Int)(sa sb ca cb _ _ _ _ _ _:Nat→Int)(y:Nat):Ex × St:=(.exit 2,⟨mkS 82 [(6,(.own 1 0)),(7,(.own 2 0)),(11,(.own 5 0)),(12,(.own 6 0))],[⟨true,false,[(V.bool (decide (m<0))),(N m.natAbs),(V.int .i64 ee)]⟩,⟨true,false,[(V.bool false),V.nil,(V.bool false),V.nil]⟩,⟨true,false,[(V.bool false),V.nil,(V.bool false),V.nil]⟩,⟨true,false,[(V.bool (decide (ma<0))),(N ma.natAbs),(V.int .i64 mb)]⟩,⟨true,false,[(V.bool (decide (y1<0))),(N y1.natAbs),(V.bool (decide (y2<0))),(N y2.natAbs)]⟩,⟨true,false,[(V.bool (decide ((sa y)<0))),(N ((sa y).natAbs)),(V.bool (decide ((sb y)<0))),(N ((sb y).natAbs))]⟩,⟨true,false,[(V.bool (decide ((ca y)<0))),(N ((ca y).natAbs)),(V.bool (decide ((cb y)<0))),(N ((cb y).natAbs))]⟩,⟨true,false,[(V.bool (decide (t1<0))),(N t1.natAbs),(V.bool (decide (t2<0))),(N t2.natAbs)]⟩]⟩)
def r17_1_J (_ _ hv _ _ _ _ _ _ _ _ _:Int)(_ _ _ _ _ _ _ _ _ _:Nat→Int)(y:Nat):Prop:=(y:Int)=hv
abbrev r17_1_N (m ee hv v ma mb y1 y2 t1 t2 o1 o2:Int)(sa sb ca cb pa pb qa qb ra rb:Nat→Int):=NX (r17_1_mk m ee hv v ma mb y1 y2 t1 t2 o1 o2 sa sb ca cb pa pb qa qb ra rb) (r17_1_I m ee hv v ma mb y1 y2 t1 t2 o1 o2 sa sb ca cb pa pb qa qb ra rb) (r17_1_mu m ee hv v ma mb y1 y2 t1 t2 o1 o2 sa sb ca cb pa pb qa qb ra rb) (r17_1_ex m ee hv v ma mb y1 y2 t1 t2 o1 o2 sa sb ca cb pa pb qa qb ra rb) (r17_1_J m ee hv v ma mb y1 y2 t1 t2 o1 o2 sa sb ca cb pa pb qa qb ra rb)
theorem zuy (m ee hv v ma mb y1 y2 t1 t2 o1 o2:Int)(sa sb ca cb pa pb qa qb ra rb:Nat→Int)(c0:∀ i:Nat,(i:Int)<hv→Impl Tryz.prog Amb 75 [(sV (sa i) (sb i)),(sV (ca i) (cb i)),(.int .i64 v)] (sV (pa i) (pb i)))(c1:∀ i:Nat,(i:Int)<hv→Impl Tryz.prog Amb 28 [(sV (pa i) (pb i)),(.int .i64 2)] (sV (sa (i+1)) (sb (i+1))))(c2:Impl Tryz.prog Amb 73 [(.int .i64 1),(.int .i64 v)] (sV o1 o2))(c3:∀ i:Nat,(i:Int)<hv→Impl Tryz.prog Amb 75 [(sV (sa i) (sb i)),(sV (sa i) (sb i)),(.int .i64 v)] (sV (qa i) (qb i)))(c4:∀ i:Nat,(i:Int)<hv→Impl Tryz.prog Amb 28 [(sV (qa i) (qb i)),(.int .i64 2)] (sV (ra i) (rb i)))(c5:∀ i:Nat,(i:Int)<hv→Impl Tryz.prog Amb 46 [(sV o1 o2),(sV (ra i) (rb i))] (sV (ca (i+1)) (cb (i+1))))(c6:0≤hv∧hv≤1000)(x0:Nat × Int)(hI:r17_1_I m ee hv v ma mb y1 y2 t1 t2 o1 o2 sa sb ca cb pa pb qa qb ra rb x0):LoopOk Tryz.prog Amb (loopN Tryz.f198 1) (r17_1_mk m ee hv v ma mb y1 y2 t1 t2 o1 o2 sa sb ca cb pa pb qa qb ra rb x0) (fun e st_=>∃ y,r17_1_J m ee hv v ma mb y1 y2 t1 t2 o1 o2 sa sb ca cb pa pb qa qb ra rb y∧r17_1_ex m ee hv v ma mb y1 y2 t1 t2 o1 o2 sa sb ca cb pa pb qa qb ra rb y=(e,st_)) :=
 z6m hP hAmb ⟨[1,6,7,11,12,63,64],8,[]⟩ (r17_1_mk m ee hv v ma mb y1 y2 t1 t2 o1 o2 sa sb ca cb pa pb qa qb ra rb) (r17_1_I m ee hv v ma mb y1 y2 t1 t2 o1 o2 sa sb ca cb pa pb qa qb ra rb) (r17_1_mu m ee hv v ma mb y1 y2 t1 t2 o1 o2 sa sb ca cb pa pb qa qb ra rb) (r17_1_ex m ee hv v ma mb y1 y2 t1 t2 o1 o2 sa sb ca cb pa pb qa qb ra rb) (r17_1_J m ee hv v ma mb y1 y2 t1 t2 o1 o2 sa sb ca cb pa pb qa qb ra rb) x0 hI (fun (i,ii)=>.lit<|.both (.lits 3<|.call (sV (pa i) (pb i))<|.lit<|.call (sV (sa (i+1)) (sb (i+1)))<|.lit<|.call (sV o1 o2)<|.lits 3<|.call (sV (qa i) (qb i))<|.lit<|.call (sV (ra i) (rb i))<|.lit<|.call (sV (ca (i+1)) (cb (i+1)))<|.lits 3<|.yes<|.fin2 ⟨[1,6,7,11,12,63,64],8,[]⟩) (.fin2 ⟨[6,7,11,12],8,[]⟩)) (by
  rintro ⟨i,ii⟩ hI
  have hI:ii=(i:Int)∧(i:Int)≤hv:=hI
  obtain ⟨h1,h2⟩:=hI
  exact z6d (aI True.intro (aI (fun (h101:(iLt ii hv)=true)=>have _gh101:=z73 h101; aI (c0 i oO ) (aI (c1 i oO ) (aI (c2 ) (aI (c3 i oO ) (aI (c4 i oO ) (aI (c5 i oO ) (aI (z7t oO:(fits .i64 (ii+1))=true) (aI tT ((z6j ((i+1),(ii+1)) (show (ii+1)=((i+1):Int)∧((i+1):Int)≤hv from ⟨by omega,by omega⟩) (show (hv-((i+1:Nat):Int)).toNat<(hv-i).toNat by omega):r17_1_N m ee hv v ma mb y1 y2 t1 t2 o1 o2 sa sb ca cb pa pb qa qb ra rb (i,ii) .normal (r17_1_mk m ee hv v ma mb y1 y2 t1 t2 o1 o2 sa sb ca cb pa pb qa qb ra rb ((i+1),(ii+1))))))))))))) (fun (h102:(iLt ii hv)=false)=>have _gh102:=z74 h102; aI tT ((z6k 2 ((r17_1_ex m ee hv v ma mb y1 y2 t1 t2 o1 o2 sa sb ca cb pa pb qa qb ra rb i).2) i (show (i:Int)=hv from show (i:Int)=hv by omega) rfl:r17_1_N m ee hv v ma mb y1 y2 t1 t2 o1 o2 sa sb ca cb pa pb qa qb ra rb (i,ii) (.exit 2) ((r17_1_ex m ee hv v ma mb y1 y2 t1 t2 o1 o2 sa sb ca cb pa pb qa qb ra rb i).2)))))) (by kernel_rfl))
theorem zuz (nn:Nat)(hn:Nat)(m ee hv v ma mb y1 y2 o1 o2:Int)(pp1:Nat→Int)(pp2:Nat→Int)(mm1:Nat→Int)(mm2:Nat→Int)(sa:Nat→Int)(sb:Nat→Int)(ca:Nat→Int)(cb:Nat→Int)(pa:Nat→Int)(pb:Nat→Int)(qa:Nat→Int)(qb:Nat→Int)(ra:Nat→Int)(rb:Nat→Int)(c0:Impl Tryz.prog Amb 38 [(yV m ee),(.int .i64 ((0:Int)-hv))] (.tup [(yV ma mb),(.int .i64 0)]))(c1:Impl Tryz.prog Amb 45 [(yV ma mb),(.int .i64 v)] (sV y1 y2))(c2:Impl Tryz.prog Amb 73 [(.int .i64 0),(.int .i64 v)] (sV (0:Int) (0:Int)))(c3:Impl Tryz.prog Amb 73 [(.int .i64 1),(.int .i64 v)] (sV (pp1 0) (pp2 0)))(c4:∀ j,j≤nn→Impl Tryz.prog Amb 74 [(sV (pp1 j) (pp2 j))] (.bool (decide (nn≤j))))(c5:∀ j,j<nn→Impl Tryz.prog Amb 99 [(sV (pp1 j) (pp2 j))] (sV (-(pp2 j)) (-(pp1 j))))(c6:∀ i,i%2=0→2*i<nn→Impl Tryz.prog Amb 47 [(sV (csL pp1 pp2 i) (csH pp1 pp2 i)),(sV (pp1 (2*i)) (pp2 (2*i)))] (sV (csL pp1 pp2 (i+1)) (csH pp1 pp2 (i+1))))(c7:∀ i,i%2=1→2*i<nn→Impl Tryz.prog Amb 47 [(sV (csL pp1 pp2 i) (csH pp1 pp2 i)),(sV (-(pp2 (2*i))) (-(pp1 (2*i))))] (sV (csL pp1 pp2 (i+1)) (csH pp1 pp2 (i+1))))(c8:∀ i,i%2=0→2*i+1<nn→Impl Tryz.prog Amb 47 [(sV (snL pp1 pp2 i) (snH pp1 pp2 i)),(sV (pp1 (2*i+1)) (pp2 (2*i+1)))] (sV (snL pp1 pp2 (i+1)) (snH pp1 pp2 (i+1))))(c9:∀ i,i%2=1→2*i+1<nn→Impl Tryz.prog Amb 47 [(sV (snL pp1 pp2 i) (snH pp1 pp2 i)),(sV (-(pp2 (2*i+1))) (-(pp1 (2*i+1))))] (sV (snL pp1 pp2 (i+1)) (snH pp1 pp2 (i+1))))(c10:∀ j,j<nn→Impl Tryz.prog Amb 75 [(sV (pp1 j) (pp2 j)),(sV y1 y2),(.int .i64 v)] (sV (mm1 j) (mm2 j)))(c11:∀ (j:Nat) (kk:Int),j<nn→kk=(j:Int)+1→Impl Tryz.prog Amb 29 [(sV (mm1 j) (mm2 j)),(.int .i64 kk)] (sV (pp1 (j+1)) (pp2 (j+1))))(c12:nn≤10000)(c13:Impl Tryz.prog Amb 76 [(sV (snL pp1 pp2 (nn / 2)) (snH pp1 pp2 (nn / 2))),(.int .i64 3)] (sV (sa 0) (sb 0)))(c14:Impl Tryz.prog Amb 76 [(sV (csL pp1 pp2 ((nn+1) / 2)) (csH pp1 pp2 ((nn+1) / 2))),(.int .i64 3)] (sV (ca 0) (cb 0)))(c15:∀ i:Nat,(i:Int)<hv→Impl Tryz.prog Amb 75 [(sV (sa i) (sb i)),(sV (ca i) (cb i)),(.int .i64 v)] (sV (pa i) (pb i)))(c16:∀ i:Nat,(i:Int)<hv→Impl Tryz.prog Amb 28 [(sV (pa i) (pb i)),(.int .i64 2)] (sV (sa (i+1)) (sb (i+1))))(c17:Impl Tryz.prog Amb 73 [(.int .i64 1),(.int .i64 v)] (sV o1 o2))(c18:∀ i:Nat,(i:Int)<hv→Impl Tryz.prog Amb 75 [(sV (sa i) (sb i)),(sV (sa i) (sb i)),(.int .i64 v)] (sV (qa i) (qb i)))(c19:∀ i:Nat,(i:Int)<hv→Impl Tryz.prog Amb 28 [(sV (qa i) (qb i)),(.int .i64 2)] (sV (ra i) (rb i)))(c20:∀ i:Nat,(i:Int)<hv→Impl Tryz.prog Amb 46 [(sV o1 o2),(sV (ra i) (rb i))] (sV (ca (i+1)) (cb (i+1))))(c21:0≤hv∧hv≤1000)(c22:(-1000:Int)≤v∧v≤10000)(c23:(hn:Int)=hv):Impl Tryz.prog Amb 198 [(yV m ee),(.int .i64 v),(.int .i64 hv)] (.tup [(sV (sa hn) (sb hn)),(sV (ca hn) (cb hn))]):=by
 exact z6e hP hAmb Tryz.func198 (by kernel_rfl) (.lits 2<|.yes<|.lit<|.call (.tup [(yV ma mb),(.int .i64 0)])<|.lits 3<|.call (sV y1 y2)<|.lits 2<|.call (sV (0:Int) (0:Int))<|.lit<|.call (sV (0:Int) (0:Int))<|.lits 3<|.call (sV (pp1 0) (pp2 0))<|.lit<|.loop ⟨[1,2,6,7,10,11,12,13,14],8,[]⟩ ((r17_0_mk nn m ee hv v ma mb y1 y2 pp1 pp2 mm1 mm2 (Sum.inl (0,0)))) (Nat × Nat × Nat) (r17_0_ex nn m ee hv v ma mb y1 y2 pp1 pp2 mm1 mm2) (r17_0_J nn m ee hv v ma mb y1 y2 pp1 pp2 mm1 mm2) (fun y=>.lits 2<|.call (sV (sa 0) (sb 0))<|.lits 2<|.call (sV (ca 0) (cb 0))<|.lits 2<|.loop ⟨[1,6,7,11,12,63,64],8,[]⟩ ((r17_1_mk m ee hv v ma mb y1 y2 (pp1 y.1) (pp2 y.1) o1 o2 sa sb ca cb pa pb qa qb ra rb (0,0))) (Nat) (r17_1_ex m ee hv v ma mb y1 y2 (pp1 y.1) (pp2 y.1) o1 o2 sa sb ca cb pa pb qa qb ra rb) (r17_1_J m ee hv v ma mb y1 y2 (pp1 y.1) (pp2 y.1) o1 o2 sa sb ca cb pa pb qa qb ra rb) (fun u=>.lits 5<|.ret)))
  (z6d (aI True.intro (aI (z7t oS:(fits .i64 ((0:Int)-hv))=true) (aI (c0 ) (aI (c1 ) (aI (c2 ) (aI (c2 ) (aI (c3 ) (aI tT (aI (rfl:(r17_0_mk nn m ee hv v ma mb y1 y2 pp1 pp2 mm1 mm2 (Sum.inl (0,0)))=(r17_0_mk nn m ee hv v ma mb y1 y2 pp1 pp2 mm1 mm2 (Sum.inl (0,0)))) (aI (zux nn m ee hv v ma mb y1 y2 pp1 pp2 mm1 mm2 c4 c5 c6 c7 c8 c9 c10 c11 c12 oO (Sum.inl (0,0)) (show 4*0+0≤nn∧0=4*(0:Int)+0 from ⟨by omega,by omega⟩)) (fun y (hJ:r17_0_J nn m ee hv v ma mb y1 y2 pp1 pp2 mm1 mm2 y)=>have hJ:y.1=nn∧y.2.1=(nn+1) / 2∧y.2.2=nn / 2:=hJ; have hY:=hJ; aI ((hY.2.2 ▸ c13) ) (aI ((hY.2.1 ▸ c14) ) (aI tT (aI (rfl:(r17_1_mk m ee hv v ma mb y1 y2 (pp1 y.1) (pp2 y.1) o1 o2 sa sb ca cb pa pb qa qb ra rb (0,0))=(r17_1_mk m ee hv v ma mb y1 y2 (pp1 y.1) (pp2 y.1) o1 o2 sa sb ca cb pa pb qa qb ra rb (0,0))) (aI (zuy m ee hv v ma mb y1 y2 (pp1 y.1) (pp2 y.1) o1 o2 sa sb ca cb pa pb qa qb ra rb c15 c16 c17 c18 c19 c20 c21 (0,0) (show 0=(0:Int)∧(0:Int)≤hv from ⟨by omega,by omega⟩)) (fun u (hJ:r17_1_J m ee hv v ma mb y1 y2 (pp1 y.1) (pp2 y.1) o1 o2 sa sb ca cb pa pb qa qb ra rb u)=>have hJ:(u:Int)=hv:=hJ; have hV:=hJ; (by rw [show u=hn by omega]; exact z5w _:vsub (.tup [(sV (sa u) (sb u)),(sV (ca u) (cb u))]) (.tup [(sV (sa hn) (sb hn)),(sV (ca hn) (cb hn))])))))))))))))))))) (by kernel_rfl))
theorem zv0 (m ee w tp s1 s2 k1 k2 a1 a2 b1 b2 g1 g2 h1 h2:Int)(c0:0≤w∧w≤4000)(c1:-2000≤tp∧tp≤2000)(c2:Impl Tryz.prog Amb 18 [(yV m ee)] (.int .i64 tp))(c3:Impl Tryz.prog Amb 198 [(yV m ee),(.int .i64 ((w+60)+((4:Int)*((iMax (0:Int) tp)+2)))),(.int .i64 ((iMax (0:Int) tp)+2))] (.tup [(sV s1 s2),(sV k1 k2)]))(c4:Impl Tryz.prog Amb 31 [(sV s1 s2),(.int .i64 ((w+60)+((4:Int)*((iMax (0:Int) tp)+2)))),(.int .i64 (w+16))] (wV a1 a2 b1 b2))(c5:Impl Tryz.prog Amb 31 [(sV k1 k2),(.int .i64 ((w+60)+((4:Int)*((iMax (0:Int) tp)+2)))),(.int .i64 (w+16))] (wV g1 g2 h1 h2)):Impl Tryz.prog Amb 140 [(yV m ee),(.int .i64 w)] (.tup [(wV a1 a2 b1 b2),(wV g1 g2 h1 h2)]):=by
 have im1:=zei 0 tp
 exact z6e hP hAmb Tryz.func140 (by kernel_rfl) (.lits 2<|.call (.int .i64 tp)<|.lits 2<|.yes<|.lit<|.yes<|.lit<|.yes<|.lit<|.yes<|.lits 2<|.call (.tup [(sV s1 s2),(sV k1 k2)])<|.lits 4<|.yes<|.lit<|.call (wV a1 a2 b1 b2)<|.lits 2<|.yes<|.lit<|.call (wV g1 g2 h1 h2)<|.lits 3<|.ret)
  (z6d (aI True.intro (aI (c2 ) (aI (z7t oS:(fits .i64 ((iMax (0:Int) tp)+2))=true) (aI (z7t oS:(fits .i64 (w+60))=true) (aI (z7t oS:(fits .i64 ((4:Int)*((iMax (0:Int) tp)+2)))=true) (aI (z7t oS:(fits .i64 ((w+60)+((4:Int)*((iMax (0:Int) tp)+2))))=true) (aI (c3 ) (aI (z7t oS:(fits .i64 (w+16))=true) (aI (c4 ) (aI (z7t oS:(fits .i64 (w+16))=true) (aI (c5 ) ((z5w (.tup [(wV a1 a2 b1 b2),(wV g1 g2 h1 h2)])))))))))))))) (by kernel_rfl))
end Go.Proofs.YtcbihoojfakhdaaGreatDoor

namespace Go.Proofs.YtcbihoojfakhdaaGreatDoor
open Go.RowKit
set_option maxRecDepth 100000
set_option maxHeartbeats 4000000
theorem zv1 {m e:Int}{H vv:Nat}(hV:3≤vv)(h:topD m e+2≤(H:Int))(h3:2≤H):(-1≤4*dv m (e-(H:Int))∧4*dv m (e-(H:Int))≤1)∧4*(flr (dv m (e-(H:Int))) vv).natAbs≤2^vv∧4*(cei (dv m (e-(H:Int))) vv).natAbs≤2^vv:=by
 have ab:-1≤4*dv m (e-(H:Int))∧4*dv m (e-(H:Int))≤1:=by
  by_cases hm:m=0
  ·rw [hm,znb]; constructor<;>grind
  ·have t:=(zq2 (e:=e-(H:Int)) hm).1
   have tt:topD m (e-(H:Int))=topD m e-(H:Int):=by unfold topD; rw [if_neg hm,if_neg hm]; omega
   have u:dv 1 (topD m (e-(H:Int)))≤dv 1 (-2):=by
    rw [zn7 (m:=1) (e:=-2) (c:=topD m (e-(H:Int))) oO,zn9,Int.one_mul]
    have:=zi5 (-2-topD m (e-(H:Int))).toNat
    omega
   have w:4*dv 1 (-2)=1:=of_decide_eq_true (by kernel_rfl)
   have t2:=zue t u
   clear t u tt
   generalize dv 1 (-2)=z at *
   rcases (show (m.natAbs:Int)=m∨(m.natAbs:Int)=-m by omega) with q | q
   ·have n0:0≤dv m (e-(H:Int)):=zq1.2 oO
    rw [q] at t2
    clear q
    generalize dv m (e-(H:Int))=y at *
    constructor<;>grind
   ·have n0:0≤dv (-m) (e-(H:Int)):=zq1.2 oO
    rw [q] at t2
    rw [znd] at t2 n0
    clear q
    generalize dv m (e-(H:Int))=y at *
    constructor<;>grind
 generalize dv m (e-(H:Int))=x at *
 have s1:=zp0 x vv
 have s2:=zp1 x vv
 have P:(0:Rat)<((2^vv:Int):Rat):=Rat.intCast_pos.2 (zi5 vv)
 have m1:=Rat.mul_le_mul_of_nonneg_right ab.1 (Rat.le_of_lt P)
 have m2:=Rat.mul_le_mul_of_nonneg_right ab.2 (Rat.le_of_lt P)
 have p8:(2:Int)^vv=4*2^(vv-2):=by
  have:vv=2+(vv-2):=by omega
  rw [this,Int.pow_add,show 2+(vv-2)-2=vv-2 by omega]; rfl
 have pn:((2^vv:Nat):Int)=(2:Int)^vv:=(zak _).symm
 have k1:-(4*2^(vv-2))<4*(flr x vv+1):=by
  refine Rat.intCast_lt_intCast.1 ?_
  rw [← p8,Rat.intCast_neg,Rat.intCast_mul,Rat.intCast_add]
  show -((2^vv:Int):Rat)<4*(((flr x vv:Int):Rat)+1)
  grind
 have k2:4*(cei x vv-1)<4*2^(vv-2):=by
  refine Rat.intCast_lt_intCast.1 ?_
  rw [← p8,Rat.intCast_mul,Rat.intCast_sub]
  show 4*(((cei x vv:Int):Rat)-1)<((2^vv:Int):Rat)
  grind
 have k3:=(zp2 x vv).2
 refine ⟨ab,?_,?_⟩<;>omega
theorem zv2 {p1 p2:Nat→Int}{B n:Nat}(h:∀ j,j≤n→(p1 j).natAbs≤B∧(p2 j).natAbs≤B):∀ i,2*i≤n+1→((csL p1 p2 i).natAbs≤i*B∧(csH p1 p2 i).natAbs≤i*B)∧(2*i≤n→(snL p1 p2 i).natAbs≤i*B∧(snH p1 p2 i).natAbs≤i*B)
 | 0,_=>by show ((0:Int).natAbs≤0*B∧(0:Int).natAbs≤0*B)∧(_→(0:Int).natAbs≤0*B∧(0:Int).natAbs≤0*B); omega
 | i+1,hi=>by
  have a:=zv2 h i oO
  have b:=h (2*i) oO
  have e:(i+1)*B=i*B+B:=Nat.succ_mul i B
  unfold csL csH snL snH
  rw [e]
  by_cases q:i%2=0
  ·rw [if_pos q,if_pos q,if_pos q,if_pos q]
   refine ⟨by omega,fun z=>?_⟩
   have c:=h (2*i+1) oO
   have a:=a.2 oO
   omega
  ·rw [if_neg q,if_neg q,if_neg q,if_neg q]
   refine ⟨by omega,fun z=>?_⟩
   have c:=h (2*i+1) oO
   have a:=a.2 oO
   omega
theorem zv3 {vv:Nat}{v xa xb:Int}(vn:v.toNat=vv)(v0:0≤v)(hV:3≤vv∧vv≤600)(h1:4*xa.natAbs≤2^vv)(h2:4*xb.natAbs≤2^vv)(hy:xa≤xb)(hw:xb-xa≤1) :
  ∃ nn:Nat,(((reLo (2^vv) xa xb) nn).natAbs≤1∧((reHi (2^vv) xa xb) nn).natAbs≤1)∧nn≤vv∧(∀ j,j≤nn→Impl Tryz.prog Amb 74 [(sV ((reLo (2^vv) xa xb) j) ((reHi (2^vv) xa xb) j))] (.bool (decide (nn≤j))))∧(∀ j,j<nn→Impl Tryz.prog Amb 99 [(sV ((reLo (2^vv) xa xb) j) ((reHi (2^vv) xa xb) j))] (sV (-((reHi (2^vv) xa xb) j)) (-((reLo (2^vv) xa xb) j))))∧(∀ i,i%2=0→2*i<nn→Impl Tryz.prog Amb 47 [(sV (csL (reLo (2^vv) xa xb) (reHi (2^vv) xa xb) i) (csH (reLo (2^vv) xa xb) (reHi (2^vv) xa xb) i)),(sV ((reLo (2^vv) xa xb) (2*i)) ((reHi (2^vv) xa xb) (2*i)))] (sV (csL (reLo (2^vv) xa xb) (reHi (2^vv) xa xb) (i+1)) (csH (reLo (2^vv) xa xb) (reHi (2^vv) xa xb) (i+1))))∧(∀ i,i%2=1→2*i<nn→Impl Tryz.prog Amb 47 [(sV (csL (reLo (2^vv) xa xb) (reHi (2^vv) xa xb) i) (csH (reLo (2^vv) xa xb) (reHi (2^vv) xa xb) i)),(sV (-((reHi (2^vv) xa xb) (2*i))) (-((reLo (2^vv) xa xb) (2*i))))] (sV (csL (reLo (2^vv) xa xb) (reHi (2^vv) xa xb) (i+1)) (csH (reLo (2^vv) xa xb) (reHi (2^vv) xa xb) (i+1))))∧(∀ i,i%2=0→2*i+1<nn→Impl Tryz.prog Amb 47 [(sV (snL (reLo (2^vv) xa xb) (reHi (2^vv) xa xb) i) (snH (reLo (2^vv) xa xb) (reHi (2^vv) xa xb) i)),(sV ((reLo (2^vv) xa xb) (2*i+1)) ((reHi (2^vv) xa xb) (2*i+1)))] (sV (snL (reLo (2^vv) xa xb) (reHi (2^vv) xa xb) (i+1)) (snH (reLo (2^vv) xa xb) (reHi (2^vv) xa xb) (i+1))))∧(∀ i,i%2=1→2*i+1<nn→Impl Tryz.prog Amb 47 [(sV (snL (reLo (2^vv) xa xb) (reHi (2^vv) xa xb) i) (snH (reLo (2^vv) xa xb) (reHi (2^vv) xa xb) i)),(sV (-((reHi (2^vv) xa xb) (2*i+1))) (-((reLo (2^vv) xa xb) (2*i+1))))] (sV (snL (reLo (2^vv) xa xb) (reHi (2^vv) xa xb) (i+1)) (snH (reLo (2^vv) xa xb) (reHi (2^vv) xa xb) (i+1))))∧(∀ j,j<nn→Impl Tryz.prog Amb 75 [(sV ((reLo (2^vv) xa xb) j) ((reHi (2^vv) xa xb) j)),(sV xa xb),(.int .i64 v)] (sV ((mlo (2^vv) xa xb) j) ((mhi (2^vv) xa xb) j)))∧(∀ (j:Nat) (kk:Int),j<nn→kk=(j:Int)+1→Impl Tryz.prog Amb 29 [(sV ((mlo (2^vv) xa xb) j) ((mhi (2^vv) xa xb) j)),(.int .i64 kk)] (sV ((reLo (2^vv) xa xb) (j+1)) ((reHi (2^vv) xa xb) (j+1))))∧(nn≤10000) ∧
   Impl Tryz.prog Amb 76 [(sV (snL (reLo (2^vv) xa xb) (reHi (2^vv) xa xb) (nn / 2)) (snH (reLo (2^vv) xa xb) (reHi (2^vv) xa xb) (nn / 2))),(.int .i64 3)] (sV (snL (reLo (2^vv) xa xb) (reHi (2^vv) xa xb) (nn / 2)-3) (snH (reLo (2^vv) xa xb) (reHi (2^vv) xa xb) (nn / 2)+3))∧Impl Tryz.prog Amb 76 [(sV (csL (reLo (2^vv) xa xb) (reHi (2^vv) xa xb) ((nn+1) / 2)) (csH (reLo (2^vv) xa xb) (reHi (2^vv) xa xb) ((nn+1) / 2))),(.int .i64 3)] (sV (csL (reLo (2^vv) xa xb) (reHi (2^vv) xa xb) ((nn+1) / 2)-3) (csH (reLo (2^vv) xa xb) (reHi (2^vv) xa xb) ((nn+1) / 2)+3)) ∧
   ((csL (reLo (2^vv) xa xb) (reHi (2^vv) xa xb) ((nn+1) / 2)≤csH (reLo (2^vv) xa xb) (reHi (2^vv) xa xb) ((nn+1) / 2)∧csH (reLo (2^vv) xa xb) (reHi (2^vv) xa xb) ((nn+1) / 2)-csL (reLo (2^vv) xa xb) (reHi (2^vv) xa xb) ((nn+1) / 2)≤2000)∧(snL (reLo (2^vv) xa xb) (reHi (2^vv) xa xb) (nn / 2)≤snH (reLo (2^vv) xa xb) (reHi (2^vv) xa xb) (nn / 2)∧snH (reLo (2^vv) xa xb) (reHi (2^vv) xa xb) (nn / 2)-snL (reLo (2^vv) xa xb) (reHi (2^vv) xa xb) (nn / 2)≤2000)):=by
 obtain ⟨nn,n1,n2,n3⟩:=zum (v:=vv) (y1:=xa) (y2:=xb) oO oO
 have pa:∀ j,j≤nn→((reLo (2^vv) xa xb) j).natAbs≤1*2^vv∧((reHi (2^vv) xa xb) j).natAbs≤1*2^vv:=fun j hj=>by
  have a:=zul (v:=vv) (y1:=xa) (y2:=xb) oO oO j oO
  have b:2^(vv-j)≤1*2^vv:=by rw [Nat.one_mul]; exact Nat.pow_le_pow_right oO oO
  exact ⟨Nat.le_trans a.1 b,Nat.le_trans a.2 b⟩
 have pl:∀ j,j≤nn→L ((reLo (2^vv) xa xb) j).natAbs≤70∧L ((reHi (2^vv) xa xb) j).natAbs≤70:=fun j hj=>by
  have a:=pa j hj
  exact ⟨zqw (t:=vv) (c:=1) a.1 oO oO,zqw (t:=vv) (c:=1) a.2 oO oO⟩
 have ml:∀ j,j≤nn→L ((mlo (2^vv) xa xb) j).natAbs≤70∧L ((mhi (2^vv) xa xb) j).natAbs≤70:=fun j hj=>by
  have a:=pa j hj
  have r:=zp8 (c:=xa) (d:=xb) (C:=1*2^vv) (B:=1*2^vv) (S:=2^vv) (zi5 vv) a.1 a.2 oO oO (Nat.le_of_eq (by rw [zp9]))
  exact ⟨zqw (t:=vv) (c:=1) r.1 oO oO,zqw (t:=vv) (c:=1) r.2 oO oO⟩
 have xl:L xa.natAbs≤70∧L xb.natAbs≤70:=⟨zqw (t:=vv) (c:=1) oO oO oO,zqw (t:=vv) (c:=1) oO oO oO⟩
 have ca:=zv2 (p1:=(reLo (2^vv) xa xb)) (p2:=(reHi (2^vv) xa xb)) (B:=1*2^vv) (n:=nn) pa
 have cw:=zuq (p1:=(reLo (2^vv) xa xb)) (p2:=(reHi (2^vv) xa xb)) (n:=nn) (fun j hj=>by
  have a:=zuo h1 h2 hy hw j oO
  exact ⟨a.2,a.1⟩)
 have cl:∀ i,2*i≤nn+1→L (csL (reLo (2^vv) xa xb) (reHi (2^vv) xa xb) i).natAbs≤70∧L (csH (reLo (2^vv) xa xb) (reHi (2^vv) xa xb) i).natAbs≤70:=fun i hi=>by
  have a:=(ca i hi).1
  have m:=Nat.mul_le_mul_right (1*2^vv) (show i≤1000 by omega)
  rw [Nat.one_mul] at a m
  exact ⟨zqw (t:=vv) (c:=1000) oO oO oO,zqw (t:=vv) (c:=1000) oO oO oO⟩
 have sl:∀ i,2*i≤nn→L (snL (reLo (2^vv) xa xb) (reHi (2^vv) xa xb) i).natAbs≤70∧L (snH (reLo (2^vv) xa xb) (reHi (2^vv) xa xb) i).natAbs≤70:=fun i hi=>by
  have a:=(ca i oO).2 hi
  have m:=Nat.mul_le_mul_right (1*2^vv) (show i≤1000 by omega)
  rw [Nat.one_mul] at a m
  exact ⟨zqw (t:=vv) (c:=1000) oO oO oO,zqw (t:=vv) (c:=1000) oO oO oO⟩
 refine ⟨nn,n2,n1,fun j hj=>?_,fun j hj=>?_,fun i he hi=>?_,fun i he hi=>?_,fun i he hi=>?_,fun i he hi=>?_,fun j hj=>?_,fun j kk hj hq=>?_,by omega,?_,?_,?_,?_⟩
 ·have a:=pl j hj
  refine zon (congrArg V.bool (decide_eq_decide.2 ?_)) (zkm ((reLo (2^vv) xa xb) j) ((reHi (2^vv) xa xb) j) oO oO)
  constructor
  ·intro q
   exact Decidable.byContradiction fun hn=>n3 j oO q
  ·intro q
   rw [show j=nn by omega]; exact n2
 ·have a:=pl j oO
  exact zki ((reLo (2^vv) xa xb) j) ((reHi (2^vv) xa xb) j) oO oO
 ·have a:=cl i oO
  have b:=pl (2*i) oO
  exact zon (zti (if_pos he).symm (if_pos he).symm) (zkh (csL (reLo (2^vv) xa xb) (reHi (2^vv) xa xb) i) (csH (reLo (2^vv) xa xb) (reHi (2^vv) xa xb) i) ((reLo (2^vv) xa xb) (2*i)) ((reHi (2^vv) xa xb) (2*i)) oO oO oO oO)
 ·have a:=cl i oO
  have b:=pl (2*i) oO
  have k1:=zcy ((reLo (2^vv) xa xb) (2*i))
  have k2:=zcy ((reHi (2^vv) xa xb) (2*i))
  have he:¬ i%2=0:=by omega
  exact zon (zti (if_neg he).symm (if_neg he).symm) (zkh (csL (reLo (2^vv) xa xb) (reHi (2^vv) xa xb) i) (csH (reLo (2^vv) xa xb) (reHi (2^vv) xa xb) i) (-((reHi (2^vv) xa xb) (2*i))) (-((reLo (2^vv) xa xb) (2*i))) oO oO oO oO)
 ·have a:=sl i oO
  have b:=pl (2*i+1) oO
  exact zon (zti (if_pos he).symm (if_pos he).symm) (zkh (snL (reLo (2^vv) xa xb) (reHi (2^vv) xa xb) i) (snH (reLo (2^vv) xa xb) (reHi (2^vv) xa xb) i) ((reLo (2^vv) xa xb) (2*i+1)) ((reHi (2^vv) xa xb) (2*i+1)) oO oO oO oO)
 ·have a:=sl i oO
  have b:=pl (2*i+1) oO
  have k1:=zcy ((reLo (2^vv) xa xb) (2*i+1))
  have k2:=zcy ((reHi (2^vv) xa xb) (2*i+1))
  have he:¬ i%2=0:=by omega
  exact zon (zti (if_neg he).symm (if_neg he).symm) (zkh (snL (reLo (2^vv) xa xb) (reHi (2^vv) xa xb) i) (snH (reLo (2^vv) xa xb) (reHi (2^vv) xa xb) i) (-((reHi (2^vv) xa xb) (2*i+1))) (-((reLo (2^vv) xa xb) (2*i+1))) oO oO oO oO)
 ·have a:=pl j oO
  have h:=zpy ((reLo (2^vv) xa xb) j) ((reHi (2^vv) xa xb) j) xa xb v oO oO oO oO oO
  rw [vn] at h
  exact h
 ·subst hq
  have a:=ml j oO
  exact zkl ((mlo (2^vv) xa xb) j) ((mhi (2^vv) xa xb) j) ((j:Int)+1) oO oO oO
 ·have a:=sl (nn / 2) oO
  exact zkg _ _ 3 oO oO oO
 ·have a:=cl ((nn+1) / 2) oO
  exact zkg _ _ 3 oO oO oO
 ·have a:=(cw ((nn+1) / 2) oO).1
  omega
 ·have a:=(cw (nn / 2) oO).2 oO
  omega
theorem zv4 (m e w:Int)(hL:L (m).natAbs≤20)(he:-1000≤e∧e≤200)(hw:0≤w∧w≤200)(ht:topD m e≤34) :
  ∃ a1 b1 a2 b2:Int,Impl Tryz.prog Amb 140 [(yV m e),(.int .i64 w)] (.tup [(wV (mkM a1 (-(w+16))) (mkX a1 (-(w+16))) (mkM b1 (-(w+16))) (mkX b1 (-(w+16)))),(wV (mkM a2 (-(w+16))) (mkX a2 (-(w+16))) (mkM b2 (-(w+16))) (mkX b2 (-(w+16))))])∧((L a1.natAbs≤75∧L b1.natAbs≤75)∧L a2.natAbs≤75∧L b2.natAbs≤75)∧(a1≤b1∧a2≤b2) ∧
   ∀ g:Rat,0<g→EnE (SN (dv m e)) (w.toNat+16) a1 b1 g∧EnE (CS (dv m e)) (w.toNat+16) a2 b2 g:=by
 have hTop:=zj4 m e oO oO
 have im:=zei 0 (topD m e)
 have tr:=zi7 m e
 obtain ⟨H,hH⟩:∃ H:Nat,(H:Int)=((iMax (0:Int) (topD m e))+2):=⟨(((iMax (0:Int) (topD m e))+2)).toNat,by omega⟩
 obtain ⟨v,hv⟩:∃ v:Int,v=((w+60)+((4:Int)*((iMax (0:Int) (topD m e))+2))):=⟨_,rfl⟩
 obtain ⟨vv,vn⟩:∃ vv:Nat,v.toNat=vv:=⟨_,rfl⟩
 have v0:0≤v:=by omega
 have vV:v=(vv:Int):=by omega
 have hS:=zja m e ((0:Int)-(H:Int)) oO oO oO
 have mf:=zoq (m:=m) (e:=e+((0:Int)-(H:Int))) oO oO
 have i1:=zht (e+((0:Int)-(H:Int))) 0
 have i2:iMax (e+((0:Int)-(H:Int))) 0≤200:=by unfold iMax; split<;>omega
 rw [mf.1] at hS
 have ed:e+((0:Int)-(H:Int))=e-(H:Int):=by omega
 have sm:=zv1 (m:=m) (e:=e) (H:=H) (vv:=vv) oO oO oO
 have hx:dv (mkM m (e+((0:Int)-(H:Int)))) (mkX m (e+((0:Int)-(H:Int))))=dv m (e-(H:Int)):=by rw [mf.2.2.2.2.2,ed]
 rw [← hx] at sm
 have hA:=zpx (mkM m (e+((0:Int)-(H:Int)))) (mkX m (e+((0:Int)-(H:Int)))) v oO oO mf.2.2.2.2.1 oO
 have sc1:=(zp0 (dv m (e-(H:Int))) vv).1
 have sc2:=(zp1 (dv m (e-(H:Int))) vv).1
 have fc:=zp2 (dv m (e-(H:Int))) vv
 rw [hx] at hA sm
 rw [← vV] at sc1 sc2 sm fc
 have dd:dbl (dv m (e-(H:Int))) H=dv m e:=by
  rw [zqu,zq3 m e (H:Int),zn4]
 generalize mkM m (e+((0:Int)-(H:Int)))=ma at *
 generalize mkX m (e+((0:Int)-(H:Int)))=mb at *
 obtain ⟨ab,s1,s2⟩:=sm
 generalize dv m (e-(H:Int))=x at *
 generalize flr x v=xa at *
 generalize cei x v=xb at *
 obtain ⟨nn,t1,t2,c0,c1,c2,c3,c4,c5,c6,c7,c8,w1,w2,⟨d1,d2⟩,d3,d4⟩:=zv3 vn v0 oO s1 s2 fc.2 oO
 have hO:=zkf 1 v oO oO
 rw [vn,Int.one_mul] at hO
 have hZ:=zkf 0 v oO oO
 rw [Int.zero_mul] at hZ
 have cw:=fun K (hK:nn+1≤K)=>zur (p1:=(reLo (2^vv) xa xb)) (p2:=(reHi (2^vv) xa xb)) (x:=x) (T:=((2^vv:Int):Rat)) (Rat.intCast_pos.2 (zi5 vv)) (fun j=>zra (zi5 vv) sc1 sc2 j) (by grind) (by grind) t1.1 t1.2 (K:=K) hK
 obtain ⟨z,hz⟩:∃ z:Sq,z=⟨snL (reLo (2^vv) xa xb) (reHi (2^vv) xa xb) (nn / 2)-3,snH (reLo (2^vv) xa xb) (reHi (2^vv) xa xb) (nn / 2)+3,csL (reLo (2^vv) xa xb) (reHi (2^vv) xa xb) ((nn+1) / 2)-3,csH (reLo (2^vv) xa xb) (reHi (2^vv) xa xb) ((nn+1) / 2)+3⟩:=⟨_,rfl⟩
 have z1:z.s1=snL (reLo (2^vv) xa xb) (reHi (2^vv) xa xb) (nn / 2)-3:=by rw [hz]
 have z2:z.s2=snH (reLo (2^vv) xa xb) (reHi (2^vv) xa xb) (nn / 2)+3:=by rw [hz]
 have z3:z.c1=csL (reLo (2^vv) xa xb) (reHi (2^vv) xa xb) ((nn+1) / 2)-3:=by rw [hz]
 have z4:z.c2=csH (reLo (2^vv) xa xb) (reHi (2^vv) xa xb) ((nn+1) / 2)+3:=by rw [hz]
 rw [← z1,← z2] at w1
 rw [← z3,← z4] at w2
 have en:∀ K,nn+1≤K→((z.s1:Rat)≤SN x K*((2^vv:Int):Rat)∧SN x K*((2^vv:Int):Rat)≤(z.s2:Rat))∧((z.c1:Rat)≤CS x K*((2^vv:Int):Rat)∧CS x K*((2^vv:Int):Rat)≤(z.c2:Rat)):=fun K hK=>by
  have q:=cw K hK
  rw [z1,z2,z3,z4]
  exact ⟨q.2,q.1⟩
 have p16:(16:Int)^H*2048*4≤2^vv:=by
  have a:(16:Int)^H*2048*4=2^(4*H+13):=by
   rw [Int.pow_add,Int.pow_mul,show (2:Int)^4=16 from rfl,show (2:Int)^13=2048*4 from rfl,Int.mul_assoc]
  rw [a,zak,zak]
  exact Int.ofNat_le.2 (Nat.pow_le_pow_right oO oO)
 have bd:=zuu (T:=2^vv) (z:=z) (x:=x) (N0:=nn+1) (h:=H) (W:=2048) (zi5 vv) oO p16 en oO oO
 have pv2:((2^vv:Nat):Int)=(2:Int)^vv:=(zak _).symm
 have zl:∀ i,i≤H→((L (rD (2^vv) z i).s1.natAbs≤70∧L (rD (2^vv) z i).s2.natAbs≤70)∧(L (rD (2^vv) z i).c1.natAbs≤70∧L (rD (2^vv) z i).c2.natAbs≤70))∧((L ((fun i=>rm1 (rD (2^vv) z i).s1 (rD (2^vv) z i).s2 (rD (2^vv) z i).c1 (rD (2^vv) z i).c2 (2^vv)) i).natAbs≤70∧L ((fun i=>rm2 (rD (2^vv) z i).s1 (rD (2^vv) z i).s2 (rD (2^vv) z i).c1 (rD (2^vv) z i).c2 (2^vv)) i).natAbs≤70)∧(L ((fun i=>rm1 (rD (2^vv) z i).s1 (rD (2^vv) z i).s2 (rD (2^vv) z i).s1 (rD (2^vv) z i).s2 (2^vv)) i).natAbs≤70∧L ((fun i=>rm2 (rD (2^vv) z i).s1 (rD (2^vv) z i).s2 (rD (2^vv) z i).s1 (rD (2^vv) z i).s2 (2^vv)) i).natAbs≤70)):=fun i hi=>by
  have b:=bd i hi
  have r:=zp8 (a:=(rD (2^vv) z i).s1) (b:=(rD (2^vv) z i).s2) (c:=(rD (2^vv) z i).c1) (d:=(rD (2^vv) z i).c2) (B:=2*2^vv) (S:=2*2^vv) (C:=4*2^vv) (zi5 vv) oO oO oO oO (by rw [zp9]; grind)
  have r':=zp8 (a:=(rD (2^vv) z i).s1) (b:=(rD (2^vv) z i).s2) (c:=(rD (2^vv) z i).s1) (d:=(rD (2^vv) z i).s2) (B:=2*2^vv) (S:=2*2^vv) (C:=4*2^vv) (zi5 vv) oO oO oO oO (by rw [zp9]; grind)
  exact ⟨⟨⟨zqw (t:=vv) (c:=2) oO oO oO,zqw (t:=vv) (c:=2) oO oO oO⟩,zqw (t:=vv) (c:=2) oO oO oO,zqw (t:=vv) (c:=2) oO oO oO⟩,
   ⟨zqw (t:=vv) (c:=4) r.1 oO oO,zqw (t:=vv) (c:=4) r.2 oO oO⟩,zqw (t:=vv) (c:=4) r'.1 oO oO,zqw (t:=vv) (c:=4) r'.2 oO oO⟩
 have oL:L ((2:Int)^vv).natAbs≤70:=zqw (t:=vv) (c:=1) oO oO oO
 have hB:Impl Tryz.prog Amb 198 [(yV m e),(.int .i64 v),(.int .i64 (H:Int))] (.tup [(sV ((rD (2^vv) z H).s1) ((rD (2^vv) z H).s2)),(sV ((rD (2^vv) z H).c1) ((rD (2^vv) z H).c2))]):=by
  refine zuz nn H m e (H:Int) v ma mb xa xb (2^vv) (2^vv) (reLo (2^vv) xa xb) (reHi (2^vv) xa xb) (mlo (2^vv) xa xb) (mhi (2^vv) xa xb) (fun i=>(rD (2^vv) z i).s1) (fun i=>(rD (2^vv) z i).s2) (fun i=>(rD (2^vv) z i).c1) (fun i=>(rD (2^vv) z i).c2) (fun i=>rm1 (rD (2^vv) z i).s1 (rD (2^vv) z i).s2 (rD (2^vv) z i).c1 (rD (2^vv) z i).c2 (2^vv)) (fun i=>rm2 (rD (2^vv) z i).s1 (rD (2^vv) z i).s2 (rD (2^vv) z i).c1 (rD (2^vv) z i).c2 (2^vv)) (fun i=>rm1 (rD (2^vv) z i).s1 (rD (2^vv) z i).s2 (rD (2^vv) z i).s1 (rD (2^vv) z i).s2 (2^vv)) (fun i=>rm2 (rD (2^vv) z i).s1 (rD (2^vv) z i).s2 (rD (2^vv) z i).s1 (rD (2^vv) z i).s2 (2^vv)) (fun i=>rm1 (rD (2^vv) z i).s1 (rD (2^vv) z i).s2 (rD (2^vv) z i).s1 (rD (2^vv) z i).s2 (2^vv)*2) (fun i=>rm2 (rD (2^vv) z i).s1 (rD (2^vv) z i).s2 (rD (2^vv) z i).s1 (rD (2^vv) z i).s2 (2^vv)*2) hS hA hZ hO c0 c1 c2 c3 c4 c5 c6 c7 c8 w1 w2 (fun i hi=>?_) (fun i hi=>?_) hO (fun i hi=>?_) (fun i hi=>?_) (fun i hi=>?_) oO oO rfl
  ·have l:=zl i oO
   have h:=zpy (rD (2^vv) z i).s1 (rD (2^vv) z i).s2 (rD (2^vv) z i).c1 (rD (2^vv) z i).c2 v oO oO oO oO oO
   rw [vn] at h
   exact h
  ·have l:=(zl i oO).2
   exact zkk ((fun i=>rm1 (rD (2^vv) z i).s1 (rD (2^vv) z i).s2 (rD (2^vv) z i).c1 (rD (2^vv) z i).c2 (2^vv)) i) ((fun i=>rm2 (rD (2^vv) z i).s1 (rD (2^vv) z i).s2 (rD (2^vv) z i).c1 (rD (2^vv) z i).c2 (2^vv)) i) 2 oO oO oO
  ·have l:=zl i oO
   have h:=zpy (rD (2^vv) z i).s1 (rD (2^vv) z i).s2 (rD (2^vv) z i).s1 (rD (2^vv) z i).s2 v oO oO oO oO oO
   rw [vn] at h
   exact h
  ·have l:=(zl i oO).2
   exact zkk ((fun i=>rm1 (rD (2^vv) z i).s1 (rD (2^vv) z i).s2 (rD (2^vv) z i).s1 (rD (2^vv) z i).s2 (2^vv)) i) ((fun i=>rm2 (rD (2^vv) z i).s1 (rD (2^vv) z i).s2 (rD (2^vv) z i).s1 (rD (2^vv) z i).s2 (2^vv)) i) 2 oO oO oO
  ·have l:=(zl i oO).2.2
   have l2:L (2:Int).natAbs≤1:=zk7 2 (by decide)
   have k1:=zcx ((fun i=>rm1 (rD (2^vv) z i).s1 (rD (2^vv) z i).s2 (rD (2^vv) z i).s1 (rD (2^vv) z i).s2 (2^vv)) i) 2
   have k2:=zcx ((fun i=>rm2 (rD (2^vv) z i).s1 (rD (2^vv) z i).s2 (rD (2^vv) z i).s1 (rD (2^vv) z i).s2 (2^vv)) i) 2
   exact zkj (2^vv) (2^vv) ((fun i=>rm1 (rD (2^vv) z i).s1 (rD (2^vv) z i).s2 (rD (2^vv) z i).s1 (rD (2^vv) z i).s2 (2^vv)*2) i) ((fun i=>rm2 (rD (2^vv) z i).s1 (rD (2^vv) z i).s2 (rD (2^vv) z i).s1 (rD (2^vv) z i).s2 (2^vv)*2) i) oO oO (by show L ((fun i=>rm1 (rD (2^vv) z i).s1 (rD (2^vv) z i).s2 (rD (2^vv) z i).s1 (rD (2^vv) z i).s2 (2^vv)) i*2).natAbs≤_; omega) (by show L ((fun i=>rm2 (rD (2^vv) z i).s1 (rD (2^vv) z i).s2 (rD (2^vv) z i).s1 (rD (2^vv) z i).s2 (2^vv)) i*2).natAbs≤_; omega)
 have bH:=bd H (Nat.le_refl _)
 have lH:=(zl H (Nat.le_refl _)).1
 obtain ⟨G,hG⟩:∃ G:Nat,vv=(w.toNat+16)+G:=⟨vv-(w.toNat+16),by omega⟩
 have hgg:(v-(w+16)).toNat=G:=by omega
 have o1:=zkn (rD (2^vv) z H).s1 (rD (2^vv) z H).s2 v (w+16) oO oO oO
 have o2:=zkn (rD (2^vv) z H).c1 (rD (2^vv) z H).c2 v (w+16) oO oO oO
 rw [hgg] at o1 o2
 have u1:=zgz (rD (2^vv) z H).s1 G
 have u2:=zcy (rD (2^vv) z H).s2
 have u3:=zgz (-(rD (2^vv) z H).s2) G
 have u4:=zcy (-(rD (2^vv) z H).s2 / 2^G)
 have u5:=zgz (rD (2^vv) z H).c1 G
 have u6:=zcy (rD (2^vv) z H).c2
 have u7:=zgz (-(rD (2^vv) z H).c2) G
 have u8:=zcy (-(rD (2^vv) z H).c2 / 2^G)
 have lims:=zut x H
 rw [dd] at lims
 have encl:∀ K,nn+1≤K→_:=fun K hK=>zus (zi5 vv) (en K hK).1 (en K hK).2 H
 have eS:EnE (fun K=>(uD x H K).1) (w.toNat+16) ((rD (2^vv) z H).s1 / 2^G) (-(-(rD (2^vv) z H).s2 / 2^G)) 0:=⟨nn+1,fun K hK=>by
  have q:=zpd hG (encl K hK).1.1 (encl K hK).1.2
  constructor<;>grind⟩
 have eC:EnE (fun K=>(uD x H K).2) (w.toNat+16) ((rD (2^vv) z H).c1 / 2^G) (-(-(rD (2^vv) z H).c2 / 2^G)) 0:=⟨nn+1,fun K hK=>by
  have q:=zpd hG (encl K hK).2.1 (encl K hK).2.2
  constructor<;>grind⟩
 have oS:=zpd hG (encl (nn+1) (Nat.le_refl _)).1.1 (encl (nn+1) (Nat.le_refl _)).1.2
 have oC:=zpd hG (encl (nn+1) (Nat.le_refl _)).2.1 (encl (nn+1) (Nat.le_refl _)).2.2
 rw [hv] at hB o1 o2
 rw [hH] at hB
 exact ⟨_,_,_,_,zv0 m e w (topD m e) _ _ _ _ _ _ _ _ _ _ _ _ oO oO hTop hB o1 o2,⟨⟨by omega,by omega⟩,by omega,by omega⟩,⟨Rat.intCast_le_intCast.1 (Rat.le_trans oS.1 oS.2),Rat.intCast_le_intCast.1 (Rat.le_trans oC.1 oC.2)⟩,fun g hg=>⟨eS.of_lim lims.1 hg,eC.of_lim lims.2 hg⟩⟩
end Go.Proofs.YtcbihoojfakhdaaGreatDoor

namespace Go.Proofs.YtcbihoojfakhdaaGreatDoor
open Go.RowKit
set_option maxRecDepth 100000
set_option maxHeartbeats 2000000
def r01_Uint_0_mk (a:Nat)(x:(Int)⊕(Int)):St:=Sum.elim (fun (x:Int)=>⟨mkS 26 [(4,(.val (.int .u64 0))),(7,(.val (N a))),(8,(.val (.int .i64 ((lim a).length:Int)))),(9,(.val (.int .i64 0)))],[]⟩) (fun (x:Int)=>⟨mkS 26 [(4,(.val (.int .u64 x))),(7,(.val (N a))),(8,(.val (.int .i64 ((lim a).length:Int)))),(9,(.val (.int .i64 1)))],[]⟩) x
def r01_Uint_0_I (a:Nat)(x:(Int)⊕(Int)):Prop:=Sum.elim (fun (x:Int)=>x=0) (fun (x:Int)=>x=(a:Int)) x
def r01_Uint_0_mu (_:Nat)(x:(Int)⊕(Int)):Nat:=Sum.elim (fun (x:Int)=>1) (fun (x:Int)=>0) x
def r01_Uint_0_ex (_:Nat)(y:Int):Ex × St:=(.exit 0,⟨mkS 26 [(4,(.val (.int .u64 y)))],[]⟩)
def r01_Uint_0_J (a:Nat)(y:Int):Prop:=y=(a:Int)
abbrev r01_Uint_0_N (a:Nat):=NX (r01_Uint_0_mk a) (r01_Uint_0_I a) (r01_Uint_0_mu a) (r01_Uint_0_ex a) (r01_Uint_0_J a)
theorem zv5 (a:Nat)(c0:a<4294967296)(c1:L a≤1)(x0:(Int)⊕(Int))(hI:r01_Uint_0_I a x0):LoopOk Tryz.prog Amb (loopN Tryz.f234 0) (r01_Uint_0_mk a x0) (fun e st_=>∃ y,r01_Uint_0_J a y∧r01_Uint_0_ex a y=(e,st_)) :=
 z6m hP hAmb ⟨[4,7,8,9],0,[]⟩ (r01_Uint_0_mk a) (r01_Uint_0_I a) (r01_Uint_0_mu a) (r01_Uint_0_ex a) (r01_Uint_0_J a) x0 hI (Sum.elim (fun i=>.lit<|.both (.yes<|.yes<|.lits 3<|.yes<|.lit<|.yes<|.lit<|.yes<|.lit<|.yes<|.lit<|.yes<|.lit<|.yes<|.fin2 ⟨[4,7,8,9],0,[]⟩) (.fin2 ⟨[4],0,[]⟩)) (fun sm=>.lit<|.no<|.fin2 ⟨[4],0,[]⟩)) (by
  rintro (i | sm) hI
  ·skip
   have hI:i=0:=hI
   have h1:=hI
   have e0:=z8h a
   have l1:=c1
   have g0:=z8a (limbs a) 0
   have g1:=z8b (z6y a) 0
   exact z6d (aI True.intro (aI (fun (h101:(iLt 0 ((lim a).length:Int))=true)=>have _gh101:=z73 h101; aI (z7p (by first | omega | (simp only [Int.pow_zero]; omega)):(inB (0:Int) ((lim a).length))=true) (aI (ld_L (by first | omega | (simp only [Int.pow_zero]; omega)):(Nat.blt 0 (lim a).length && isIntK .u32 (nth (lim a) 0 .unk))=true) (aI (z7u (by first | omega | (simp only [Int.pow_zero]; omega)):(fits .u64 (gi (limbs a) 0))=true) (aI tT (aI tT (aI (z7u (by first | omega | (simp only [Int.pow_zero]; omega)):(fits .u64 ((gi (limbs a) 0)*2^0))=true) (aI (z7u (by first | omega | (simp only [Int.pow_zero]; omega)):(fits .u64 ((0:Int)+((gi (limbs a) 0)*2^0)))=true) (aI tT (aI tT ((z6j (Sum.inr ((0:Int)+((gi (limbs a) 0)*2^0))) (show ((0:Int)+((gi (limbs a) 0)*2^0))=(a:Int) from (by rw [← zmm (show L a=1 by omega)]; omega)) (show 0<1 by omega):r01_Uint_0_N a (Sum.inl i) .normal (r01_Uint_0_mk a (Sum.inr ((0:Int)+((gi (limbs a) 0)*2^0))))))))))))))) (fun (h102:(iLt 0 ((lim a).length:Int))=false)=>have _gh102:=z74 h102; aI tT ((z6k 0 ((r01_Uint_0_ex a (0:Int)).2) (0:Int) (show (0:Int)=(a:Int) from (show (0:Int)=(a:Int) by rw [show a=0 from Decidable.byContradiction fun h=>by have:=z8j h; omega]; rfl)) rfl:r01_Uint_0_N a (Sum.inl i) (.exit 0) ((r01_Uint_0_ex a (0:Int)).2)))))) (by kernel_rfl)
  ·skip
   have hI:sm=(a:Int):=hI
   have h1:=hI
   have e0:=z8h a
   have l1:=c1
   exact z6d (aI True.intro (aI (z7k oO:(iLt 1 ((lim a).length:Int))=false) (aI tT ((z6k 0 ((r01_Uint_0_ex a sm).2) sm (show sm=(a:Int) from show sm=(a:Int) from h1) rfl:r01_Uint_0_N a (Sum.inr sm) (.exit 0) ((r01_Uint_0_ex a sm).2)))))) (by kernel_rfl))
theorem zv6 (a:Nat)(c0:a<4294967296):Impl Tryz.prog Amb 234 [(N a)] (.tup [(.int .u64 (a:Int)),(.bool true)]):=by
 exact z6e hP hAmb Tryz.func234 (by kernel_rfl) (.loop ⟨[4,7,8,9],0,[]⟩ ((r01_Uint_0_mk a (Sum.inl (0:Int)))) (Int) (r01_Uint_0_ex a) (r01_Uint_0_J a) (fun y=>.lit<|.ret))
  (z6d (aI True.intro (aI tT (aI (rfl:(r01_Uint_0_mk a (Sum.inl (0:Int)))=(r01_Uint_0_mk a (Sum.inl (0:Int)))) (aI (zv5 a c0 (L_le (n:=a) (k:=1) (by rw [Nat.pow_one]; exact c0)) (Sum.inl (0:Int)) (show (0:Int)=0 from rfl)) (fun y (hJ:r01_Uint_0_J a y)=>have hJ:y=(a:Int):=hJ; have hY:=hJ; (z5x (by rw [hY]):vsub (.tup [(.int .u64 y),(.bool true)]) (.tup [(.int .u64 (a:Int)),(.bool true)]))))))) (by kernel_rfl))
theorem zv7 (x:Int)(c0:-4294967295≤x∧x≤4294967295):Impl Tryz.prog Amb 199 [(zV x)] (.tup [(.int .i64 x),(.bool true)]):=by
 have wz:=zq6 (x:=x)
 exact z6e hP hAmb Tryz.func199 (by kernel_rfl) (.lits 2<|.call (.tup [(.int .u64 (x.natAbs:Int)),(.bool true)])<|.lits 7<|.both (.lits 5<|.no<|.lits 3<|.both (.lits 5<|.no<|.lit<|.yes<|.lit<|.no<|.lit<|.no<|.lit<|.ret) (.lits 6<|.no<|.lit<|.yes<|.lit<|.ret)) (.lits 8<|.both (.lits 5<|.no<|.lit<|.yes<|.lit<|.no<|.lit<|.no<|.lit<|.ret) (.lits 6<|.no<|.lit<|.yes<|.lit<|.ret)))
  (z6d (aI True.intro (aI (zv6 x.natAbs oO) (aI (fun (h1:(!(decide (x<0)))=true)=>have _gh1:=of_decide_eq_false (z7q h1); aI (z7m oO:(iGt (x.natAbs:Int) 9223372036854775807)=false) (aI (fun (h2:(decide (x<0))=true)=>have _gh2:=of_decide_eq_true h2; aI (z7m oO:(iGt (x.natAbs:Int) 9223372036854775808)=false) (aI (h2:(decide (x<0))=true) ((False.elim oO:vsub (.tup [(.int .i64 (IntKind.wrap .i64 (IntKind.wrap .u64 ((0:Int)-(x.natAbs:Int))))),(.bool true)]) (.tup [(.int .i64 x),(.bool true)]))))) (fun (h3:(decide (x<0))=false)=>have _gh3:=of_decide_eq_false h3; aI (h3:(decide (x<0))=false) (aI (z7t oO:(fits .i64 (x.natAbs:Int))=true) ((z5x (by rw [show (x.natAbs:Int)=x by omega]):vsub (.tup [(.int .i64 (x.natAbs:Int)),(.bool true)]) (.tup [(.int .i64 x),(.bool true)]))))))) (fun (h4:(!(decide (x<0)))=false)=>have _gh4:=of_decide_eq_true (z7r h4); aI (fun (h5:(decide (x<0))=true)=>have _gh5:=of_decide_eq_true h5; aI (z7m oO:(iGt (x.natAbs:Int) 9223372036854775808)=false) (aI (h5:(decide (x<0))=true) ((z5x (by rw [wz oO oO]):vsub (.tup [(.int .i64 (IntKind.wrap .i64 (IntKind.wrap .u64 ((0:Int)-(x.natAbs:Int))))),(.bool true)]) (.tup [(.int .i64 x),(.bool true)]))))) (fun (h6:(decide (x<0))=false)=>have _gh6:=of_decide_eq_false h6; aI (h6:(decide (x<0))=false) (aI (z7t oO:(fits .i64 (x.natAbs:Int))=true) ((False.elim oO:vsub (.tup [(.int .i64 (x.natAbs:Int)),(.bool true)]) (.tup [(.int .i64 x),(.bool true)]))))))))) (by kernel_rfl))
end Go.Proofs.YtcbihoojfakhdaaGreatDoor
