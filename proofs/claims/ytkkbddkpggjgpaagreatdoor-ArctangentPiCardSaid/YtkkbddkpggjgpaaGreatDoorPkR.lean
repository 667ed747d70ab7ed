/-
  Lower layers: what functions of the program compute, and plain facts. Conditions: as the theorems say.
-/
import Derived.Test.YtkkbddkpggjgpaaGreatDoorPkQ
set_option linter.unusedVariables false
set_option linter.unusedSimpArgs false
namespace Go.Proofs.YtkkbddkpggjgpaaGreatDoor
def Lq (f g:Nat→Rat):Prop:=∀ e:Rat,0<e→∃ N,∀ K,N≤K→f K≤g K+e
def Lm (f g:Nat→Rat):Prop:=Lq f g∧Lq g f
def Bn (f:Nat→Rat)(B:Rat):Prop:=∃ N,∀ K,N≤K→-B≤f K∧f K≤B
theorem Lq.refl (f:Nat→Rat):Lq f f:=fun e h=>⟨0,fun K _=>by grind⟩
theorem Lm.refl (f:Nat→Rat):Lm f f:=⟨Lq.refl f,Lq.refl f⟩
theorem Lm.symm {f g:Nat→Rat}(h:Lm f g):Lm g f:=⟨h.2,h.1⟩
theorem r8:(0:Rat)<1 / 8∧(0:Rat)<1 / 2∧(0:Rat)<2⁻¹:=⟨of_decide_eq_true (by kernel_rfl),of_decide_eq_true (by kernel_rfl),of_decide_eq_true (by kernel_rfl)⟩
theorem half_pos {e:Rat}(h:0<e):0<e / 2:=by rw[Rat.div_def];exact Rat.mul_pos h r8.2.2
theorem half_two (e:Rat):e / 2+e / 2=e:=by rw[Rat.div_def];grind
theorem Lq.trans {f g h:Nat→Rat}(a:Lq f g)(b:Lq g h):Lq f h:=fun e he=>by
 obtain⟨N,p⟩:=a (e / 2) (half_pos he)
 obtain⟨M,q⟩:=b (e / 2) (half_pos he)
 refine⟨N+M,fun K hK=>?_⟩
 have x:=p K (by omega)
 have y:=q K (by omega)
 have z:=half_two e
 grind
theorem Lm.trans {f g h:Nat→Rat}(a:Lm f g)(b:Lm g h):Lm f h:=⟨a.1.trans b.1,b.2.trans a.2⟩
theorem Lq.of_le {f g:Nat→Rat}{N:Nat}(h:∀ K,N≤K→f K≤g K):Lq f g:=fun e he=>⟨N,fun K hK=>by have:=h K hK;grind⟩
theorem Lm.of_eq {f g:Nat→Rat}{N:Nat}(h:∀ K,N≤K→f K=g K):Lm f g:=⟨.of_le (N:=N) fun K hK=>by rw[h K hK];exact Rat.le_refl,.of_le (N:=N) fun K hK=>by rw[h K hK];exact Rat.le_refl⟩
theorem mul_bd {p x P a:Rat}(h1:-P≤p)(h2:p≤P)(h3:-a≤x)(h4:x≤a):-(P*a)≤p*x∧p*x≤P*a:=by
 have m1:=Rat.mul_nonneg (show 0≤P-p by grind) (show 0≤a+x by grind)
 have m2:=Rat.mul_nonneg (show 0≤P+p by grind) (show 0≤a-x by grind)
 have m3:=Rat.mul_nonneg (show 0≤P+p by grind) (show 0≤a+x by grind)
 have m4:=Rat.mul_nonneg (show 0≤P-p by grind) (show 0≤a-x by grind)
 constructor<;>grind
theorem inv_one {B:Rat}(h:0<B):B⁻¹*B=1:=Rat.inv_mul_cancel _ (by grind)
theorem Bn.pos {f:Nat→Rat}{B:Rat}(h:Bn f B):∃ C,0<C∧Bn f C:=by
 obtain⟨N,h⟩:=h
 have a:=h N (Nat.le_refl _)
 refine⟨B+1,by grind,N,fun K hK=>?_⟩
 have b:=h K hK
 constructor<;>grind
theorem Lq.mul_aux {f f' g g':Nat→Rat}{A B:Rat}(h:Lm f f')(k:Lm g g')(hf:Bn f A)(hg:Bn g' B):Lq (fun K=>f K*g K) (fun K=>f' K*g' K):=fun e he=>by
 obtain⟨A',A0,N1,b1⟩:=hf.pos
 obtain⟨B',B0,N2,b2⟩:=hg.pos
 have iA:=Rat.inv_pos.2 A0
 have iB:=Rat.inv_pos.2 B0
 have eA:=inv_one A0
 have eB:=inv_one B0
 obtain⟨N3,c1⟩:=h.1 _ (Rat.mul_pos (half_pos he) iB)
 obtain⟨N4,c2⟩:=h.2 _ (Rat.mul_pos (half_pos he) iB)
 obtain⟨N5,c3⟩:=k.1 _ (Rat.mul_pos (half_pos he) iA)
 obtain⟨N6,c4⟩:=k.2 _ (Rat.mul_pos (half_pos he) iA)
 refine⟨N1+N2+N3+N4+N5+N6,fun K hK=>?_⟩
 have b1:=b1 K (by omega)
 have b2:=b2 K (by omega)
 have c1:=c1 K (by omega)
 have c2:=c2 K (by omega)
 have c3:=c3 K (by omega)
 have c4:=c4 K (by omega)
 have z:=half_two e
 have m1:=(mul_bd b1.1 b1.2 (x:=g K-g' K) (a:=e / 2*A'⁻¹) (by grind) (by grind)).2
 have m2:=(mul_bd b2.1 b2.2 (x:=f K-f' K) (a:=e / 2*B'⁻¹) (by grind) (by grind)).2
 have q1:A'*(e / 2*A'⁻¹)=e / 2:=by grind
 have q2:B'*(e / 2*B'⁻¹)=e / 2:=by grind
 rw[q1] at m1
 rw[q2] at m2
 show f K*g K≤f' K*g' K+e
 grind
theorem Lm.bn {f g:Nat→Rat}{A:Rat}(h:Lm f g)(b:Bn f A):Bn g (A+1):=by
 obtain⟨N,b⟩:=b
 obtain⟨N1,h1⟩:=h.1 1 (by decide)
 obtain⟨N2,h2⟩:=h.2 1 (by decide)
 refine⟨N+N1+N2,fun K hK=>?_⟩
 have b:=b K (by omega)
 have h1:=h1 K (by omega)
 have h2:=h2 K (by omega)
 constructor<;>grind
theorem Lm.mul {f f' g g':Nat→Rat}{A B:Rat}(h:Lm f f')(k:Lm g g')(hf:Bn f A)(hg:Bn g B):Lm (fun K=>f K*g K) (fun K=>f' K*g' K) :=
 ⟨Lq.mul_aux h k hf (k.bn hg),Lq.mul_aux h.symm k.symm (h.bn hf) hg⟩
theorem Sm_bd {f g:Nat→Rat}:∀ {n:Nat},(∀ i,i<n→-(g i)≤f i∧f i≤g i)→-(Sm g n)≤Sm f n∧Sm f n≤Sm g n
 | 0,_=>by show -(0:Rat)≤0∧(0:Rat)≤0;constructor<;>decide
 | n+1,h=>by
  have a:=Sm_bd (n:=n) (fun i hi=>h i (by omega))
  have b:=h n (by omega)
  show -(Sm g n+g n)≤Sm f n+f n∧Sm f n+f n≤Sm g n+g n
  constructor<;>grind
theorem tE_bd {x a:Rat}(h1:-a≤x)(h2:x≤a):∀ n,-(tE a n)≤tE x n∧tE x n≤tE a n
 | 0=>by show -(1:Rat)≤1∧(1:Rat)≤1;constructor<;>decide
 | n+1=>by
  have i:=tE_bd h1 h2 n
  have m:=mul_bd i.1 i.2 h1 h2
  have np:=nx_pos n
  have e1:=tE_mul x n
  have e2:=tE_mul a n
  constructor
  ·exact Rat.le_of_mul_le_mul_right (c:=(nx n:Rat)) (by grind) np
  ·exact Rat.le_of_mul_le_mul_right (c:=(nx n:Rat)) (by grind) np
theorem Sm_cm (c:Rat)(f:Nat→Rat)(n:Nat):Sm (fun j=>c*f j) n=c*Sm f n:=by
 rw[Rat.mul_comm,Sm_mul]
 exact Sm_congr fun i _=>Rat.mul_comm _ _
theorem rat_nat (r:Rat):∃ n:Nat,r≤(n:Rat):=by
 refine⟨r.ceil.toNat,?_⟩
 have a:r≤(r.ceil:Rat):=Rat.le_ceil
 have b:((r.ceil:Int):Rat)≤((r.ceil.toNat:Int):Rat):=Rat.intCast_le_intCast.2 (by omega)
 exact Rat.le_trans a b
theorem two_pow_ge:∀ n:Nat,(n:Rat)≤(2:Rat)^n
 | 0=>by rw[Rat.pow_zero];decide
 | n+1=>by
  have a:=two_pow_ge n
  have b:=one_pow_le (q:=2) (by decide) n
  rw[Rat.pow_succ,Rat.natCast_add]
  show (n:Rat)+1≤_
  grind
theorem tE_dec {a:Rat}(h0:0≤a){m:Nat}(h:2*a≤(nx m:Rat)):∀ j,tE a (m+j)*(2:Rat)^j≤tE a m
 | 0=>by rw[Rat.pow_zero,Rat.mul_one];exact Rat.le_refl
 | j+1=>by
  have i:=tE_dec h0 h j
  have t:=tE_half h0 (m:=m+j) (Rat.le_trans h (nx_mono (by omega)))
  have p:(0:Rat)≤(2:Rat)^j:=by have:=one_pow_le (q:=2) (by decide) j;grind
  have m1:=Rat.mul_le_mul_of_nonneg_right t p
  rw[Rat.pow_succ]
  show tE a (m+j+1)*_≤_
  grind
theorem tE_lim {a:Rat}(h0:0≤a){e:Rat}(he:0<e):∃ N,∀ K,N≤K→tE a K≤e∧2*a≤(nx K:Rat):=by
 obtain⟨m,hm⟩:=rat_nat (2*a)
 have hm':2*a≤(nx m:Rat):=Rat.le_trans hm (Rat.intCast_le_intCast.2 (show (m:Int)≤nx m by unfold nx;omega))
 obtain⟨j,hj⟩:=rat_nat (tE a m*e⁻¹)
 have ie:=inv_one he
 have i0:=Rat.inv_pos.2 he
 refine⟨m+j,fun K hK=>⟨?_,Rat.le_trans hm' (nx_mono (by omega))⟩⟩
 obtain⟨i,rfl⟩:∃ i,K=m+(j+i):=⟨K-m-j,by omega⟩
 have d:=tE_dec h0 hm' (j+i)
 have g:=two_pow_ge (j+i)
 have n1:(j:Rat)≤((j+i:Nat):Rat):=by
  rw[Rat.natCast_add]
  have:(0:Rat)≤(i:Rat):=Rat.natCast_nonneg
  grind
 have p:(1:Rat)≤(2:Rat)^(j+i):=one_pow_le (by decide) _
 refine Rat.le_of_mul_le_mul_right (c:=(2:Rat)^(j+i)) ?_ (by grind)
 have m1:=Rat.mul_le_mul_of_nonneg_left (show tE a m*e⁻¹≤(2:Rat)^(j+i) by grind) (Rat.le_of_lt he)
 have q:e*(tE a m*e⁻¹)=tE a m:=by grind
 rw[q] at m1
 exact Rat.le_trans d m1
theorem EP_cau {a:Rat}(h0:0≤a){e:Rat}(he:0<e):∃ N,∀ K,N≤K→∀ M,EP a M≤EP a K+e:=by
 obtain⟨N,h⟩:=tE_lim h0 he
 refine⟨N+1,fun K hK M=>?_⟩
 obtain⟨n,rfl⟩:∃ n,K=n+1:=⟨K-1,by omega⟩
 have b:=h n (by omega)
 have c:=EP_tail h0 b.2 M
 grind
theorem abs_ex (x:Rat):∃ a,0≤a∧-a≤x∧x≤a:=by
 rcases (Rat.le_total:0≤x∨x≤0) with h | h
 ·exact⟨x,h,by grind,Rat.le_refl⟩
 ·exact⟨-x,by grind,by grind,by grind⟩
end Go.Proofs.YtkkbddkpggjgpaaGreatDoor

namespace Go.Proofs.YtkkbddkpggjgpaaGreatDoor
theorem pow_nn {a:Rat}(h:0≤a):∀ n:Nat,0≤a^n
 | 0=>by rw[Rat.pow_zero];decide
 | n+1=>by rw[Rat.pow_succ];exact Rat.mul_nonneg (pow_nn h n) h
theorem pow_monox {a b:Rat}(h:0≤a)(k:a≤b):∀ n:Nat,a^n≤b^n
 | 0=>by rw[Rat.pow_zero,Rat.pow_zero];exact Rat.le_refl
 | n+1=>by
  have i:=pow_monox h k n
  have m1:=Rat.mul_le_mul_of_nonneg_right i h
  have m2:=Rat.mul_le_mul_of_nonneg_left k (pow_nn (Rat.le_trans h k) n)
  rw[Rat.pow_succ,Rat.pow_succ]
  exact Rat.le_trans m1 m2
theorem two_one (n:Nat):(1:Rat)≤(2:Rat)^n:=one_pow_le (by decide) n
end Go.Proofs.YtkkbddkpggjgpaaGreatDoor


namespace Go.Proofs.YtkkbddkpggjgpaaGreatDoor
def EnE (f:Nat→Rat)(s:Nat)(lo hi:Int)(g:Rat):Prop:=∃ N,∀ K,N≤K→(lo:Rat)≤f K*((2^s:Int):Rat)+g∧f K*((2^s:Int):Rat)≤(hi:Rat)+g
theorem EnE.mono {f:Nat→Rat}{s:Nat}{lo hi:Int}{g g':Rat}(h:EnE f s lo hi g)(hg:g≤g'):EnE f s lo hi g':=by
 obtain⟨N,h⟩:=h
 exact⟨N,fun K hK=>by have:=h K hK;constructor<;>grind⟩
theorem EnE.near {f f':Nat→Rat}{s:Nat}{lo hi:Int}{g e:Rat}(h:EnE f s lo hi g)(hn:∃ N,∀ K,N≤K→f K≤f' K+e∧f' K≤f K+e):EnE f' s lo hi (g+e*((2^s:Int):Rat)):=by
 obtain⟨N,h⟩:=h
 obtain⟨M,hn⟩:=hn
 have P:(0:Rat)<((2^s:Int):Rat):=Rat.intCast_pos.2 (two_pos s)
 refine⟨N+M,fun K hK=>?_⟩
 have a:=h K (by omega)
 have b:=hn K (by omega)
 have m1:=Rat.mul_le_mul_of_nonneg_right b.1 (Rat.le_of_lt P)
 have m2:=Rat.mul_le_mul_of_nonneg_right b.2 (Rat.le_of_lt P)
 constructor<;>grind
theorem int_gap2 {l h:Int}{X Y:Rat}(h1:(l:Rat)≤X)(h2:Y≤(h:Rat))(g:X<Y+1):l≤h:=by
 refine Decidable.byContradiction fun hn=>?_
 have:((h+1:Int):Rat)≤(l:Rat):=Rat.intCast_le_intCast.2 (by omega)
 rw[Rat.intCast_add,show ((1:Int):Rat)=1 from rfl] at this
 grind
theorem EnE.le {f f':Nat→Rat}{s:Nat}{a b c d:Int}{g g':Rat}(h:EnE f s a b g)(k:EnE f' s c d g')(hl:Lq f f')(hg:g+g'<1):a≤d:=by
 obtain⟨N,h⟩:=h
 obtain⟨M,k⟩:=k
 have P:(0:Rat)<((2^s:Int):Rat):=Rat.intCast_pos.2 (two_pos s)
 have i0:=Rat.inv_pos.2 P
 have ie:=inv_one P
 have e0:0<(1-g-g')*(1 / 2):=Rat.mul_pos (by grind) r8.2.1
 obtain⟨Q,q⟩:=hl ((1-g-g')*(1 / 2)*(((2^s:Int):Rat))⁻¹) (Rat.mul_pos e0 i0)
 have h:=(h (N+M+Q) (by omega)).1
 have k:=(k (N+M+Q) (by omega)).2
 have q:=Rat.mul_le_mul_of_nonneg_right (q (N+M+Q) (by omega)) (Rat.le_of_lt P)
 have z:(1-g-g')*(1 / 2)*(((2^s:Int):Rat))⁻¹*((2^s:Int):Rat)=(1-g-g')*(1 / 2):=by rw[Rat.mul_assoc,ie,Rat.mul_one]
 exact int_gap2 (X:=f (N+M+Q)*((2^s:Int):Rat)+g) (Y:=f' (N+M+Q)*((2^s:Int):Rat)-g') h (by grind) (by grind)
end Go.Proofs.YtkkbddkpggjgpaaGreatDoor

namespace Go.Proofs.YtkkbddkpggjgpaaGreatDoor
def iP:Nat→Rat × Rat
 | 0=>(1,0)
 | n+1=>(-(iP n).2,(iP n).1)
theorem iP_add (a:Nat):∀ b,(iP (a+b)).1=(iP a).1*(iP b).1-(iP a).2*(iP b).2∧(iP (a+b)).2=(iP a).1*(iP b).2+(iP a).2*(iP b).1
 | 0=>by
  show (iP a).1=(iP a).1*1-(iP a).2*0∧(iP a).2=(iP a).1*0+(iP a).2*1
  constructor<;>grind
 | b+1=>by
  have h:=iP_add a b
  have e1:(iP (a+(b+1))).1=-(iP (a+b)).2:=rfl
  have e2:(iP (a+(b+1))).2=(iP (a+b)).1:=rfl
  have e3:(iP (b+1)).1=-(iP b).2:=rfl
  have e4:(iP (b+1)).2=(iP b).1:=rfl
  rw[e1,e2,e3,e4,h.1,h.2]
  constructor<;>grind
theorem iP_bd:∀ n,(-1≤(iP n).1∧(iP n).1≤1)∧(-1≤(iP n).2∧(iP n).2≤1)
 | 0=>by show (-1≤(1:Rat)∧(1:Rat)≤1)∧(-1≤(0:Rat)∧(0:Rat)≤1);decide
 | n+1=>by
  have h:=iP_bd n
  show (-1≤-(iP n).2∧-(iP n).2≤1)∧(-1≤(iP n).1∧(iP n).1≤1)
  refine⟨⟨by grind,by grind⟩,h.1⟩
def tC (x:Rat)(n:Nat):Rat:=(iP n).1*tE x n
def tS (x:Rat)(n:Nat):Rat:=(iP n).2*tE x n
def CS (x:Rat)(K:Nat):Rat:=Sm (tC x) K
def SN (x:Rat)(K:Nat):Rat:=Sm (tS x) K
theorem one_bd {u t g:Rat}(h:-1≤u∧u≤1)(h1:-g≤t)(h2:t≤g):-g≤u*t∧u*t≤g:=by
 have m:=mul_bd h.1 h.2 h1 h2
 rw[Rat.one_mul] at m;exact m
theorem tC_bd {x a:Rat}(h1:-a≤x)(h2:x≤a)(n:Nat):-(tE a n)≤tC x n∧tC x n≤tE a n:=one_bd (iP_bd n).1 (tE_bd h1 h2 n).1 (tE_bd h1 h2 n).2
theorem tS_bd {x a:Rat}(h1:-a≤x)(h2:x≤a)(n:Nat):-(tE a n)≤tS x n∧tS x n≤tE a n:=one_bd (iP_bd n).2 (tE_bd h1 h2 n).1 (tE_bd h1 h2 n).2
theorem Sm_gap {f g:Nat→Rat}(h:∀ i,-(g i)≤f i∧f i≤g i)(K:Nat):∀ k,-(Sm g (K+k)-Sm g K)≤Sm f (K+k)-Sm f K∧Sm f (K+k)-Sm f K≤Sm g (K+k)-Sm g K
 | 0=>by show -(Sm g K-Sm g K)≤Sm f K-Sm f K∧Sm f K-Sm f K≤Sm g K-Sm g K;constructor<;>grind
 | k+1=>by
  have i:=Sm_gap h K k
  have b:=h (K+k)
  have e1:Sm f (K+(k+1))=Sm f (K+k)+f (K+k):=rfl
  have e2:Sm g (K+(k+1))=Sm g (K+k)+g (K+k):=rfl
  rw[e1,e2]
  constructor<;>grind
def Tri (f g:Nat→Rat)(K:Nat):Rat:=Sm (fun i=>Sm (fun j=>f i*g j) (K-i)) K
theorem Tri_form (f g:Nat→Rat)(K:Nat):Sm f K*Sm g K-Tri f g K=Sm (fun i=>f i*(Sm g K-Sm g (K-i))) K:=by
 have q:Tri f g K=Sm (fun i=>f i*Sm g (K-i)) K:=Sm_congr fun i _=>Sm_cm _ _ _
 have r:Sm (fun i=>f i*Sm g K) K=Sm (fun i=>f i*(Sm g K-Sm g (K-i))) K+Sm (fun i=>f i*Sm g (K-i)) K:=by
  rw[← Sm_add]
  exact Sm_congr fun i _=>by grind
 rw[q,Sm_mul,r];grind
theorem Tri_bd {f g F G:Nat→Rat}(hf:∀ i,-(F i)≤f i∧f i≤F i)(hg:∀ i,-(G i)≤g i∧g i≤G i)(K:Nat) :
  -(Sm F K*Sm G K-Tri F G K)≤Sm f K*Sm g K-Tri f g K∧Sm f K*Sm g K-Tri f g K≤Sm F K*Sm G K-Tri F G K:=by
 rw[Tri_form,Tri_form]
 refine Sm_bd fun i hi=>?_
 have s:=Sm_gap hg (K-i) i
 rw[show K-i+i=K by omega] at s
 exact mul_bd (hf i).1 (hf i).2 s.1 s.2
theorem Tri_diag (f g:Nat→Rat)(K:Nat):Tri f g K=Sm (fun n=>Sm (fun i=>f i*g (n-i)) (n+1)) K:=(Sm_tri (fun i j=>f i*g j) K).symm
theorem Sm_sub (f g:Nat→Rat):∀ n,Sm (fun i=>f i-g i) n=Sm f n-Sm g n
 | 0=>by show (0:Rat)=0-0;grind
 | n+1=>by
  show Sm (fun i=>f i-g i) n+(f n-g n)=Sm f n+f n-(Sm g n+g n)
  rw[Sm_sub f g n];grind
theorem Tri_EP (x y:Rat)(K:Nat):Tri (tE x) (tE y) K=EP (x+y) K:=(EP_conv x y K).symm
theorem CS_conv (x y:Rat)(K:Nat):CS (x+y) K=Tri (tC x) (tC y) K-Tri (tS x) (tS y) K:=by
 rw[Tri_diag,Tri_diag,← Sm_sub]
 refine Sm_congr fun n _=>?_
 rw[← Sm_sub]
 unfold tC
 rw[tE_add,← Sm_cm]
 refine Sm_congr fun i hi=>?_
 have a:=(iP_add i (n-i)).1
 rw[show i+(n-i)=n by omega] at a
 rw[a]
 unfold tS
 grind
theorem SN_conv (x y:Rat)(K:Nat):SN (x+y) K=Tri (tC x) (tS y) K+Tri (tS x) (tC y) K:=by
 rw[Tri_diag,Tri_diag,← Sm_add]
 refine Sm_congr fun n _=>?_
 rw[← Sm_add]
 unfold tS
 rw[tE_add,← Sm_cm]
 refine Sm_congr fun i hi=>?_
 have a:=(iP_add i (n-i)).2
 rw[show i+(n-i)=n by omega] at a
 rw[a]
 unfold tC
 grind
theorem gap_lim {a b:Rat}(a0:0≤a)(b0:0≤b){e:Rat}(he:0<e):∃ N,∀ K,N≤K→Sm (tE a) K*Sm (tE b) K-Tri (tE a) (tE b) K≤e:=by
 obtain⟨N,h⟩:=EP_cau (Rat.add_nonneg a0 b0) he
 refine⟨N,fun K hK=>?_⟩
 have c:=h K hK (2*K)
 have d:Sm (tE a) K*Sm (tE b) K≤EP (a+b) (2*K):=(EP_mul a0 b0 K).2
 rw[Tri_EP]
 grind
theorem Lm.of_near {f g:Nat→Rat}(h:∀ e:Rat,0<e→∃ N,∀ K,N≤K→f K≤g K+e∧g K≤f K+e):Lm f g :=
 ⟨fun e he=>by obtain⟨N,h⟩:=h e he;exact⟨N,fun K hK=>(h K hK).1⟩,fun e he=>by obtain⟨N,h⟩:=h e he;exact⟨N,fun K hK=>(h K hK).2⟩⟩
theorem CS_add (x y:Rat):Lm (CS (x+y)) (fun K=>CS x K*CS y K-SN x K*SN y K):=by
 obtain⟨a,a0,a1,a2⟩:=abs_ex x
 obtain⟨b,b0,b1,b2⟩:=abs_ex y
 refine Lm.of_near fun e he=>?_
 obtain⟨N,h⟩:=gap_lim a0 b0 (half_pos he)
 refine⟨N,fun K hK=>?_⟩
 have c:=h K hK
 have z:=half_two e
 have f1:=Tri_bd (tC_bd a1 a2) (tC_bd b1 b2) K
 have f2:=Tri_bd (tS_bd a1 a2) (tS_bd b1 b2) K
 rw[CS_conv]
 unfold CS SN
 constructor<;>grind
theorem SN_add (x y:Rat):Lm (SN (x+y)) (fun K=>CS x K*SN y K+SN x K*CS y K):=by
 obtain⟨a,a0,a1,a2⟩:=abs_ex x
 obtain⟨b,b0,b1,b2⟩:=abs_ex y
 refine Lm.of_near fun e he=>?_
 obtain⟨N,h⟩:=gap_lim a0 b0 (half_pos he)
 refine⟨N,fun K hK=>?_⟩
 have c:=h K hK
 have z:=half_two e
 have f1:=Tri_bd (tC_bd a1 a2) (tS_bd b1 b2) K
 have f2:=Tri_bd (tS_bd a1 a2) (tC_bd b1 b2) K
 rw[SN_conv]
 unfold CS SN
 constructor<;>grind
theorem CS_addN (x y:Rat){e:Rat}(he:0<e):∃ N,∀ K,N≤K→(CS (x+y) K≤CS x K*CS y K-SN x K*SN y K+e∧CS x K*CS y K-SN x K*SN y K≤CS (x+y) K+e)∧(SN (x+y) K≤CS x K*SN y K+SN x K*CS y K+e∧CS x K*SN y K+SN x K*CS y K≤SN (x+y) K+e):=by
 obtain⟨N1,h1⟩:=(CS_add x y).1 e he
 obtain⟨N2,h2⟩:=(CS_add x y).2 e he
 obtain⟨N3,h3⟩:=(SN_add x y).1 e he
 obtain⟨N4,h4⟩:=(SN_add x y).2 e he
 exact⟨N1+N2+N3+N4,fun K hK=>⟨⟨h1 K (by omega),h2 K (by omega)⟩,h3 K (by omega),h4 K (by omega)⟩⟩
theorem t_neg (x:Rat):∀ n,tC (-x) n=tC x n∧tS (-x) n=-(tS x n)
 | 0=>by
  show (1:Rat)*1=1*1∧(0:Rat)*1=-(0*1)
  constructor<;>grind
 | n+1=>by
  have h:=t_neg x n
  unfold tC tS at h ⊢
  show -(iP n).2*(tE (-x) n*-x / (nx n:Rat))=-(iP n).2*(tE x n*x / (nx n:Rat))∧(iP n).1*(tE (-x) n*-x / (nx n:Rat))=-((iP n).1*(tE x n*x / (nx n:Rat)))
  rw[Rat.div_def,Rat.div_def]
  constructor<;>grind
theorem Sm_opp (f:Nat→Rat):∀ n,Sm (fun i=>-(f i)) n=-(Sm f n)
 | 0=>by show (0:Rat)=-0;grind
 | n+1=>by
  show Sm (fun i=>-(f i)) n+-(f n)=-(Sm f n+f n)
  rw[Sm_opp f n];grind
theorem CS_neg (x:Rat)(K:Nat):CS (-x) K=CS x K:=Sm_congr fun i _=>(t_neg x i).1
theorem SN_neg (x:Rat)(K:Nat):SN (-x) K=-(SN x K):=by
 unfold SN
 rw[← Sm_opp]
 exact Sm_congr fun i _=>(t_neg x i).2
theorem tE_0 (n:Nat):tE 0 (n+1)=0:=by
 show tE 0 n*0 / (nx n:Rat)=0
 rw[Rat.mul_zero,Rat.div_def,Rat.zero_mul]
theorem CS_zero:∀ K,1≤K→CS 0 K=1∧SN 0 K=0
 | 0,h=>absurd h (by omega)
 | 1,_=>by show (0:Rat)+1*1=1∧(0:Rat)+0*1=0;constructor<;>grind
 | K+2,_=>by
  have a:=CS_zero (K+1) (by omega)
  show CS 0 (K+1)+(iP (K+1)).1*tE 0 (K+1)=1∧SN 0 (K+1)+(iP (K+1)).2*tE 0 (K+1)=0
  rw[a.1,a.2,tE_0]
  constructor<;>grind
theorem CS_sq (x:Rat):Lm (fun K=>CS x K*CS x K+SN x K*SN x K) (fun _=>1):=by
 have h:=CS_add x (-x)
 rw[show x+-x=0 by grind] at h
 refine Lm.trans (Lm.of_eq (N:=0) fun K _=>?_) (h.symm.trans (Lm.of_eq (N:=1) fun K hK=>(CS_zero K hK).1))
 rw[CS_neg,SN_neg];grind
theorem sq_nn (x:Rat):0≤x*x:=by
 rcases (Rat.le_total:0≤x∨x≤0) with h | h
 ·exact Rat.mul_nonneg h h
 ·have:=Rat.mul_nonneg (show 0≤-x by grind) (show 0≤-x by grind);grind
theorem sq_le1 {x e:Rat}(he:0<e)(h:x*x≤1+e):-(1+e)≤x∧x≤1+e:=by
 constructor
 ·refine Decidable.byContradiction fun hn=>?_
  have m:=Rat.mul_le_mul_of_nonneg_left (show 1+e≤-x by grind) (show 0≤-x by grind)
  have m2:=Rat.mul_le_mul_of_nonneg_right (show 1≤1+e by grind) (show 0≤-x by grind)
  grind
 ·refine Decidable.byContradiction fun hn=>?_
  have m:=Rat.mul_le_mul_of_nonneg_left (show 1+e≤x by grind) (show 0≤x by grind)
  have m2:=Rat.mul_le_mul_of_nonneg_right (show 1≤1+e by grind) (show 0≤x by grind)
  grind
theorem CS_one (x:Rat){e:Rat}(he:0<e):∃ N,∀ K,N≤K→(-(1+e)≤CS x K∧CS x K≤1+e)∧(-(1+e)≤SN x K∧SN x K≤1+e):=by
 obtain⟨N,h⟩:=(CS_sq x).1 e he
 refine⟨N,fun K hK=>?_⟩
 have h:CS x K*CS x K+SN x K*SN x K≤1+e:=h K hK
 have a:=sq_nn (CS x K)
 have b:=sq_nn (SN x K)
 exact⟨sq_le1 he (by grind),sq_le1 he (by grind)⟩
theorem CS_tail {x a:Rat}(a0:0≤a)(h1:-a≤x)(h2:x≤a){n:Nat}(hn:2*a≤(nx n:Rat)){K:Nat}(hK:n+1≤K) :
  (CS x (n+1)-tE a n≤CS x K∧CS x K≤CS x (n+1)+tE a n)∧(SN x (n+1)-tE a n≤SN x K∧SN x K≤SN x (n+1)+tE a n):=by
 have t:=EP_tail a0 hn K
 have g1:=Sm_gap (tC_bd h1 h2) (n+1) (K-(n+1))
 have g2:=Sm_gap (tS_bd h1 h2) (n+1) (K-(n+1))
 rw[show n+1+(K-(n+1))=K by omega] at g1 g2
 unfold EP at t
 unfold CS SN
 refine⟨⟨?_,?_⟩,⟨?_,?_⟩⟩<;>grind
end Go.Proofs.YtkkbddkpggjgpaaGreatDoor

namespace Go.Proofs.YtkkbddkpggjgpaaGreatDoor
def ptPi:Int:=8710598741881011095307514925528767253835697869117002946683736815061430642517439960281687965396170617911066893946226934353316672095
def cQ:Rat:=dv ptPi (-431)
theorem cQ_b:157≤100*cQ∧1000*cQ≤1571:=⟨of_decide_eq_true (by kernel_rfl),of_decide_eq_true (by kernel_rfl)⟩
end Go.Proofs.YtkkbddkpggjgpaaGreatDoor

namespace Go.Proofs.YtkkbddkpggjgpaaGreatDoor
def mT (i j:Nat):Int:=(((i+2*j:Nat):Int)+1)*(((i+2*j:Nat):Int)+2)
def ty (T q1 q2 a b:Int)(i:Nat):Nat→Int × Int
 | 0=>(a,b)
 | j+1=>(ptLo ((ty T q1 q2 a b i j).1*q1 / T) (mT i j),ptHi (-(-((ty T q1 q2 a b i j).2*q2) / T)) (mT i j))
structure TyH (T q1 q2 a b:Int):Prop where
 hT:16≤T
 q0:0≤q1
 q12:q1≤q2
 qT:q2≤T
 qw:q2-q1≤1
 a0:0≤a
 ab:a≤b
 bT:b≤T
 aw:b-a≤1
def tyA (p1 p2:Nat→Int):Nat→Int
 | 0=>p1 0
 | j+1=>if j%2=0 then tyA p1 p2 j+-(p2 (j+1)) else tyA p1 p2 j+p1 (j+1)
def tyB (p1 p2:Nat→Int):Nat→Int
 | 0=>p2 0
 | j+1=>if j%2=0 then tyB p1 p2 j+-(p1 (j+1)) else tyB p1 p2 j+p2 (j+1)
def aS (t:Nat→Rat):Nat→Rat
 | 0=>t 0
 | j+1=>if j%2=0 then aS t j-t (j+1) else aS t j+t (j+1)
theorem tyS_enc {p1 p2:Nat→Int}{t:Nat→Rat}{T:Rat}(h:∀ j,(p1 j:Rat)≤t j*T∧t j*T≤(p2 j:Rat)):∀ j,((tyA p1 p2 j:Int):Rat)≤aS t j*T∧aS t j*T≤((tyB p1 p2 j:Int):Rat)
 | 0=>h 0
 | j+1=>by
  have a:=tyS_enc h j
  have b:=h (j+1)
  unfold tyA tyB aS
  by_cases q:j%2=0
  ·rw[if_pos q,if_pos q,if_pos q,Rat.intCast_add,Rat.intCast_add,Rat.intCast_neg,Rat.intCast_neg]
   constructor<;>grind
  ·rw[if_neg q,if_neg q,if_neg q,Rat.intCast_add,Rat.intCast_add]
   constructor<;>grind
def sg (l:Nat):Rat:=if l%2=0 then 1 else -1
theorem sg_succ (l:Nat):sg (l+1)=-(sg l):=by
 unfold sg
 by_cases h:l%2=0
 ·rw[if_pos h,if_neg (by omega)]
 ·rw[if_neg h,if_pos (by omega)];grind
end Go.Proofs.YtkkbddkpggjgpaaGreatDoor




namespace Go.Proofs.YtkkbddkpggjgpaaGreatDoor
open Go.RowKit
set_option maxRecDepth 100000
set_option maxHeartbeats 2000000
theorem N_zero:N 0=.sl 1 []:=by simp [N,lim,limbs_zero,U]
theorem rt_nil {a:Nat}(h:a=0):vsub (.tup [.nil,.nil]) (.tup [N (rt a),N (a-rt a*rt a)]):=by
 subst h
 rw[rt_zero,N_zero]
 exact vsub_tup2 (vsub_nil 1) (vsub_nil 1)
theorem prod_Square (a:Nat)(c0:L a≤33554432):Impl Tryz.prog Amb 232 [(N a)] (N (a*a)):=by
 exact impl_ob hP hAmb Tryz.func232 (by kernel_rfl) (.lit<|.call (N (a*a))<|.lit<|.ret)
  (cast_ob (aI True.intro (aI (prod_Mul a a oA oA) (have f1:=L_mul a a;(vsub_refl (N (a*a)))))) (by kernel_rfl))
def prod_Small_0_mk (a:Nat)(m:Int)(x:Int × Int × List V × List Nat):St:=⟨mkS 47 [(0,(.val (N a))),(1,(.val (.int .u32 m))),(7,(.osl 0 0 ((((lim a).length:Int)+1).toNat) 1)),(8,(.val (.int .u64 x.2.1))),(17,(.val (N a))),(18,(.val (.int .i64 ((lim a).length:Int)))),(19,(.val (.int .i64 x.1)))],[⟨true,false,x.2.2.1⟩]⟩
def prod_Small_0_I (a:Nat)(m:Int)(x:Int × Int × List V × List Nat):Prop:=x.2.2.1=U x.2.2.2∧PsInv a m x.1 x.2.1 x.2.2.2
def prod_Small_0_mu (a:Nat)(_:Int)(x:Int × Int × List V × List Nat):Nat:=((L a:Int)-x.1).toNat
def prod_Small_0_ex (a:Nat)(_:Int)(y:Int × List Nat):Ex × St:=(.exit 0,⟨mkS 47 [(0,(.val (N a))),(7,(.osl 0 0 ((((lim a).length:Int)+1).toNat) 1)),(8,(.val (.int .u64 y.1)))],[⟨true,false,(U y.2)⟩]⟩)
def prod_Small_0_J (a:Nat)(m:Int)(y:Int × List Nat):Prop:=PsInv a m (L a:Int) y.1 y.2
abbrev prod_Small_0_N (a:Nat)(m:Int):=NX (prod_Small_0_mk a m) (prod_Small_0_I a m) (prod_Small_0_mu a m) (prod_Small_0_ex a m) (prod_Small_0_J a m)
theorem prod_Small_0 (a:Nat)(m:Int)(c0:L a≤33554432)(c1:(0:Int)≤m∧m<4294967296)(x0:Int × Int × List V × List Nat)(hI:prod_Small_0_I a m x0):LoopOk Tryz.prog Amb (loopN Tryz.f236 0) (prod_Small_0_mk a m x0) (fun e st_=>∃ y,prod_Small_0_J a m y∧prod_Small_0_ex a m y=(e,st_)) :=
 loop_ob hP hAmb ⟨[0,1,7,8,17,18,19],1,[]⟩ (prod_Small_0_mk a m) (prod_Small_0_I a m) (prod_Small_0_mu a m) (prod_Small_0_ex a m) (prod_Small_0_J a m) x0 hI (fun (i,c,o,l)=>.lit<|.both (.yes<|.yes<|.lit<|.yes<|.lit<|.yes<|.lit<|.yes<|.lit<|.yes<|.lit<|.no<|.yes<|.yes<|.lits 2<|.yes<|.fin2 ⟨[0,1,7,8,17,18,19],1,[]⟩) (.fin2 ⟨[0,7,8],1,[]⟩)) (by
  rintro ⟨i,c,o,l⟩ hI
  have hI:o=U l∧PsInv a m i c l:=hI
  obtain⟨rfl,h1⟩:=hI
  have ⟨p0,p1,p2,p3,p4,p5,_⟩:=h1
  have e0:=L_len a
  have g4:=U_len l
  have hb:=ps_bound h1 c1
  have g0:=gi_nonneg (limbs a) i.toNat
  have g1:=gi_lt (dig_limbs a) i.toNat
  exact cast_ob (aI True.intro (aI (fun (h101:(iLt i ((lim a).length:Int))=true)=>have _gh101:=iLt_t h101;aI (inB_mk oA:(inB i ((lim a).length))=true) (aI (ld_L oA:(Nat.blt i.toNat (lim a).length && isIntK .u32 (nth (lim a) i.toNat .unk))=true) (aI (fits_u64 oA:(fits .u64 (gi (limbs a) i.toNat))=true) (aI (fits_u64 oA:(fits .u64 m)=true) (aI (fits_u64 oA:(fits .u64 ((gi (limbs a) i.toNat)*m))=true) (aI (fits_u64 oA:(fits .u64 (c+((gi (limbs a) i.toNat)*m)))=true) (aI (inB_mk oA:(inB i ((((lim a).length:Int)+1).toNat))=true) (aI (st_ok oA:(Nat.ble ((0+i.toNat)+1) (U l).length)=true) (aI (fits_i64 oA:(fits .i64 (i+1))=true) (aI tT ((nx_next ((i+1),(Int.fdiv (c+((gi (limbs a) i.toNat)*m)) (2^32)),(List.set (U l) (0+i.toNat) (.int .u32 (IntKind.wrap .u32 (c+((gi (limbs a) i.toNat)*m))))),(l.set i.toNat (IntKind.wrap .u32 (c+((gi (limbs a) i.toNat)*m))).toNat)) (show (List.set (U l) (0+i.toNat) (.int .u32 (IntKind.wrap .u32 (c+((gi (limbs a) i.toNat)*m)))))=U (l.set i.toNat (IntKind.wrap .u32 (c+((gi (limbs a) i.toNat)*m))).toNat)∧PsInv a m (i+1) (Int.fdiv (c+((gi (limbs a) i.toNat)*m)) (2^32)) (l.set i.toNat (IntKind.wrap .u32 (c+((gi (limbs a) i.toNat)*m))).toNat) from ⟨setU _ oO (wrap_pos _),ps_next h1 oO c1 rfl⟩) (show ((L a:Int)-(i+1)).toNat<((L a:Int)-i).toNat by omega):prod_Small_0_N a m (i,c,(U l),l) .normal (prod_Small_0_mk a m ((i+1),(Int.fdiv (c+((gi (limbs a) i.toNat)*m)) (2^32)),(List.set (U l) (0+i.toNat) (.int .u32 (IntKind.wrap .u32 (c+((gi (limbs a) i.toNat)*m))))),(l.set i.toNat (IntKind.wrap .u32 (c+((gi (limbs a) i.toNat)*m))).toNat))))))))))))))) (fun (h102:(iLt i ((lim a).length:Int))=false)=>have _gh102:=iLt_f h102;aI tT ((nx_exit 0 ((prod_Small_0_ex a m (c,l)).2) (c,l) (show PsInv a m (L a:Int) c l from (show i=(L a:Int) by omega) ▸ h1) rfl:prod_Small_0_N a m (i,c,(U l),l) (.exit 0) ((prod_Small_0_ex a m (c,l)).2)))))) (by kernel_rfl))
theorem prod_Small (a:Nat)(m:Int)(c0:L a≤33554432)(c1:(0:Int)≤m∧m<4294967296):Impl Tryz.prog Amb 236 [(N a),(.int .u32 m),(.int .u32 0)] (N (a*(m).toNat)):=by
 have e0:=L_len a
 exact impl_ob hP hAmb Tryz.func236 (by kernel_rfl) (.lit<|.yes<|.yes<|.lit<|.yes<|.loop ⟨[0,1,7,8,17,18,19],1,[]⟩ ((prod_Small_0_mk a m (0,0,(List.replicate ((((lim a).length:Int)+1).toNat) (.int .u32 0)),(List.replicate (L a+1) 0)))) (Int × List Nat) (prod_Small_0_ex a m) (prod_Small_0_J a m) (fun y=>.lit<|.no<|.yes<|.yes<|.yes<|.call (N (val (y.2.set (L a) y.1.toNat)))<|.lit<|.ret))
  (cast_ob (aI True.intro (aI (fits_i64 oA:(fits .i64 (((lim a).length:Int)+1))=true) (aI (mk_ok oA:(((iEq (((lim a).length:Int)+1) (((lim a).length:Int)+1)) && (iLe 0 (((lim a).length:Int)+1))) && (iLe (((lim a).length:Int)+1) 1073741824))=true) (aI tT (aI tT (aI (rfl:(prod_Small_0_mk a m (0,0,(List.replicate ((((lim a).length:Int)+1).toNat) (.int .u32 0)),(List.replicate (L a+1) 0)))=(prod_Small_0_mk a m (0,0,(List.replicate ((((lim a).length:Int)+1).toNat) (.int .u32 0)),(List.replicate (L a+1) 0)))) (aI (prod_Small_0 a m c0 c1 (0,0,(List.replicate ((((lim a).length:Int)+1).toNat) (.int .u32 0)),(List.replicate (L a+1) 0)) (show (List.replicate ((((lim a).length:Int)+1).toNat) (.int .u32 0))=U (List.replicate (L a+1) 0)∧PsInv a m 0 0 (List.replicate (L a+1) 0) from ⟨by rw[L_len];exact U_rep _,ps_init _ _⟩)) (fun y (hJ:prod_Small_0_J a m y)=>have hJ:PsInv a m (L a:Int) y.1 y.2:=hJ;have ⟨_,_,q2,q3,q4,_⟩:=hJ;have q5:=U_len y.2;aI (inB_mk oA:(inB ((lim a).length:Int) ((((lim a).length:Int)+1).toNat))=true) (aI (st_ok oA:(Nat.ble ((0+((lim a).length:Int).toNat)+1) (U y.2).length)=true) (aI (ok_arg oA:((true && Nat.ble (0+(((lim a).length:Int)+1).toNat) (List.set (U y.2) (0+((lim a).length:Int).toNat) (.int .u32 (IntKind.wrap .u32 y.1))).length) && true)=true) (aI (nat_TrimC (List.take ((((lim a).length:Int)+1).toNat) (List.drop 0 (List.set (U y.2) (0+((lim a).length:Int).toNat) (.int .u32 (IntKind.wrap .u32 y.1))))) (y.2.set (L a) y.1.toNat) (tkU (setU y.2 (show _=L a by omega) (by rw[wrap_u32];omega)) (by rw[(ps_end hJ).2.1];omega)) (ps_end hJ).1 (by rw[(ps_end hJ).2.1];omega)) ((vsub_of (congrArg N (ps_end hJ).2.2):vsub (N (val (y.2.set (L a) y.1.toNat))) (N (a*(m).toNat))))))))))))))) (by kernel_rfl))
theorem prod_Small1 (a:Nat)(c0:L a≤33554432):Impl Tryz.prog Amb 236 [(N a),(.int .u32 1),(.int .u32 0)] (N a):=by
 have h:=prod_Small a 1 c0 oO
 rw[show (1:Int).toNat=1 from rfl,Nat.mul_one] at h
 exact h
def prod_Power_0_mk (a:Nat)(n:Int)(x:Int × Nat):St:=⟨mkS 35 [(0,(.val (N a))),(1,(.val (.int .i64 n))),(5,(.val (N x.2))),(6,(.val (.int .i64 x.1)))],[]⟩
def prod_Power_0_I (a:Nat)(n:Int)(x:Int × Nat):Prop:=-1≤x.1∧x.1≤6∧x.2=a^(n.toNat / 2^(x.1+1).toNat)
def prod_Power_0_mu (_:Nat)(_:Int)(x:Int × Nat):Nat:=(x.1+1).toNat
def prod_Power_0_ex (_:Nat)(_:Int)(y:Nat):Ex × St:=(.exit 0,⟨mkS 35 [(5,(.val (N y)))],[]⟩)
def prod_Power_0_J (a:Nat)(n:Int)(y:Nat):Prop:=y=a^(n).toNat
abbrev prod_Power_0_N (a:Nat)(n:Int):=NX (prod_Power_0_mk a n) (prod_Power_0_I a n) (prod_Power_0_mu a n) (prod_Power_0_ex a n) (prod_Power_0_J a n)
theorem prod_Power_0 (a:Nat)(n:Int)(c0:L a≤4096)(c1:(0:Int)≤n∧n≤64)(x0:Int × Nat)(hI:prod_Power_0_I a n x0):LoopOk Tryz.prog Amb (loopN Tryz.f235 0) (prod_Power_0_mk a n x0) (fun e st_=>∃ y,prod_Power_0_J a n y∧prod_Power_0_ex a n y=(e,st_)) :=
 loop_ob hP hAmb ⟨[0,1,5,6],0,[]⟩ (prod_Power_0_mk a n) (prod_Power_0_I a n) (prod_Power_0_mu a n) (prod_Power_0_ex a n) (prod_Power_0_J a n) x0 hI (fun (i,o)=>.lit<|.both (.lit<|.both (.lits 6<|.call (N (o*o))<|.yes<|.lits 2<|.both (.lit<|.call (N ((o*o)*a))<|.lit<|.yes<|.fin2 ⟨[0,1,5,6],0,[]⟩) (.lit<|.yes<|.fin2 ⟨[0,1,5,6],0,[]⟩)) (.lit<|.yes<|.lit<|.yes<|.lits 3<|.both (.lit<|.call (N (o*o))<|.yes<|.lits 2<|.both (.lit<|.call (N ((o*o)*a))<|.lit<|.yes<|.fin2 ⟨[0,1,5,6],0,[]⟩) (.lit<|.yes<|.fin2 ⟨[0,1,5,6],0,[]⟩)) (.yes<|.lits 2<|.both (.lit<|.call (N (o*a))<|.lit<|.yes<|.fin2 ⟨[0,1,5,6],0,[]⟩) (.lit<|.yes<|.fin2 ⟨[0,1,5,6],0,[]⟩)))) (.fin2 ⟨[5],0,[]⟩)) (by
  rintro ⟨i,o⟩ hI
  have hI:-1≤i∧i≤6∧o=a^(n.toNat / 2^(i+1).toNat):=hI
  obtain⟨h1,h2,h3⟩:=hI
  have lo:L o≤64*L a+1:=by rw[h3];exact L_pow64 (Nat.le_trans (Nat.div_le_self _ _) oO)
  have e0:=L_len o
  exact cast_ob (aI True.intro (aI (fun (h101:(iGe i 0)=true)=>have _gh101:=iGe_t h101;aI (fun (h102:(iNe ((lim o).length:Int) 1)=true)=>have _gh102:=iNe_t h102;aI (prod_Square o oO) (have f106:=L_mul o o;aI (iLe_mk oO:(iLe 0 i)=true) (aI (fun (h103:(iEq (wAnd .i64 (Int.fdiv n (2^(min i.toNat (IntKind.bits .i64)))) (1:Int)) 1)=true)=>have _gh103:=iEq_t h103;aI (prod_Mul (o*o) a oO oO) (have f104:=L_mul (o*o) a;aI (fits_i64 oO:(fits .i64 (i-1))=true) (aI tT ((nx_next ((i-1),((o*o)*a)) (show -1≤(i-1)∧(i-1)≤6∧((o*o)*a)=a^(n.toNat / 2^((i-1)+1).toNat) from ⟨by omega,by omega,pw_y h3 c1 oO (by assumption)⟩) (show (i-1+1).toNat<(i+1).toNat by omega):prod_Power_0_N a n (i,o) .normal (prod_Power_0_mk a n ((i-1),((o*o)*a)))))))) (fun (h105:(iEq (wAnd .i64 (Int.fdiv n (2^(min i.toNat (IntKind.bits .i64)))) (1:Int)) 1)=false)=>have _gh105:=iEq_f h105;aI (fits_i64 oO:(fits .i64 (i-1))=true) (aI tT ((nx_next ((i-1),(o*o)) (show -1≤(i-1)∧(i-1)≤6∧(o*o)=a^(n.toNat / 2^((i-1)+1).toNat) from ⟨by omega,by omega,pw_n h3 c1 oO (by assumption)⟩) (show (i-1+1).toNat<(i+1).toNat by omega):prod_Power_0_N a n (i,o) .normal (prod_Power_0_mk a n ((i-1),(o*o)))))))))) (fun (h107:(iNe ((lim o).length:Int) 1)=false)=>have _gh107:=iNe_f h107;aI (inB_mk oO:(inB (0:Int) ((lim o).length))=true) (aI (ld_L oO:(Nat.blt 0 (lim o).length && isIntK .u32 (nth (lim o) 0 .unk))=true) (aI (fun (h108:(iNe (gi (limbs o) 0) 1)=true)=>have _gh108:=iNe_t h108;aI (prod_Square o oO) (have f112:=L_mul o o;aI (iLe_mk oO:(iLe 0 i)=true) (aI (fun (h109:(iEq (wAnd .i64 (Int.fdiv n (2^(min i.toNat (IntKind.bits .i64)))) (1:Int)) 1)=true)=>have _gh109:=iEq_t h109;aI (prod_Mul (o*o) a oO oO) (have f110:=L_mul (o*o) a;aI (fits_i64 oO:(fits .i64 (i-1))=true) (aI tT ((nx_next ((i-1),((o*o)*a)) (show -1≤(i-1)∧(i-1)≤6∧((o*o)*a)=a^(n.toNat / 2^((i-1)+1).toNat) from ⟨by omega,by omega,pw_y h3 c1 oO (by assumption)⟩) (show (i-1+1).toNat<(i+1).toNat by omega):prod_Power_0_N a n (i,o) .normal (prod_Power_0_mk a n ((i-1),((o*o)*a)))))))) (fun (h111:(iEq (wAnd .i64 (Int.fdiv n (2^(min i.toNat (IntKind.bits .i64)))) (1:Int)) 1)=false)=>have _gh111:=iEq_f h111;aI (fits_i64 oO:(fits .i64 (i-1))=true) (aI tT ((nx_next ((i-1),(o*o)) (show -1≤(i-1)∧(i-1)≤6∧(o*o)=a^(n.toNat / 2^((i-1)+1).toNat) from ⟨by omega,by omega,pw_n h3 c1 oO (by assumption)⟩) (show (i-1+1).toNat<(i+1).toNat by omega):prod_Power_0_N a n (i,o) .normal (prod_Power_0_mk a n ((i-1),(o*o)))))))))) (fun (h113:(iNe (gi (limbs o) 0) 1)=false)=>have _gh113:=iNe_f h113;aI (iLe_mk oO:(iLe 0 i)=true) (aI (fun (h114:(iEq (wAnd .i64 (Int.fdiv n (2^(min i.toNat (IntKind.bits .i64)))) (1:Int)) 1)=true)=>have _gh114:=iEq_t h114;aI (prod_Mul o a oO oO) (have f115:=L_mul o a;aI (fits_i64 oO:(fits .i64 (i-1))=true) (aI tT ((nx_next ((i-1),(o*a)) (show -1≤(i-1)∧(i-1)≤6∧(o*a)=a^(n.toNat / 2^((i-1)+1).toNat) from ⟨by omega,by omega,(sq_one' oO (by assumption)).trans (pw_y h3 c1 oO (by assumption))⟩) (show (i-1+1).toNat<(i+1).toNat by omega):prod_Power_0_N a n (i,o) .normal (prod_Power_0_mk a n ((i-1),(o*a)))))))) (fun (h116:(iEq (wAnd .i64 (Int.fdiv n (2^(min i.toNat (IntKind.bits .i64)))) (1:Int)) 1)=false)=>have _gh116:=iEq_f h116;aI (fits_i64 oO:(fits .i64 (i-1))=true) (aI tT ((nx_next ((i-1),o) (show -1≤(i-1)∧(i-1)≤6∧o=a^(n.toNat / 2^((i-1)+1).toNat) from ⟨by omega,by omega,(sq_one oO (by assumption)).trans (pw_n h3 c1 oO (by assumption))⟩) (show (i-1+1).toNat<(i+1).toNat by omega):prod_Power_0_N a n (i,o) .normal (prod_Power_0_mk a n ((i-1),o)))))))))))) (fun (h117:(iGe i 0)=false)=>have _gh117:=iGe_f h117;aI tT ((nx_exit 0 ((prod_Power_0_ex a n o).2) o (show o=a^(n).toNat from (by rw[h3,show (i+1).toNat=0 by omega,Nat.pow_zero,Nat.div_one])) rfl:prod_Power_0_N a n (i,o) (.exit 0) ((prod_Power_0_ex a n o).2)))))) (by kernel_rfl))
theorem prod_Power (a:Nat)(n:Int)(c0:L a≤4096)(c1:(0:Int)≤n∧n≤64):Impl Tryz.prog Amb 235 [(N a),(.int .i64 n)] (N (a^(n).toNat)):=by
 have en:iMin (iMax n (0:Int)) (64:Int)=n:=by unfold iMin iMax;split<;>split<;>omega
 exact impl_ob hP hAmb Tryz.func235 (by kernel_rfl) (.lits 3<|.call (N 1)<|.loop ⟨[0,1,5,6],0,[]⟩ ((prod_Power_0_mk a (iMin (iMax n (0:Int)) (64:Int)) ((6:Int),1))) (Nat) (prod_Power_0_ex a (iMin (iMax n (0:Int)) (64:Int))) (prod_Power_0_J a (iMin (iMax n (0:Int)) (64:Int))) (fun y=>.lit<|.ret))
  (cast_ob (aI True.intro (aI (nat_Of 1 oA) (aI tT (aI (rfl:(prod_Power_0_mk a (iMin (iMax n (0:Int)) (64:Int)) ((6:Int),1))=(prod_Power_0_mk a (iMin (iMax n (0:Int)) (64:Int)) ((6:Int),1))) (aI (prod_Power_0 a (iMin (iMax n (0:Int)) (64:Int)) c0 (by rw[en];exact c1) ((6:Int),1) (show -1≤(6:Int)∧(6:Int)≤6∧1=a^((iMin (iMax n (0:Int)) (64:Int)).toNat / 2^((6:Int)+1).toNat) from ⟨by omega,by omega,(by rw[show ((6:Int)+1).toNat=7 from rfl,Nat.div_eq_of_lt (show Int.toNat _<2^7 by omega)];rfl)⟩)) (fun y (hJ:prod_Power_0_J a (iMin (iMax n (0:Int)) (64:Int)) y)=>have hJ:y=a^((iMin (iMax n (0:Int)) (64:Int))).toNat:=hJ;(vsub_of (congrArg N (by rw[hJ,en])):vsub (N y) (N (a^(n).toNat))))))))) (by kernel_rfl))
theorem prod_Power1 (a:Nat)(c0:L a≤4096):Impl Tryz.prog Amb 235 [(N a),.int .i64 1] (N a):=by
 have h:=prod_Power a 1 c0 oO
 rw[show (1:Int).toNat=1 from rfl,Nat.pow_one] at h
 exact h
def root_newton_0_mk (a:Nat)(x:Nat):St:=⟨mkS 51 [(0,(.val (N a))),(1,(.val (.int .i64 2))),(5,(.val (N x)))],[]⟩
def root_newton_0_I (a:Nat)(x:Nat):Prop:=0<x∧a<(x+1)*(x+1)∧L x≤4096
def root_newton_0_mu (_:Nat)(x:Nat):Nat:=x
def root_newton_0_ex (_:Nat)(y:Nat):Ex × St:=(.ret,⟨mkS 51 [(4,(.val (N y)))],[]⟩)
def root_newton_0_J (a:Nat)(y:Nat):Prop:=y=rt a
abbrev root_newton_0_N (a:Nat):=NX (root_newton_0_mk a) (root_newton_0_I a) (root_newton_0_mu a) (root_newton_0_ex a) (root_newton_0_J a)
theorem root_newton_0 (a:Nat)(c0:L a≤4096)(c1:0<a)(x0:Nat)(hI:root_newton_0_I a x0):LoopOk Tryz.prog Amb (loopN Tryz.f231 0) (root_newton_0_mk a x0) (fun e st_=>∃ y,root_newton_0_J a y∧root_newton_0_ex a y=(e,st_)) :=
 loop_ob hP hAmb ⟨[0,1,5],0,[]⟩ (root_newton_0_mk a) (root_newton_0_I a) (root_newton_0_mu a) (root_newton_0_ex a) (root_newton_0_J a) x0 hI (fun z=>.lit<|.yes<|.lit<|.call (N z)<|.lit<|.call (.tup [(N (a / z)),(N (a%z)),(.bool true)])<|.lit<|.yes<|.lit<|.yes<|.lit<|.call (N z)<|.lit<|.call (N (z+(a / z)))<|.lit<|.yes<|.lit<|.call (.tup [(N ((z+(a / z)) / 2)),(.int .u32 (((z+(a / z))%2:Nat):Int)),(.bool true)])<|.lit<|.call (.int .i64 (cmpN ((z+(a / z)) / 2) z))<|.lit<|.both (.fin2 ⟨[4],0,[]⟩) (.fin2 ⟨[0,1,5],0,[]⟩)) (by
  rintro z hI
  have hI:0<z∧a<(z+1)*(z+1)∧L z≤4096:=hI
  obtain⟨h1,h2,h3⟩:=hI
  have l0:=L_div a z
  have l1:=L_add z (a / z)
  have l2:=L_div (z+a / z) 2
  have l3:=fun (q:(z+a / z) / 2<z)=>L_mono (Nat.le_of_lt q)
  have r0:=cmpN_range ((z+a / z) / 2) z
  exact cast_ob (aI True.intro (aI tT (aI (prod_Power1 z oO) (aI (quot_DivMod a z oO oO oO) (have f107:=L_mod a z;have f106:=L_div a z;aI tT (aI tT (aI (prod_Small1 z oO) (aI (nat_Add z (a / z) oO oO) (have f105:=L_add z (a / z);aI tT (aI (quot_SmallI (z+(a / z)) 2 oO oO) (have f104:=L_div (z+(a / z)) 2;aI (nat_Cmp ((z+(a / z)) / 2) z oO oO) (have f103:=cmpN_range ((z+(a / z)) / 2) z;aI (fun (h101:(iGe (cmpN ((z+(a / z)) / 2) z) 0)=true)=>have _gh101:=iGe_t h101;aI tT ((nx_ret ((root_newton_0_ex a z).2) z (show z=rt a from nw_end (y:=(z+a / z) / 2) h1 h2 rfl oO) rfl:root_newton_0_N a z .ret ((root_newton_0_ex a z).2)))) (fun (h102:(iGe (cmpN ((z+(a / z)) / 2) z) 0)=false)=>have _gh102:=iGe_f h102;aI tT ((nx_next ((z+(a / z)) / 2) (show 0<((z+(a / z)) / 2)∧a<(((z+(a / z)) / 2)+1)*(((z+(a / z)) / 2)+1)∧L ((z+(a / z)) / 2)≤4096 from ⟨nw_pos c1 h1 rfl,nw_up h1 rfl,by omega⟩) (show (z+a / z) / 2<z by omega):root_newton_0_N a z .normal (root_newton_0_mk a ((z+(a / z)) / 2))))))))))))))))) (by kernel_rfl))
theorem root_newton (a:Nat)(c0:L a≤4096)(c1:0<a):Impl Tryz.prog Amb 231 [(N a),(.int .i64 2)] (N (rt a)):=by
 have l0:=L_le (n:=1) (k:=1) (by decide)
 have b0:=nbits_L a
 have t0:Int.tdiv (((nbits a:Int)+2)-1) (2:Int)=((nbits a:Int)+2-1) / 2:=Int.tdiv_eq_ediv_of_nonneg oO
 have l1:=L_shl 1 (Int.tdiv (((nbits a:Int)+2)-1) (2:Int)).toNat
 exact impl_ob hP hAmb Tryz.func231 (by kernel_rfl) (.lit<|.call (N 1)<|.lit<|.call (.int .i64 (nbits a:Int))<|.lit<|.yes<|.lit<|.yes<|.lit<|.yes<|.lit<|.call (N (1*2^((Int.tdiv (((nbits a:Int)+2)-1) (2:Int))).toNat))<|.loop ⟨[0,1,5],0,[]⟩ ((root_newton_0_mk a (1*2^((Int.tdiv (((nbits a:Int)+2)-1) (2:Int))).toNat))) (Nat) (root_newton_0_ex a) (root_newton_0_J a) (fun y=>.lit<|.ret))
  (cast_ob (aI True.intro (aI (nat_Of 1 oA) (aI (nat_Bits a oA) (have f2:=nbits_L a;aI (fits_i64 oA:(fits .i64 ((nbits a:Int)+2))=true) (aI (fits_i64 oA:(fits .i64 (((nbits a:Int)+2)-1))=true) (aI (fits_i64 oA:(fits .i64 (Int.tdiv (((nbits a:Int)+2)-1) (2:Int)))=true) (aI (nat_Shl 1 (Int.tdiv (((nbits a:Int)+2)-1) (2:Int)) oA oA) (have f1:=L_shl 1 ((Int.tdiv (((nbits a:Int)+2)-1) (2:Int))).toNat;aI tT (aI (rfl:(root_newton_0_mk a (1*2^((Int.tdiv (((nbits a:Int)+2)-1) (2:Int))).toNat))=(root_newton_0_mk a (1*2^((Int.tdiv (((nbits a:Int)+2)-1) (2:Int))).toNat))) (aI (root_newton_0 a c0 c1 (1*2^((Int.tdiv (((nbits a:Int)+2)-1) (2:Int))).toNat) (show 0<(1*2^((Int.tdiv (((nbits a:Int)+2)-1) (2:Int))).toNat)∧a<((1*2^((Int.tdiv (((nbits a:Int)+2)-1) (2:Int))).toNat)+1)*((1*2^((Int.tdiv (((nbits a:Int)+2)-1) (2:Int))).toNat)+1)∧L ((1*2^((Int.tdiv (((nbits a:Int)+2)-1) (2:Int))).toNat))≤4096 from ⟨by rw[Nat.one_mul];exact Nat.pow_pos oO,nw_init oO,by omega⟩)) (fun y (hJ:root_newton_0_J a y)=>have hJ:y=rt a:=hJ;(vsub_of (congrArg N hJ):vsub (N y) (N (rt a)))))))))))))) (by kernel_rfl))
theorem root_Sqrt (a:Nat)(c0:L a≤4096):Impl Tryz.prog Amb 224 [(N a)] (.tup [(N (rt a)),(N (a-rt a*rt a))]):=by
 have e0:=L_len a
 have e1:=L_pos_iff a
 have s0:=(rt_spec a).1
 exact impl_ob hP hAmb Tryz.func224 (by kernel_rfl) (.lit<|.call (N a)<|.lit<|.both (.lit<|.ret) (.lit<|.call (N (rt a))<|.lit<|.call (N ((rt a)*(rt a)))<|.lit<|.call (.tup [(N (a-((rt a)*(rt a)))),(.bool (decide (((rt a)*(rt a))≤a)))])<|.lit<|.ret))
  (cast_ob (aI True.intro (aI (nat_TrimN a oA) (aI (fun (h1:(iEq ((lim a).length:Int) 0)=true)=>have _gh1:=iEq_t h1;(rt_nil oO:vsub (.tup [.nil,.nil]) (.tup [(N (rt a)),(N (a-rt a*rt a))]))) (fun (h2:(iEq ((lim a).length:Int) 0)=false)=>have _gh2:=iEq_f h2;aI (root_newton a oA oA) (have f5:=rt_L a;aI (prod_Square (rt a) oA) (have f4:=L_mul (rt a) (rt a);aI (nat_Sub2 a ((rt a)*(rt a)) oA oA) (have f3:=L_sub a ((rt a)*(rt a));(vsub_of (by first | rfl | simp_all):vsub (.tup [(N (rt a)),(N (a-((rt a)*(rt a))))]) (.tup [(N (rt a)),(N (a-rt a*rt a))]))))))))) (by kernel_rfl))
end Go.Proofs.YtkkbddkpggjgpaaGreatDoor

namespace Go.Proofs.YtkkbddkpggjgpaaGreatDoor
def pe:Nat→Rat
 | 0=>0
 | m+1=>(3 / 5)*pe m+(m:Rat)*(3 / 5)^(m-1)
theorem pw_abs {u:Rat}(h1:-(3 / 5)≤u)(h2:u≤3 / 5):∀ m:Nat,-((3 / 5)^m:Rat)≤u^m∧u^m≤(3 / 5)^m
 | 0=>by rw[Rat.pow_zero,Rat.pow_zero];constructor<;>grind
 | m+1=>by
  have i:=pw_abs h1 h2 m
  rw[Rat.pow_succ,Rat.pow_succ]
  exact mul_bd i.1 i.2 h1 h2
theorem nn_cast (m:Nat):(0:Rat)≤(m:Rat):=by exact_mod_cast Nat.zero_le m
theorem tan_pow {u v:Rat}(u1:-(3 / 5)≤u)(u2:u≤3 / 5)(v1:-(3 / 5)≤v)(v2:v≤3 / 5):∀ m:Nat,
  -(pe m*((v-u)*(v-u)))≤v^m-u^m-(m:Rat)*u^(m-1)*(v-u)∧v^m-u^m-(m:Rat)*u^(m-1)*(v-u)≤pe m*((v-u)*(v-u))
 | 0=>by
  have e:((0:Nat):Rat)=0:=rfl
  have p:pe 0=0:=rfl
  rw[Rat.pow_zero,Rat.pow_zero,e,p];constructor<;>grind
 | m+1=>by
  have i:=tan_pow u1 u2 v1 v2 m
  have dd:=sq_nn (v-u)
  have e1:((m+1:Nat):Rat)=(m:Rat)+1:=by exact_mod_cast rfl
  have um:(m:Rat)*u^m=(m:Rat)*(u^(m-1)*u):=by
   rcases m with _ | m
   ·have e:((0:Nat):Rat)=0:=rfl
    rw[e,Rat.zero_mul,Rat.zero_mul]
   ·rw[Nat.add_sub_cancel,← Rat.pow_succ]
  have p:pe (m+1)=(3 / 5)*pe m+(m:Rat)*(3 / 5)^(m-1):=rfl
  have key:v^(m+1)-u^(m+1)-((m+1:Nat):Rat)*u^(m+1-1)*(v-u)=v*(v^m-u^m-(m:Rat)*u^(m-1)*(v-u))+(m:Rat)*u^(m-1)*((v-u)*(v-u)):=by
   rw[Rat.pow_succ,Rat.pow_succ,Nat.add_sub_cancel,e1]
   have:((m:Rat)+1)*u^m*(v-u)=(m:Rat)*u^m*(v-u)+u^m*(v-u):=by grind
   rw[this,um]
   grind
  rw[key,p]
  have a:=mul_bd v1 v2 i.1 i.2
  have b:=pw_abs u1 u2 (m-1)
  have c:=mul_bd (p:=(m:Rat)*((v-u)*(v-u))) (P:=(m:Rat)*((v-u)*(v-u))) (by have:=Rat.mul_nonneg (nn_cast m) dd;grind) Rat.le_refl b.1 b.2
  have f1:((3 / 5)*pe m+(m:Rat)*(3 / 5)^(m-1))*((v-u)*(v-u))=(3 / 5)*(pe m*((v-u)*(v-u)))+(m:Rat)*((v-u)*(v-u))*(3 / 5)^(m-1):=by grind
  have f2:(m:Rat)*u^(m-1)*((v-u)*(v-u))=(m:Rat)*((v-u)*(v-u))*u^(m-1):=by grind
  rw[f1,f2]
  constructor<;>grind
theorem pe_bd:∀ m:Nat,(m:Rat)*(3 / 5)^(m-1)≤5*(4 / 5)^m∧pe m≤25*(4 / 5)^m∧(3 / 5:Rat)^m≤(4 / 5)^m∧(0:Rat)<(3 / 5)^m
 | 0=>by
  have e:((0:Nat):Rat)=0:=rfl
  have p:pe 0=0:=rfl
  rw[Rat.pow_zero,Rat.pow_zero,e,p];refine⟨?_,?_,?_,?_⟩<;>grind
 | m+1=>by
  obtain⟨a,b,c,d⟩:=pe_bd m
  have e1:((m+1:Nat):Rat)=(m:Rat)+1:=by exact_mod_cast rfl
  have um:(m:Rat)*(3 / 5:Rat)^m=(m:Rat)*((3 / 5)^(m-1)*(3 / 5)):=by
   rcases m with _ | m
   ·have e:((0:Nat):Rat)=0:=rfl
    rw[e,Rat.zero_mul,Rat.zero_mul]
   ·rw[Nat.add_sub_cancel,← Rat.pow_succ]
  have p:pe (m+1)=(3 / 5)*pe m+(m:Rat)*(3 / 5)^(m-1):=rfl
  rw[Rat.pow_succ,Rat.pow_succ,Nat.add_sub_cancel,e1,p]
  refine⟨?_,?_,?_,?_⟩
  ·rw[Rat.add_mul,um];grind
  ·grind
  ·grind
  ·grind
theorem two_pow_sq (x:Rat)(i:Nat):x^(2*i+1)=(x*x)^i*x:=by
 induction i with
 | zero=>rw[Rat.pow_zero];show x^1=_;rw[Rat.pow_succ,Rat.pow_zero]
 | succ i ih =>
  rw[show 2*(i+1)+1=2*i+1+1+1 by omega,Rat.pow_succ,Rat.pow_succ,ih,Rat.pow_succ];grind
theorem two_pow_ev (x:Rat)(i:Nat):x^(2*i)=(x*x)^i:=by
 induction i with
 | zero=>rw[Rat.pow_zero];exact (Rat.pow_zero _).symm
 | succ i ih =>
  rw[show 2*(i+1)=2*i+1+1 by omega,Rat.pow_succ,Rat.pow_succ,ih,Rat.pow_succ];grind
def GS:Nat→Rat:=Sm (fun i=>25*(4 / 5)^(2*i+1))
theorem GS_le (K:Nat):GS K≤56:=by
 have key:∀ K,GS K+56*(4 / 5*(4 / 5):Rat)^K≤56∧(0:Rat)<(4 / 5*(4 / 5))^K:=by
  intro K
  induction K with
  | zero =>
   have e:GS 0=0:=rfl
   rw[e,Rat.pow_zero];constructor<;>grind
  | succ K ih =>
   have e:GS (K+1)=GS K+25*(4 / 5)^(2*K+1):=rfl
   rw[e,two_pow_sq,Rat.pow_succ]
   constructor<;>grind
 have:=key K
 grind
end Go.Proofs.YtkkbddkpggjgpaaGreatDoor

namespace Go.Proofs.YtkkbddkpggjgpaaGreatDoor
theorem pw_inv:∀ K:Nat,((K:Rat)+1)*(9 / 25)^K≤1∧(0:Rat)<(9 / 25)^K∧(9 / 25:Rat)^K≤1
 | 0=>by
  have e:((0:Nat):Rat)=0:=rfl
  rw[e,Rat.pow_zero];refine⟨?_,?_,?_⟩<;>grind
 | K+1=>by
  obtain⟨a,b,c⟩:=pw_inv K
  have e1:((K+1:Nat):Rat)=(K:Rat)+1:=by exact_mod_cast rfl
  rw[e1,Rat.pow_succ]
  refine⟨?_,?_,?_⟩<;>grind
theorem pw_small {e:Rat}(he:0<e):∃ N,∀ K:Nat,N≤K→(9 / 25:Rat)^K≤e:=by
 obtain⟨n,hn⟩:=rat_nat e⁻¹
 have i0:=Rat.inv_pos.2 he
 have ie:=inv_one he
 refine⟨n,fun K hK=>?_⟩
 have h:=pw_inv K
 have c:(n:Rat)≤(K:Rat):=by exact_mod_cast hK
 have m:=Rat.mul_le_mul_of_nonneg_right (show e⁻¹≤(K:Rat)+1 by grind) (Rat.le_of_lt h.2.1)
 have m2:=Rat.mul_le_mul_of_nonneg_left (show e⁻¹*(9 / 25)^K≤1 by grind) (Rat.le_of_lt he)
 have:e*(e⁻¹*(9 / 25)^K)=e⁻¹*e*(9 / 25)^K:=by grind
 rw[this,ie] at m2
 grind
end Go.Proofs.YtkkbddkpggjgpaaGreatDoor

namespace Go.Proofs.YtkkbddkpggjgpaaGreatDoor
def AL (z:Rat):Nat→Rat
 | 0=>0
 | k+1=>AL z k+sg k*(z^(2*k+1) / (odn k:Rat))
theorem sg_one (i:Nat):-1≤sg i∧sg i≤1:=by unfold sg;split<;>constructor<;>decide
theorem AL_Sm (z:Rat):∀ K,AL z K=Sm (fun i=>sg i*(z^(2*i+1) / (odn i:Rat))) K
 | 0=>rfl
 | K+1=>by
  have i:=AL_Sm z K
  show AL z K+sg K*(z^(2*K+1) / (odn K:Rat))=Sm _ K+_
  rw[i]
def DA (u:Rat)(K:Nat):Rat:=Sm (fun i=>sg i*u^(2*i)) K
theorem DA_eq (u:Rat):∀ K,DA u K*(1+u*u)=1-sg K*(u*u)^K
 | 0=>by
  have s0:sg 0=1:=rfl
  have d0:DA u 0=0:=rfl
  rw[Rat.pow_zero,s0,d0];grind
 | K+1=>by
  have i:=DA_eq u K
  have e:DA u (K+1)=DA u K+sg K*u^(2*K):=rfl
  rw[e,two_pow_ev,Rat.add_mul,i,Rat.pow_succ,sg_succ];grind
theorem sg_bd {i:Nat}{x y:Rat}(h1:-y≤x)(h2:x≤y):-y≤sg i*x∧sg i*x≤y:=by
 have m:=mul_bd (sg_one i).1 (sg_one i).2 h1 h2
 rw[Rat.one_mul] at m
 exact m
theorem AL_tan {u v:Rat}(u1:-(3 / 5)≤u)(u2:u≤3 / 5)(v1:-(3 / 5)≤v)(v2:v≤3 / 5)(K:Nat) :
  -(56*((v-u)*(v-u)))≤AL v K-AL u K-DA u K*(v-u)∧AL v K-AL u K-DA u K*(v-u)≤56*((v-u)*(v-u)):=by
 have dd:=sq_nn (v-u)
 have e:AL v K-AL u K-DA u K*(v-u)=Sm (fun i=>sg i*(v^(2*i+1) / (odn i:Rat)-u^(2*i+1) / (odn i:Rat)-u^(2*i)*(v-u))) K:=by
  have a:=Sm_sub (fun i=>sg i*(v^(2*i+1) / (odn i:Rat))-sg i*(u^(2*i+1) / (odn i:Rat))) (fun i=>sg i*u^(2*i)*(v-u)) K
  have b:=Sm_sub (fun i=>sg i*(v^(2*i+1) / (odn i:Rat))) (fun i=>sg i*(u^(2*i+1) / (odn i:Rat))) K
  have c:=Sm_mul (fun i=>sg i*u^(2*i)) (v-u) K
  rw[Sm_congr (g:=fun i=>sg i*(v^(2*i+1) / (odn i:Rat))-sg i*(u^(2*i+1) / (odn i:Rat))-sg i*u^(2*i)*(v-u)) fun i _=>by grind,a,b,← c,AL_Sm,AL_Sm];rfl
 have bd:=Sm_bd (n:=K) (f:=fun i=>sg i*(v^(2*i+1) / (odn i:Rat)-u^(2*i+1) / (odn i:Rat)-u^(2*i)*(v-u))) (g:=fun i=>25*(4 / 5)^(2*i+1)*((v-u)*(v-u))) (fun i _=>by
  have t:=tan_pow u1 u2 v1 v2 (2*i+1)
  have p:=(pe_bd (2*i+1)).2.1
  have n0:(0:Rat)<(odn i:Rat):=Rat.intCast_pos.2 (odn_pos i)
  have n1:(1:Rat)≤(odn i:Rat):=Rat.intCast_le_intCast.2 (show (1:Int)≤odn i from odn_pos i)
  have c:((2*i+1:Nat):Rat)=(odn i:Rat):=by unfold odn;exact_mod_cast rfl
  have q:=Rat.mul_le_mul_of_nonneg_right p dd
  rw[c,Nat.add_sub_cancel] at t
  have i0:=Rat.inv_pos.2 n0
  have ie:=inv_one n0
  have i1:(odn i:Rat)⁻¹≤1:=by
   have:=Rat.mul_le_mul_of_nonneg_right n1 (Rat.le_of_lt i0)
   rw[Rat.one_mul,Rat.mul_comm,ie] at this
   exact this
  have f:v^(2*i+1) / (odn i:Rat)-u^(2*i+1) / (odn i:Rat)-u^(2*i)*(v-u)=(v^(2*i+1)-u^(2*i+1)-(odn i:Rat)*u^(2*i)*(v-u))*(odn i:Rat)⁻¹:=by
   rw[Rat.div_def,Rat.div_def]
   generalize (odn i:Rat)⁻¹=w at *
   generalize (odn i:Rat)=o at *
   generalize u^(2*i)=x at *
   have:o*x*(v-u)*w=x*(v-u)*(w*o):=by grind
   have:(v^(2*i+1)-u^(2*i+1)-o*x*(v-u))*w=v^(2*i+1)*w-u^(2*i+1)*w-x*(v-u)*(w*o):=by grind
   rw[this,ie,Rat.mul_one]
  show _≤sg i*(v^(2*i+1) / (odn i:Rat)-u^(2*i+1) / (odn i:Rat)-u^(2*i)*(v-u))∧sg i*(v^(2*i+1) / (odn i:Rat)-u^(2*i+1) / (odn i:Rat)-u^(2*i)*(v-u))≤_
  refine sg_bd ?_ ?_
  all_goals
   rw[f]
   generalize v^(2*i+1)-u^(2*i+1)-(odn i:Rat)*u^(2*i)*(v-u)=x at *
   generalize 25*(4 / 5)^(2*i+1)*((v-u)*(v-u))=y at *
   have h1:-y≤x:=by grind
   have h2:x≤y:=by grind
   have m:=mul_bd (p:=(odn i:Rat)⁻¹) (P:=1) (by grind) i1 h1 h2
   rw[Rat.mul_comm x]
   grind)
 rw[← e] at bd
 have g:=GS_le K
 have gm:=Rat.mul_le_mul_of_nonneg_right g dd
 have ge:GS K*((v-u)*(v-u))=Sm (fun i=>25*(4 / 5)^(2*i+1)*((v-u)*(v-u))) K:=Sm_mul _ _ K
 rw[← ge] at bd
 constructor<;>grind
theorem CS_near {x a:Rat}(a0:0≤a)(a1:a≤1)(h1:-a≤x)(h2:x≤a){K:Nat}(hK:3≤K):(-(a*a)≤CS x K-1∧CS x K-1≤a*a)∧(-(a*a)≤SN x K-x∧SN x K-x≤a*a):=by
 have t:=CS_tail (x:=x) (a:=a) a0 h1 h2 (n:=2) (Rat.le_trans (show 2*a≤3 by grind) (of_decide_eq_true (by kernel_rfl))) hK
 have e1:=tE_mul x 0
 have e2:=tE_mul x 1
 have f1:=tE_mul a 0
 have f2:=tE_mul a 1
 have z0:tE x 0=1:=rfl
 have y0:tE a 0=1:=rfl
 have c0:(nx 0:Rat)=1:=rfl
 have c1:(nx 1:Rat)=2:=rfl
 have s:CS x (2+1)=0+1*tE x 0+-0*tE x 1+-1*tE x 2:=rfl
 have s2:SN x (2+1)=0+0*tE x 0+1*tE x 1+-0*tE x 2:=rfl
 rw[s,s2] at t
 rw[z0,c0] at e1
 rw[y0,c0] at f1
 rw[c1] at e2 f2
 rw[z0] at t
 have t1:tE x 1=x:=by grind
 have u1:tE a 1=a:=by grind
 rw[t1] at e2 t
 rw[u1] at f2
 have xx:=mul_bd h1 h2 h1 h2
 have x0:=sq_nn x
 refine⟨⟨?_,?_⟩,⟨?_,?_⟩⟩<;>grind
theorem at_core {S C S' C' c s t h D p e r1 r2 a θ η δ:Rat}(ht0:0≤t)(ht:t+h≤1 / 2)(h0:0≤h)(ha:h≤a)(a1:400*a≤1)(hD:D*(1+t*t)=1-p)(p1:-θ≤p)(p2:p≤θ)(θ1:8*θ≤1)
  (e1:-(56*(a*a))≤e) (e2:e≤56*(a*a)) (hd:δ=D*h+e) (hs:s=δ+r1) (hc:c=1+r2) (r11:-(9*(a*a))≤r1) (r12:r1≤9*(a*a)) (r21:-(9*(a*a))≤r2) (r22:r2≤9*(a*a))
  (n1:-η≤S'-(C*s+S*c)) (n2:S'-(C*s+S*c)≤η) (n3:-η≤C'-(C*c-S*s)) (n4:C'-(C*c-S*s)≤η) (C1:-2≤C) (C2:C≤2) {G:Rat} (hG1:-G≤S-t*C) (hG2:S-t*C≤G) :
  -(G*(1+a)+(200*(a*a)+2*(θ*a)+2*η))≤S'-(t+h)*C'∧S'-(t+h)*C'≤G*(1+a)+(200*(a*a)+2*(θ*a)+2*η):=by
 have a0:0≤a:=by grind
 have aa0:=Rat.mul_nonneg a0 a0
 have aa:=Rat.mul_le_mul_of_nonneg_left a1 a0
 have tt:=mul_bd (show -(1 / 2)≤t by grind) (show t≤1 / 2 by grind) (show -(1 / 2)≤t by grind) (show t≤1 / 2 by grind)
 have tp:=sq_nn t
 have th0:0≤θ:=by grind
 have D1:-(5 / 4)≤D∧D≤5 / 4:=by
  constructor
  ·refine Decidable.byContradiction fun hn=>?_
   have m:=Rat.mul_le_mul_of_nonneg_right (show D≤-(5 / 4) by grind) (show 0≤1+t*t by grind)
   grind
  ·refine Decidable.byContradiction fun hn=>?_
   have m:=Rat.mul_le_mul_of_nonneg_right (show 5 / 4≤D by grind) (show 0≤1+t*t by grind)
   grind
 have Dh:=mul_bd D1.1 D1.2 (show -a≤h by grind) ha
 have sb:-(2*a)≤s∧s≤2*a:=by constructor<;>grind
 have tb:=mul_bd (show -(1 / 2)≤t+h by grind) ht sb.1 sb.2
 have s13:-(3 / 2*a)≤s∧s≤3 / 2*a:=by constructor<;>grind
 have tb:=mul_bd (show -(1 / 2)≤t+h by grind) ht s13.1 s13.2
 -- the bracket
 have key:S'-(t+h)*C'=(S-t*C)*(c+(t+h)*s)+C*(s*(1+t*t)+s*(t*h)-h*c)+(S'-(C*s+S*c))-(t+h)*(C'-(C*c-S*s)):=by grind
 have b1:s*(1+t*t)=h-p*h+(e+r1)*(1+t*t):=by
  rw[hs,hd]
  have:(D*h+e+r1)*(1+t*t)=D*(1+t*t)*h+(e+r1)*(1+t*t):=by grind
  rw[this,hD];grind
 have b2:=mul_bd p1 p2 (show -a≤h by grind) ha
 have b3:=mul_bd (p:=e+r1) (P:=65*(a*a)) (x:=1+t*t) (a:=5 / 4) (by grind) (by grind) (by grind) (by grind)
 have b4:=mul_bd (p:=t) (P:=1 / 2) (x:=h) (a:=a) (by grind) (by grind) (by grind) ha
 have b5:=mul_bd s13.1 s13.2 b4.1 b4.2
 have b6:=mul_bd (p:=h) (P:=a) (by grind) ha r21 r22
 have b7:a*(9*(a*a))≤a*a:=by
  have:=Rat.mul_le_mul_of_nonneg_right (show 9*a≤1 by grind) aa0
  grind
 have br:-(100*(a*a)+θ*a)≤s*(1+t*t)+s*(t*h)-h*c∧s*(1+t*t)+s*(t*h)-h*c≤100*(a*a)+θ*a:=by
  rw[b1,hc]
  have:h*(1+r2)=h+h*r2:=by grind
  rw[this]
  have q:3 / 2*a*(1 / 2*a)=3 / 4*(a*a):=by grind
  rw[q] at b5
  clear key hD b1 hs hd n1 n2 n3 n4
  generalize p*h=x1 at *
  generalize (e+r1)*(1+t*t)=x2 at *
  generalize s*(t*h)=x3 at *
  generalize h*r2=x4 at *
  generalize a*(9*(a*a))=x5 at *
  generalize θ*a=x6 at *
  generalize a*a=x7 at *
  constructor<;>grind
 have c1:-(1+a)≤c+(t+h)*s∧c+(t+h)*s≤1+a:=by
  have:9*(a*a)≤a*(1 / 4):=by grind
  constructor<;>grind
 have m1:=mul_bd hG1 hG2 c1.1 c1.2
 have m2:=mul_bd C1 C2 br.1 br.2
 have m3:=mul_bd (p:=t+h) (P:=1) (by grind) (by grind) n3 n4
 rw[key]
 clear key b1 b2 b3 b4 b5 b6 b7 br c1 hD hs hd
 generalize (S-t*C)*(c+(t+h)*s)=x1 at *
 generalize C*(s*(1+t*t)+s*(t*h)-h*c)=x2 at *
 generalize (t+h)*(C'-(C*c-S*s))=x3 at *
 generalize S'-(C*s+S*c)=x4 at *
 generalize G*(1+a)=x5 at *
 constructor<;>grind
theorem at_step {t h a η G:Rat}{K0 K:Nat}(ht0:0≤t)(ht:t+h≤1 / 2)(h0:0≤h)(ha:h≤a)(a1:400*a≤1)(hθ:8*(9 / 25:Rat)^K0≤1)(hK:3≤K)
  (n1:-η≤SN (AL (t+h) K0) K-(CS (AL t K0) K*SN (AL (t+h) K0-AL t K0) K+SN (AL t K0) K*CS (AL (t+h) K0-AL t K0) K)) (n2:SN (AL (t+h) K0) K-(CS (AL t K0) K*SN (AL (t+h) K0-AL t K0) K+SN (AL t K0) K*CS (AL (t+h) K0-AL t K0) K)≤η)
  (n3:-η≤CS (AL (t+h) K0) K-(CS (AL t K0) K*CS (AL (t+h) K0-AL t K0) K-SN (AL t K0) K*SN (AL (t+h) K0-AL t K0) K)) (n4:CS (AL (t+h) K0) K-(CS (AL t K0) K*CS (AL (t+h) K0-AL t K0) K-SN (AL t K0) K*SN (AL (t+h) K0-AL t K0) K)≤η)
  (C1:-2≤CS (AL t K0) K) (C2:CS (AL t K0) K≤2) (hG1:-G≤SN (AL t K0) K-t*CS (AL t K0) K) (hG2:SN (AL t K0) K-t*CS (AL t K0) K≤G) :
  -(G*(1+a)+(200*(a*a)+2*((9 / 25)^K0*a)+2*η))≤SN (AL (t+h) K0) K-(t+h)*CS (AL (t+h) K0) K∧SN (AL (t+h) K0) K-(t+h)*CS (AL (t+h) K0) K≤G*(1+a)+(200*(a*a)+2*((9 / 25)^K0*a)+2*η):=by
 have tan:=AL_tan (u:=t) (v:=t+h) (by grind) (by grind) (by grind) (by grind) K0
 have e0:t+h-t=h:=by grind
 rw[e0] at tan
 have a0:0≤a:=by grind
 have aa:=Rat.mul_le_mul_of_nonneg_left a1 a0
 have hb:=mul_bd (show -a≤h by grind) ha (show -a≤h by grind) ha
 have ds:=DA_eq t K0
 have tt:=mul_bd (show -(1 / 2)≤t by grind) (show t≤1 / 2 by grind) (show -(1 / 2)≤t by grind) (show t≤1 / 2 by grind)
 have tp:=sq_nn t
 have pw:(0:Rat)≤(t*t)^K0∧(t*t)^K0≤(9 / 25)^K0:=⟨Rat.pow_nonneg tp,pow_monox tp (by grind) K0⟩
 have sp:=sg_bd (i:=K0) (x:=(t*t)^K0) (y:=(9 / 25)^K0) (by grind) pw.2
 generalize (9 / 25:Rat)^K0=θ at *
 have D1:-(5 / 4)≤DA t K0∧DA t K0≤5 / 4:=by
  constructor
  ·refine Decidable.byContradiction fun hn=>?_
   have m:=Rat.mul_le_mul_of_nonneg_right (show DA t K0≤-(5 / 4) by grind) (show 0≤1+t*t by grind)
   grind
  ·refine Decidable.byContradiction fun hn=>?_
   have m:=Rat.mul_le_mul_of_nonneg_right (show 5 / 4≤DA t K0 by grind) (show 0≤1+t*t by grind)
   grind
 have Dh:=mul_bd D1.1 D1.2 (show -a≤h by grind) ha
 have x1:-(3*a)≤AL (t+h) K0-AL t K0:=by grind
 have x2:AL (t+h) K0-AL t K0≤3*a:=by grind
 have lin:=CS_near (by grind) (by grind) x1 x2 hK
 have q9:3*a*(3*a)=9*(a*a):=by grind
 rw[q9] at lin
 exact at_core (D:=DA t K0) (p:=sg K0*(t*t)^K0) (e:=AL (t+h) K0-AL t K0-DA t K0*h) (r1:=SN (AL (t+h) K0-AL t K0) K-(AL (t+h) K0-AL t K0)) (r2:=CS (AL (t+h) K0-AL t K0) K-1) (δ:=AL (t+h) K0-AL t K0)
  ht0 ht h0 ha a1 ds sp.1 sp.2 hθ (by grind) (by grind) (by grind) (by grind) (by grind) lin.2.1 lin.2.2 lin.1.1 lin.1.2 n1 n2 n3 n4 C1 C2 hG1 hG2
theorem AL_zero:∀ K,AL 0 K=0
 | 0=>rfl
 | K+1=>by
  have i:=AL_zero K
  show AL 0 K+sg K*((0:Rat)^(2*K+1) / (odn K:Rat))=0
  rw[i,Rat.pow_succ,Rat.mul_zero,Rat.div_def,Rat.zero_mul,Rat.mul_zero,Rat.add_zero]
set_option maxHeartbeats 2000000 in
theorem at_tan {z:Rat}(z1:0≤z)(z2:z≤1 / 2){e:Rat}(he:0<e):∃ N,∀ K0,N≤K0→∃ M,∀ K,M≤K→-e≤SN (AL z K0) K-z*CS (AL z K0) K∧SN (AL z K0) K-z*CS (AL z K0) K≤e:=by
 obtain⟨n0,hn0⟩:=rat_nat (1000*e⁻¹)
 have ie0:=Rat.inv_pos.2 he
 have iee:=inv_one he
 obtain⟨n,hn,hn2⟩:∃ n:Nat,200≤n∧n0≤n:=⟨200+n0,by omega,by omega⟩
 have cn:(n0:Rat)≤(n:Rat):=by exact_mod_cast hn2
 have c200:(200:Rat)≤(n:Rat):=by exact_mod_cast hn
 have np:(0:Rat)<(n:Rat):=by grind
 have w0:=Rat.inv_pos.2 np
 have wn:=inv_one np
 obtain⟨a,hw⟩:∃ a,a=(n:Rat)⁻¹*(1 / 2):=⟨_,rfl⟩
 have a0:0<a:=by grind
 have an:2*((n:Rat)*a)=1:=by grind
 have wi:(n:Rat)⁻¹=2*a:=by grind
 rw[wi] at w0 wn
 have a1:400*a≤1:=by
  have:=Rat.mul_le_mul_of_nonneg_right c200 (Rat.le_of_lt a0)
  grind
 have we:2000*a≤e:=by
  have m:=Rat.mul_le_mul_of_nonneg_left (show 1000*e⁻¹≤(n:Rat) by grind) (Rat.le_of_lt w0)
  rw[wn] at m
  have m2:=Rat.mul_le_mul_of_nonneg_right m (Rat.le_of_lt he)
  have:2*a*(1000*e⁻¹)*e=2000*a*(e⁻¹*e):=by grind
  rw[this,iee] at m2
  grind
 obtain⟨N,hN⟩:=pw_small (e:=e*(1 / 8)) (by grind)
 obtain⟨N',hN'⟩:=pw_small (e:=1 / 8) (by grind)
 refine⟨N+N',fun K0 hK0=>?_⟩
 have hθ:=hN K0 (by omega)
 have hθ':=hN' K0 (by omega)
 have aa:=Rat.mul_pos a0 a0
 -- addition formula at all points
 have near:∀ m:Nat,∃ M,∀ K,M≤K→∀ i:Nat,i<m→((-(a*a)≤SN (AL (z*((2*a)*((i:Rat)+1))) K0) K-(CS (AL (z*((2*a)*(i:Rat))) K0) K*SN (AL (z*((2*a)*((i:Rat)+1))) K0-AL (z*((2*a)*(i:Rat))) K0) K+SN (AL (z*((2*a)*(i:Rat))) K0) K*CS (AL (z*((2*a)*((i:Rat)+1))) K0-AL (z*((2*a)*(i:Rat))) K0) K) ∧
   SN (AL (z*((2*a)*((i:Rat)+1))) K0) K-(CS (AL (z*((2*a)*(i:Rat))) K0) K*SN (AL (z*((2*a)*((i:Rat)+1))) K0-AL (z*((2*a)*(i:Rat))) K0) K+SN (AL (z*((2*a)*(i:Rat))) K0) K*CS (AL (z*((2*a)*((i:Rat)+1))) K0-AL (z*((2*a)*(i:Rat))) K0) K)≤a*a) ∧
   (-(a*a)≤CS (AL (z*((2*a)*((i:Rat)+1))) K0) K-(CS (AL (z*((2*a)*(i:Rat))) K0) K*CS (AL (z*((2*a)*((i:Rat)+1))) K0-AL (z*((2*a)*(i:Rat))) K0) K-SN (AL (z*((2*a)*(i:Rat))) K0) K*SN (AL (z*((2*a)*((i:Rat)+1))) K0-AL (z*((2*a)*(i:Rat))) K0) K) ∧
   CS (AL (z*((2*a)*((i:Rat)+1))) K0) K-(CS (AL (z*((2*a)*(i:Rat))) K0) K*CS (AL (z*((2*a)*((i:Rat)+1))) K0-AL (z*((2*a)*(i:Rat))) K0) K-SN (AL (z*((2*a)*(i:Rat))) K0) K*SN (AL (z*((2*a)*((i:Rat)+1))) K0-AL (z*((2*a)*(i:Rat))) K0) K)≤a*a)) ∧
   (-2≤CS (AL (z*((2*a)*(i:Rat))) K0) K∧CS (AL (z*((2*a)*(i:Rat))) K0) K≤2):=fun m=>by
  induction m with
  | zero=>exact⟨0,fun K _ i hi=>absurd hi (by omega)⟩
  | succ m ih =>
   obtain⟨M,h⟩:=ih
   have one:∃ M',∀ K,M'≤K→_:=CS_addN (AL (z*((2*a)*(m:Rat))) K0) (AL (z*((2*a)*((m:Rat)+1))) K0-AL (z*((2*a)*(m:Rat))) K0) aa
   obtain⟨M',h'⟩:=one
   obtain⟨M2,h2⟩:=CS_one (AL (z*((2*a)*(m:Rat))) K0) (e:=1) (by decide)
   refine⟨M+M'+M2,fun K hK i hi=>?_⟩
   by_cases q:i=m
   ·have g:=h' K (by omega)
    have g2:=h2 K (by omega)
    rw[q]
    generalize AL (z*((2*a)*((m:Rat)+1))) K0=y at *
    generalize AL (z*((2*a)*(m:Rat))) K0=x at *
    rw[show x+(y-x)=y by grind] at g
    refine⟨⟨⟨?_,?_⟩,⟨?_,?_⟩⟩,⟨?_,?_⟩⟩<;>grind
   ·exact h K (by omega) i (by omega)
 obtain⟨M,near⟩:=near n
 refine⟨M+3,fun K hK=>?_⟩
 have near:=near K (by omega)
 have E0:∃ E,E=200*(a*a)+2*((9 / 25)^K0*a)+2*(a*a):=⟨_,rfl⟩
 obtain⟨E,hE⟩:=E0
 have th0:=(pw_inv K0).2.1
 have Ep:0≤E:=by
  have:=Rat.mul_nonneg (Rat.le_of_lt th0) (Rat.le_of_lt a0)
  grind
 have main:∀ i:Nat,i≤n→-(2*(i:Rat)*E)≤SN (AL (z*((2*a)*(i:Rat))) K0) K-z*((2*a)*(i:Rat))*CS (AL (z*((2*a)*(i:Rat))) K0) K∧SN (AL (z*((2*a)*(i:Rat))) K0) K-z*((2*a)*(i:Rat))*CS (AL (z*((2*a)*(i:Rat))) K0) K≤2*(i:Rat)*E:=by
  intro i
  induction i with
  | zero =>
   intro _
   have z0:((0:Nat):Rat)=0:=rfl
   have ez:z*((2*a)*(0:Rat))=0:=by grind
   rw[z0,ez,AL_zero,(CS_zero K (by omega)).2]
   constructor<;>grind
  | succ i ih =>
   intro hi
   have ih:=ih (by omega)
   have nr:=near i (by omega)
   have e1:((i+1:Nat):Rat)=(i:Rat)+1:=by exact_mod_cast rfl
   rw[e1]
   have ci:(i:Rat)+1≤(n:Rat):=by rw[← e1];exact_mod_cast hi
   have c0:=nn_cast i
   have m1:=Rat.mul_le_mul_of_nonneg_right ci (Rat.le_of_lt a0)
   have m2:=Rat.mul_nonneg c0 (Rat.le_of_lt a0)
   have i0:0≤z*((2*a)*(i:Rat)):=Rat.mul_nonneg z1 (by grind)
   have hz:=Rat.mul_le_mul_of_nonneg_right z2 (show 0≤2*a by grind)
   have hz0:=Rat.mul_nonneg z1 (show 0≤2*a by grind)
   have hz1:=Rat.mul_le_mul_of_nonneg_right z2 (show 0≤(2*a)*((i:Rat)+1) by grind)
   have et:z*((2*a)*((i:Rat)+1))=z*((2*a)*(i:Rat))+z*(2*a):=by grind
   rw[et] at nr hz1 ⊢
   have st:=at_step (t:=z*((2*a)*(i:Rat))) (h:=z*(2*a)) (a:=a) (η:=a*a) (G:=2*(i:Rat)*E) (K0:=K0) (K:=K) i0 (by grind) hz0 (by grind) a1 (by grind) (by omega) nr.1.1.1 nr.1.1.2 nr.1.2.1 nr.1.2.2 nr.2.1 nr.2.2 ih.1 ih.2
   rw[← hE] at st
   have m3:=Rat.mul_le_mul_of_nonneg_right (show 2*((i:Rat)*a)≤1 by grind) Ep
   have g:2*(i:Rat)*E*(1+a)+E≤2*((i:Rat)+1)*E:=by grind
   constructor<;>grind
 have fin:=main n (Nat.le_refl _)
 have qn:z*((2*a)*(n:Rat))=z:=by
  have:(2*a)*(n:Rat)=1:=by grind
  rw[this,Rat.mul_one]
 rw[qn] at fin
 have nE:2*(n:Rat)*E=202*a+2*(9 / 25)^K0:=by
  rw[hE]
  have:2*(n:Rat)*(200*(a*a)+2*((9 / 25)^K0*a)+2*(a*a))=2*((n:Rat)*a)*(202*a+2*(9 / 25)^K0):=by grind
  rw[this,an,Rat.one_mul]
 rw[nE] at fin
 generalize SN (AL z K0) K-z*CS (AL z K0) K=x at *
 clear main near
 constructor<;>grind
end Go.Proofs.YtkkbddkpggjgpaaGreatDoor

namespace Go.Proofs.YtkkbddkpggjgpaaGreatDoor
def Zr (F:Nat→Nat→Rat):Prop:=∀ e:Rat,0<e→∃ N,∀ K0,N≤K0→∃ M,∀ K,M≤K→-e≤F K0 K∧F K0 K≤e
def Bz (F:Nat→Nat→Rat)(B:Rat):Prop:=∀ K0,∃ M,∀ K,M≤K→-B≤F K0 K∧F K0 K≤B
theorem Zr.add {F G:Nat→Nat→Rat}(h:Zr F)(k:Zr G):Zr fun i j=>F i j+G i j:=fun e he=>by
 obtain⟨N1,h⟩:=h (e / 2) (half_pos he)
 obtain⟨N2,k⟩:=k (e / 2) (half_pos he)
 refine⟨N1+N2,fun K0 hK0=>?_⟩
 obtain⟨M1,h⟩:=h K0 (by omega)
 obtain⟨M2,k⟩:=k K0 (by omega)
 refine⟨M1+M2,fun K hK=>?_⟩
 have a:=h K (by omega)
 have b:=k K (by omega)
 have z:=half_two e
 constructor<;>grind
theorem Zr.mul {F G:Nat→Nat→Rat}{B:Rat}(h:Zr F)(b:Bz G B)(B0:0<B):Zr fun i j=>F i j*G i j:=fun e he=>by
 have i0:=Rat.inv_pos.2 B0
 have ie:=inv_one B0
 obtain⟨N1,h⟩:=h (e*B⁻¹) (Rat.mul_pos he i0)
 refine⟨N1,fun K0 hK0=>?_⟩
 obtain⟨M1,h⟩:=h K0 hK0
 obtain⟨M2,b⟩:=b K0
 refine⟨M1+M2,fun K hK=>?_⟩
 have a:=h K (by omega)
 have c:=b K (by omega)
 have m:=mul_bd a.1 a.2 c.1 c.2
 have:e*B⁻¹*B=e:=by rw[Rat.mul_assoc,ie,Rat.mul_one]
 rw[this] at m
 exact m
theorem Zr.cm {F:Nat→Nat→Rat}(h:Zr F)(c:Rat):Zr fun i j=>F i j*c:=by
 obtain⟨a,a0,a1,a2⟩:=abs_ex c
 exact h.mul (B:=a+1) (fun _=>⟨0,fun _ _=>by constructor<;>grind⟩) (by grind)
theorem Zr.congr {F G:Nat→Nat→Rat}(h:Zr F)(e:∀ i j,F i j=G i j):Zr G:=by
 have:F=G:=funext fun i=>funext fun j=>e i j
 rw[← this];exact h
def Tn (f:Nat→Rat)(x:Rat):Prop:=Zr fun i j=>SN (f i) j-x*CS (f i) j
theorem bzC (f:Nat→Rat):Bz (fun i j=>CS (f i) j) 2:=fun i=>by
 obtain⟨M,h⟩:=CS_one (f i) (e:=1) (by decide)
 exact⟨M,fun K hK=>by have:=h K hK;constructor<;>grind⟩
theorem bzS (f:Nat→Rat):Bz (fun i j=>SN (f i) j) 2:=fun i=>by
 obtain⟨M,h⟩:=CS_one (f i) (e:=1) (by decide)
 exact⟨M,fun K hK=>by have:=h K hK;constructor<;>grind⟩
theorem zC (f g:Nat→Rat):Zr fun i j=>CS (f i+g i) j-(CS (f i) j*CS (g i) j-SN (f i) j*SN (g i) j):=fun e he=>⟨0,fun i _=>by
 obtain⟨M,h⟩:=CS_addN (f i) (g i) he
 exact⟨M,fun K hK=>by have:=(h K hK).1;constructor<;>grind⟩⟩
theorem zS (f g:Nat→Rat):Zr fun i j=>SN (f i+g i) j-(CS (f i) j*SN (g i) j+SN (f i) j*CS (g i) j):=fun e he=>⟨0,fun i _=>by
 obtain⟨M,h⟩:=CS_addN (f i) (g i) he
 exact⟨M,fun K hK=>by have:=(h K hK).2;constructor<;>grind⟩⟩
theorem Tn.add {f g:Nat→Rat}{x y d:Rat}(hf:Tn f x)(hg:Tn g y)(hd:d*(1-x*y)=x+y):Tn (fun i=>f i+g i) d:=by
 have a1:=(zS f g).add ((zC f g).cm (-d))
 have a2:=((hg.mul (bzC f) (by decide)).cm (1+d*x)).add ((hf.mul (bzC g) (by decide)).add ((hf.mul (bzS g) (by decide)).cm d))
 refine (a1.add a2).congr fun i j=>?_
 show _=SN (f i+g i) j-d*CS (f i+g i) j
 generalize SN (f i+g i) j=S
 generalize CS (f i+g i) j=C
 generalize SN (f i) j=s
 generalize CS (f i) j=c
 generalize SN (g i) j=s'
 generalize CS (g i) j=c'
 have k:x+y-d+d*x*y=0:=by grind
 have e:S-(c*s'+s*c')+(C-(c*c'-s*s'))*-d+((s'-y*c')*c*(1+d*x)+((s-x*c)*c'+(s-x*c)*s'*d))=S-d*C-c*c'*(x+y-d+d*x*y):=by grind
 rw[e,k,Rat.mul_zero];grind
theorem Tn.neg {f:Nat→Rat}{x:Rat}(hf:Tn f x):Tn (fun i=>-(f i)) (-x):=by
 refine (Zr.cm hf (-1)).congr fun i j=>?_
 show _=SN (-(f i)) j - -x*CS (-(f i)) j
 rw[SN_neg,CS_neg];grind
theorem Tn.at {z:Rat}(h0:0≤z)(h1:z≤1 / 2):Tn (AL z) z:=fun _ he=>at_tan h0 h1 he
theorem Tn.congr {f g:Nat→Rat}{x:Rat}(h:Tn f x)(e:∀ i,f i=g i):Tn g x:=by
 have:f=g:=funext e
 rw[← this];exact h
theorem CS_nn54 {x:Rat}(h0:0≤x)(h1:x≤5 / 4){K:Nat}(hK:5≤K):0≤CS x K∧x*(1 / 2)≤SN x K:=by
 have t:=CS_tail (x:=x) (a:=x) h0 (by grind) Rat.le_refl (n:=4) (Rat.le_trans (show 2*x≤5 by grind) (of_decide_eq_true (by kernel_rfl))) hK
 have e1:=tE_mul x 0
 have e2:=tE_mul x 1
 have e3:=tE_mul x 2
 have e4:=tE_mul x 3
 have z0:tE x 0=1:=rfl
 have c0:(nx 0:Rat)=1:=rfl
 have c1:(nx 1:Rat)=2:=rfl
 have c2:(nx 2:Rat)=3:=rfl
 have c3:(nx 3:Rat)=4:=rfl
 have s:CS x (4+1)=0+1*tE x 0+-0*tE x 1+-1*tE x 2+(iP 3).1*tE x 3+(iP 4).1*tE x 4:=rfl
 have s2:SN x (4+1)=0+0*tE x 0+1*tE x 1+-0*tE x 2+(iP 3).2*tE x 3+(iP 4).2*tE x 4:=rfl
 have p3:(iP 3).1=0∧(iP 3).2=-1∧(iP 4).1=1∧(iP 4).2=0:=⟨of_decide_eq_true (by kernel_rfl),of_decide_eq_true (by kernel_rfl),of_decide_eq_true (by kernel_rfl),of_decide_eq_true (by kernel_rfl)⟩
 rw[p3.1,p3.2.2.1] at s
 rw[p3.2.1,p3.2.2.2] at s2
 rw[s,s2] at t
 rw[z0,c0] at e1
 rw[c1] at e2
 rw[c2] at e3
 rw[c3] at e4
 rw[z0] at t
 have t1:tE x 1=x:=by grind
 rw[t1] at e2 t
 have xx:=Rat.mul_nonneg h0 h0
 have m1:=Rat.mul_le_mul_of_nonneg_left h1 h0
 have m2:=Rat.mul_le_mul_of_nonneg_right (show x*x≤25 / 16 by grind) h0
 have m3:=Rat.mul_le_mul_of_nonneg_right m2 h0
 have p2:=tE_nonneg h0 4
 have t2:2*tE x 2=x*x:=by grind
 have t3:6*tE x 3=x*x*x:=by grind
 have t4:24*tE x 4=x*x*x*x:=by grind
 have t5:=Rat.mul_nonneg xx h0
 constructor<;>grind
def Rg (f:Nat→Rat):Prop:=∃ N,∀ K,N≤K→0≤f K∧f K≤5 / 4
theorem Tn.le {f g:Nat→Rat}{x y:Rat}(hf:Tn f x)(hg:Tn g y)(h:x≤y)(rf:Rg f)(rg:Rg g):Lq f g:=fun e he=>by
 have z:=((zS f (fun i=>-(g i))).add ((hg.mul (bzC f) (by decide)).cm (-1))).add (hf.mul (bzC g) (by decide))
 obtain⟨N,z⟩:=z (e*(1 / 4)) (by grind)
 obtain⟨N1,rf⟩:=rf
 obtain⟨N2,rg⟩:=rg
 refine⟨N+N1+N2,fun K0 hK0=>?_⟩
 have rf:=rf K0 (by omega)
 have rg:=rg K0 (by omega)
 obtain⟨M,z⟩:=z K0 (by omega)
 have z:=(z (M+5) (by omega)).2
 have z:SN (f K0+-(g K0)) (M+5)-(CS (f K0) (M+5)*SN (-(g K0)) (M+5)+SN (f K0) (M+5)*CS (-(g K0)) (M+5))+(SN (g K0) (M+5)-y*CS (g K0) (M+5))*CS (f K0) (M+5)*-1+(SN (f K0) (M+5)-x*CS (f K0) (M+5))*CS (g K0) (M+5)≤e*(1 / 4):=z
 rw[SN_neg,CS_neg] at z
 have c1:=(CS_nn54 rf.1 rf.2 (K:=M+5) (by omega)).1
 have c2:=(CS_nn54 rg.1 rg.2 (K:=M+5) (by omega)).1
 refine Decidable.byContradiction fun hn=>?_
 have s:=(CS_nn54 (x:=f K0+-(g K0)) (by grind) (by grind) (K:=M+5) (by omega)).2
 generalize SN (f K0+-(g K0)) (M+5)=S at *
 generalize CS (f K0) (M+5)=c at *
 generalize CS (g K0) (M+5)=c' at *
 generalize SN (f K0) (M+5)=s1 at *
 generalize SN (g K0) (M+5)=s2 at *
 have m:=Rat.mul_nonneg (show 0≤y-x by grind) (Rat.mul_nonneg c1 c2)
 have q:S-(c*-s2+s1*c')+(s2-y*c')*c*-1+(s1-x*c)*c'=S+(y-x)*(c*c'):=by grind
 rw[q] at z
 generalize (y-x)*(c*c')=w at *
 clear q
 grind
def tA (z:Rat)(k:Nat):Rat:=z^(2*k+1) / (odn k:Rat)
theorem tA_nn {z:Rat}(h0:0≤z)(k:Nat):0≤tA z k∧tA z k≤z^(2*k+1):=div_nn (pow_nn h0 _)
theorem tA_dec {z:Rat}(h0:0≤z)(h1:z≤1)(k:Nat):tA z (k+1)≤tA z k:=by
 have p:=pow_nn h0 (2*k+1)
 have zz:=Rat.mul_le_mul_of_nonneg_left h1 h0
 have m:=Rat.mul_le_mul_of_nonneg_left (show z*z≤1 by grind) p
 rw[Rat.mul_one,← odd_succ] at m
 have n0:(0:Rat)<(odn k:Rat):=Rat.intCast_pos.2 (odn_pos k)
 have n1:(0:Rat)<(odn (k+1):Rat):=Rat.intCast_pos.2 (odn_pos (k+1))
 have n2:(odn k:Rat)≤(odn (k+1):Rat):=Rat.intCast_le_intCast.2 (by unfold odn;omega)
 unfold tA
 have a1:=Rat.div_mul_cancel (a:=z^(2*(k+1)+1)) (b:=(odn (k+1):Rat)) (by grind)
 have a2:=Rat.div_mul_cancel (a:=z^(2*k+1)) (b:=(odn k:Rat)) (by grind)
 have q:=(div_nn (y:=z^(2*k+1)) (j:=k) p).1
 generalize z^(2*(k+1)+1) / (odn (k+1):Rat)=u at *
 generalize z^(2*k+1) / (odn k:Rat)=v at *
 refine Rat.le_of_mul_le_mul_right (c:=(odn (k+1):Rat)) ?_ n1
 have m2:=Rat.mul_le_mul_of_nonneg_left n2 q
 grind
theorem sg_mul (n:Nat):∀ j,sg (n+j)=sg n*sg j
 | 0=>by show sg n=sg n*1;grind
 | j+1=>by
  rw[← Nat.add_assoc,sg_succ,sg_succ,sg_mul n j];grind
theorem sg_sq (n:Nat):sg n*sg n=1:=by unfold sg;split<;>grind
theorem AL_gap {z:Rat}(h0:0≤z)(h1:z≤1)(n:Nat):∀ j,(sg j=1∧0≤sg n*(AL z (n+j)-AL z n)∧sg n*(AL z (n+j)-AL z n)+tA z (n+j)≤tA z n)∨(sg j=-1∧tA z (n+j)≤sg n*(AL z (n+j)-AL z n)∧sg n*(AL z (n+j)-AL z n)≤tA z n)
 | 0=>by
  left
  have e:AL z (n+0)-AL z n=0:=by show AL z n-AL z n=0;grind
  rw[e,Rat.mul_zero]
  exact⟨rfl,Rat.le_refl,by show 0+tA z n≤tA z n;grind⟩
 | j+1=>by
  have i:=AL_gap h0 h1 n j
  have e:AL z (n+(j+1))=AL z (n+j)+sg (n+j)*tA z (n+j):=rfl
  have d:=tA_dec h0 h1 (n+j)
  have p:=(tA_nn h0 (n+j+1)).1
  have q:sg n*(AL z (n+(j+1))-AL z n)=sg n*(AL z (n+j)-AL z n)+sg j*tA z (n+j):=by
   rw[e,sg_mul]
   have s:=sg_sq n
   generalize sg n=a at *
   have:a*(AL z (n+j)+a*sg j*tA z (n+j)-AL z n)=a*(AL z (n+j)-AL z n)+(a*a)*(sg j*tA z (n+j)):=by grind
   rw[this,s,Rat.one_mul]
  rw[q,sg_succ]
  show (_∧_∧_+tA z (n+j+1)≤_)∨(_∧tA z (n+j+1)≤_∧_)
  rcases i with ⟨s,i1,i2⟩ | ⟨s,i1,i2⟩
  ·right
   rw[s,Rat.one_mul]
   exact⟨rfl,by grind,by grind⟩
  ·left
   rw[s]
   refine⟨by grind,by grind,by grind⟩
theorem AL_near {z:Rat}(h0:0≤z)(h1:z≤1){n K:Nat}(h:n≤K):-(tA z n)≤AL z K-AL z n∧AL z K-AL z n≤tA z n:=by
 obtain⟨j,rfl⟩:∃ j,K=n+j:=⟨K-n,by omega⟩
 have g:=AL_gap h0 h1 n j
 have p:=(tA_nn h0 (n+j)).1
 have b:0≤sg n*(AL z (n+j)-AL z n)∧sg n*(AL z (n+j)-AL z n)≤tA z n:=by
  rcases g with ⟨_,a,b⟩ | ⟨_,a,b⟩
  ·constructor<;>grind
  ·constructor<;>grind
 have s:=sg_bd (i:=n) (x:=sg n*(AL z (n+j)-AL z n)) (y:=tA z n) (by grind) b.2
 have e:sg n*(sg n*(AL z (n+j)-AL z n))=AL z (n+j)-AL z n:=by
  have:=sg_sq n
  rw[← Rat.mul_assoc,this,Rat.one_mul]
 rw[e] at s
 exact s
theorem AL_b {z:Rat}(h0:0≤z)(h1:z≤1)(K:Nat):0≤AL z K∧AL z K≤z:=by
 have g:=AL_gap h0 h1 0 K
 have p:=(tA_nn h0 K).1
 have t0:tA z 0=z:=by
  show z^(0+1) / ((1:Int):Rat)=z
  rw[Rat.pow_succ,Rat.pow_zero,Rat.one_mul,show ((1:Int):Rat)=1 from rfl]
  grind
 have s0:sg 0=1:=rfl
 have a0:AL z 0=0:=rfl
 rw[t0,s0,a0,Nat.zero_add] at g
 have e:(1:Rat)*(AL z K-0)=AL z K:=by grind
 rw[e] at g
 have p0:=(tA_nn h0 (0+K)).1
 rw[Nat.zero_add] at p0
 rcases g with ⟨_,a,b⟩ | ⟨_,a,b⟩
 ·constructor<;>grind
 ·constructor<;>grind
def AT0 (x:Rat)(K:Nat):Rat:=if x≤1 / 2 then AL x K else AL (1 / 2) K+AL ((2*x-1) / (2+x)) K
theorem v_bd {x:Rat}(h0:1 / 2≤x)(h1:x≤4 / 3):0≤(2*x-1) / (2+x)∧(2*x-1) / (2+x)≤1 / 2∧(2*x-1) / (2+x)≤x-1 / 2∧(2*x-1) / (2+x)*(2+x)=2*x-1:=by
 have p:0<2+x:=by grind
 have e:=Rat.div_mul_cancel (a:=2*x-1) (b:=2+x) (by grind)
 generalize (2*x-1) / (2+x)=v at *
 refine⟨?_,?_,?_,e⟩
 ·exact Rat.le_of_mul_le_mul_right (c:=2+x) (by rw[e];grind) p
 ·exact Rat.le_of_mul_le_mul_right (c:=2+x) (by rw[e];grind) p
 ·refine Rat.le_of_mul_le_mul_right (c:=2+x) ?_ p
  rw[e]
  have:=Rat.mul_nonneg (show 0≤x-1 / 2 by grind) (show 0≤x by grind)
  grind
theorem AT0_tn {x:Rat}(h0:0≤x)(h1:x≤4 / 3):Tn (AT0 x) x:=by
 by_cases h:x≤1 / 2
 ·exact (Tn.at h0 h).congr fun i=>by unfold AT0;rw[if_pos h]
 ·have v:=v_bd (x:=x) (by grind) h1
  have a:=(Tn.at (z:=1 / 2) (by grind) Rat.le_refl).add (Tn.at v.1 v.2.1) (d:=x) (by
   have e:=v.2.2.2
   generalize (2*x-1) / (2+x)=u at *
   grind)
  exact a.congr fun i=>by unfold AT0;rw[if_neg h]
theorem AT0_b {x:Rat}(h0:0≤x)(h1:x≤4 / 3)(K:Nat):0≤AT0 x K∧AT0 x K≤x∧AT0 x K≤1:=by
 unfold AT0
 by_cases h:x≤1 / 2
 ·rw[if_pos h]
  have a:=AL_b h0 (by grind) K
  refine⟨a.1,a.2,by grind⟩
 ·rw[if_neg h]
  have v:=v_bd (x:=x) (by grind) h1
  have a:=AL_b (z:=1 / 2) (by grind) (by grind) K
  have b:=AL_b v.1 (by grind) K
  refine⟨by grind,by grind,by grind⟩
theorem AT0_rg {x:Rat}(h0:0≤x)(h1:x≤4 / 3):Rg (AT0 x):=⟨0,fun K _=>by have:=AT0_b h0 h1 K;constructor<;>grind⟩
theorem AT0_le {x y:Rat}(h0:0≤x)(h:x≤y)(h1:y≤4 / 3):Lq (AT0 x) (AT0 y):=(AT0_tn h0 (by grind)).le (AT0_tn (by grind) h1) h (AT0_rg h0 (by grind)) (AT0_rg (by grind) h1)
theorem dbl_tn {x d:Rat}(h0:0≤x)(h1:x≤5 / 8)(hd:d*(1-x*x)=2*x):Tn (fun K=>2*AT0 x K) d∧Rg (fun K=>2*AT0 x K):=by
 have t:=AT0_tn h0 (by grind)
 refine⟨(t.add t (d:=d) (by grind)).congr fun i=>by grind,0,fun K _=>?_⟩
 have b:=AT0_b h0 (show x≤4 / 3 by grind) K
 constructor<;>grind
theorem dbl_ex {x:Rat}(h0:0≤x)(h1:x≤5 / 8):∃ d,d*(1-x*x)=2*x∧0<1-x*x:=by
 have m:=mul_bd (show -(5 / 8)≤x by grind) h1 (show -(5 / 8)≤x by grind) h1
 refine⟨2*x / (1-x*x),Rat.div_mul_cancel (by grind),by grind⟩
theorem half_lo {a x:Rat}(h0:0≤x)(h1:x≤5 / 8)(ha:a≤4 / 3)(h:2*x≤a*(1-x*x)):Lq (fun K=>2*AT0 x K) (AT0 a):=by
 obtain⟨d,hd,p⟩:=dbl_ex h0 h1
 have t:=dbl_tn h0 h1 hd
 have a0:0≤a:=Rat.le_of_mul_le_mul_right (c:=1-x*x) (by grind) p
 exact t.1.le (AT0_tn a0 ha) (Rat.le_of_mul_le_mul_right (by rw[hd];exact h) p) t.2 (AT0_rg a0 ha)
theorem half_hi {b x:Rat}(h0:0≤x)(h1:x≤5 / 8)(b0:0≤b)(hb:b≤4 / 3)(h:b*(1-x*x)≤2*x):Lq (AT0 b) (fun K=>2*AT0 x K):=by
 obtain⟨d,hd,p⟩:=dbl_ex h0 h1
 have t:=dbl_tn h0 h1 hd
 exact (AT0_tn b0 hb).le t.1 (Rat.le_of_mul_le_mul_right (by rw[hd];exact h) p) (AT0_rg b0 hb) t.2
theorem Lq.mul2 {f g:Nat→Rat}(h:Lq f g)(n:Nat):Lq (fun K=>(2:Rat)^n*f K) (fun K=>(2:Rat)^n*g K):=fun e he=>by
 have p:=two_one n
 have i0:=Rat.inv_pos.2 (show 0<(2:Rat)^n by grind)
 have ie:=inv_one (show 0<(2:Rat)^n by grind)
 obtain⟨N,h⟩:=h (e*((2:Rat)^n)⁻¹) (Rat.mul_pos he i0)
 refine⟨N,fun K hK=>?_⟩
 have m:=Rat.mul_le_mul_of_nonneg_left (h K hK) (show 0≤(2:Rat)^n by grind)
 show (2:Rat)^n*f K≤(2:Rat)^n*g K+e
 have:(2:Rat)^n*(e*((2:Rat)^n)⁻¹)=e:=by
  have:(2:Rat)^n*(e*((2:Rat)^n)⁻¹)=e*(((2:Rat)^n)⁻¹*(2:Rat)^n):=by grind
  rw[this,ie,Rat.mul_one]
 grind
theorem halves_lo {a:Nat→Rat}(ha:a 0≤4 / 3):∀ n,(∀ j,j<n→(0≤a (j+1)∧a (j+1)≤5 / 8)∧2*a (j+1)≤a j*(1-a (j+1)*a (j+1)))→Lq (fun K=>(2:Rat)^n*AT0 (a n) K) (AT0 (a 0))
 | 0,_=>Lq.of_le (N:=0) fun K _=>by rw[Rat.pow_zero,Rat.one_mul];exact Rat.le_refl
 | n+1,h=>by
  have i:=halves_lo ha n fun j hj=>h j (by omega)
  have q:=h n (by omega)
  have b:a n≤4 / 3:=by
   rcases n with _ | n
   ·exact ha
   ·have:=(h n (by omega)).1.2;grind
  refine Lq.trans (Lq.trans (Lq.of_le (N:=0) fun K _=>?_) ((half_lo q.1.1 q.1.2 b q.2).mul2 n)) i
  rw[Rat.pow_succ];grind
theorem halves_hi {a:Nat→Rat}(h0:0≤a 0)(ha:a 0≤4 / 3):∀ n,(∀ j,j<n→(0≤a (j+1)∧a (j+1)≤5 / 8)∧a j*(1-a (j+1)*a (j+1))≤2*a (j+1))→Lq (AT0 (a 0)) (fun K=>(2:Rat)^n*AT0 (a n) K)
 | 0,_=>Lq.of_le (N:=0) fun K _=>by rw[Rat.pow_zero,Rat.one_mul];exact Rat.le_refl
 | n+1,h=>by
  have i:=halves_hi h0 ha n fun j hj=>h j (by omega)
  have q:=h n (by omega)
  have b:0≤a n∧a n≤4 / 3:=by
   rcases n with _ | n
   ·exact⟨h0,ha⟩
   ·have:=(h n (by omega)).1;constructor<;>grind
  refine Lq.trans i (Lq.trans ((half_hi q.1.1 q.1.2 b.1 b.2 q.2).mul2 n) (Lq.of_le (N:=0) fun K _=>?_))
  rw[Rat.pow_succ];grind
def tq:Rat:=dv 1 (-420)
theorem tq_pos:0<tq:=of_decide_eq_true (by kernel_rfl)
def ATp (x:Rat)(K:Nat):Rat:=if x≤1 then AT0 x K else cQ-AT0 x⁻¹ K
def AT (x:Rat)(K:Nat):Rat:=if x<0 then -(ATp (-x) K) else ATp x K
theorem ATp_1 {x:Rat}(h:x≤1)(K:Nat):ATp x K=AT0 x K:=by unfold ATp;rw[if_pos h]
theorem ATp_2 {x:Rat}(h:¬ x≤1)(K:Nat):ATp x K=cQ-AT0 x⁻¹ K:=by unfold ATp;rw[if_neg h]
theorem AT_m {x:Rat}(h:x<0)(K:Nat):AT x K=-(ATp (-x) K):=by unfold AT;rw[if_pos h]
theorem AT_p {x:Rat}(h:¬ x<0)(K:Nat):AT x K=ATp x K:=by unfold AT;rw[if_neg h]
theorem AT1_num:(-(tq*(1 / 2))≤cQ-2*(AL (1 / 2) 215+AL (1 / 3) 140)∧cQ-2*(AL (1 / 2) 215+AL (1 / 3) 140)≤tq*(1 / 2))∧2*(tA (1 / 2) 215+tA (1 / 3) 140)≤tq*(1 / 2):=⟨⟨of_decide_eq_true (by kernel_rfl),of_decide_eq_true (by kernel_rfl)⟩,of_decide_eq_true (by kernel_rfl)⟩
theorem AT1 {K:Nat}(hK:215≤K):-tq≤cQ-2*AT0 1 K∧cQ-2*AT0 1 K≤tq:=by
 have e:AT0 1 K=AL (1 / 2) K+AL (1 / 3) K:=by
  unfold AT0
  rw[if_neg (by grind),show ((2:Rat)*1-1) / (2+1)=1 / 3 by grind]
 have n:=AT1_num
 have a:=AL_near (z:=1 / 2) (by grind) (by grind) (n:=215) (K:=K) (by omega)
 have b:=AL_near (z:=1 / 3) (by grind) (by grind) (n:=140) (K:=K) (by omega)
 rw[e]
 clear e
 generalize AL (1 / 2) 215=x1 at *
 generalize AL (1 / 3) 140=x2 at *
 generalize AL (1 / 2) K=x3 at *
 generalize AL (1 / 3) K=x4 at *
 constructor<;>grind
theorem inv_le1 {x:Rat}(h:1≤x):0<x⁻¹∧x⁻¹≤1:=by
 have i0:=Rat.inv_pos.2 (show 0<x by grind)
 have ie:=inv_one (show 0<x by grind)
 refine⟨i0,?_⟩
 have:=Rat.mul_le_mul_of_nonneg_left h (Rat.le_of_lt i0)
 grind
theorem inv_antiT {x y:Rat}(hx:0<x)(h:x≤y):y⁻¹≤x⁻¹:=by
 have i0:=Rat.inv_pos.2 hx
 have ie:=inv_one hx
 have j0:=Rat.inv_pos.2 (show 0<y by grind)
 have je:=inv_one (show 0<y by grind)
 have m:=Rat.mul_le_mul_of_nonneg_left h (Rat.le_of_lt (Rat.mul_pos i0 j0))
 have e1:x⁻¹*y⁻¹*x=y⁻¹*(x⁻¹*x):=by grind
 have e2:x⁻¹*y⁻¹*y=x⁻¹*(y⁻¹*y):=by grind
 rw[e1,e2,ie,je] at m
 grind
theorem ATp_b {x:Rat}(h0:0≤x)(K:Nat):0≤ATp x K∧ATp x K≤cQ:=by
 have c:=cQ_b
 unfold ATp
 split
 ·rename_i h
  have b:=AT0_b h0 (show x≤4 / 3 by grind) K
  constructor<;>grind
 ·rename_i h
  have i:=inv_le1 (x:=x) (by grind)
  have b:=AT0_b (x:=x⁻¹) (by grind) (by grind) K
  constructor<;>grind
def Lqe (f g:Nat→Rat)(e:Rat):Prop:=Lq f fun K=>g K+e
theorem Lqe.of {f g:Nat→Rat}{e:Rat}(h:Lq f g)(e0:0≤e):Lqe f g e:=h.trans (Lq.of_le (N:=0) fun K _=>by grind)
theorem ATp_mono {x y:Rat}(h0:0≤x)(h:x≤y):Lqe (ATp x) (ATp y) tq:=by
 have tp:=tq_pos
 by_cases hy:y≤1
 ·refine Lqe.of ?_ (Rat.le_of_lt tp)
  have a:=AT0_le h0 h (by grind)
  intro e he
  obtain⟨N,a⟩:=a e he
  refine⟨N,fun K hK=>?_⟩
  rw[ATp_1 hy,ATp_1 (show x≤1 by grind)];exact a K hK
 ·by_cases hx:x≤1
  ·have i:=inv_le1 (x:=y) (by grind)
   have a:=AT0_le h0 hx (by grind)
   have b:=AT0_le (x:=y⁻¹) (by grind) i.2 (by grind)
   intro e he
   obtain⟨N1,a⟩:=a (e / 2) (half_pos he)
   obtain⟨N2,b⟩:=b (e / 2) (half_pos he)
   refine⟨N1+N2+215,fun K hK=>?_⟩
   have a:=a K (by omega)
   have b:=b K (by omega)
   have c:=AT1 (K:=K) (by omega)
   have z:=half_two e
   show ATp x K≤ATp y K+tq+e
   rw[ATp_1 hx,ATp_2 hy]
   grind
  ·refine Lqe.of ?_ (Rat.le_of_lt tp)
   have i:=inv_le1 (x:=x) (by grind)
   have j:=inv_le1 (x:=y) (by grind)
   have a:=AT0_le (x:=y⁻¹) (y:=x⁻¹) (by grind) (inv_antiT (by grind) h) (by grind)
   intro e he
   obtain⟨N,a⟩:=a e he
   refine⟨N,fun K hK=>?_⟩
   have a:=a K hK
   rw[ATp_2 hy,ATp_2 hx];grind
theorem AT_mono {x y:Rat}(h:x≤y):Lqe (AT x) (AT y) tq:=by
 have tp:=tq_pos
 by_cases hx:x<0
 ·by_cases hy:y<0
  ·have a:=ATp_mono (x:=-y) (y:=-x) (by grind) (by grind)
   intro e he
   obtain⟨N,a⟩:=a e he
   refine⟨N,fun K hK=>?_⟩
   have a:ATp (-y) K≤ATp (-x) K+tq+e:=a K hK
   show AT x K≤AT y K+tq+e
   rw[AT_m hx,AT_m hy]
   grind
  ·refine Lq.of_le (N:=0) fun K _=>?_
   have a:=ATp_b (x:=-x) (by grind) K
   have b:=ATp_b (x:=y) (by grind) K
   rw[AT_m hx,AT_p hy];grind
 ·have a:=ATp_mono (x:=x) (y:=y) (by grind) h
  intro e he
  obtain⟨N,a⟩:=a e he
  refine⟨N,fun K hK=>?_⟩
  have a:=a K hK
  show AT x K≤AT y K+tq+e
  rw[AT_p hx,AT_p (show ¬ y<0 by grind)];exact a
theorem AT_b (x:Rat)(K:Nat):-cQ≤AT x K∧AT x K≤cQ:=by
 have c:=cQ_b
 unfold AT
 split
 ·have:=ATp_b (x:=-x) (by grind) K
  constructor<;>grind
 ·have:=ATp_b (x:=x) (by grind) K
  constructor<;>grind
theorem comp_hi {d y:Rat}(h1:1<d)(h:d≤y)(hy:y≤4 / 3):Lqe (ATp d) (AT0 y) tq:=by
 have i:=inv_le1 (x:=d) (by grind)
 have ie:=inv_one (show 0<d by grind)
 have t1:=AT0_tn (x:=1) (by grind) (by grind)
 have tg:=AT0_tn (x:=d⁻¹) (by grind) (by grind)
 have ty:=AT0_tn (x:=y) (by grind) hy
 -- y's angle less that of 1,and that of 1 less that of 1 / d
 have e1:∃ u,u*(1-y*-1)=y+-1:=⟨(y+-1) / (1-y*-1),Rat.div_mul_cancel (by grind)⟩
 have e2:∃ v,v*(1-1*-d⁻¹)=1+-d⁻¹:=⟨(1+-d⁻¹) / (1-1*-d⁻¹),Rat.div_mul_cancel (by grind)⟩
 obtain⟨u,hu⟩:=e1
 obtain⟨v,hv⟩:=e2
 have a:=ty.add t1.neg hu
 have b:=t1.add tg.neg hv
 have vu:v≤u:=by
  have hd:v*(1+d)=d-1:=by
   have:=congrArg (fun z=>z*d) hv
   have k1:v*(1-1*-d⁻¹)*d=v*(d+d⁻¹*d):=by grind
   have k2:(1+-d⁻¹)*d=d-d⁻¹*d:=by grind
   have this:v*(1-1*-d⁻¹)*d=(1+-d⁻¹)*d:=this
   rw[k1,k2,ie] at this
   grind
  have q:v*((1+d)*(1+y))≤u*((1+d)*(1+y)):=by
   have w1:v*((1+d)*(1+y))=(d-1)*(1+y):=by rw[← hd];grind
   have w2:u*((1+d)*(1+y))=(y-1)*(1+d):=by
    have:u*(1+y)=y-1:=by grind
    rw[← this];grind
   rw[w1,w2];grind
  exact Rat.le_of_mul_le_mul_right q (Rat.mul_pos (by grind) (by grind))
 -- both are in range only up to the limit: use order of each
 have o1:=AT0_le (x:=1) (y:=y) (by grind) (by grind) hy
 have o2:=AT0_le (x:=d⁻¹) (y:=1) (by grind) i.2 (by grind)
 intro e he
 have he8:0<e*(1 / 8):=Rat.mul_pos he r8.1
 have z:=((zS (fun i=>AT0 1 i+-(AT0 d⁻¹ i)) (fun i=>-(AT0 y i+-(AT0 1 i)))).add ((a.mul (bzC (fun i=>AT0 1 i+-(AT0 d⁻¹ i))) (by decide)).cm (-1))).add (b.mul (bzC (fun i=>AT0 y i+-(AT0 1 i))) (by decide))
 obtain⟨N,z⟩:=z (e*(1 / 8)) he8
 obtain⟨N1,o1⟩:=o1 (e*(1 / 8)) he8
 obtain⟨N2,o2⟩:=o2 (e*(1 / 8)) he8
 refine⟨N+N1+N2+215,fun K hK=>?_⟩
 have o1:=o1 K (by omega)
 have o2:=o2 K (by omega)
 have c1:=AT1 (K:=K) (by omega)
 obtain⟨M,z⟩:=z K (by omega)
 have z:=(z (M+5) (by omega)).2
 show ATp d K≤AT0 y K+tq+e
 rw[ATp_2 (show ¬ d≤1 by grind)]
 have b1:=AT0_b (x:=1) (by grind) (by grind) K
 have b2:=AT0_b (x:=y) (by grind) hy K
 have b3:=AT0_b (x:=d⁻¹) (by grind) (by grind) K
 refine Decidable.byContradiction fun hn=>?_
 have z:SN (AT0 1 K+-(AT0 d⁻¹ K)+-(AT0 y K+-(AT0 1 K))) (M+5)-(CS (AT0 1 K+-(AT0 d⁻¹ K)) (M+5)*SN (-(AT0 y K+-(AT0 1 K))) (M+5)+SN (AT0 1 K+-(AT0 d⁻¹ K)) (M+5)*CS (-(AT0 y K+-(AT0 1 K))) (M+5))+(SN (AT0 y K+-(AT0 1 K)) (M+5)-u*CS (AT0 y K+-(AT0 1 K)) (M+5))*CS (AT0 1 K+-(AT0 d⁻¹ K)) (M+5)*-1+(SN (AT0 1 K+-(AT0 d⁻¹ K)) (M+5)-v*CS (AT0 1 K+-(AT0 d⁻¹ K)) (M+5))*CS (AT0 y K+-(AT0 1 K)) (M+5)≤e*(1 / 8):=z
 rw[SN_neg,CS_neg] at z
 have cn:∀ {s:Rat},-1≤s→s≤1→0≤CS s (M+5):=by
  intro s s0 s1
  rcases (Rat.le_total:0≤s∨s≤0) with q | q
  ·exact (CS_nn54 q (by grind) (by omega)).1
  ·rw[← CS_neg];exact (CS_nn54 (x:=-s) (by grind) (by grind) (by omega)).1
 have c2:=cn (s:=AT0 1 K+-(AT0 d⁻¹ K)) (by grind) (by grind)
 have c3:=cn (s:=AT0 y K+-(AT0 1 K)) (by grind) (by grind)
 have s:=(CS_nn54 (x:=AT0 1 K+-(AT0 d⁻¹ K)+-(AT0 y K+-(AT0 1 K))) (by grind) (by grind) (K:=M+5) (by omega)).2
 generalize SN (AT0 1 K+-(AT0 d⁻¹ K)+-(AT0 y K+-(AT0 1 K))) (M+5)=S at *
 generalize CS (AT0 1 K+-(AT0 d⁻¹ K)) (M+5)=c at *
 generalize CS (AT0 y K+-(AT0 1 K)) (M+5)=c' at *
 generalize SN (AT0 1 K+-(AT0 d⁻¹ K)) (M+5)=s1 at *
 generalize SN (AT0 y K+-(AT0 1 K)) (M+5)=s2 at *
 have m:=Rat.mul_nonneg (show 0≤u-v by grind) (Rat.mul_nonneg c2 c3)
 have q:S-(c*-s2+s1*c')+(s2-u*c')*c*-1+(s1-v*c)*c'=S+(u-v)*(c*c'):=by grind
 rw[q] at z
 generalize (u-v)*(c*c')=w at *
 clear q a b t1 tg ty
 grind
theorem comp_lo {d y:Rat}(h1:1<d)(h0:0≤y)(hy:y≤1):Lqe (AT0 y) (ATp d) tq:=by
 have a:=ATp_mono (x:=y) (y:=d) h0 (by grind)
 intro e he
 obtain⟨N,a⟩:=a e he
 refine⟨N,fun K hK=>?_⟩
 have a:=a K hK
 have:ATp y K=AT0 y K:=by unfold ATp;rw[if_pos hy]
 rw[← this];exact a
end Go.Proofs.YtkkbddkpggjgpaaGreatDoor
