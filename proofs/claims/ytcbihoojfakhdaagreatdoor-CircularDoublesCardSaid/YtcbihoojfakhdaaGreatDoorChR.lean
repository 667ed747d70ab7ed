/-
  Lower layers: what functions of the program compute, and plain facts. Conditions: as the theorems say.
-/
import Derived.Test.YtcbihoojfakhdaaGreatDoorChQ
set_option linter.unusedVariables false
set_option linter.unusedSimpArgs false
namespace Go.Proofs.YtcbihoojfakhdaaGreatDoor
def eps:Rat:=dv 1 (-400)
end Go.Proofs.YtcbihoojfakhdaaGreatDoor


namespace Go.Proofs.YtcbihoojfakhdaaGreatDoor
def Lq (f g:Nat→Rat):Prop:=∀ e:Rat,0<e→∃ N,∀ K,N≤K→f K≤g K+e
def Lm (f g:Nat→Rat):Prop:=Lq f g∧Lq g f
def Bn (f:Nat→Rat)(B:Rat):Prop:=∃ N,∀ K,N≤K→-B≤f K∧f K≤B
theorem Lq.refl (f:Nat→Rat):Lq f f:=fun e h=>⟨0,fun K _=>by grind⟩
theorem Lm.refl (f:Nat→Rat):Lm f f:=⟨Lq.refl f,Lq.refl f⟩
theorem Lm.symm {f g:Nat→Rat}(h:Lm f g):Lm g f:=⟨h.2,h.1⟩
theorem r8:(0:Rat)<1 / 8∧(0:Rat)<1 / 2∧(0:Rat)<2⁻¹:=⟨of_decide_eq_true (by kernel_rfl),of_decide_eq_true (by kernel_rfl),of_decide_eq_true (by kernel_rfl)⟩
theorem half_pos {e:Rat}(h:0<e):0<e / 2:=by rw [Rat.div_def]; exact Rat.mul_pos h r8.2.2
theorem half_two (e:Rat):e / 2+e / 2=e:=by rw [Rat.div_def]; grind
theorem Lq.trans {f g h:Nat→Rat}(a:Lq f g)(b:Lq g h):Lq f h:=fun e he=>by
 obtain ⟨N,p⟩:=a (e / 2) (half_pos he)
 obtain ⟨M,q⟩:=b (e / 2) (half_pos he)
 refine ⟨N+M,fun K hK=>?_⟩
 have x:=p K (by omega)
 have y:=q K (by omega)
 have z:=half_two e
 grind
theorem Lm.trans {f g h:Nat→Rat}(a:Lm f g)(b:Lm g h):Lm f h:=⟨a.1.trans b.1,b.2.trans a.2⟩
theorem Lq.of_le {f g:Nat→Rat}{N:Nat}(h:∀ K,N≤K→f K≤g K):Lq f g:=fun e he=>⟨N,fun K hK=>by have:=h K hK; grind⟩
theorem Lm.of_eq {f g:Nat→Rat}{N:Nat}(h:∀ K,N≤K→f K=g K):Lm f g:=⟨.of_le (N:=N) fun K hK=>by rw [h K hK]; exact Rat.le_refl,.of_le (N:=N) fun K hK=>by rw [h K hK]; exact Rat.le_refl⟩
theorem mul_bd {p x P a:Rat}(h1:-P≤p)(h2:p≤P)(h3:-a≤x)(h4:x≤a):-(P*a)≤p*x∧p*x≤P*a:=by
 have m1:=Rat.mul_nonneg (show 0≤P-p by grind) (show 0≤a+x by grind)
 have m2:=Rat.mul_nonneg (show 0≤P+p by grind) (show 0≤a-x by grind)
 have m3:=Rat.mul_nonneg (show 0≤P+p by grind) (show 0≤a+x by grind)
 have m4:=Rat.mul_nonneg (show 0≤P-p by grind) (show 0≤a-x by grind)
 constructor<;>grind
theorem inv_one {B:Rat}(h:0<B):B⁻¹*B=1:=Rat.inv_mul_cancel _ (by grind)
theorem Bn.pos {f:Nat→Rat}{B:Rat}(h:Bn f B):∃ C,0<C∧Bn f C:=by
 obtain ⟨N,h⟩:=h
 have a:=h N (Nat.le_refl _)
 refine ⟨B+1,by grind,N,fun K hK=>?_⟩
 have b:=h K hK
 constructor<;>grind
theorem Lq.mul_aux {f f' g g':Nat→Rat}{A B:Rat}(h:Lm f f')(k:Lm g g')(hf:Bn f A)(hg:Bn g' B):Lq (fun K=>f K*g K) (fun K=>f' K*g' K):=fun e he=>by
 obtain ⟨A',A0,N1,b1⟩:=hf.pos
 obtain ⟨B',B0,N2,b2⟩:=hg.pos
 have iA:=Rat.inv_pos.2 A0
 have iB:=Rat.inv_pos.2 B0
 have eA:=inv_one A0
 have eB:=inv_one B0
 obtain ⟨N3,c1⟩:=h.1 _ (Rat.mul_pos (half_pos he) iB)
 obtain ⟨N4,c2⟩:=h.2 _ (Rat.mul_pos (half_pos he) iB)
 obtain ⟨N5,c3⟩:=k.1 _ (Rat.mul_pos (half_pos he) iA)
 obtain ⟨N6,c4⟩:=k.2 _ (Rat.mul_pos (half_pos he) iA)
 refine ⟨N1+N2+N3+N4+N5+N6,fun K hK=>?_⟩
 have b1:=b1 K (by omega)
 have b2:=b2 K (by omega)
 have c1:=c1 K (by omega)
 have c2:=c2 K (by omega)
 have c3:=c3 K (by omega)
 have c4:=c4 K (by omega)
 have z:=half_two e
 have m1:=(mul_bd b1.1 b1.2 (x:=g K-g' K) (a:=e / 2*A'⁻¹) (by grind) (by grind)).2
 have m2:=(mul_bd b2.1 b2.2 (x:=f K-f' K) (a:=e / 2*B'⁻¹) (by grind) (by grind)).2
 have q1:A'*(e / 2*A'⁻¹)=e / 2:=by grind
 have q2:B'*(e / 2*B'⁻¹)=e / 2:=by grind
 rw [q1] at m1
 rw [q2] at m2
 show f K*g K≤f' K*g' K+e
 grind
theorem Lm.bn {f g:Nat→Rat}{A:Rat}(h:Lm f g)(b:Bn f A):Bn g (A+1):=by
 obtain ⟨N,b⟩:=b
 obtain ⟨N1,h1⟩:=h.1 1 (by decide)
 obtain ⟨N2,h2⟩:=h.2 1 (by decide)
 refine ⟨N+N1+N2,fun K hK=>?_⟩
 have b:=b K (by omega)
 have h1:=h1 K (by omega)
 have h2:=h2 K (by omega)
 constructor<;>grind
theorem Lm.mul {f f' g g':Nat→Rat}{A B:Rat}(h:Lm f f')(k:Lm g g')(hf:Bn f A)(hg:Bn g B):Lm (fun K=>f K*g K) (fun K=>f' K*g' K) :=
 ⟨Lq.mul_aux h k hf (k.bn hg),Lq.mul_aux h.symm k.symm (h.bn hf) hg⟩
theorem Sm_bd {f g:Nat→Rat}:∀ {n:Nat},(∀ i,i<n→-(g i)≤f i∧f i≤g i)→-(Sm g n)≤Sm f n∧Sm f n≤Sm g n
 | 0,_=>by show -(0:Rat)≤0∧(0:Rat)≤0; constructor<;>decide
 | n+1,h=>by
  have a:=Sm_bd (n:=n) (fun i hi=>h i (by omega))
  have b:=h n (by omega)
  show -(Sm g n+g n)≤Sm f n+f n∧Sm f n+f n≤Sm g n+g n
  constructor<;>grind
theorem tE_bd {x a:Rat}(h1:-a≤x)(h2:x≤a):∀ n,-(tE a n)≤tE x n∧tE x n≤tE a n
 | 0=>by show -(1:Rat)≤1∧(1:Rat)≤1; constructor<;>decide
 | n+1=>by
  have i:=tE_bd h1 h2 n
  have m:=mul_bd i.1 i.2 h1 h2
  have np:=nx_pos n
  have e1:=tE_mul x n
  have e2:=tE_mul a n
  constructor
  ·exact Rat.le_of_mul_le_mul_right (c:=(nx n:Rat)) (by grind) np
  ·exact Rat.le_of_mul_le_mul_right (c:=(nx n:Rat)) (by grind) np
theorem Sm_cm (c:Rat)(f:Nat→Rat)(n:Nat):Sm (fun j=>c*f j) n=c*Sm f n:=by
 rw [Rat.mul_comm,Sm_mul]
 exact Sm_congr fun i _=>Rat.mul_comm _ _
theorem rat_nat (r:Rat):∃ n:Nat,r≤(n:Rat):=by
 refine ⟨r.ceil.toNat,?_⟩
 have a:r≤(r.ceil:Rat):=Rat.le_ceil
 have b:((r.ceil:Int):Rat)≤((r.ceil.toNat:Int):Rat):=Rat.intCast_le_intCast.2 (by omega)
 exact Rat.le_trans a b
theorem two_pow_ge:∀ n:Nat,(n:Rat)≤(2:Rat)^n
 | 0=>by rw [Rat.pow_zero]; decide
 | n+1=>by
  have a:=two_pow_ge n
  have b:=one_pow_le (q:=2) (by decide) n
  rw [Rat.pow_succ,Rat.natCast_add]
  show (n:Rat)+1≤_
  grind
theorem tE_dec {a:Rat}(h0:0≤a){m:Nat}(h:2*a≤(nx m:Rat)):∀ j,tE a (m+j)*(2:Rat)^j≤tE a m
 | 0=>by rw [Rat.pow_zero,Rat.mul_one]; exact Rat.le_refl
 | j+1=>by
  have i:=tE_dec h0 h j
  have t:=tE_half h0 (m:=m+j) (Rat.le_trans h (nx_mono (by omega)))
  have p:(0:Rat)≤(2:Rat)^j:=by have:=one_pow_le (q:=2) (by decide) j; grind
  have m1:=Rat.mul_le_mul_of_nonneg_right t p
  rw [Rat.pow_succ]
  show tE a (m+j+1)*_≤_
  grind
theorem tE_lim {a:Rat}(h0:0≤a){e:Rat}(he:0<e):∃ N,∀ K,N≤K→tE a K≤e∧2*a≤(nx K:Rat):=by
 obtain ⟨m,hm⟩:=rat_nat (2*a)
 have hm':2*a≤(nx m:Rat):=Rat.le_trans hm (Rat.intCast_le_intCast.2 (show (m:Int)≤nx m by unfold nx; omega))
 obtain ⟨j,hj⟩:=rat_nat (tE a m*e⁻¹)
 have ie:=inv_one he
 have i0:=Rat.inv_pos.2 he
 refine ⟨m+j,fun K hK=>⟨?_,Rat.le_trans hm' (nx_mono (by omega))⟩⟩
 obtain ⟨i,rfl⟩:∃ i,K=m+(j+i):=⟨K-m-j,by omega⟩
 have d:=tE_dec h0 hm' (j+i)
 have g:=two_pow_ge (j+i)
 have n1:(j:Rat)≤((j+i:Nat):Rat):=by
  rw [Rat.natCast_add]
  have:(0:Rat)≤(i:Rat):=Rat.natCast_nonneg
  grind
 have p:(1:Rat)≤(2:Rat)^(j+i):=one_pow_le (by decide) _
 refine Rat.le_of_mul_le_mul_right (c:=(2:Rat)^(j+i)) ?_ (by grind)
 have m1:=Rat.mul_le_mul_of_nonneg_left (show tE a m*e⁻¹≤(2:Rat)^(j+i) by grind) (Rat.le_of_lt he)
 have q:e*(tE a m*e⁻¹)=tE a m:=by grind
 rw [q] at m1
 exact Rat.le_trans d m1
theorem EP_cau {a:Rat}(h0:0≤a){e:Rat}(he:0<e):∃ N,∀ K,N≤K→∀ M,EP a M≤EP a K+e:=by
 obtain ⟨N,h⟩:=tE_lim h0 he
 refine ⟨N+1,fun K hK M=>?_⟩
 obtain ⟨n,rfl⟩:∃ n,K=n+1:=⟨K-1,by omega⟩
 have b:=h n (by omega)
 have c:=EP_tail h0 b.2 M
 grind
theorem abs_ex (x:Rat):∃ a,0≤a∧-a≤x∧x≤a:=by
 rcases (Rat.le_total:0≤x∨x≤0) with h | h
 ·exact ⟨x,h,by grind,Rat.le_refl⟩
 ·exact ⟨-x,by grind,by grind,by grind⟩
end Go.Proofs.YtcbihoojfakhdaaGreatDoor



namespace Go.Proofs.YtcbihoojfakhdaaGreatDoor
def EnE (f:Nat→Rat)(s:Nat)(lo hi:Int)(g:Rat):Prop:=∃ N,∀ K,N≤K→(lo:Rat)≤f K*((2^s:Int):Rat)+g∧f K*((2^s:Int):Rat)≤(hi:Rat)+g
theorem EnE.mono {f:Nat→Rat}{s:Nat}{lo hi:Int}{g g':Rat}(h:EnE f s lo hi g)(hg:g≤g'):EnE f s lo hi g':=by
 obtain ⟨N,h⟩:=h
 exact ⟨N,fun K hK=>by have:=h K hK; constructor<;>grind⟩
theorem EnE.near {f f':Nat→Rat}{s:Nat}{lo hi:Int}{g e:Rat}(h:EnE f s lo hi g)(hn:∃ N,∀ K,N≤K→f K≤f' K+e∧f' K≤f K+e):EnE f' s lo hi (g+e*((2^s:Int):Rat)):=by
 obtain ⟨N,h⟩:=h
 obtain ⟨M,hn⟩:=hn
 have P:(0:Rat)<((2^s:Int):Rat):=Rat.intCast_pos.2 (two_pos s)
 refine ⟨N+M,fun K hK=>?_⟩
 have a:=h K (by omega)
 have b:=hn K (by omega)
 have m1:=Rat.mul_le_mul_of_nonneg_right b.1 (Rat.le_of_lt P)
 have m2:=Rat.mul_le_mul_of_nonneg_right b.2 (Rat.le_of_lt P)
 constructor<;>grind
theorem int_gap2 {l h:Int}{X Y:Rat}(h1:(l:Rat)≤X)(h2:Y≤(h:Rat))(g:X<Y+1):l≤h:=by
 refine Decidable.byContradiction fun hn=>?_
 have:((h+1:Int):Rat)≤(l:Rat):=Rat.intCast_le_intCast.2 (by omega)
 rw [Rat.intCast_add,show ((1:Int):Rat)=1 from rfl] at this
 grind
theorem EnE.le {f f':Nat→Rat}{s:Nat}{a b c d:Int}{g g':Rat}(h:EnE f s a b g)(k:EnE f' s c d g')(hl:Lq f f')(hg:g+g'<1):a≤d:=by
 obtain ⟨N,h⟩:=h
 obtain ⟨M,k⟩:=k
 have P:(0:Rat)<((2^s:Int):Rat):=Rat.intCast_pos.2 (two_pos s)
 have i0:=Rat.inv_pos.2 P
 have ie:=inv_one P
 have e0:0<(1-g-g')*(1 / 2):=Rat.mul_pos (by grind) r8.2.1
 obtain ⟨Q,q⟩:=hl ((1-g-g')*(1 / 2)*(((2^s:Int):Rat))⁻¹) (Rat.mul_pos e0 i0)
 have h:=(h (N+M+Q) (by omega)).1
 have k:=(k (N+M+Q) (by omega)).2
 have q:=Rat.mul_le_mul_of_nonneg_right (q (N+M+Q) (by omega)) (Rat.le_of_lt P)
 have z:(1-g-g')*(1 / 2)*(((2^s:Int):Rat))⁻¹*((2^s:Int):Rat)=(1-g-g')*(1 / 2):=by rw [Rat.mul_assoc,ie,Rat.mul_one]
 exact int_gap2 (X:=f (N+M+Q)*((2^s:Int):Rat)+g) (Y:=f' (N+M+Q)*((2^s:Int):Rat)-g') h (by grind) (by grind)
theorem EnE.scale {f:Nat→Rat}{s n:Nat}{a b:Int}{g:Rat}(h:EnE f s a b g):EnE f (s+n) (a*2^n) (b*2^n) (g*((2^n:Int):Rat)):=by
 obtain ⟨N,h⟩:=h
 have P:(0:Rat)<((2^n:Int):Rat):=Rat.intCast_pos.2 (two_pos n)
 refine ⟨N,fun K hK=>?_⟩
 have q:=h K hK
 rw [Int.pow_add,Rat.intCast_mul,Rat.intCast_mul,Rat.intCast_mul]
 have m1:=Rat.mul_le_mul_of_nonneg_right q.1 (Rat.le_of_lt P)
 have m2:=Rat.mul_le_mul_of_nonneg_right q.2 (Rat.le_of_lt P)
 constructor<;>grind
theorem EnE.meet {f:Nat→Rat}{s n:Nat}{a b c d:Int}{g g':Rat}(h:EnE f s a b g)(k:EnE f (s+n) c d g')(hg:g*((2^n:Int):Rat)+g'<1):a*2^n≤d∧c≤b*2^n :=
 ⟨h.scale.le k (Lq.refl f) hg,k.le h.scale (Lq.refl f) (by grind)⟩
end Go.Proofs.YtcbihoojfakhdaaGreatDoor

namespace Go.Proofs.YtcbihoojfakhdaaGreatDoor
def iP:Nat→Rat × Rat
 | 0=>(1,0)
 | n+1=>(-(iP n).2,(iP n).1)
theorem iP_add (a:Nat):∀ b,(iP (a+b)).1=(iP a).1*(iP b).1-(iP a).2*(iP b).2∧(iP (a+b)).2=(iP a).1*(iP b).2+(iP a).2*(iP b).1
 | 0=>by
  show (iP a).1=(iP a).1*1-(iP a).2*0∧(iP a).2=(iP a).1*0+(iP a).2*1
  constructor<;>grind
 | b+1=>by
  have h:=iP_add a b
  have e1:(iP (a+(b+1))).1=-(iP (a+b)).2:=rfl
  have e2:(iP (a+(b+1))).2=(iP (a+b)).1:=rfl
  have e3:(iP (b+1)).1=-(iP b).2:=rfl
  have e4:(iP (b+1)).2=(iP b).1:=rfl
  rw [e1,e2,e3,e4,h.1,h.2]
  constructor<;>grind
theorem iP_bd:∀ n,(-1≤(iP n).1∧(iP n).1≤1)∧(-1≤(iP n).2∧(iP n).2≤1)
 | 0=>by show (-1≤(1:Rat)∧(1:Rat)≤1)∧(-1≤(0:Rat)∧(0:Rat)≤1); decide
 | n+1=>by
  have h:=iP_bd n
  show (-1≤-(iP n).2∧-(iP n).2≤1)∧(-1≤(iP n).1∧(iP n).1≤1)
  refine ⟨⟨by grind,by grind⟩,h.1⟩
def tC (x:Rat)(n:Nat):Rat:=(iP n).1*tE x n
def tS (x:Rat)(n:Nat):Rat:=(iP n).2*tE x n
def CS (x:Rat)(K:Nat):Rat:=Sm (tC x) K
def SN (x:Rat)(K:Nat):Rat:=Sm (tS x) K
theorem one_bd {u t g:Rat}(h:-1≤u∧u≤1)(h1:-g≤t)(h2:t≤g):-g≤u*t∧u*t≤g:=by
 have m:=mul_bd h.1 h.2 h1 h2
 rw [Rat.one_mul] at m; exact m
theorem tC_bd {x a:Rat}(h1:-a≤x)(h2:x≤a)(n:Nat):-(tE a n)≤tC x n∧tC x n≤tE a n:=one_bd (iP_bd n).1 (tE_bd h1 h2 n).1 (tE_bd h1 h2 n).2
theorem tS_bd {x a:Rat}(h1:-a≤x)(h2:x≤a)(n:Nat):-(tE a n)≤tS x n∧tS x n≤tE a n:=one_bd (iP_bd n).2 (tE_bd h1 h2 n).1 (tE_bd h1 h2 n).2
theorem Sm_gap {f g:Nat→Rat}(h:∀ i,-(g i)≤f i∧f i≤g i)(K:Nat):∀ k,-(Sm g (K+k)-Sm g K)≤Sm f (K+k)-Sm f K∧Sm f (K+k)-Sm f K≤Sm g (K+k)-Sm g K
 | 0=>by show -(Sm g K-Sm g K)≤Sm f K-Sm f K∧Sm f K-Sm f K≤Sm g K-Sm g K; constructor<;>grind
 | k+1=>by
  have i:=Sm_gap h K k
  have b:=h (K+k)
  have e1:Sm f (K+(k+1))=Sm f (K+k)+f (K+k):=rfl
  have e2:Sm g (K+(k+1))=Sm g (K+k)+g (K+k):=rfl
  rw [e1,e2]
  constructor<;>grind
def Tri (f g:Nat→Rat)(K:Nat):Rat:=Sm (fun i=>Sm (fun j=>f i*g j) (K-i)) K
theorem Tri_form (f g:Nat→Rat)(K:Nat):Sm f K*Sm g K-Tri f g K=Sm (fun i=>f i*(Sm g K-Sm g (K-i))) K:=by
 have q:Tri f g K=Sm (fun i=>f i*Sm g (K-i)) K:=Sm_congr fun i _=>Sm_cm _ _ _
 have r:Sm (fun i=>f i*Sm g K) K=Sm (fun i=>f i*(Sm g K-Sm g (K-i))) K+Sm (fun i=>f i*Sm g (K-i)) K:=by
  rw [← Sm_add]
  exact Sm_congr fun i _=>by grind
 rw [q,Sm_mul,r]; grind
theorem Tri_bd {f g F G:Nat→Rat}(hf:∀ i,-(F i)≤f i∧f i≤F i)(hg:∀ i,-(G i)≤g i∧g i≤G i)(K:Nat) :
  -(Sm F K*Sm G K-Tri F G K)≤Sm f K*Sm g K-Tri f g K∧Sm f K*Sm g K-Tri f g K≤Sm F K*Sm G K-Tri F G K:=by
 rw [Tri_form,Tri_form]
 refine Sm_bd fun i hi=>?_
 have s:=Sm_gap hg (K-i) i
 rw [show K-i+i=K by omega] at s
 exact mul_bd (hf i).1 (hf i).2 s.1 s.2
theorem Tri_diag (f g:Nat→Rat)(K:Nat):Tri f g K=Sm (fun n=>Sm (fun i=>f i*g (n-i)) (n+1)) K:=(Sm_tri (fun i j=>f i*g j) K).symm
theorem Sm_sub (f g:Nat→Rat):∀ n,Sm (fun i=>f i-g i) n=Sm f n-Sm g n
 | 0=>by show (0:Rat)=0-0; grind
 | n+1=>by
  show Sm (fun i=>f i-g i) n+(f n-g n)=Sm f n+f n-(Sm g n+g n)
  rw [Sm_sub f g n]; grind
theorem Tri_EP (x y:Rat)(K:Nat):Tri (tE x) (tE y) K=EP (x+y) K:=(EP_conv x y K).symm
theorem CS_conv (x y:Rat)(K:Nat):CS (x+y) K=Tri (tC x) (tC y) K-Tri (tS x) (tS y) K:=by
 rw [Tri_diag,Tri_diag,← Sm_sub]
 refine Sm_congr fun n _=>?_
 rw [← Sm_sub]
 unfold tC
 rw [tE_add,← Sm_cm]
 refine Sm_congr fun i hi=>?_
 have a:=(iP_add i (n-i)).1
 rw [show i+(n-i)=n by omega] at a
 rw [a]
 unfold tS
 grind
theorem SN_conv (x y:Rat)(K:Nat):SN (x+y) K=Tri (tC x) (tS y) K+Tri (tS x) (tC y) K:=by
 rw [Tri_diag,Tri_diag,← Sm_add]
 refine Sm_congr fun n _=>?_
 rw [← Sm_add]
 unfold tS
 rw [tE_add,← Sm_cm]
 refine Sm_congr fun i hi=>?_
 have a:=(iP_add i (n-i)).2
 rw [show i+(n-i)=n by omega] at a
 rw [a]
 unfold tC
 grind
theorem gap_lim {a b:Rat}(a0:0≤a)(b0:0≤b){e:Rat}(he:0<e):∃ N,∀ K,N≤K→Sm (tE a) K*Sm (tE b) K-Tri (tE a) (tE b) K≤e:=by
 obtain ⟨N,h⟩:=EP_cau (Rat.add_nonneg a0 b0) he
 refine ⟨N,fun K hK=>?_⟩
 have c:=h K hK (2*K)
 have d:Sm (tE a) K*Sm (tE b) K≤EP (a+b) (2*K):=(EP_mul a0 b0 K).2
 rw [Tri_EP]
 grind
theorem Lm.of_near {f g:Nat→Rat}(h:∀ e:Rat,0<e→∃ N,∀ K,N≤K→f K≤g K+e∧g K≤f K+e):Lm f g :=
 ⟨fun e he=>by obtain ⟨N,h⟩:=h e he; exact ⟨N,fun K hK=>(h K hK).1⟩,fun e he=>by obtain ⟨N,h⟩:=h e he; exact ⟨N,fun K hK=>(h K hK).2⟩⟩
theorem CS_add (x y:Rat):Lm (CS (x+y)) (fun K=>CS x K*CS y K-SN x K*SN y K):=by
 obtain ⟨a,a0,a1,a2⟩:=abs_ex x
 obtain ⟨b,b0,b1,b2⟩:=abs_ex y
 refine Lm.of_near fun e he=>?_
 obtain ⟨N,h⟩:=gap_lim a0 b0 (half_pos he)
 refine ⟨N,fun K hK=>?_⟩
 have c:=h K hK
 have z:=half_two e
 have f1:=Tri_bd (tC_bd a1 a2) (tC_bd b1 b2) K
 have f2:=Tri_bd (tS_bd a1 a2) (tS_bd b1 b2) K
 rw [CS_conv]
 unfold CS SN
 constructor<;>grind
theorem SN_add (x y:Rat):Lm (SN (x+y)) (fun K=>CS x K*SN y K+SN x K*CS y K):=by
 obtain ⟨a,a0,a1,a2⟩:=abs_ex x
 obtain ⟨b,b0,b1,b2⟩:=abs_ex y
 refine Lm.of_near fun e he=>?_
 obtain ⟨N,h⟩:=gap_lim a0 b0 (half_pos he)
 refine ⟨N,fun K hK=>?_⟩
 have c:=h K hK
 have z:=half_two e
 have f1:=Tri_bd (tC_bd a1 a2) (tS_bd b1 b2) K
 have f2:=Tri_bd (tS_bd a1 a2) (tC_bd b1 b2) K
 rw [SN_conv]
 unfold CS SN
 constructor<;>grind
theorem CS_addN (x y:Rat){e:Rat}(he:0<e):∃ N,∀ K,N≤K→(CS (x+y) K≤CS x K*CS y K-SN x K*SN y K+e∧CS x K*CS y K-SN x K*SN y K≤CS (x+y) K+e)∧(SN (x+y) K≤CS x K*SN y K+SN x K*CS y K+e∧CS x K*SN y K+SN x K*CS y K≤SN (x+y) K+e):=by
 obtain ⟨N1,h1⟩:=(CS_add x y).1 e he
 obtain ⟨N2,h2⟩:=(CS_add x y).2 e he
 obtain ⟨N3,h3⟩:=(SN_add x y).1 e he
 obtain ⟨N4,h4⟩:=(SN_add x y).2 e he
 exact ⟨N1+N2+N3+N4,fun K hK=>⟨⟨h1 K (by omega),h2 K (by omega)⟩,h3 K (by omega),h4 K (by omega)⟩⟩
theorem t_neg (x:Rat):∀ n,tC (-x) n=tC x n∧tS (-x) n=-(tS x n)
 | 0=>by
  show (1:Rat)*1=1*1∧(0:Rat)*1=-(0*1)
  constructor<;>grind
 | n+1=>by
  have h:=t_neg x n
  unfold tC tS at h ⊢
  show -(iP n).2*(tE (-x) n*-x / (nx n:Rat))=-(iP n).2*(tE x n*x / (nx n:Rat))∧(iP n).1*(tE (-x) n*-x / (nx n:Rat))=-((iP n).1*(tE x n*x / (nx n:Rat)))
  rw [Rat.div_def,Rat.div_def]
  constructor<;>grind
theorem Sm_opp (f:Nat→Rat):∀ n,Sm (fun i=>-(f i)) n=-(Sm f n)
 | 0=>by show (0:Rat)=-0; grind
 | n+1=>by
  show Sm (fun i=>-(f i)) n+-(f n)=-(Sm f n+f n)
  rw [Sm_opp f n]; grind
theorem CS_neg (x:Rat)(K:Nat):CS (-x) K=CS x K:=Sm_congr fun i _=>(t_neg x i).1
theorem SN_neg (x:Rat)(K:Nat):SN (-x) K=-(SN x K):=by
 unfold SN
 rw [← Sm_opp]
 exact Sm_congr fun i _=>(t_neg x i).2
theorem tE_0 (n:Nat):tE 0 (n+1)=0:=by
 show tE 0 n*0 / (nx n:Rat)=0
 rw [Rat.mul_zero,Rat.div_def,Rat.zero_mul]
theorem CS_zero:∀ K,1≤K→CS 0 K=1∧SN 0 K=0
 | 0,h=>absurd h (by omega)
 | 1,_=>by show (0:Rat)+1*1=1∧(0:Rat)+0*1=0; constructor<;>grind
 | K+2,_=>by
  have a:=CS_zero (K+1) (by omega)
  show CS 0 (K+1)+(iP (K+1)).1*tE 0 (K+1)=1∧SN 0 (K+1)+(iP (K+1)).2*tE 0 (K+1)=0
  rw [a.1,a.2,tE_0]
  constructor<;>grind
theorem CS_sq (x:Rat):Lm (fun K=>CS x K*CS x K+SN x K*SN x K) (fun _=>1):=by
 have h:=CS_add x (-x)
 rw [show x+-x=0 by grind] at h
 refine Lm.trans (Lm.of_eq (N:=0) fun K _=>?_) (h.symm.trans (Lm.of_eq (N:=1) fun K hK=>(CS_zero K hK).1))
 rw [CS_neg,SN_neg]; grind
theorem sq_nn (x:Rat):0≤x*x:=by
 rcases (Rat.le_total:0≤x∨x≤0) with h | h
 ·exact Rat.mul_nonneg h h
 ·have:=Rat.mul_nonneg (show 0≤-x by grind) (show 0≤-x by grind); grind
theorem sq_le1 {x e:Rat}(he:0<e)(h:x*x≤1+e):-(1+e)≤x∧x≤1+e:=by
 constructor
 ·refine Decidable.byContradiction fun hn=>?_
  have m:=Rat.mul_le_mul_of_nonneg_left (show 1+e≤-x by grind) (show 0≤-x by grind)
  have m2:=Rat.mul_le_mul_of_nonneg_right (show 1≤1+e by grind) (show 0≤-x by grind)
  grind
 ·refine Decidable.byContradiction fun hn=>?_
  have m:=Rat.mul_le_mul_of_nonneg_left (show 1+e≤x by grind) (show 0≤x by grind)
  have m2:=Rat.mul_le_mul_of_nonneg_right (show 1≤1+e by grind) (show 0≤x by grind)
  grind
theorem CS_one (x:Rat){e:Rat}(he:0<e):∃ N,∀ K,N≤K→(-(1+e)≤CS x K∧CS x K≤1+e)∧(-(1+e)≤SN x K∧SN x K≤1+e):=by
 obtain ⟨N,h⟩:=(CS_sq x).1 e he
 refine ⟨N,fun K hK=>?_⟩
 have h:CS x K*CS x K+SN x K*SN x K≤1+e:=h K hK
 have a:=sq_nn (CS x K)
 have b:=sq_nn (SN x K)
 exact ⟨sq_le1 he (by grind),sq_le1 he (by grind)⟩
theorem CS_tail {x a:Rat}(a0:0≤a)(h1:-a≤x)(h2:x≤a){n:Nat}(hn:2*a≤(nx n:Rat)){K:Nat}(hK:n+1≤K) :
  (CS x (n+1)-tE a n≤CS x K∧CS x K≤CS x (n+1)+tE a n)∧(SN x (n+1)-tE a n≤SN x K∧SN x K≤SN x (n+1)+tE a n):=by
 have t:=EP_tail a0 hn K
 have g1:=Sm_gap (tC_bd h1 h2) (n+1) (K-(n+1))
 have g2:=Sm_gap (tS_bd h1 h2) (n+1) (K-(n+1))
 rw [show n+1+(K-(n+1))=K by omega] at g1 g2
 unfold EP at t
 unfold CS SN
 refine ⟨⟨?_,?_⟩,⟨?_,?_⟩⟩<;>grind
end Go.Proofs.YtcbihoojfakhdaaGreatDoor

namespace Go.Proofs.YtcbihoojfakhdaaGreatDoor
def ptPi:Int:=8710598741881011095307514925528767253835697869117002946683736815061430642517439960281687965396170617911066893946226934353316672095
def cQ:Rat:=dv ptPi (-431)
theorem CQ_num:(-eps≤CS cQ 96-tE cQ 95∧CS cQ 96+tE cQ 95≤eps)∧(1-eps≤SN cQ 96-tE cQ 95∧SN cQ 96+tE cQ 95≤1+eps) :=
 ⟨⟨of_decide_eq_true (by kernel_rfl),of_decide_eq_true (by kernel_rfl)⟩,of_decide_eq_true (by kernel_rfl),of_decide_eq_true (by kernel_rfl)⟩
theorem cQ_b:157≤100*cQ∧1000*cQ≤1571:=⟨of_decide_eq_true (by kernel_rfl),of_decide_eq_true (by kernel_rfl)⟩
theorem CQ {K:Nat}(hK:96≤K):(-eps≤CS cQ K∧CS cQ K≤eps)∧(-eps≤SN cQ K-1∧SN cQ K-1≤eps):=by
 have b:=cQ_b
 have t:=CS_tail (x:=cQ) (a:=cQ) (by grind) (by grind) Rat.le_refl (n:=95) (Rat.le_trans (show 2*cQ≤96 by grind) (of_decide_eq_true (by kernel_rfl))) hK
 have n:=CQ_num
 refine ⟨⟨?_,?_⟩,⟨?_,?_⟩⟩<;>grind
theorem eps0:0<eps:=of_decide_eq_true (by kernel_rfl)
theorem rotN:∀ n:Nat,∃ N,∀ K,N≤K→(-(6*((n:Rat)*eps))≤CS ((n:Rat)*cQ) K-(iP n).1∧CS ((n:Rat)*cQ) K-(iP n).1≤6*((n:Rat)*eps))∧(-(6*((n:Rat)*eps))≤SN ((n:Rat)*cQ) K-(iP n).2∧SN ((n:Rat)*cQ) K-(iP n).2≤6*((n:Rat)*eps))
 | 0=>by
  refine ⟨1,fun K hK=>?_⟩
  have e:(((0:Nat):Nat):Rat)=0:=rfl
  rw [e,Rat.zero_mul,Rat.zero_mul,(CS_zero K hK).1,(CS_zero K hK).2]
  have e1:(iP 0).1=1:=rfl
  have e2:(iP 0).2=0:=rfl
  rw [e1,e2]
  refine ⟨⟨?_,?_⟩,⟨?_,?_⟩⟩<;>grind
 | n+1=>by
  obtain ⟨N1,h1⟩:=rotN n
  obtain ⟨N2,h2⟩:=CS_one ((n:Rat)*cQ) (e:=1) (by decide)
  have e0:=eps0
  obtain ⟨N3,hh⟩:=CS_addN ((n:Rat)*cQ) cQ e0
  refine ⟨N1+N2+N3+96,fun K hK=>?_⟩
  have h1:=h1 K (by omega)
  have h2:=h2 K (by omega)
  obtain ⟨⟨h3,h4⟩,h5,h6⟩:=hh K (by omega)
  have q:=CQ (K:=K) (by omega)
  have c:((n+1:Nat):Rat)=(n:Rat)+1:=by rw [Rat.natCast_add]; rfl
  have cm:((n:Rat)+1)*cQ=(n:Rat)*cQ+cQ:=by grind
  have e1:(iP (n+1)).1=-(iP n).2:=rfl
  have e2:(iP (n+1)).2=(iP n).1:=rfl
  rw [c,cm,e1,e2]
  have n0:(0:Rat)≤(n:Rat)*eps:=Rat.mul_nonneg Rat.natCast_nonneg (Rat.le_of_lt e0)
  have d:((n:Rat)+1)*eps=(n:Rat)*eps+eps:=by grind
  rw [d]
  generalize (n:Rat)*eps=ne at *
  generalize CS ((n:Rat)*cQ+cQ) K=A' at *
  generalize SN ((n:Rat)*cQ+cQ) K=B' at *
  generalize CS ((n:Rat)*cQ) K=A at *
  generalize SN ((n:Rat)*cQ) K=B at *
  generalize CS cQ K=u at *
  generalize SN cQ K=v at *
  have m1:=mul_bd (P:=2) (a:=eps) (p:=A) (x:=u) (by grind) (by grind) q.1.1 q.1.2
  have m2:=mul_bd (P:=2) (a:=eps) (p:=B) (x:=v-1) (by grind) (by grind) q.2.1 q.2.2
  have m3:=mul_bd (P:=2) (a:=eps) (p:=A) (x:=v-1) (by grind) (by grind) q.2.1 q.2.2
  have m4:=mul_bd (P:=2) (a:=eps) (p:=B) (x:=u) (by grind) (by grind) q.1.1 q.1.2
  have r1:A*u-B*v=A*u-B*(v-1)-B:=by grind
  have r2:A*v+B*u=A*(v-1)+A+B*u:=by grind
  rw [r1] at h3 h4
  rw [r2] at h5 h6
  clear r1 r2 h2 q
  generalize A*u=x1 at *
  generalize B*(v-1)=x2 at *
  generalize A*(v-1)=x3 at *
  generalize B*u=x4 at *
  refine ⟨⟨?_,?_⟩,⟨?_,?_⟩⟩<;>grind
def iZ (k:Int):Rat × Rat:=if k%4=0 then (1,0) else if k%4=1 then (0,1) else if k%4=2 then (-1,0) else (0,-1)
theorem iZ_0 {k:Int}(h:k%4=0):iZ k=(1,0):=by unfold iZ; rw [if_pos h]
theorem iZ_1 {k:Int}(h:k%4=1):iZ k=(0,1):=by unfold iZ; rw [if_neg (by omega),if_pos h]
theorem iZ_2 {k:Int}(h:k%4=2):iZ k=(-1,0):=by unfold iZ; rw [if_neg (by omega),if_neg (by omega),if_pos h]
theorem iZ_3 {k:Int}(h:k%4=3):iZ k=(0,-1):=by unfold iZ; rw [if_neg (by omega),if_neg (by omega),if_neg (by omega)]
theorem r0n:-(0:Rat)=0:=by grind
theorem iP_Z:∀ n:Nat,iP n=iZ (n:Int)
 | 0=>rfl
 | n+1=>by
  have h:=iP_Z n
  have e:iP (n+1)=(-(iP n).2,(iP n).1):=rfl
  rw [e,h]
  have c:((n+1:Nat):Int)=(n:Int)+1:=rfl
  rw [c]
  rcases (show (n:Int)%4=0∨(n:Int)%4=1∨(n:Int)%4=2∨(n:Int)%4=3 by omega) with q | q | q | q
  ·rw [iZ_0 q,iZ_1 (by omega)]; show (-(0:Rat),(1:Rat))=_; rw [r0n]
  ·rw [iZ_1 q,iZ_2 (by omega)]
  ·rw [iZ_2 q,iZ_3 (by omega)]; show (-(0:Rat),(-1:Rat))=_; rw [r0n]
  ·rw [iZ_3 q,iZ_0 (by omega)]; show (-(-1:Rat),(0:Rat))=_; rw [show -(-1:Rat)=1 by grind]
theorem iZ_neg (k:Int):(iZ (-k)).1=(iZ k).1∧(iZ (-k)).2=-(iZ k).2:=by
 rcases (show k%4=0∨k%4=1∨k%4=2∨k%4=3 by omega) with q | q | q | q
 ·rw [iZ_0 q,iZ_0 (by omega)]; exact ⟨rfl,r0n.symm⟩
 ·rw [iZ_1 q,iZ_3 (by omega)]; exact ⟨rfl,rfl⟩
 ·rw [iZ_2 q,iZ_2 (by omega)]; exact ⟨rfl,r0n.symm⟩
 ·rw [iZ_3 q,iZ_1 (by omega)]; exact ⟨rfl,by show (1:Rat)=-(-1:Rat); grind⟩
theorem rotZ (k:Int){M:Nat}(hk:k.natAbs≤M):∃ N,∀ K,N≤K→(-(6*((M:Rat)*eps))≤CS ((k:Rat)*cQ) K-(iZ k).1∧CS ((k:Rat)*cQ) K-(iZ k).1≤6*((M:Rat)*eps))∧(-(6*((M:Rat)*eps))≤SN ((k:Rat)*cQ) K-(iZ k).2∧SN ((k:Rat)*cQ) K-(iZ k).2≤6*((M:Rat)*eps)):=by
 have e0:=Rat.le_of_lt eps0
 rcases (show 0≤k∨k≤0 by omega) with h | h
 ·obtain ⟨n,rfl⟩:∃ n:Nat,k=(n:Int):=⟨k.toNat,by omega⟩
  obtain ⟨N,a⟩:=rotN n
  refine ⟨N,fun K hK=>?_⟩
  have a:=a K hK
  have le:(n:Rat)≤(M:Rat):=Rat.natCast_le_natCast.2 (by omega)
  have m:=Rat.mul_le_mul_of_nonneg_right le e0
  have c:(((n:Int)):Rat)=(n:Rat):=rfl
  rw [c,← iP_Z]
  refine ⟨⟨?_,?_⟩,⟨?_,?_⟩⟩<;>grind
 ·obtain ⟨n,rfl⟩:∃ n:Nat,k=-(n:Int):=⟨(-k).toNat,by omega⟩
  obtain ⟨N,a⟩:=rotN n
  refine ⟨N,fun K hK=>?_⟩
  have a:=a K hK
  have le:(n:Rat)≤(M:Rat):=Rat.natCast_le_natCast.2 (by omega)
  have m:=Rat.mul_le_mul_of_nonneg_right le e0
  have c:((-(n:Int):Int):Rat)*cQ=-((n:Rat)*cQ):=by
   rw [Rat.intCast_neg]
   show -(n:Rat)*cQ=_
   rw [Rat.neg_mul]
  have z:=iZ_neg (n:Int)
  rw [← iP_Z] at z
  rw [c,CS_neg,SN_neg,z.1,z.2]
  refine ⟨⟨?_,?_⟩,⟨?_,?_⟩⟩<;>grind
def qS (k:Int)(c s:Rat):Rat:=s*(iZ k).1+c*(iZ k).2
def qC (k:Int)(c s:Rat):Rat:=c*(iZ k).1-s*(iZ k).2
def qerr (M:Nat):Rat:=25*((M:Rat)*eps)
theorem near_q (d:Rat)(k:Int){M:Nat}(hk:k.natAbs≤M)(hM:1≤M):∃ N,∀ K,N≤K →
  (SN d K≤qS k (CS (d-(k:Rat)*cQ) K) (SN (d-(k:Rat)*cQ) K)+qerr M∧qS k (CS (d-(k:Rat)*cQ) K) (SN (d-(k:Rat)*cQ) K)≤SN d K+qerr M) ∧
  (CS d K≤qC k (CS (d-(k:Rat)*cQ) K) (SN (d-(k:Rat)*cQ) K)+qerr M∧qC k (CS (d-(k:Rat)*cQ) K) (SN (d-(k:Rat)*cQ) K)≤CS d K+qerr M):=by
 have e0:=eps0
 have hd:d-(k:Rat)*cQ+(k:Rat)*cQ=d:=by grind
 obtain ⟨N1,hh⟩:=CS_addN (d-(k:Rat)*cQ) ((k:Rat)*cQ) e0
 rw [hd] at hh
 obtain ⟨N5,h5⟩:=rotZ k hk
 obtain ⟨N6,h6⟩:=CS_one (d-(k:Rat)*cQ) (e:=1) (by decide)
 refine ⟨N1+N5+N6,fun K hK=>?_⟩
 obtain ⟨⟨h1,h2⟩,h3,h4⟩:=hh K (by omega)
 have h5:=h5 K (by omega)
 have h6:=h6 K (by omega)
 have M1:(1:Rat)≤(M:Rat):=Rat.natCast_le_natCast.2 hM
 have me:=Rat.mul_le_mul_of_nonneg_right M1 (Rat.le_of_lt e0)
 unfold qS qC qerr
 generalize (M:Rat)*eps=E at *
 generalize CS (d-(k:Rat)*cQ) K=c at *
 generalize SN (d-(k:Rat)*cQ) K=s at *
 generalize CS ((k:Rat)*cQ) K=u at *
 generalize SN ((k:Rat)*cQ) K=v at *
 generalize (iZ k).1=a at *
 generalize (iZ k).2=b at *
 generalize CS d K=C at *
 generalize SN d K=S at *
 have m1:=mul_bd (P:=2) (a:=6*E) (p:=c) (x:=u-a) (by grind) (by grind) h5.1.1 h5.1.2
 have m2:=mul_bd (P:=2) (a:=6*E) (p:=c) (x:=v-b) (by grind) (by grind) h5.2.1 h5.2.2
 have m3:=mul_bd (P:=2) (a:=6*E) (p:=s) (x:=u-a) (by grind) (by grind) h5.1.1 h5.1.2
 have m4:=mul_bd (P:=2) (a:=6*E) (p:=s) (x:=v-b) (by grind) (by grind) h5.2.1 h5.2.2
 have r1:c*u-s*v=c*(u-a)+c*a-(s*(v-b)+s*b):=by grind
 have r2:c*v+s*u=c*(v-b)+c*b+(s*(u-a)+s*a):=by grind
 rw [r1] at h1 h2
 rw [r2] at h3 h4
 clear r1 r2 h5 h6
 generalize c*(u-a)=x1 at *
 generalize c*(v-b)=x2 at *
 generalize s*(u-a)=x3 at *
 generalize s*(v-b)=x4 at *
 refine ⟨⟨?_,?_⟩,⟨?_,?_⟩⟩<;>grind
theorem SN_small {u:Rat}(h0:0≤u)(h1:u≤1){K:Nat}(hK:4≤K):0≤SN u K∧SN u K≤u:=by
 have t:=(CS_tail (x:=u) (a:=u) h0 (by grind) Rat.le_refl (n:=3) (Rat.le_trans (show 2*u≤4 by grind) (of_decide_eq_true (by kernel_rfl))) hK).2
 have e1:=tE_mul u 0
 have e2:=tE_mul u 1
 have e3:=tE_mul u 2
 have z0:tE u 0=1:=rfl
 have c0:(nx 0:Rat)=1:=rfl
 have c1:(nx 1:Rat)=2:=rfl
 have c2:(nx 2:Rat)=3:=rfl
 have s:SN u (3+1)=0+0*tE u 0+1*tE u 1+-0*tE u 2+-1*tE u 3:=rfl
 rw [s] at t
 rw [z0,c0] at e1
 rw [c1] at e2
 rw [c2] at e3
 have t1:tE u 1=u:=by grind
 rw [t1] at e2 t
 have m:=Rat.mul_le_mul_of_nonneg_left h1 h0
 have m2:=Rat.mul_le_mul_of_nonneg_left (show u*u≤1 by grind) h0
 have t3:6*tE u 3=u*(u*u):=by grind
 have p3:=tE_nonneg h0 3
 constructor<;>grind
theorem CS_small {u:Rat}(h0:0≤u)(h1:u≤1){K:Nat}(hK:3≤K):1-u*u≤CS u K∧CS u K≤1:=by
 have t:=(CS_tail (x:=u) (a:=u) h0 (by grind) Rat.le_refl (n:=2) (Rat.le_trans (show 2*u≤3 by grind) (of_decide_eq_true (by kernel_rfl))) hK).1
 have e1:=tE_mul u 0
 have e2:=tE_mul u 1
 have z0:tE u 0=1:=rfl
 have c0:(nx 0:Rat)=1:=rfl
 have c1:(nx 1:Rat)=2:=rfl
 have s:CS u (2+1)=0+1*tE u 0+-0*tE u 1+-1*tE u 2:=rfl
 rw [s] at t
 rw [z0,c0] at e1
 rw [c1] at e2
 rw [z0] at t
 have t1:tE u 1=u:=by grind
 rw [t1] at e2 t
 constructor<;>grind
theorem lip {x h:Rat}(h0:0≤h)(h2:h≤2){e:Rat}(he:0<e):∃ N,∀ K,N≤K →
  (-(h+e)≤SN (x+h) K-SN x K∧SN (x+h) K-SN x K≤h+e)∧(-(h+e)≤CS (x+h) K-CS x K∧CS (x+h) K-CS x K≤h+e):=by
 have hh:=half_two h
 have hp:h / 2+h / 2=h:=hh
 generalize hu:h / 2=u at *
 have e8:0<e*(1 / 8):=Rat.mul_pos he r8.1
 obtain ⟨N1,p1⟩:=CS_addN (x+u) u e8
 obtain ⟨N2,p2⟩:=CS_addN (x+u) (-u) e8
 rw [show x+u+u=x+h by grind] at p1
 rw [show x+u+-u=x by grind] at p2
 obtain ⟨N9,a9⟩:=CS_one (x+u) e8
 refine ⟨N1+N2+N9+4,fun K hK=>?_⟩
 obtain ⟨⟨a5,a6⟩,a1,a2⟩:=p1 K (by omega)
 obtain ⟨⟨a7,a8⟩,a3,a4⟩:=p2 K (by omega)
 have a9:=a9 K (by omega)
 have b:=SN_small (u:=u) (by grind) (by grind) (K:=K) (by omega)
 rw [CS_neg,SN_neg] at a3 a4 a7 a8
 have he8:e=8*(e*(1 / 8)):=by grind
 generalize e*(1 / 8)=d at *
 generalize CS (x+u) K=c at *
 generalize SN (x+u) K=s at *
 generalize CS u K=p at *
 generalize SN u K=q at *
 have m1:=mul_bd (P:=1+d) (a:=u) (p:=c) (x:=q) a9.1.1 a9.1.2 (by grind) b.2
 have m2:=mul_bd (P:=1+d) (a:=u) (p:=s) (x:=q) a9.2.1 a9.2.2 (by grind) b.2
 have u1:u≤1:=by grind
 have m3:=Rat.mul_le_mul_of_nonneg_left u1 (Rat.le_of_lt e8)
 have r:(1+d)*u=u+d*u:=by grind
 rw [r] at m1 m2
 rw [Rat.mul_neg] at a3 a4 a7 a8
 clear a9 b
 generalize c*q=x1 at *
 generalize s*q=x2 at *
 generalize s*p=x3 at *
 generalize c*p=x4 at *
 generalize d*u=x5 at *
 refine ⟨⟨?_,?_⟩,⟨?_,?_⟩⟩<;>grind
end Go.Proofs.YtcbihoojfakhdaaGreatDoor

namespace Go.Proofs.YtcbihoojfakhdaaGreatDoor
theorem fl2' {A T n:Int}(hT:0<T)(hn:0<n):A / T / n*(T*n)≤A:=by
 rw [Int.ediv_ediv_of_nonneg (Int.le_of_lt hT)]
 have p:=Int.mul_pos hT hn
 exact Int.ediv_mul_le _ (by omega)
theorem ce2' {B T n:Int}(hT:0<T)(hn:0<n):B≤-(-(-(-B / T)) / n)*(T*n):=by
 have f:=fl2' (A:=-B) hT hn
 rw [Int.neg_neg]
 generalize -B / T / n=g at *
 have e1:-g*(T*n)=-(g*(T*n)):=Int.neg_mul _ _
 omega
def mT (i j:Nat):Int:=(((i+2*j:Nat):Int)+1)*(((i+2*j:Nat):Int)+2)
theorem mT_ge (i j:Nat):2≤mT i j:=by
 unfold mT
 have:=Int.mul_le_mul (show (1:Int)≤((i+2*j:Nat):Int)+1 by omega) (show (2:Int)≤((i+2*j:Nat):Int)+2 by omega) (by omega) (by omega)
 omega
theorem mT_le {i j:Nat}(hi:i≤1)(hj:j≤10000):mT i j<4294967296:=by
 unfold mT
 have:=Int.mul_le_mul (show ((i+2*j:Nat):Int)+1≤20002 by omega) (show ((i+2*j:Nat):Int)+2≤20003 by omega) (by omega) (by omega)
 omega
def ty (T q1 q2 a b:Int)(i:Nat):Nat→Int × Int
 | 0=>(a,b)
 | j+1=>(ptLo ((ty T q1 q2 a b i j).1*q1 / T) (mT i j),ptHi (-(-((ty T q1 q2 a b i j).2*q2) / T)) (mT i j))
structure TyH (T q1 q2 a b:Int):Prop where
 hT:16≤T
 q0:0≤q1
 q12:q1≤q2
 qT:q2≤T
 qw:q2-q1≤1
 a0:0≤a
 ab:a≤b
 bT:b≤T
 aw:b-a≤1
theorem ty_step {T q1 q2 p1 p2 m:Int}(hT:16≤T)(q0:0≤q1)(q12:q1≤q2)(qT:q2≤T)(qw:q2-q1≤1)(m2:2≤m)(p0:0≤p1)(p12:p1≤p2)(pT:p2≤T)(pw:p2-p1≤8) :
  (0≤p1*q1 / T∧p1*q1 / T≤T)∧(0≤-(-(p2*q2) / T)∧-(-(p2*q2) / T)≤T)∧0≤ptLo (p1*q1 / T) m∧ptLo (p1*q1 / T) m≤ptHi (-(-(p2*q2) / T)) m∧ptHi (-(-(p2*q2) / T)) m≤T ∧
  ptHi (-(-(p2*q2) / T)) m-ptLo (p1*q1 / T) m≤8∧2*ptHi (-(-(p2*q2) / T)) m≤p2+1∧ptLo (p1*q1 / T) m*(T*m)≤p1*q1∧p2*q2≤ptHi (-(-(p2*q2) / T)) m*(T*m):=by
 have T0:0<T:=by omega
 have m0:0<m:=by omega
 have A0:=Int.mul_nonneg p0 q0
 have B0:=Int.mul_nonneg (show 0≤p2 by omega) (show 0≤q2 by omega)
 have k1:=Int.mul_le_mul_of_nonneg_right pw (show 0≤q2 by omega)
 have k2:=Int.mul_le_mul_of_nonneg_left qw p0
 have k3:=Int.mul_le_mul_of_nonneg_left qT (show 0≤p2 by omega)
 have k4:=Int.mul_le_mul_of_nonneg_right p12 q0
 have k5:=Int.mul_le_mul_of_nonneg_left q12 (show 0≤p2 by omega)
 rw [Int.sub_mul] at k1
 rw [Int.mul_sub,Int.mul_one] at k2
 have e1:p1*q1≤p2*q2:=Int.le_trans k4 k5
 have e2:p2*q2-p1*q1≤9*T:=by omega
 have f0:0≤p1*q1 / T:=Int.ediv_nonneg A0 (Int.le_of_lt T0)
 have c0:0≤-(-(p2*q2) / T):=by have:=Int.ediv_le_ediv T0 (show -(p2*q2)≤0 by omega); rw [Int.zero_ediv] at this; omega
 rw [ptLo_eq f0 m0,ptHi_eq c0 m0]
 have g1:=fl2' (A:=p1*q1) T0 m0
 have g2:=ce2' (B:=p2*q2) T0 m0
 clear k1 k2 k4 k5
 have a1:=Int.ediv_mul_le (p1*q1) (show T≠0 by omega)
 have a2:=Int.lt_ediv_add_one_mul_self (p1*q1) T0
 have b1:=Int.ediv_mul_le (-(p2*q2)) (show T≠0 by omega)
 have b2:=Int.lt_ediv_add_one_mul_self (-(p2*q2)) T0
 generalize hP1:p1*q1 / T=P1 at *
 generalize hP2:-(p2*q2) / T=P2 at *
 -- P2 is the negative of the ceiling
 have u1:-P2≤p2:=by
  refine Decidable.byContradiction fun hn=>?_
  have m:=Int.mul_le_mul_of_nonneg_right (show P2+1≤-p2 by omega) (Int.le_of_lt T0)
  rw [Int.neg_mul] at m
  omega
 have u2:P1≤-P2:=by
  refine Decidable.byContradiction fun hn=>?_
  have m:=Int.mul_le_mul_of_nonneg_right (show 1≤P1+P2 by omega) (Int.le_of_lt T0)
  rw [Int.add_mul] at m
  omega
 have u3:-P2-P1≤10:=by
  refine Decidable.byContradiction fun hn=>?_
  have m:=Int.mul_le_mul_of_nonneg_right (show P1+1+(P2+1)≤-9 by omega) (Int.le_of_lt T0)
  rw [Int.add_mul] at m
  omega
 have z1:=Int.ediv_mul_le P1 (show m≠0 by omega)
 have z2:=Int.lt_ediv_add_one_mul_self P1 m0
 have y1:=Int.ediv_mul_le (- -P2) (show m≠0 by omega)
 have y2:=Int.lt_ediv_add_one_mul_self (- -P2) m0
 have x0:0≤P1 / m:=Int.ediv_nonneg f0 (by omega)
 generalize P1 / m=d1 at *
 generalize - -P2 / m=d2 at *
 clear a1 a2 b1 b2
 have w1:d1≤-d2:=by
  refine Decidable.byContradiction fun hn=>?_
  have k:=Int.mul_le_mul_of_nonneg_right (show 1≤d1+d2 by omega) (Int.le_of_lt m0)
  rw [Int.add_mul] at k
  omega
 have w2:-d2-d1≤8:=by
  refine Decidable.byContradiction fun hn=>?_
  have k:=Int.mul_le_mul_of_nonneg_right (show d1+1+(d2+1)≤-7 by omega) (Int.le_of_lt m0)
  rw [Int.add_mul] at k
  omega
 have w3:2*-d2≤p2+1:=by
  by_cases h:-d2≤0
  ·omega
  ·have k:=Int.mul_le_mul_of_nonneg_left m2 (show 0≤-d2-1 by omega)
   have k':(-d2-1)*m=-((d2+1)*m):=by rw [← Int.neg_mul]; congr 1; omega
   omega
 refine ⟨⟨f0,by omega⟩,⟨c0,by omega⟩,x0,w1,by omega,w2,w3,g1,g2⟩
theorem ty_facts {T q1 q2 a b:Int}(h:TyH T q1 q2 a b)(i:Nat):∀ j,0≤(ty T q1 q2 a b i j).1∧(ty T q1 q2 a b i j).1≤(ty T q1 q2 a b i j).2∧(ty T q1 q2 a b i j).2≤T∧(ty T q1 q2 a b i j).2-(ty T q1 q2 a b i j).1≤8
 | 0=>by
  have:=h.aw
  exact ⟨h.a0,h.ab,h.bT,show b-a≤8 by omega⟩
 | j+1=>by
  obtain ⟨a1,a2,a3,a4⟩:=ty_facts h i j
  have s:=ty_step h.hT h.q0 h.q12 h.qT h.qw (mT_ge i j) a1 a2 a3 a4
  exact ⟨s.2.2.1,s.2.2.2.1,s.2.2.2.2.1,s.2.2.2.2.2.1⟩
theorem ty_next {T q1 q2 a b:Int}(h:TyH T q1 q2 a b)(i j:Nat) :
  (0≤(ty T q1 q2 a b i j).1*q1 / T∧(ty T q1 q2 a b i j).1*q1 / T≤T)∧(0≤-(-((ty T q1 q2 a b i j).2*q2) / T)∧-(-((ty T q1 q2 a b i j).2*q2) / T)≤T) ∧
  2*(ty T q1 q2 a b i (j+1)).2≤(ty T q1 q2 a b i j).2+1∧(ty T q1 q2 a b i (j+1)).1*(T*mT i j)≤(ty T q1 q2 a b i j).1*q1∧(ty T q1 q2 a b i j).2*q2≤(ty T q1 q2 a b i (j+1)).2*(T*mT i j):=by
 obtain ⟨a1,a2,a3,a4⟩:=ty_facts h i j
 have s:=ty_step h.hT h.q0 h.q12 h.qT h.qw (mT_ge i j) a1 a2 a3 a4
 exact ⟨s.1,s.2.1,s.2.2.2.2.2.2.1,s.2.2.2.2.2.2.2.1,s.2.2.2.2.2.2.2.2⟩
theorem ty_end {t:Nat}{q1 q2 a b:Int}(h:TyH (2^t) q1 q2 a b)(i:Nat):∃ n,n≤t∧(ty (2^t) q1 q2 a b i n).2<8∧∀ j,j<n→¬ (ty (2^t) q1 q2 a b i j).2<8:=by
 have dec:∀ j,j≤t→(ty (2^t) q1 q2 a b i j).2≤2^(t-j)+1:=by
  intro j
  induction j with
  | zero =>
   intro _
   have:=h.bT
   show b≤2^(t-0)+1
   rw [Nat.sub_zero]; omega
  | succ j ih =>
   intro hj
   have a:=ih (by omega)
   have n:=(ty_next h i j).2.2.1
   have p:(2:Int)^(t-j)=2*2^(t-(j+1)):=by rw [show t-j=(t-(j+1))+1 by omega,Int.pow_succ,Int.mul_comm]
   omega
 have e:=dec t (Nat.le_refl _)
 rw [Nat.sub_self] at e
 have e2:(2:Int)^0=1:=rfl
 obtain ⟨n,n1,n2,n3⟩:=least (P:=fun j=>(ty (2^t) q1 q2 a b i j).2<8) (n:=t) (by rw [e2] at e; omega)
 exact ⟨n,n1,n2,n3⟩
theorem ty_enc {T q1 q2 a b:Int}(h:TyH T q1 q2 a b){i:Nat}{X:Rat}(hq1:(q1:Rat)≤X*X*(T:Rat))(hq2:X*X*(T:Rat)≤(q2:Rat))(ha:(a:Rat)≤tE X i*(T:Rat))(hb:tE X i*(T:Rat)≤(b:Rat)) :
  ∀ j,(((ty T q1 q2 a b i j).1:Int):Rat)≤tE X (i+2*j)*(T:Rat)∧tE X (i+2*j)*(T:Rat)≤(((ty T q1 q2 a b i j).2:Int):Rat)
 | 0=>⟨ha,hb⟩
 | j+1=>by
  have p:=ty_enc h hq1 hq2 ha hb j
  obtain ⟨f1,f2,f3,f4⟩:=ty_facts h i j
  obtain ⟨_,_,_,n1,n2⟩:=ty_next h i j
  have T0:(0:Rat)<(T:Rat):=Rat.intCast_pos.2 (by have:=h.hT; omega)
  have m0:(0:Rat)<(mT i j:Rat):=Rat.intCast_pos.2 (by have:=mT_ge i j; omega)
  have t1:=tE_mul X (i+2*j)
  have t2:=tE_mul X (i+2*j+1)
  have me:(mT i j:Rat)=(nx (i+2*j):Rat)*(nx (i+2*j+1):Rat):=by
   unfold mT nx
   rw [Rat.intCast_mul]
   congr 2
  have key:tE X (i+2*(j+1))*(mT i j:Rat)=tE X (i+2*j)*(X*X):=by
   rw [me,show i+2*(j+1)=i+2*j+1+1 by omega]
   grind
  have n1:=Rat.intCast_le_intCast.2 n1
  have n2:=Rat.intCast_le_intCast.2 n2
  simp only [Rat.intCast_mul] at n1 n2
  have f1:(0:Rat)≤(((ty T q1 q2 a b i j).1:Int):Rat):=Rat.intCast_nonneg.2 f1
  have f2:(0:Rat)≤(((ty T q1 q2 a b i j).2:Int):Rat):=Rat.intCast_nonneg.2 (by omega)
  have q0:(0:Rat)≤(q1:Rat):=Rat.intCast_nonneg.2 h.q0
  have q0':(0:Rat)≤X*X*(T:Rat):=Rat.le_trans q0 hq1
  have Tm:=Rat.mul_pos T0 m0
  have m1:=Rat.mul_le_mul_of_nonneg_left hq1 f1
  have m2:=Rat.mul_le_mul_of_nonneg_right p.1 q0'
  have m3:=Rat.mul_le_mul_of_nonneg_left hq2 f2
  have m4:=Rat.mul_le_mul_of_nonneg_right p.2 q0'
  have e:tE X (i+2*(j+1))*(T:Rat)*((T:Rat)*(mT i j:Rat))=tE X (i+2*j)*(T:Rat)*(X*X*(T:Rat)):=by
   have:tE X (i+2*(j+1))*(T:Rat)*((T:Rat)*(mT i j:Rat))=tE X (i+2*(j+1))*(mT i j:Rat)*((T:Rat)*(T:Rat)):=by grind
   rw [this,key]; grind
  constructor
  ·refine Rat.le_of_mul_le_mul_right (c:=(T:Rat)*(mT i j:Rat)) ?_ Tm
   rw [e]; exact Rat.le_trans n1 (Rat.le_trans m1 m2)
  ·refine Rat.le_of_mul_le_mul_right (c:=(T:Rat)*(mT i j:Rat)) ?_ Tm
   rw [e]; exact Rat.le_trans m4 (Rat.le_trans m3 n2)
def tyA (p1 p2:Nat→Int):Nat→Int
 | 0=>p1 0
 | j+1=>if j%2=0 then tyA p1 p2 j+-(p2 (j+1)) else tyA p1 p2 j+p1 (j+1)
def tyB (p1 p2:Nat→Int):Nat→Int
 | 0=>p2 0
 | j+1=>if j%2=0 then tyB p1 p2 j+-(p1 (j+1)) else tyB p1 p2 j+p2 (j+1)
def aS (t:Nat→Rat):Nat→Rat
 | 0=>t 0
 | j+1=>if j%2=0 then aS t j-t (j+1) else aS t j+t (j+1)
theorem tyS_enc {p1 p2:Nat→Int}{t:Nat→Rat}{T:Rat}(h:∀ j,(p1 j:Rat)≤t j*T∧t j*T≤(p2 j:Rat)):∀ j,((tyA p1 p2 j:Int):Rat)≤aS t j*T∧aS t j*T≤((tyB p1 p2 j:Int):Rat)
 | 0=>h 0
 | j+1=>by
  have a:=tyS_enc h j
  have b:=h (j+1)
  unfold tyA tyB aS
  by_cases q:j%2=0
  ·rw [if_pos q,if_pos q,if_pos q,Rat.intCast_add,Rat.intCast_add,Rat.intCast_neg,Rat.intCast_neg]
   constructor<;>grind
  ·rw [if_neg q,if_neg q,if_neg q,Rat.intCast_add,Rat.intCast_add]
   constructor<;>grind
theorem tyS_bd {p1 p2:Nat→Int}{T:Int}(h:∀ j,0≤p1 j∧p1 j≤p2 j∧p2 j≤T∧p2 j-p1 j≤8):∀ j:Nat,((-(((j:Int)+1)*T)≤tyA p1 p2 j∧tyA p1 p2 j≤((j:Int)+1)*T)∧-(((j:Int)+1)*T)≤tyB p1 p2 j∧tyB p1 p2 j≤((j:Int)+1)*T)∧tyA p1 p2 j≤tyB p1 p2 j∧tyB p1 p2 j-tyA p1 p2 j≤8*((j:Int)+1)
 | 0=>by
  have a:=h 0
  show ((-(((0:Int)+1)*T)≤p1 0∧p1 0≤((0:Int)+1)*T)∧-(((0:Int)+1)*T)≤p2 0∧p2 0≤((0:Int)+1)*T)∧p1 0≤p2 0∧p2 0-p1 0≤8*((0:Int)+1)
  omega
 | j+1=>by
  have a:=tyS_bd h j
  have b:=h (j+1)
  have e:(((j+1:Nat):Int)+1)*T=((j:Int)+1)*T+T:=by
   rw [show ((j+1:Nat):Int)=(j:Int)+1 from rfl,Int.add_mul _ 1 T,Int.one_mul]
  rw [e]
  have e2:((j+1:Nat):Int)=(j:Int)+1:=rfl
  unfold tyA tyB
  by_cases q:j%2=0
  ·rw [if_pos q,if_pos q,e2]; omega
  ·rw [if_neg q,if_neg q,e2]; omega
def sg (l:Nat):Rat:=if l%2=0 then 1 else -1
theorem sg_succ (l:Nat):sg (l+1)=-(sg l):=by
 unfold sg
 by_cases h:l%2=0
 ·rw [if_pos h,if_neg (by omega)]
 ·rw [if_neg h,if_pos (by omega)]; grind
theorem iP_even:∀ l,(iP (2*l)).1=sg l∧(iP (2*l)).2=0
 | 0=>⟨rfl,rfl⟩
 | l+1=>by
  have h:=iP_even l
  have e1:(iP (2*(l+1))).1=-(iP (2*l)).1:=rfl
  have e2:(iP (2*(l+1))).2=-(iP (2*l)).2:=rfl
  rw [e1,e2,h.1,h.2,sg_succ]
  exact ⟨rfl,r0n⟩
theorem iP_odd (l:Nat):(iP (2*l+1)).1=0∧(iP (2*l+1)).2=sg l:=by
 have h:=iP_even l
 have e1:(iP (2*l+1)).1=-(iP (2*l)).2:=rfl
 have e2:(iP (2*l+1)).2=(iP (2*l)).1:=rfl
 rw [e1,e2,h.1,h.2]
 exact ⟨r0n,rfl⟩
theorem aS_CS (X:Rat):∀ j,aS (fun l=>tE X (0+2*l)) j=CS X (2*j+1)
 | 0=>by
  show tE X 0=0+1*tE X 0
  grind
 | j+1=>by
  have h:=aS_CS X j
  have e:CS X (2*(j+1)+1)=CS X (2*j+1)+(iP (2*j+1)).1*tE X (2*j+1)+(iP (2*(j+1))).1*tE X (2*(j+1)):=rfl
  rw [e,(iP_odd j).1,(iP_even (j+1)).1,sg_succ,← h]
  unfold sg
  show (if j%2=0 then aS (fun l=>tE X (0+2*l)) j-tE X (0+2*(j+1)) else aS (fun l=>tE X (0+2*l)) j+tE X (0+2*(j+1)))=_
  rw [show 0+2*(j+1)=2*(j+1) by omega]
  by_cases q:j%2=0
  ·rw [if_pos q,if_pos q]; grind
  ·rw [if_neg q,if_neg q]; grind
theorem aS_SN (X:Rat):∀ j,aS (fun l=>tE X (1+2*l)) j=SN X (2*j+2)
 | 0=>by
  show tE X 1=0+0*tE X 0+1*tE X 1
  grind
 | j+1=>by
  have h:=aS_SN X j
  have e:SN X (2*(j+1)+2)=SN X (2*j+2)+(iP (2*(j+1))).2*tE X (2*(j+1))+(iP (2*(j+1)+1)).2*tE X (2*(j+1)+1):=rfl
  rw [e,(iP_odd (j+1)).2,(iP_even (j+1)).2,sg_succ,← h]
  unfold sg
  show (if j%2=0 then aS (fun l=>tE X (1+2*l)) j-tE X (1+2*(j+1)) else aS (fun l=>tE X (1+2*l)) j+tE X (1+2*(j+1)))=_
  rw [show 1+2*(j+1)=2*(j+1)+1 by omega]
  by_cases q:j%2=0
  ·rw [if_pos q,if_pos q]; grind
  ·rw [if_neg q,if_neg q]; grind
theorem ty_CS {T q1 q2:Int}(h:TyH T q1 q2 T T){X:Rat}(X0:0≤X)(X1:X≤1)(hq1:(q1:Rat)≤X*X*(T:Rat))(hq2:X*X*(T:Rat)≤(q2:Rat)){n:Nat}(hn:1≤n){K:Nat}(hK:2*n+1≤K) :
  ((tyA (fun j=>(ty T q1 q2 T T 0 j).1) (fun j=>(ty T q1 q2 T T 0 j).2) n-(ty T q1 q2 T T 0 n).2:Int):Rat)≤CS X K*(T:Rat)∧CS X K*(T:Rat)≤((tyB (fun j=>(ty T q1 q2 T T 0 j).1) (fun j=>(ty T q1 q2 T T 0 j).2) n+(ty T q1 q2 T T 0 n).2:Int):Rat):=by
 have T0:(0:Rat)<(T:Rat):=Rat.intCast_pos.2 (by have:=h.hT; omega)
 have one:tE X 0=1:=rfl
 have e:=ty_enc h (i:=0) hq1 hq2 (by rw [one,Rat.one_mul]; exact Rat.le_refl) (by rw [one,Rat.one_mul]; exact Rat.le_refl)
 have s:=tyS_enc e n
 rw [aS_CS] at s
 have en:=(e n).2
 rw [show 0+2*n=2*n by omega] at en
 have t:=(CS_tail (x:=X) (a:=X) X0 (by grind) Rat.le_refl (n:=2*n) (Rat.le_trans (show 2*X≤2 by grind) (show (2:Rat)≤(nx (2*n):Rat) from nx_mono (a:=1) (by omega))) hK).1
 have m1:=Rat.mul_le_mul_of_nonneg_right t.1 (Rat.le_of_lt T0)
 have m2:=Rat.mul_le_mul_of_nonneg_right t.2 (Rat.le_of_lt T0)
 rw [Rat.intCast_sub,Rat.intCast_add]
 constructor<;>grind
theorem ty_SN {T q1 q2 x:Int}(h:TyH T q1 q2 x x){X:Rat}(X0:0≤X)(X1:X≤1)(hx:(x:Rat)=X*(T:Rat))(hq1:(q1:Rat)≤X*X*(T:Rat))(hq2:X*X*(T:Rat)≤(q2:Rat)){n:Nat}{K:Nat}(hK:2*n+2≤K) :
  ((tyA (fun j=>(ty T q1 q2 x x 1 j).1) (fun j=>(ty T q1 q2 x x 1 j).2) n-(ty T q1 q2 x x 1 n).2:Int):Rat)≤SN X K*(T:Rat)∧SN X K*(T:Rat)≤((tyB (fun j=>(ty T q1 q2 x x 1 j).1) (fun j=>(ty T q1 q2 x x 1 j).2) n+(ty T q1 q2 x x 1 n).2:Int):Rat):=by
 have T0:(0:Rat)<(T:Rat):=Rat.intCast_pos.2 (by have:=h.hT; omega)
 have t1:tE X 1=X:=by
  have a:=tE_mul X 0
  have c0:(nx 0:Rat)=1:=rfl
  have z0:tE X 0=1:=rfl
  rw [c0,z0] at a
  grind
 have e:=ty_enc h (i:=1) hq1 hq2 (by rw [t1,hx]; exact Rat.le_refl) (by rw [t1,hx]; exact Rat.le_refl)
 have s:=tyS_enc e n
 rw [aS_SN] at s
 have en:=(e n).2
 rw [show 1+2*n=2*n+1 by omega] at en
 have t:=(CS_tail (x:=X) (a:=X) X0 (by grind) Rat.le_refl (n:=2*n+1) (Rat.le_trans (show 2*X≤2 by grind) (show (2:Rat)≤(nx (2*n+1):Rat) from nx_mono (a:=1) (by omega))) hK).2
 have m1:=Rat.mul_le_mul_of_nonneg_right t.1 (Rat.le_of_lt T0)
 have m2:=Rat.mul_le_mul_of_nonneg_right t.2 (Rat.le_of_lt T0)
 rw [Rat.intCast_sub,Rat.intCast_add]
 constructor<;>grind
end Go.Proofs.YtcbihoojfakhdaaGreatDoor

namespace Go.Proofs.YtcbihoojfakhdaaGreatDoor
open Go.RowKit
set_option maxRecDepth 100000
set_option maxHeartbeats 2000000
def fx_tay_0_mk (_ _:Nat)(q1 q2 sc:Int)(pp1 pp2 _ _:Nat→Int)(x:(Nat × Int)⊕(Nat × Int)):St:=Sum.elim (fun (x:Nat × Int)=>⟨mkS 40 [(2,(.val (.int .u32 x.2))),(3,(.val (.int .i64 sc))),(4,(.own 0 0)),(5,(.own 1 0)),(8,(.own 2 0)),(9,(.own 3 0)),(10,(.val (.bool true)))],[⟨true,false,[(V.bool (decide ((pp1 (2*x.1))<0))),(N ((pp1 (2*x.1)).natAbs)),(V.bool (decide ((pp2 (2*x.1))<0))),(N ((pp2 (2*x.1)).natAbs))]⟩,⟨true,false,[(V.bool (decide (q1<0))),(N q1.natAbs),(V.bool (decide (q2<0))),(N q2.natAbs)]⟩,⟨true,false,[(V.bool false),V.nil,(V.bool false),V.nil]⟩,⟨true,false,[(V.bool (decide ((tyA pp1 pp2 (2*x.1))<0))),(N ((tyA pp1 pp2 (2*x.1)).natAbs)),(V.bool (decide ((tyB pp1 pp2 (2*x.1))<0))),(N ((tyB pp1 pp2 (2*x.1)).natAbs))]⟩]⟩) (fun (x:Nat × Int)=>⟨mkS 40 [(2,(.val (.int .u32 x.2))),(3,(.val (.int .i64 sc))),(4,(.own 0 0)),(5,(.own 1 0)),(8,(.own 2 0)),(9,(.own 3 0)),(10,(.val (.bool false)))],[⟨true,false,[(V.bool (decide ((pp1 (2*x.1+1))<0))),(N ((pp1 (2*x.1+1)).natAbs)),(V.bool (decide ((pp2 (2*x.1+1))<0))),(N ((pp2 (2*x.1+1)).natAbs))]⟩,⟨true,false,[(V.bool (decide (q1<0))),(N q1.natAbs),(V.bool (decide (q2<0))),(N q2.natAbs)]⟩,⟨true,false,[(V.bool false),V.nil,(V.bool false),V.nil]⟩,⟨true,false,[(V.bool (decide ((tyA pp1 pp2 (2*x.1+1))<0))),(N ((tyA pp1 pp2 (2*x.1+1)).natAbs)),(V.bool (decide ((tyB pp1 pp2 (2*x.1+1))<0))),(N ((tyB pp1 pp2 (2*x.1+1)).natAbs))]⟩]⟩) x
def fx_tay_0_I (nn i0:Nat)(_ _ _:Int)(_ _ _ _:Nat→Int)(x:(Nat × Int)⊕(Nat × Int)):Prop:=Sum.elim (fun (x:Nat × Int)=>2*x.1≤nn∧x.2=(i0:Int)+4*(x.1:Int)) (fun (x:Nat × Int)=>2*x.1+1≤nn∧x.2=(i0:Int)+4*(x.1:Int)+2) x
def fx_tay_0_mu (nn _:Nat)(_ _ _:Int)(_ _ _ _:Nat→Int)(x:(Nat × Int)⊕(Nat × Int)):Nat:=Sum.elim (fun (x:Nat × Int)=>nn-2*x.1) (fun (x:Nat × Int)=>nn-(2*x.1+1)) x
def fx_tay_0_ex (_ _:Nat)(q1 q2 _:Int)(pp1 pp2 _ _:Nat→Int)(y:Nat):Ex × St:=(.exit 0,⟨mkS 40 [(4,(.own 0 0)),(8,(.own 2 0)),(9,(.own 3 0))],[⟨true,false,[(V.bool (decide ((pp1 y)<0))),(N ((pp1 y).natAbs)),(V.bool (decide ((pp2 y)<0))),(N ((pp2 y).natAbs))]⟩,⟨true,false,[(V.bool (decide (q1<0))),(N q1.natAbs),(V.bool (decide (q2<0))),(N q2.natAbs)]⟩,⟨true,false,[(V.bool false),V.nil,(V.bool false),V.nil]⟩,⟨true,false,[(V.bool (decide ((tyA pp1 pp2 y)<0))),(N ((tyA pp1 pp2 y).natAbs)),(V.bool (decide ((tyB pp1 pp2 y)<0))),(N ((tyB pp1 pp2 y).natAbs))]⟩]⟩)
def fx_tay_0_J (nn _:Nat)(_ _ _:Int)(_ _ _ _:Nat→Int)(y:Nat):Prop:=y=nn
abbrev fx_tay_0_N (nn i0:Nat)(q1 q2 sc:Int)(pp1 pp2 mm1 mm2:Nat→Int):=NX (fx_tay_0_mk nn i0 q1 q2 sc pp1 pp2 mm1 mm2) (fx_tay_0_I nn i0 q1 q2 sc pp1 pp2 mm1 mm2) (fx_tay_0_mu nn i0 q1 q2 sc pp1 pp2 mm1 mm2) (fx_tay_0_ex nn i0 q1 q2 sc pp1 pp2 mm1 mm2) (fx_tay_0_J nn i0 q1 q2 sc pp1 pp2 mm1 mm2)
theorem fx_tay_0 (nn i0:Nat)(q1 q2 sc:Int)(pp1 pp2 mm1 mm2:Nat→Int)(c0:∀ j,j≤nn→Impl Tryz.prog Amb 241 [(sV (pp1 j) (pp2 j))] (.bool (decide (nn≤j))))(c1:∀ j,j<nn→Impl Tryz.prog Amb 236 [(sV (pp1 j) (pp2 j)),(sV q1 q2),(.int .i64 sc)] (sV (mm1 j) (mm2 j)))(c2:∀ (j:Nat) (k:Int),j<nn→k=mT i0 j→Impl Tryz.prog Amb 242 [(sV (mm1 j) (mm2 j)),(.int .u32 k)] (sV (pp1 (j+1)) (pp2 (j+1))))(c3:∀ j,j<nn→j%2=0→Impl Tryz.prog Amb 164 [(sV (tyA pp1 pp2 j) (tyB pp1 pp2 j)),(sV (pp1 (j+1)) (pp2 (j+1)))] (sV (tyA pp1 pp2 (j+1)) (tyB pp1 pp2 (j+1))))(c4:∀ j,j<nn→j%2=1→Impl Tryz.prog Amb 179 [(sV (tyA pp1 pp2 j) (tyB pp1 pp2 j)),(sV (pp1 (j+1)) (pp2 (j+1)))] (sV (tyA pp1 pp2 (j+1)) (tyB pp1 pp2 (j+1))))(c5:nn≤10000∧i0≤1)(x0:(Nat × Int)⊕(Nat × Int))(hI:fx_tay_0_I nn i0 q1 q2 sc pp1 pp2 mm1 mm2 x0):LoopOk Tryz.prog Amb (loopN Tryz.f237 0) (fx_tay_0_mk nn i0 q1 q2 sc pp1 pp2 mm1 mm2 x0) (fun e st_=>∃ y,fx_tay_0_J nn i0 q1 q2 sc pp1 pp2 mm1 mm2 y∧fx_tay_0_ex nn i0 q1 q2 sc pp1 pp2 mm1 mm2 y=(e,st_)) :=
 loop_ob hP hAmb ⟨[2,3,4,5,8,9,10],4,[]⟩ (fx_tay_0_mk nn i0 q1 q2 sc pp1 pp2 mm1 mm2) (fx_tay_0_I nn i0 q1 q2 sc pp1 pp2 mm1 mm2) (fx_tay_0_mu nn i0 q1 q2 sc pp1 pp2 mm1 mm2) (fx_tay_0_ex nn i0 q1 q2 sc pp1 pp2 mm1 mm2) (fx_tay_0_J nn i0 q1 q2 sc pp1 pp2 mm1 mm2) x0 hI (Sum.elim (fun (h,k)=>.lits 2<|.call (.bool (decide (nn≤(2*h))))<|.lit<|.both (.lits 3<|.call (sV (mm1 (2*h)) (mm2 (2*h)))<|.lit<|.yes<|.lit<|.yes<|.lit<|.yes<|.lit<|.call (sV (pp1 ((2*h)+1)) (pp2 ((2*h)+1)))<|.lits 2<|.yes<|.lits 4<|.call (sV (tyA pp1 pp2 ((2*h)+1)) (tyB pp1 pp2 ((2*h)+1)))<|.lits 2<|.fin2 ⟨[2,3,4,5,8,9,10],4,[]⟩) (.fin2 ⟨[4,8,9],4,[]⟩)) (fun (h,k)=>.lits 2<|.call (.bool (decide (nn≤(2*h+1))))<|.lit<|.both (.lits 3<|.call (sV (mm1 (2*h+1)) (mm2 (2*h+1)))<|.lit<|.yes<|.lit<|.yes<|.lit<|.yes<|.lit<|.call (sV (pp1 ((2*h+1)+1)) (pp2 ((2*h+1)+1)))<|.lits 2<|.yes<|.lits 4<|.call (sV (tyA pp1 pp2 ((2*h+1)+1)) (tyB pp1 pp2 ((2*h+1)+1)))<|.lits 2<|.fin2 ⟨[2,3,4,5,8,9,10],4,[]⟩) (.fin2 ⟨[4,8,9],4,[]⟩))) (by
  rintro (⟨h,k⟩ | ⟨h,k⟩) hI
  ·skip
   have hI:2*h≤nn∧k=(i0:Int)+4*(h:Int):=hI
   obtain ⟨h1,h2⟩:=hI
   have hk:(k+1)*(k+2)=mT i0 (2*h):=by unfold mT; rw [show ((i0+2*(2*h):Nat):Int)=k by omega]
   have hk1:=mT_ge i0 (2*h)
   have hk2:=mT_le (i:=i0) (j:=(2*h)) c5.2 oO
   exact cast_ob (aI True.intro (aI (c0 (2*h) h1 ) (aI (fun (h101:(!(decide (nn≤(2*h))))=true)=>have _gh101:=of_decide_eq_false (notb_t h101); aI (c1 (2*h) oO ) (aI (fits_u32 oO:(fits .u32 (k+1))=true) (aI (fits_u32 oO:(fits .u32 (k+2))=true) (aI (fits_u32 oO:(fits .u32 ((k+1)*(k+2)))=true) (aI (c2 (2*h) _ oO hk ) (aI (fits_u32 oO:(fits .u32 (k+2))=true) (aI (c3 (2*h) oO oO ) (aI tT ((nx_next (Sum.inr (h,(k+2))) (show 2*h+1≤nn∧(k+2)=(i0:Int)+4*(h:Int)+2 from ⟨by omega,by omega⟩) (show nn-(2*h+1)<nn-2*h by omega):fx_tay_0_N nn i0 q1 q2 sc pp1 pp2 mm1 mm2 (Sum.inl (h,k)) .normal (fx_tay_0_mk nn i0 q1 q2 sc pp1 pp2 mm1 mm2 (Sum.inr (h,(k+2)))))))))))))) (fun (h102:(!(decide (nn≤(2*h))))=false)=>have _gh102:=of_decide_eq_true (notb_f h102); aI tT ((nx_exit 0 ((fx_tay_0_ex nn i0 q1 q2 sc pp1 pp2 mm1 mm2 (2*h)).2) (2*h) (show (2*h)=nn from show (2*h)=nn by omega) rfl:fx_tay_0_N nn i0 q1 q2 sc pp1 pp2 mm1 mm2 (Sum.inl (h,k)) (.exit 0) ((fx_tay_0_ex nn i0 q1 q2 sc pp1 pp2 mm1 mm2 (2*h)).2))))))) (by kernel_rfl)
  ·skip
   have hI:2*h+1≤nn∧k=(i0:Int)+4*(h:Int)+2:=hI
   obtain ⟨h1,h2⟩:=hI
   have hk:(k+1)*(k+2)=mT i0 (2*h+1):=by unfold mT; rw [show ((i0+2*(2*h+1):Nat):Int)=k by omega]
   have hk1:=mT_ge i0 (2*h+1)
   have hk2:=mT_le (i:=i0) (j:=(2*h+1)) c5.2 oO
   exact cast_ob (aI True.intro (aI (c0 (2*h+1) h1 ) (aI (fun (h101:(!(decide (nn≤(2*h+1))))=true)=>have _gh101:=of_decide_eq_false (notb_t h101); aI (c1 (2*h+1) oO ) (aI (fits_u32 oO:(fits .u32 (k+1))=true) (aI (fits_u32 oO:(fits .u32 (k+2))=true) (aI (fits_u32 oO:(fits .u32 ((k+1)*(k+2)))=true) (aI (c2 (2*h+1) _ oO hk ) (aI (fits_u32 oO:(fits .u32 (k+2))=true) (aI (c4 (2*h+1) oO oO ) (aI tT ((nx_next (Sum.inl ((h+1),(k+2))) (show 2*(h+1)≤nn∧(k+2)=(i0:Int)+4*((h+1):Int) from ⟨by omega,by omega⟩) (show nn-2*(h+1)<nn-(2*h+1) by omega):fx_tay_0_N nn i0 q1 q2 sc pp1 pp2 mm1 mm2 (Sum.inr (h,k)) .normal (fx_tay_0_mk nn i0 q1 q2 sc pp1 pp2 mm1 mm2 (Sum.inl ((h+1),(k+2)))))))))))))) (fun (h102:(!(decide (nn≤(2*h+1))))=false)=>have _gh102:=of_decide_eq_true (notb_f h102); aI tT ((nx_exit 0 ((fx_tay_0_ex nn i0 q1 q2 sc pp1 pp2 mm1 mm2 (2*h+1)).2) (2*h+1) (show (2*h+1)=nn from show (2*h+1)=nn by omega) rfl:fx_tay_0_N nn i0 q1 q2 sc pp1 pp2 mm1 mm2 (Sum.inr (h,k)) (.exit 0) ((fx_tay_0_ex nn i0 q1 q2 sc pp1 pp2 mm1 mm2 (2*h+1)).2))))))) (by kernel_rfl))
theorem fx_tay (nn:Nat)(i0:Nat)(q1 q2 sc:Int)(pp1:Nat→Int)(pp2:Nat→Int)(mm1:Nat→Int)(mm2:Nat→Int)(c0:∀ j,j≤nn→Impl Tryz.prog Amb 241 [(sV (pp1 j) (pp2 j))] (.bool (decide (nn≤j))))(c1:∀ j,j<nn→Impl Tryz.prog Amb 236 [(sV (pp1 j) (pp2 j)),(sV q1 q2),(.int .i64 sc)] (sV (mm1 j) (mm2 j)))(c2:∀ (j:Nat) (k:Int),j<nn→k=mT i0 j→Impl Tryz.prog Amb 242 [(sV (mm1 j) (mm2 j)),(.int .u32 k)] (sV (pp1 (j+1)) (pp2 (j+1))))(c3:∀ j,j<nn→j%2=0→Impl Tryz.prog Amb 164 [(sV (tyA pp1 pp2 j) (tyB pp1 pp2 j)),(sV (pp1 (j+1)) (pp2 (j+1)))] (sV (tyA pp1 pp2 (j+1)) (tyB pp1 pp2 (j+1))))(c4:∀ j,j<nn→j%2=1→Impl Tryz.prog Amb 179 [(sV (tyA pp1 pp2 j) (tyB pp1 pp2 j)),(sV (pp1 (j+1)) (pp2 (j+1)))] (sV (tyA pp1 pp2 (j+1)) (tyB pp1 pp2 (j+1))))(c5:nn≤10000∧i0≤1)(c6:∀ j,j≤nn→L (tyA pp1 pp2 j).natAbs≤8192∧L (tyB pp1 pp2 j).natAbs≤8192∧L (pp2 j).natAbs≤8192):Impl Tryz.prog Amb 237 [(sV (pp1 0) (pp2 0)),(sV q1 q2),(.int .u32 (i0:Int)),(.int .i64 sc)] (sV (tyA pp1 pp2 nn-pp2 nn) (tyB pp1 pp2 nn+pp2 nn)):=by
 exact impl_ob hP hAmb Tryz.func237 (by kernel_rfl) (.lits 2<|.loop ⟨[2,3,4,5,8,9,10],4,[]⟩ ((fx_tay_0_mk nn i0 q1 q2 sc pp1 pp2 mm1 mm2 (Sum.inl (0,(i0:Int))))) (Nat) (fx_tay_0_ex nn i0 q1 q2 sc pp1 pp2 mm1 mm2) (fx_tay_0_J nn i0 q1 q2 sc pp1 pp2 mm1 mm2) (fun y=>.lits 3<|.call (sV ((tyA pp1 pp2 y)-(pp2 y)) ((tyB pp1 pp2 y)+(pp2 y)))<|.lits 2<|.ret))
  (cast_ob (aI True.intro (aI tT (aI (rfl:(fx_tay_0_mk nn i0 q1 q2 sc pp1 pp2 mm1 mm2 (Sum.inl (0,(i0:Int))))=(fx_tay_0_mk nn i0 q1 q2 sc pp1 pp2 mm1 mm2 (Sum.inl (0,(i0:Int))))) (aI (fx_tay_0 nn i0 q1 q2 sc pp1 pp2 mm1 mm2 c0 c1 c2 c3 c4 c5 (Sum.inl (0,(i0:Int))) (show 2*0≤nn∧(i0:Int)=(i0:Int)+4*(0:Int) from ⟨by omega,by omega⟩)) (fun y (hJ:fx_tay_0_J nn i0 q1 q2 sc pp1 pp2 mm1 mm2 y)=>have hJ:y=nn:=hJ; have hY:=hJ; have cl:=c6 y oO; aI (fx_Wide (tyA pp1 pp2 y) (tyB pp1 pp2 y) (pp2 y) oS oS oS) (have f2:=L_abs_add (tyB pp1 pp2 y) (pp2 y); have f1:=L_abs_sub (tyA pp1 pp2 y) (pp2 y); (by rw [show y=nn from hY]; exact vsub_refl _:vsub (sV ((tyA pp1 pp2 y)-(pp2 y)) ((tyB pp1 pp2 y)+(pp2 y))) (sV (tyA pp1 pp2 nn-pp2 nn) (tyB pp1 pp2 nn+pp2 nn))))))))) (by kernel_rfl))
theorem fx_waves (x q1 q2 s1 s2 o1 o2 k1 k2 sc:Int)(c0:Impl Tryz.prog Amb 236 [(sV x x),(sV x x),(.int .i64 sc)] (sV q1 q2))(c1:Impl Tryz.prog Amb 237 [(sV x x),(sV q1 q2),(.int .u32 1),(.int .i64 sc)] (sV s1 s2))(c2:Impl Tryz.prog Amb 213 [(.int .i64 sc)] (sV o1 o2))(c3:Impl Tryz.prog Amb 237 [(sV o1 o2),(sV q1 q2),(.int .u32 0),(.int .i64 sc)] (sV k1 k2))(c4:L (x).natAbs≤8192):Impl Tryz.prog Amb 206 [(zV x),(.int .i64 sc)] (.tup [(sV s1 s2),(sV k1 k2)]):=by
 exact impl_ob hP hAmb Tryz.func206 (by kernel_rfl) (.lits 2<|.call (sV x x)<|.lits 4<|.call (sV q1 q2)<|.lits 4<|.call (sV s1 s2)<|.lit<|.call (sV o1 o2)<|.lits 2<|.call (sV k1 k2)<|.lits 3<|.ret)
  (cast_ob (aI True.intro (aI (fx_Exact x oS) (aI (c0 ) (aI (c1 ) (aI (c2 ) (aI (c3 ) ((vsub_refl (.tup [(sV s1 s2),(sV k1 k2)]))))))))) (by kernel_rfl))
theorem fx_Turn0 (m ee sc x1 x2 p1 p2 h1_ h2_ q t1 t2 z1 z2 r1 r2:Int)(c0:Impl Tryz.prog Amb 161 [(yV m ee),(.int .i64 (sc+48))] (sV x1 x2))(c1:Impl Tryz.prog Amb 117 [(.int .i64 ((sc+48)+1))] (sV p1 p2))(c2:Impl Tryz.prog Amb 162 [(sV p1 p2),(.int .i64 2)] (sV h1_ h2_))(c3:Impl Tryz.prog Amb 163 [(sV x1 x2),(sV h1_ h2_)] (.int .i64 q))(c4:Impl Tryz.prog Amb 165 [(sV h1_ h2_),(.int .i64 q)] (sV t1 t2))(c5:Impl Tryz.prog Amb 164 [(sV x1 x2),(sV t1 t2)] (sV z1 z2))(c6:Impl Tryz.prog Amb 162 [(sV z1 z2),(.int .i64 ((sc+48)-sc))] (sV r1 r2))(c7:(0:Int)≤sc∧sc≤5000):Impl Tryz.prog Amb 94 [(yV m ee),(.int .i64 sc)] (.tup [(.int .i64 q),(sV r1 r2)]):=by
 exact impl_ob hP hAmb Tryz.func94 (by kernel_rfl) (.lit<|.yes<|.lits 2<|.call (sV x1 x2)<|.lit<|.yes<|.lit<|.call (sV p1 p2)<|.lit<|.call (sV h1_ h2_)<|.lits 5<|.call (.int .i64 q)<|.lits 3<|.call (sV t1 t2)<|.lit<|.call (sV z1 z2)<|.lit<|.yes<|.lit<|.call (sV r1 r2)<|.lits 2<|.ret)
  (cast_ob (aI True.intro (aI (fits_i64 oS:(fits .i64 (sc+48))=true) (aI (c0 ) (aI (fits_i64 oS:(fits .i64 ((sc+48)+1))=true) (aI (c1 ) (aI (c2 ) (aI (c3 ) (aI (c4 ) (aI (c5 ) (aI (fits_i64 oS:(fits .i64 ((sc+48)-sc))=true) (aI (c6 ) ((vsub_refl (.tup [(.int .i64 q),(sV r1 r2)])))))))))))))) (by kernel_rfl))
theorem fx_Quarters0 (m ee f x1 x2 y p1 p2 q r:Int)(c0:Impl Tryz.prog Amb 161 [(yV m ee),(.int .i64 (f+64))] (sV x1 x2))(c1:Impl Tryz.prog Amb 155 [(zV x1),(.int .i64 (f+1))] (zV y))(c2:Impl Tryz.prog Amb 117 [(.int .i64 (f+64))] (sV p1 p2))(c3:Impl Tryz.prog Amb 182 [(zV y),(zV p1)] (.tup [(zV q),(zV r),(.bool true)]))(c4:(0:Int)≤f∧f≤5000):Impl Tryz.prog Amb 203 [(yV m ee),(.int .i64 f)] (zV q):=by
 exact impl_ob hP hAmb Tryz.func203 (by kernel_rfl) (.lit<|.yes<|.lits 2<|.call (sV x1 x2)<|.lits 2<|.yes<|.lit<|.call (zV y)<|.lit<|.call (sV p1 p2)<|.lits 2<|.call (.tup [(zV q),(zV r),(.bool true)])<|.lits 5<|.ret)
  (cast_ob (aI True.intro (aI (fits_i64 oS:(fits .i64 (f+64))=true) (aI (c0 ) (aI (fits_i64 oS:(fits .i64 (f+1))=true) (aI (c1 ) (aI (c2 ) (aI (c3 ) ((vsub_refl (zV q)))))))))) (by kernel_rfl))
theorem fx_Sin0P (m ee more sc q r1 r2 x s1 s2 k1 k2 u1 u2:Int)(c0:(0:Int)≤sc∧sc≤5000)(c1:(wRem ((wRem q 4+4)+more) 4)=0)(c2:0≤r1)(c3:(0:Int)≤more∧more≤1)(c4:Impl Tryz.prog Amb 94 [(yV m ee),(.int .i64 (sc+24))] (.tup [(.int .i64 q),(sV r1 r2)]))(c5:Impl Tryz.prog Amb 129 [(.bool false),(N r1.natAbs)] (zV x))(c6:Impl Tryz.prog Amb 206 [(zV x),(.int .i64 (sc+24))] (.tup [(sV s1 s2),(sV k1 k2)]))(c7:Impl Tryz.prog Amb 162 [(sV (s1-(r2-r1)) (s2+(r2-r1))),(.int .i64 ((sc+24)-sc))] (sV u1 u2))(c8:L (r1).natAbs≤8192)(c9:L (r2).natAbs≤8192)(c10:L (s1).natAbs≤8192)(c11:L (s2).natAbs≤8192)(c12:L (k1).natAbs≤8192)(c13:L (k2).natAbs≤8192):Impl Tryz.prog Amb 157 [(yV m ee),(.int .i64 more),(.int .i64 sc)] (sV u1 u2):=by
 have w1:=wRem_abs (v:=q) (n:=4) oO
 exact impl_ob hP hAmb Tryz.func157 (by kernel_rfl) (.lit<|.yes<|.lits 2<|.call (.tup [(.int .i64 q),(sV r1 r2)])<|.lits 5<|.call (zV x)<|.lit<|.call (.tup [(sV s1 s2),(sV k1 k2)])<|.lits 3<|.no<|.lits 4<|.call (sV (-s2) (-s1))<|.lits 2<|.call (sV (-k2) (-k1))<|.lits 3<|.yes<|.lit<|.yes<|.lit<|.no<|.no<|.no<|.no<|.yes<|.lits 4<|.call (zV (r2-r1))<|.lit<|.call (sV (s1-(r2-r1)) (s2+(r2-r1)))<|.lit<|.yes<|.lit<|.call (sV u1 u2)<|.lits 2<|.ret)
  (cast_ob (aI True.intro (aI (fits_i64 oS:(fits .i64 (sc+24))=true) (aI (c4 ) (aI (c5 ) (aI (c6 ) (aI (decide_eq_false oO:(decide (r1<0))=false) (aI (fx_Neg s1 s2 oS oS) (have f7:=L_abs_neg s2; have f6:=L_abs_neg s1; aI (fx_Neg k1 k2 oS oS) (have f5:=L_abs_neg k2; have f4:=L_abs_neg k1; aI (fits_i64 oS:(fits .i64 ((wRem q (4:Int))+4))=true) (aI (fits_i64 oS:(fits .i64 (((wRem q (4:Int))+4)+more))=true) (aI (iEq_mk c1:(iEq (wRem (((wRem q (4:Int))+4)+more) (4:Int)) (0:Int))=true) (aI (fx_Width r1 r2 oS oS) (have f3:=L_abs_sub r2 r1; aI (fx_Wide s1 s2 (r2-r1) oS oS oS) (have f2:=L_abs_add s2 (r2-r1); have f1:=L_abs_sub s1 (r2-r1); aI (fits_i64 oS:(fits .i64 ((sc+24)-sc))=true) (aI (c7 ) ((vsub_refl (sV u1 u2)))))))))))))))))) (by kernel_rfl))
theorem fx_Sin0N (m ee more sc q r1 r2 x s1 s2 k1 k2 u1 u2:Int)(c0:(0:Int)≤sc∧sc≤5000)(c1:(wRem ((wRem q 4+4)+more) 4)=0)(c2:r1<0)(c3:(0:Int)≤more∧more≤1)(c4:Impl Tryz.prog Amb 94 [(yV m ee),(.int .i64 (sc+24))] (.tup [(.int .i64 q),(sV r1 r2)]))(c5:Impl Tryz.prog Amb 129 [(.bool false),(N r1.natAbs)] (zV x))(c6:Impl Tryz.prog Amb 206 [(zV x),(.int .i64 (sc+24))] (.tup [(sV s1 s2),(sV k1 k2)]))(c7:Impl Tryz.prog Amb 162 [(sV ((-s2)-(r2-r1)) ((-s1)+(r2-r1))),(.int .i64 ((sc+24)-sc))] (sV u1 u2))(c8:L (r1).natAbs≤8192)(c9:L (r2).natAbs≤8192)(c10:L (s1).natAbs≤8192)(c11:L (s2).natAbs≤8192)(c12:L (k1).natAbs≤8192)(c13:L (k2).natAbs≤8192):Impl Tryz.prog Amb 157 [(yV m ee),(.int .i64 more),(.int .i64 sc)] (sV u1 u2):=by
 have w1:=wRem_abs (v:=q) (n:=4) oO
 exact impl_ob hP hAmb Tryz.func157 (by kernel_rfl) (.lit<|.yes<|.lits 2<|.call (.tup [(.int .i64 q),(sV r1 r2)])<|.lits 5<|.call (zV x)<|.lit<|.call (.tup [(sV s1 s2),(sV k1 k2)])<|.lits 3<|.yes<|.lits 2<|.call (sV (-s2) (-s1))<|.lits 5<|.call (sV (-(-s1)) (-(-s2)))<|.lits 2<|.call (sV (-k2) (-k1))<|.lits 3<|.yes<|.lit<|.yes<|.lit<|.no<|.no<|.no<|.no<|.yes<|.lits 4<|.call (zV (r2-r1))<|.lit<|.call (sV ((-s2)-(r2-r1)) ((-s1)+(r2-r1)))<|.lit<|.yes<|.lit<|.call (sV u1 u2)<|.lits 2<|.ret)
  (cast_ob (aI True.intro (aI (fits_i64 oS:(fits .i64 (sc+24))=true) (aI (c4 ) (aI (c5 ) (aI (c6 ) (aI (decide_eq_true oO:(decide (r1<0))=true) (aI (fx_Neg s1 s2 oS oS) (have f9:=L_abs_neg s2; have f8:=L_abs_neg s1; aI (fx_Neg (-s2) (-s1) oS oS) (have f7:=L_abs_neg (-s1); have f6:=L_abs_neg (-s2); aI (fx_Neg k1 k2 oS oS) (have f5:=L_abs_neg k2; have f4:=L_abs_neg k1; aI (fits_i64 oS:(fits .i64 ((wRem q (4:Int))+4))=true) (aI (fits_i64 oS:(fits .i64 (((wRem q (4:Int))+4)+more))=true) (aI (iEq_mk c1:(iEq (wRem (((wRem q (4:Int))+4)+more) (4:Int)) (0:Int))=true) (aI (fx_Width r1 r2 oS oS) (have f3:=L_abs_sub r2 r1; aI (fx_Wide (-s2) (-s1) (r2-r1) oS oS oS) (have f2:=L_abs_add (-s1) (r2-r1); have f1:=L_abs_sub (-s2) (r2-r1); aI (fits_i64 oS:(fits .i64 ((sc+24)-sc))=true) (aI (c7 ) ((vsub_refl (sV u1 u2))))))))))))))))))) (by kernel_rfl))
theorem fx_Sin1P (m ee more sc q r1 r2 x s1 s2 k1 k2 u1 u2:Int)(c0:(0:Int)≤sc∧sc≤5000)(c1:(wRem ((wRem q 4+4)+more) 4)=1)(c2:0≤r1)(c3:(0:Int)≤more∧more≤1)(c4:Impl Tryz.prog Amb 94 [(yV m ee),(.int .i64 (sc+24))] (.tup [(.int .i64 q),(sV r1 r2)]))(c5:Impl Tryz.prog Amb 129 [(.bool false),(N r1.natAbs)] (zV x))(c6:Impl Tryz.prog Amb 206 [(zV x),(.int .i64 (sc+24))] (.tup [(sV s1 s2),(sV k1 k2)]))(c7:Impl Tryz.prog Amb 162 [(sV (k1-(r2-r1)) (k2+(r2-r1))),(.int .i64 ((sc+24)-sc))] (sV u1 u2))(c8:L (r1).natAbs≤8192)(c9:L (r2).natAbs≤8192)(c10:L (s1).natAbs≤8192)(c11:L (s2).natAbs≤8192)(c12:L (k1).natAbs≤8192)(c13:L (k2).natAbs≤8192):Impl Tryz.prog Amb 157 [(yV m ee),(.int .i64 more),(.int .i64 sc)] (sV u1 u2):=by
 have w1:=wRem_abs (v:=q) (n:=4) oO
 exact impl_ob hP hAmb Tryz.func157 (by kernel_rfl) (.lit<|.yes<|.lits 2<|.call (.tup [(.int .i64 q),(sV r1 r2)])<|.lits 5<|.call (zV x)<|.lit<|.call (.tup [(sV s1 s2),(sV k1 k2)])<|.lits 3<|.no<|.lits 4<|.call (sV (-s2) (-s1))<|.lits 2<|.call (sV (-k2) (-k1))<|.lits 3<|.yes<|.lit<|.yes<|.lit<|.no<|.no<|.no<|.yes<|.lits 4<|.call (zV (r2-r1))<|.lit<|.call (sV (k1-(r2-r1)) (k2+(r2-r1)))<|.lit<|.yes<|.lit<|.call (sV u1 u2)<|.lits 2<|.ret)
  (cast_ob (aI True.intro (aI (fits_i64 oS:(fits .i64 (sc+24))=true) (aI (c4 ) (aI (c5 ) (aI (c6 ) (aI (decide_eq_false oO:(decide (r1<0))=false) (aI (fx_Neg s1 s2 oS oS) (have f7:=L_abs_neg s2; have f6:=L_abs_neg s1; aI (fx_Neg k1 k2 oS oS) (have f5:=L_abs_neg k2; have f4:=L_abs_neg k1; aI (fits_i64 oS:(fits .i64 ((wRem q (4:Int))+4))=true) (aI (fits_i64 oS:(fits .i64 (((wRem q (4:Int))+4)+more))=true) (aI (iEq_mk c1:(iEq (wRem (((wRem q (4:Int))+4)+more) (4:Int)) (1:Int))=true) (aI (fx_Width r1 r2 oS oS) (have f3:=L_abs_sub r2 r1; aI (fx_Wide k1 k2 (r2-r1) oS oS oS) (have f2:=L_abs_add k2 (r2-r1); have f1:=L_abs_sub k1 (r2-r1); aI (fits_i64 oS:(fits .i64 ((sc+24)-sc))=true) (aI (c7 ) ((vsub_refl (sV u1 u2)))))))))))))))))) (by kernel_rfl))
theorem fx_Sin1N (m ee more sc q r1 r2 x s1 s2 k1 k2 u1 u2:Int)(c0:(0:Int)≤sc∧sc≤5000)(c1:(wRem ((wRem q 4+4)+more) 4)=1)(c2:r1<0)(c3:(0:Int)≤more∧more≤1)(c4:Impl Tryz.prog Amb 94 [(yV m ee),(.int .i64 (sc+24))] (.tup [(.int .i64 q),(sV r1 r2)]))(c5:Impl Tryz.prog Amb 129 [(.bool false),(N r1.natAbs)] (zV x))(c6:Impl Tryz.prog Amb 206 [(zV x),(.int .i64 (sc+24))] (.tup [(sV s1 s2),(sV k1 k2)]))(c7:Impl Tryz.prog Amb 162 [(sV (k1-(r2-r1)) (k2+(r2-r1))),(.int .i64 ((sc+24)-sc))] (sV u1 u2))(c8:L (r1).natAbs≤8192)(c9:L (r2).natAbs≤8192)(c10:L (s1).natAbs≤8192)(c11:L (s2).natAbs≤8192)(c12:L (k1).natAbs≤8192)(c13:L (k2).natAbs≤8192):Impl Tryz.prog Amb 157 [(yV m ee),(.int .i64 more),(.int .i64 sc)] (sV u1 u2):=by
 have w1:=wRem_abs (v:=q) (n:=4) oO
 exact impl_ob hP hAmb Tryz.func157 (by kernel_rfl) (.lit<|.yes<|.lits 2<|.call (.tup [(.int .i64 q),(sV r1 r2)])<|.lits 5<|.call (zV x)<|.lit<|.call (.tup [(sV s1 s2),(sV k1 k2)])<|.lits 3<|.yes<|.lits 2<|.call (sV (-s2) (-s1))<|.lits 5<|.call (sV (-(-s1)) (-(-s2)))<|.lits 2<|.call (sV (-k2) (-k1))<|.lits 3<|.yes<|.lit<|.yes<|.lit<|.no<|.no<|.no<|.yes<|.lits 4<|.call (zV (r2-r1))<|.lit<|.call (sV (k1-(r2-r1)) (k2+(r2-r1)))<|.lit<|.yes<|.lit<|.call (sV u1 u2)<|.lits 2<|.ret)
  (cast_ob (aI True.intro (aI (fits_i64 oS:(fits .i64 (sc+24))=true) (aI (c4 ) (aI (c5 ) (aI (c6 ) (aI (decide_eq_true oO:(decide (r1<0))=true) (aI (fx_Neg s1 s2 oS oS) (have f9:=L_abs_neg s2; have f8:=L_abs_neg s1; aI (fx_Neg (-s2) (-s1) oS oS) (have f7:=L_abs_neg (-s1); have f6:=L_abs_neg (-s2); aI (fx_Neg k1 k2 oS oS) (have f5:=L_abs_neg k2; have f4:=L_abs_neg k1; aI (fits_i64 oS:(fits .i64 ((wRem q (4:Int))+4))=true) (aI (fits_i64 oS:(fits .i64 (((wRem q (4:Int))+4)+more))=true) (aI (iEq_mk c1:(iEq (wRem (((wRem q (4:Int))+4)+more) (4:Int)) (1:Int))=true) (aI (fx_Width r1 r2 oS oS) (have f3:=L_abs_sub r2 r1; aI (fx_Wide k1 k2 (r2-r1) oS oS oS) (have f2:=L_abs_add k2 (r2-r1); have f1:=L_abs_sub k1 (r2-r1); aI (fits_i64 oS:(fits .i64 ((sc+24)-sc))=true) (aI (c7 ) ((vsub_refl (sV u1 u2))))))))))))))))))) (by kernel_rfl))
theorem fx_Sin2P (m ee more sc q r1 r2 x s1 s2 k1 k2 u1 u2:Int)(c0:(0:Int)≤sc∧sc≤5000)(c1:(wRem ((wRem q 4+4)+more) 4)=2)(c2:0≤r1)(c3:(0:Int)≤more∧more≤1)(c4:Impl Tryz.prog Amb 94 [(yV m ee),(.int .i64 (sc+24))] (.tup [(.int .i64 q),(sV r1 r2)]))(c5:Impl Tryz.prog Amb 129 [(.bool false),(N r1.natAbs)] (zV x))(c6:Impl Tryz.prog Amb 206 [(zV x),(.int .i64 (sc+24))] (.tup [(sV s1 s2),(sV k1 k2)]))(c7:Impl Tryz.prog Amb 162 [(sV ((-s2)-(r2-r1)) ((-s1)+(r2-r1))),(.int .i64 ((sc+24)-sc))] (sV u1 u2))(c8:L (r1).natAbs≤8192)(c9:L (r2).natAbs≤8192)(c10:L (s1).natAbs≤8192)(c11:L (s2).natAbs≤8192)(c12:L (k1).natAbs≤8192)(c13:L (k2).natAbs≤8192):Impl Tryz.prog Amb 157 [(yV m ee),(.int .i64 more),(.int .i64 sc)] (sV u1 u2):=by
 have w1:=wRem_abs (v:=q) (n:=4) oO
 exact impl_ob hP hAmb Tryz.func157 (by kernel_rfl) (.lit<|.yes<|.lits 2<|.call (.tup [(.int .i64 q),(sV r1 r2)])<|.lits 5<|.call (zV x)<|.lit<|.call (.tup [(sV s1 s2),(sV k1 k2)])<|.lits 3<|.no<|.lits 4<|.call (sV (-s2) (-s1))<|.lits 2<|.call (sV (-k2) (-k1))<|.lits 3<|.yes<|.lit<|.yes<|.lit<|.no<|.no<|.yes<|.lits 4<|.call (zV (r2-r1))<|.lit<|.call (sV ((-s2)-(r2-r1)) ((-s1)+(r2-r1)))<|.lit<|.yes<|.lit<|.call (sV u1 u2)<|.lits 2<|.ret)
  (cast_ob (aI True.intro (aI (fits_i64 oS:(fits .i64 (sc+24))=true) (aI (c4 ) (aI (c5 ) (aI (c6 ) (aI (decide_eq_false oO:(decide (r1<0))=false) (aI (fx_Neg s1 s2 oS oS) (have f7:=L_abs_neg s2; have f6:=L_abs_neg s1; aI (fx_Neg k1 k2 oS oS) (have f5:=L_abs_neg k2; have f4:=L_abs_neg k1; aI (fits_i64 oS:(fits .i64 ((wRem q (4:Int))+4))=true) (aI (fits_i64 oS:(fits .i64 (((wRem q (4:Int))+4)+more))=true) (aI (iEq_mk c1:(iEq (wRem (((wRem q (4:Int))+4)+more) (4:Int)) (2:Int))=true) (aI (fx_Width r1 r2 oS oS) (have f3:=L_abs_sub r2 r1; aI (fx_Wide (-s2) (-s1) (r2-r1) oS oS oS) (have f2:=L_abs_add (-s1) (r2-r1); have f1:=L_abs_sub (-s2) (r2-r1); aI (fits_i64 oS:(fits .i64 ((sc+24)-sc))=true) (aI (c7 ) ((vsub_refl (sV u1 u2)))))))))))))))))) (by kernel_rfl))
theorem fx_Sin2N (m ee more sc q r1 r2 x s1 s2 k1 k2 u1 u2:Int)(c0:(0:Int)≤sc∧sc≤5000)(c1:(wRem ((wRem q 4+4)+more) 4)=2)(c2:r1<0)(c3:(0:Int)≤more∧more≤1)(c4:Impl Tryz.prog Amb 94 [(yV m ee),(.int .i64 (sc+24))] (.tup [(.int .i64 q),(sV r1 r2)]))(c5:Impl Tryz.prog Amb 129 [(.bool false),(N r1.natAbs)] (zV x))(c6:Impl Tryz.prog Amb 206 [(zV x),(.int .i64 (sc+24))] (.tup [(sV s1 s2),(sV k1 k2)]))(c7:Impl Tryz.prog Amb 162 [(sV ((-(-s1))-(r2-r1)) ((-(-s2))+(r2-r1))),(.int .i64 ((sc+24)-sc))] (sV u1 u2))(c8:L (r1).natAbs≤8192)(c9:L (r2).natAbs≤8192)(c10:L (s1).natAbs≤8192)(c11:L (s2).natAbs≤8192)(c12:L (k1).natAbs≤8192)(c13:L (k2).natAbs≤8192):Impl Tryz.prog Amb 157 [(yV m ee),(.int .i64 more),(.int .i64 sc)] (sV u1 u2):=by
 have w1:=wRem_abs (v:=q) (n:=4) oO
 exact impl_ob hP hAmb Tryz.func157 (by kernel_rfl) (.lit<|.yes<|.lits 2<|.call (.tup [(.int .i64 q),(sV r1 r2)])<|.lits 5<|.call (zV x)<|.lit<|.call (.tup [(sV s1 s2),(sV k1 k2)])<|.lits 3<|.yes<|.lits 2<|.call (sV (-s2) (-s1))<|.lits 5<|.call (sV (-(-s1)) (-(-s2)))<|.lits 2<|.call (sV (-k2) (-k1))<|.lits 3<|.yes<|.lit<|.yes<|.lit<|.no<|.no<|.yes<|.lits 4<|.call (zV (r2-r1))<|.lit<|.call (sV ((-(-s1))-(r2-r1)) ((-(-s2))+(r2-r1)))<|.lit<|.yes<|.lit<|.call (sV u1 u2)<|.lits 2<|.ret)
  (cast_ob (aI True.intro (aI (fits_i64 oS:(fits .i64 (sc+24))=true) (aI (c4 ) (aI (c5 ) (aI (c6 ) (aI (decide_eq_true oO:(decide (r1<0))=true) (aI (fx_Neg s1 s2 oS oS) (have f9:=L_abs_neg s2; have f8:=L_abs_neg s1; aI (fx_Neg (-s2) (-s1) oS oS) (have f7:=L_abs_neg (-s1); have f6:=L_abs_neg (-s2); aI (fx_Neg k1 k2 oS oS) (have f5:=L_abs_neg k2; have f4:=L_abs_neg k1; aI (fits_i64 oS:(fits .i64 ((wRem q (4:Int))+4))=true) (aI (fits_i64 oS:(fits .i64 (((wRem q (4:Int))+4)+more))=true) (aI (iEq_mk c1:(iEq (wRem (((wRem q (4:Int))+4)+more) (4:Int)) (2:Int))=true) (aI (fx_Width r1 r2 oS oS) (have f3:=L_abs_sub r2 r1; aI (fx_Wide (-(-s1)) (-(-s2)) (r2-r1) oS oS oS) (have f2:=L_abs_add (-(-s2)) (r2-r1); have f1:=L_abs_sub (-(-s1)) (r2-r1); aI (fits_i64 oS:(fits .i64 ((sc+24)-sc))=true) (aI (c7 ) ((vsub_refl (sV u1 u2))))))))))))))))))) (by kernel_rfl))
theorem fx_Sin3P (m ee more sc q r1 r2 x s1 s2 k1 k2 u1 u2:Int)(c0:(0:Int)≤sc∧sc≤5000)(c1:(wRem ((wRem q 4+4)+more) 4)=3)(c2:0≤r1)(c3:(0:Int)≤more∧more≤1)(c4:Impl Tryz.prog Amb 94 [(yV m ee),(.int .i64 (sc+24))] (.tup [(.int .i64 q),(sV r1 r2)]))(c5:Impl Tryz.prog Amb 129 [(.bool false),(N r1.natAbs)] (zV x))(c6:Impl Tryz.prog Amb 206 [(zV x),(.int .i64 (sc+24))] (.tup [(sV s1 s2),(sV k1 k2)]))(c7:Impl Tryz.prog Amb 162 [(sV ((-k2)-(r2-r1)) ((-k1)+(r2-r1))),(.int .i64 ((sc+24)-sc))] (sV u1 u2))(c8:L (r1).natAbs≤8192)(c9:L (r2).natAbs≤8192)(c10:L (s1).natAbs≤8192)(c11:L (s2).natAbs≤8192)(c12:L (k1).natAbs≤8192)(c13:L (k2).natAbs≤8192):Impl Tryz.prog Amb 157 [(yV m ee),(.int .i64 more),(.int .i64 sc)] (sV u1 u2):=by
 have w1:=wRem_abs (v:=q) (n:=4) oO
 exact impl_ob hP hAmb Tryz.func157 (by kernel_rfl) (.lit<|.yes<|.lits 2<|.call (.tup [(.int .i64 q),(sV r1 r2)])<|.lits 5<|.call (zV x)<|.lit<|.call (.tup [(sV s1 s2),(sV k1 k2)])<|.lits 3<|.no<|.lits 4<|.call (sV (-s2) (-s1))<|.lits 2<|.call (sV (-k2) (-k1))<|.lits 3<|.yes<|.lit<|.yes<|.lit<|.no<|.yes<|.lits 4<|.call (zV (r2-r1))<|.lit<|.call (sV ((-k2)-(r2-r1)) ((-k1)+(r2-r1)))<|.lit<|.yes<|.lit<|.call (sV u1 u2)<|.lits 2<|.ret)
  (cast_ob (aI True.intro (aI (fits_i64 oS:(fits .i64 (sc+24))=true) (aI (c4 ) (aI (c5 ) (aI (c6 ) (aI (decide_eq_false oO:(decide (r1<0))=false) (aI (fx_Neg s1 s2 oS oS) (have f7:=L_abs_neg s2; have f6:=L_abs_neg s1; aI (fx_Neg k1 k2 oS oS) (have f5:=L_abs_neg k2; have f4:=L_abs_neg k1; aI (fits_i64 oS:(fits .i64 ((wRem q (4:Int))+4))=true) (aI (fits_i64 oS:(fits .i64 (((wRem q (4:Int))+4)+more))=true) (aI (iEq_mk c1:(iEq (wRem (((wRem q (4:Int))+4)+more) (4:Int)) (3:Int))=true) (aI (fx_Width r1 r2 oS oS) (have f3:=L_abs_sub r2 r1; aI (fx_Wide (-k2) (-k1) (r2-r1) oS oS oS) (have f2:=L_abs_add (-k1) (r2-r1); have f1:=L_abs_sub (-k2) (r2-r1); aI (fits_i64 oS:(fits .i64 ((sc+24)-sc))=true) (aI (c7 ) ((vsub_refl (sV u1 u2)))))))))))))))))) (by kernel_rfl))
theorem fx_Sin3N (m ee more sc q r1 r2 x s1 s2 k1 k2 u1 u2:Int)(c0:(0:Int)≤sc∧sc≤5000)(c1:(wRem ((wRem q 4+4)+more) 4)=3)(c2:r1<0)(c3:(0:Int)≤more∧more≤1)(c4:Impl Tryz.prog Amb 94 [(yV m ee),(.int .i64 (sc+24))] (.tup [(.int .i64 q),(sV r1 r2)]))(c5:Impl Tryz.prog Amb 129 [(.bool false),(N r1.natAbs)] (zV x))(c6:Impl Tryz.prog Amb 206 [(zV x),(.int .i64 (sc+24))] (.tup [(sV s1 s2),(sV k1 k2)]))(c7:Impl Tryz.prog Amb 162 [(sV ((-k2)-(r2-r1)) ((-k1)+(r2-r1))),(.int .i64 ((sc+24)-sc))] (sV u1 u2))(c8:L (r1).natAbs≤8192)(c9:L (r2).natAbs≤8192)(c10:L (s1).natAbs≤8192)(c11:L (s2).natAbs≤8192)(c12:L (k1).natAbs≤8192)(c13:L (k2).natAbs≤8192):Impl Tryz.prog Amb 157 [(yV m ee),(.int .i64 more),(.int .i64 sc)] (sV u1 u2):=by
 have w1:=wRem_abs (v:=q) (n:=4) oO
 exact impl_ob hP hAmb Tryz.func157 (by kernel_rfl) (.lit<|.yes<|.lits 2<|.call (.tup [(.int .i64 q),(sV r1 r2)])<|.lits 5<|.call (zV x)<|.lit<|.call (.tup [(sV s1 s2),(sV k1 k2)])<|.lits 3<|.yes<|.lits 2<|.call (sV (-s2) (-s1))<|.lits 5<|.call (sV (-(-s1)) (-(-s2)))<|.lits 2<|.call (sV (-k2) (-k1))<|.lits 3<|.yes<|.lit<|.yes<|.lit<|.no<|.yes<|.lits 4<|.call (zV (r2-r1))<|.lit<|.call (sV ((-k2)-(r2-r1)) ((-k1)+(r2-r1)))<|.lit<|.yes<|.lit<|.call (sV u1 u2)<|.lits 2<|.ret)
  (cast_ob (aI True.intro (aI (fits_i64 oS:(fits .i64 (sc+24))=true) (aI (c4 ) (aI (c5 ) (aI (c6 ) (aI (decide_eq_true oO:(decide (r1<0))=true) (aI (fx_Neg s1 s2 oS oS) (have f9:=L_abs_neg s2; have f8:=L_abs_neg s1; aI (fx_Neg (-s2) (-s1) oS oS) (have f7:=L_abs_neg (-s1); have f6:=L_abs_neg (-s2); aI (fx_Neg k1 k2 oS oS) (have f5:=L_abs_neg k2; have f4:=L_abs_neg k1; aI (fits_i64 oS:(fits .i64 ((wRem q (4:Int))+4))=true) (aI (fits_i64 oS:(fits .i64 (((wRem q (4:Int))+4)+more))=true) (aI (iEq_mk c1:(iEq (wRem (((wRem q (4:Int))+4)+more) (4:Int)) (3:Int))=true) (aI (fx_Width r1 r2 oS oS) (have f3:=L_abs_sub r2 r1; aI (fx_Wide (-k2) (-k1) (r2-r1) oS oS oS) (have f2:=L_abs_add (-k1) (r2-r1); have f1:=L_abs_sub (-k2) (r2-r1); aI (fits_i64 oS:(fits .i64 ((sc+24)-sc))=true) (aI (c7 ) ((vsub_refl (sV u1 u2))))))))))))))))))) (by kernel_rfl))
end Go.Proofs.YtcbihoojfakhdaaGreatDoor

namespace Go.Proofs.YtcbihoojfakhdaaGreatDoor
open Go.RowKit
set_option maxRecDepth 100000
set_option maxHeartbeats 2000000
theorem pi_all:(List.range 400).all (fun t=>decide (piLo (t:Int)*2^(430-t)≤ptPi) && decide (ptPi≤piHi (t:Int)*2^(430-t)))=true:=by kernel_rfl
theorem cQ2:dv ptPi (-430)=cQ*2:=of_decide_eq_true (by kernel_rfl)
theorem pq_at {t:Nat}(ht:t<400):((piLo (t:Int):Int):Rat)≤cQ*((2^(t+1):Int):Rat)∧cQ*((2^(t+1):Int):Rat)≤((piHi (t:Int):Int):Rat):=by
 have h:=List.all_eq_true.1 pi_all t (List.mem_range.2 ht)
 simp only [Bool.and_eq_true,decide_eq_true_eq] at h
 have a:=(cl_sc (t:=t) oO).1 h.1
 have b:=(cl_sc (t:=t) oO).2 h.2
 have e:cQ*((2^(t+1):Int):Rat)=dv ptPi (-430)*((2^t:Int):Rat):=by
  rw [cQ2,Int.pow_succ,Rat.intCast_mul]
  show cQ*(((2^t:Int):Rat)*2)=_
  grind
 rw [e]; exact ⟨a,b⟩
theorem near_qk {d c T:Rat}{p1 p2 q1 q2 k:Int}(hp1:(p1:Rat)≤d*T)(hp2:d*T≤(p2:Rat))(hp:p2≤p1+1)(hq1:(q1:Rat)≤c*T)(hq2:c*T≤(q2:Rat))(hq:q2-q1≤16777216)(hT:4722366482869645213696≤T)
  (c1:157≤100*c) (c2:1000*c≤1571) (hk:k=Int.fdiv (((p1+p2)*2^1)+(q1+q2)) ((q1+q2)*2^1)) (d1:-4294967296≤d) (d2:d≤4294967296):(-4294967295≤k∧k≤4294967295)∧-80≤100*(d-(k:Rat)*c)∧100*(d-(k:Rat)*c)≤80:=by
 have T0:0<T:=by grind
 have m1:=Rat.mul_le_mul_of_nonneg_right c1 (Rat.le_of_lt T0)
 have m2:=Rat.mul_le_mul_of_nonneg_right c2 (Rat.le_of_lt T0)
 have m1:157*T≤100*(c*T):=by rw [← Rat.mul_assoc]; exact m1
 have m2:1000*(c*T)≤1571*T:=by rw [← Rat.mul_assoc]; exact m2
 have m3:=Rat.mul_le_mul_of_nonneg_right d1 (Rat.le_of_lt T0)
 have m4:=Rat.mul_le_mul_of_nonneg_right d2 (Rat.le_of_lt T0)
 have hpR:(p2:Rat)≤(p1:Rat)+1:=by
  have:(p2:Rat)≤((p1+1:Int):Rat):=Rat.intCast_le_intCast.2 hp
  rw [Rat.intCast_add] at this; exact this
 have hqR:(q2:Rat)≤(q1:Rat)+16777216:=by
  have:(q2:Rat)≤((q1+16777216:Int):Rat):=Rat.intCast_le_intCast.2 oO
  rw [Rat.intCast_add] at this; exact this
 have q0:0<q1+q2:=by
  have:(0:Rat)<((q1+q2:Int):Rat):=by rw [Rat.intCast_add]; grind
  exact Rat.intCast_pos.1 this
 rw [Int.fdiv_eq_ediv_of_nonneg _ oO] at hk
 have f1:=Int.ediv_mul_le (((p1+p2)*2^1)+(q1+q2)) (show (q1+q2)*2^1≠0 by omega)
 have f2:=Int.lt_ediv_add_one_mul_self (((p1+p2)*2^1)+(q1+q2)) (show 0<(q1+q2)*2^1 by omega)
 rw [← hk] at f1 f2
 rw [show (2:Int)^1=2 from rfl] at f1 f2
 have g1:((k*((q1+q2)*2):Int):Rat)≤(((p1+p2)*2+(q1+q2):Int):Rat):=Rat.intCast_le_intCast.2 f1
 have g2:(((p1+p2)*2+(q1+q2):Int):Rat)≤(((k+1)*((q1+q2)*2):Int):Rat):=Rat.intCast_le_intCast.2 (Int.le_of_lt f2)
 simp only [Rat.intCast_mul,Rat.intCast_add,show ((2:Int):Rat)=2 from rfl,show ((1:Int):Rat)=1 from rfl] at g1 g2
 have K1:k≤4294967295:=by
  refine Decidable.byContradiction fun hn=>?_
  have kR:(4294967296:Rat)≤(k:Rat):=Rat.intCast_le_intCast.2 (show (4294967296:Int)≤k by omega)
  have m:=Rat.mul_le_mul_of_nonneg_right kR (show 0≤((q1:Rat)+(q2:Rat))*2 by grind)
  clear f1 f2 hk
  grind
 have K2:-4294967295≤k:=by
  refine Decidable.byContradiction fun hn=>?_
  have kR:(k:Rat)+1≤-4294967295:=by
   have:=Rat.intCast_le_intCast.2 (show k+1≤-4294967295 by omega)
   rw [Rat.intCast_add] at this; exact this
  have m:=Rat.mul_le_mul_of_nonneg_right kR (show 0≤((q1:Rat)+(q2:Rat))*2 by grind)
  clear f1 f2 hk
  grind
 refine ⟨⟨K2,K1⟩,?_⟩
 have k1R:(k:Rat)≤4294967296:=Rat.intCast_le_intCast.2 (show k≤4294967296 by omega)
 have k2R:-4294967296≤(k:Rat):=Rat.intCast_le_intCast.2 (show -4294967296≤k by omega)
 have mb:=mul_bd (p:=(k:Rat)) (P:=4294967296) (x:=(q1:Rat)+(q2:Rat)-2*(c*T)) (a:=16777216) k2R k1R (by grind) (by grind)
 have e1:(k:Rat)*((q1:Rat)+(q2:Rat)-2*(c*T))=(k:Rat)*((q1:Rat)+(q2:Rat))-2*((k:Rat)*(c*T)):=by grind
 have e2:(k:Rat)*(((q1:Rat)+(q2:Rat))*2)=2*((k:Rat)*((q1:Rat)+(q2:Rat))):=by grind
 have e3:((k:Rat)+1)*(((q1:Rat)+(q2:Rat))*2)=2*((k:Rat)*((q1:Rat)+(q2:Rat)))+2*((q1:Rat)+(q2:Rat)):=by grind
 have e4:100*(d-(k:Rat)*c)*T=100*(d*T-(k:Rat)*(c*T)):=by grind
 rw [e1] at mb
 rw [e2] at g1
 rw [e3] at g2
 clear f1 f2 hk K1 K2 e1 e2 e3
 constructor
 ·refine Rat.le_of_mul_le_mul_right (c:=T) ?_ T0
  rw [e4]
  generalize (k:Rat)*(c*T)=x1 at *
  generalize (k:Rat)*((q1:Rat)+(q2:Rat))=x2 at *
  generalize c*T=C at *
  generalize d*T=D at *
  clear c1 c2 d1 d2 e4 k1R k2R hp hq q0
  grind
 ·refine Rat.le_of_mul_le_mul_right (c:=T) ?_ T0
  rw [e4]
  generalize (k:Rat)*(c*T)=x1 at *
  generalize (k:Rat)*((q1:Rat)+(q2:Rat))=x2 at *
  generalize c*T=C at *
  generalize d*T=D at *
  clear c1 c2 d1 d2 e4 k1R k2R hp hq q0
  grind
theorem fx_TurnE (m ee sc:Int)(hs:24≤sc∧sc≤320)(hm:L (m).natAbs≤20)(he:-440≤ee∧ee≤130)(d1:-4294967296≤dv m ee)(d2:dv m ee≤4294967296) :
  ∃ q r1 r2:Int,Impl Tryz.prog Amb 94 [(yV m ee),(.int .i64 sc)] (.tup [(.int .i64 q),(sV r1 r2)])∧(-4294967295≤q∧q≤4294967295)∧r1≤r2∧r2-r1≤300∧(-80≤100*(dv m ee-(q:Rat)*cQ)∧100*(dv m ee-(q:Rat)*cQ)≤80) ∧
   (r1:Rat)≤(dv m ee-(q:Rat)*cQ)*((2^sc.toNat:Int):Rat)∧(dv m ee-(q:Rat)*cQ)*((2^sc.toNat:Int):Rat)≤(r2:Rat):=by
 obtain ⟨t,ht⟩:∃ t:Nat,(t:Int)=sc+48:=⟨(sc+48).toNat,by omega⟩
 have hO:=fx_Of m ee (sc+48) oO oO oO
 have lf:=flr_LD m ee (sc+48)
 have sc1:=(flr_sc (dv m ee) t).1
 have sc2:=(cei_sc (dv m ee) t).1
 have fc:=(flr_cei1 (dv m ee) t).1
 have cl:=pq_at (t:=t+1) oO
 have tt:((t+1:Nat):Int)=sc+48+1:=by omega
 rw [tt] at cl
 rw [ht] at sc1 sc2 fc
 have b:=pi_ok (s:=sc+48+1) oO
 have bw:piHi (sc+48+1)-piLo (sc+48+1)<16777216:=by
  have:=nbits_lt (piHi (sc+48+1)-piLo (sc+48+1)).natAbs
  have p:=Nat.pow_le_pow_right (n:=2) oO b.2.2
  omega
 have hP:Impl Tryz.prog Amb 117 [(.int .i64 ((sc+48)+1))] (sV (piLo (sc+48+1)) (piHi (sc+48+1))):=fx_Pi (sc+48+1) oO
 generalize piLo (sc+48+1)=p1 at *
 generalize piHi (sc+48+1)=p2 at *
 generalize flr (dv m ee) (sc+48)=x1 at *
 generalize cei (dv m ee) (sc+48)=x2 at *
 have hH:=fx_Half p1 p2 2 oO oO oO
 have he1:=half_enc (a:=p1) (b:=p2) (X:=cQ) (t:=t+1+1) (s:=t) (n:=2) oO cl.1 cl.2
 have hw1:=half_w (a:=p1) (b:=p2) (W:=4194304) (n:=2) oO
 have o1:=L_abs_shr p1 2
 have o2:=L_abs_neg p2
 have o3:=L_abs_shr (-p2) 2
 have o4:=L_abs_neg (-p2 / 2^2)
 have e2:(2:Int).toNat=2:=rfl
 rw [e2] at hH
 generalize p1 / 2^2=h1 at *
 generalize -(-p2 / 2^2)=h2 at *
 have cb:=cQ_b
 have T72:(4722366482869645213696:Rat)≤((2^t:Int):Rat):=by
  have p:=Int.ofNat_le.2 (Nat.pow_le_pow_right (n:=2) oO (show 72≤t by omega))
  rw [← pow_cast,← pow_cast] at p
  exact Rat.intCast_le_intCast.2 p
 have nk:=near_qk (k:=Int.fdiv (((x1+x2)*2^1)+(h1+h2)) ((h1+h2)*2^1)) sc1 sc2 fc he1.1 he1.2 oO T72 cb.1 cb.2 rfl d1 d2
 have h12:0<h1+h2:=by
  have:(0:Rat)<((h1+h2:Int):Rat):=by
   rw [Rat.intCast_add]
   have m1:=Rat.mul_le_mul_of_nonneg_right cb.1 (show (0:Rat)≤((2^t:Int):Rat) by grind)
   have hR:(h2:Rat)≤(h1:Rat)+16777216:=by
    have:(h2:Rat)≤((h1+16777216:Int):Rat):=Rat.intCast_le_intCast.2 oO
    rw [Rat.intCast_add] at this; exact this
   grind
  exact Rat.intCast_pos.1 this
 have hN:=fx_Nearest x1 x2 h1 h2 oO oO oO oO h12 oO
 generalize Int.fdiv (((x1+x2)*2^1)+(h1+h2)) ((h1+h2)*2^1)=q at *
 have m1:=L_abs_mul h1 q
 have m2:=L_abs_mul h2 q
 have lk:=L_i64 (n:=q) oO
 have hT:=fx_TimesA h1 h2 q oO oO oO
 have te:=tm_enc (k:=q) he1.1 he1.2
 have h1le:h1≤h2:=Rat.intCast_le_intCast.1 (Rat.le_trans he1.1 he1.2)
 have tw:=tm_w (W:=4294967296) h1le (k:=q) oO oO
 have tL:L (tmLo h1 h2 q).natAbs≤430∧L (tmHi h1 h2 q).natAbs≤430:=by unfold tmLo tmHi; split<;>omega
 generalize tmLo h1 h2 q=t1 at *
 generalize tmHi h1 h2 q=t2 at *
 have n1:=L_abs_neg t1
 have n2:=L_abs_neg t2
 have a1:=L_abs_add x1 (-t2)
 have a2:=L_abs_add x2 (-t1)
 have hS:=fx_Sub x1 x2 t1 t2 oO oO oO oO
 have hH2:=fx_Half (x1+-t2) (x2+-t1) (sc+48-sc) oO oO oO
 have e48:(sc+48-sc).toNat=48:=by omega
 rw [e48] at hH2
 have hw:=half_w (a:=x1+-t2) (b:=x2+-t1) (W:=257) (n:=48) oO
 have he:=half_enc (a:=x1+-t2) (b:=x2+-t1) (X:=dv m ee-(q:Rat)*cQ) (t:=t) (s:=sc.toNat) (n:=48) oO (by rw [Rat.intCast_add,Rat.intCast_neg]; grind) (by rw [Rat.intCast_add,Rat.intCast_neg]; grind)
 refine ⟨q,_,_,fx_Turn0 m ee sc x1 x2 p1 p2 h1 h2 q t1 t2 _ _ _ _ hO hP hH hN hT hS hH2 oO,nk.1,Rat.intCast_le_intCast.1 (Rat.le_trans he.1 he.2),?_,nk.2,he.1,he.2⟩
 omega
end Go.Proofs.YtcbihoojfakhdaaGreatDoor

namespace Go.Proofs.YtcbihoojfakhdaaGreatDoor
def quad (j:Int)(c s:Rat):Rat:=if j=0 then s else if j=1 then c else if j=2 then -s else -c
def yA (j s1 s2 k1 k2:Int):Int:=if j=0 then s1 else if j=1 then k1 else if j=2 then -s2 else -k2
def yB (j s1 s2 k1 k2:Int):Int:=if j=0 then s2 else if j=1 then k2 else if j=2 then -s1 else -k1
theorem quad_cases {j:Int}(h:0≤j∧j≤3):j=0∨j=1∨j=2∨j=3:=by omega
theorem quad0 (c s:Rat):quad 0 c s=s:=rfl
theorem quad1 (c s:Rat):quad 1 c s=c:=rfl
theorem quad2 (c s:Rat):quad 2 c s=-s:=rfl
theorem quad3 (c s:Rat):quad 3 c s=-c:=rfl
theorem qS_quad (k:Int)(c s:Rat):qS k c s=quad (k%4) c s:=by
 unfold qS
 rcases (show k%4=0∨k%4=1∨k%4=2∨k%4=3 by omega) with q | q | q | q
 ·rw [iZ_0 q,q,quad0]; show s*1+c*0=s; grind
 ·rw [iZ_1 q,q,quad1]; show s*0+c*1=c; grind
 ·rw [iZ_2 q,q,quad2]; show s*-1+c*0=-s; grind
 ·rw [iZ_3 q,q,quad3]; show s*0+c*-1=-c; grind
theorem qC_quad (k:Int)(c s:Rat):qC k c s=quad ((k+1)%4) c s:=by
 unfold qC
 rcases (show k%4=0∨k%4=1∨k%4=2∨k%4=3 by omega) with q | q | q | q
 ·rw [iZ_0 q,show (k+1)%4=1 by omega,quad1]; show c*1-s*0=c; grind
 ·rw [iZ_1 q,show (k+1)%4=2 by omega,quad2]; show c*0-s*1=-s; grind
 ·rw [iZ_2 q,show (k+1)%4=3 by omega,quad3]; show c*-1-s*0=-c; grind
 ·rw [iZ_3 q,show (k+1)%4=0 by omega,quad0]; show c*0-s*-1=s; grind
theorem quad_lip {j:Int}(hj:0≤j∧j≤3){c s c' s' a:Rat}(hs:-a≤s-s'∧s-s'≤a)(hc:-a≤c-c'∧c-c'≤a):-a≤quad j c s-quad j c' s'∧quad j c s-quad j c' s'≤a:=by
 rcases quad_cases hj with rfl | rfl | rfl | rfl
 ·exact hs
 ·exact hc
 ·rw [quad2,quad2]; constructor<;>grind
 ·rw [quad3,quad3]; constructor<;>grind
theorem quad_enc {j:Int}(hj:0≤j∧j≤3){c s T:Rat}{s1 s2 k1 k2:Int}(hs:(s1:Rat)≤s*T∧s*T≤(s2:Rat))(hc:(k1:Rat)≤c*T∧c*T≤(k2:Rat)) :
  ((yA j s1 s2 k1 k2:Int):Rat)≤quad j c s*T∧quad j c s*T≤((yB j s1 s2 k1 k2:Int):Rat):=by
 rcases quad_cases hj with rfl | rfl | rfl | rfl
 ·exact hs
 ·exact hc
 ·have e1:yA 2 s1 s2 k1 k2=-s2:=rfl
  have e2:yB 2 s1 s2 k1 k2=-s1:=rfl
  rw [quad2,e1,e2,Rat.intCast_neg,Rat.intCast_neg]; constructor<;>grind
 ·have e1:yA 3 s1 s2 k1 k2=-k2:=rfl
  have e2:yB 3 s1 s2 k1 k2=-k1:=rfl
  rw [quad3,e1,e2,Rat.intCast_neg,Rat.intCast_neg]; constructor<;>grind
theorem quad_y {j:Int}(hj:0≤j∧j≤3){s1 s2 k1 k2 W:Int}(h1:s1≤s2)(h2:s2-s1≤W)(h3:k1≤k2)(h4:k2-k1≤W):yA j s1 s2 k1 k2≤yB j s1 s2 k1 k2∧yB j s1 s2 k1 k2-yA j s1 s2 k1 k2≤W:=by
 unfold yA yB
 rcases quad_cases hj with rfl | rfl | rfl | rfl<;>simp<;>omega
theorem quad_L {j:Int}{s1 s2 k1 k2:Int}{B:Nat}(h1:L s1.natAbs≤B)(h2:L s2.natAbs≤B)(h3:L k1.natAbs≤B)(h4:L k2.natAbs≤B):L (yA j s1 s2 k1 k2).natAbs≤B∧L (yB j s1 s2 k1 k2).natAbs≤B:=by
 have n1:=L_abs_neg s1
 have n2:=L_abs_neg s2
 have n3:=L_abs_neg k1
 have n4:=L_abs_neg k2
 unfold yA yB
 constructor
 ·split
  ·omega
  ·split
   ·omega
   ·split<;>omega
 ·split
  ·omega
  ·split
   ·omega
   ·split<;>omega
def SC (more:Int)(d:Rat)(K:Nat):Rat:=if more=0 then SN d K else CS d K
theorem near_SC (d:Rat)(k more:Int)(hm:more=0∨more=1){M:Nat}(hk:k.natAbs≤M)(hM:1≤M):∃ N,∀ K,N≤K →
  SC more d K≤quad ((k+more)%4) (CS (d-(k:Rat)*cQ) K) (SN (d-(k:Rat)*cQ) K)+qerr M∧quad ((k+more)%4) (CS (d-(k:Rat)*cQ) K) (SN (d-(k:Rat)*cQ) K)≤SC more d K+qerr M:=by
 obtain ⟨N,h⟩:=near_q d k hk hM
 refine ⟨N,fun K hK=>?_⟩
 have h:=h K hK
 rw [qS_quad,qC_quad] at h
 rcases hm with rfl | rfl
 ·rw [Int.add_zero]; exact h.1
 ·exact h.2
theorem EnE.half {f:Nat→Rat}{t s n:Nat}{a b:Int}{g:Rat}(ht:t=s+n)(h:EnE f t a b (g*((2^t:Int):Rat))):EnE f s (a / 2^n) (-(-b / 2^n)) (g*((2^s:Int):Rat)):=by
 obtain ⟨N,h⟩:=h
 refine ⟨N,fun K hK=>?_⟩
 have q:=h K hK
 have e1:f K*((2^t:Int):Rat)+g*((2^t:Int):Rat)=(f K+g)*((2^t:Int):Rat):=by grind
 have P0:(0:Rat)<((2^n:Int):Rat):=Rat.intCast_pos.2 (two_pos n)
 have f1:=(fl_R (a:=a) (two_pos n)).1
 have f2:=(ce_R (a:=b) (two_pos n)).1
 have e:((2^t:Int):Rat)=((2^s:Int):Rat)*((2^n:Int):Rat):=by rw [ht,Int.pow_add,Rat.intCast_mul]
 rw [e] at q
 constructor
 ·refine Rat.le_of_mul_le_mul_right (c:=((2^n:Int):Rat)) ?_ P0
  have:=q.1
  grind
 ·refine Rat.le_of_mul_le_mul_right (c:=((2^n:Int):Rat)) ?_ P0
  have:=q.2
  grind
def sM:Nat:=4294967296
def sE:Rat:=26*((sM:Rat)*eps)
theorem sin_EnE {d ρ:Rat}{q more W:Int}{t:Nat}{y1 y2 r1 r2:Int}(hm:more=0∨more=1)(hq:q.natAbs≤sM)(hr1:(r1:Rat)≤(d-(q:Rat)*cQ)*((2^t:Int):Rat))(hr2:(d-(q:Rat)*cQ)*((2^t:Int):Rat)≤(r2:Rat))(hρ:ρ*((2^t:Int):Rat)=(r1:Rat))
  (hw:r2-r1≤2^t) (hy:∃ N,∀ K,N≤K→(y1:Rat)≤quad ((q+more)%4) (CS ρ K) (SN ρ K)*((2^t:Int):Rat)∧quad ((q+more)%4) (CS ρ K) (SN ρ K)*((2^t:Int):Rat)≤(y2:Rat)) :
  EnE (SC more d) t (y1-(r2-r1)) (y2+(r2-r1)) (sE*((2^t:Int):Rat)):=by
 have T0:(0:Rat)<((2^t:Int):Rat):=Rat.intCast_pos.2 (two_pos t)
 have i0:=Rat.inv_pos.2 T0
 have ie:=inv_one T0
 have e0:=eps0
 have M0:(0:Rat)<(sM:Rat):=of_decide_eq_true (by kernel_rfl)
 have me:=Rat.mul_pos M0 e0
 obtain ⟨N1,h1⟩:=near_SC d q more hm hq (by decide)
 obtain ⟨h,hh⟩:∃ h,h=(d-(q:Rat)*cQ)-ρ:=⟨_,rfl⟩
 have hr:ρ+h=d-(q:Rat)*cQ:=by rw [hh]; grind
 have hT:h*((2^t:Int):Rat)=(d-(q:Rat)*cQ)*((2^t:Int):Rat)-(r1:Rat):=by rw [hh,← hρ]; grind
 have h0:0≤h:=Rat.le_of_mul_le_mul_right (c:=((2^t:Int):Rat)) (by rw [Rat.zero_mul,hT]; grind) T0
 have hwR:(r2:Rat)-(r1:Rat)≤((2^t:Int):Rat):=by
  have:=Rat.intCast_le_intCast.2 hw
  rw [Rat.intCast_sub] at this; exact this
 have h1':h≤1:=Rat.le_of_mul_le_mul_right (c:=((2^t:Int):Rat)) (by rw [hT]; grind) T0
 obtain ⟨N2,h2⟩:=lip (x:=ρ) h0 (by grind) me
 obtain ⟨N3,h3⟩:=hy
 refine ⟨N1+N2+N3,fun K hK=>?_⟩
 have h1:=h1 K (by omega)
 have h2:=h2 K (by omega)
 have h3:=h3 K (by omega)
 rw [hr] at h2
 have jb:0≤(q+more)%4∧(q+more)%4≤3:=by omega
 have l:=quad_lip jb h2.1 h2.2
 have eq:qerr sM=25*((sM:Rat)*eps):=rfl
 rw [eq] at h1
 unfold sE
 generalize quad ((q+more)%4) (CS (d-(q:Rat)*cQ) K) (SN (d-(q:Rat)*cQ) K)=u at *
 generalize quad ((q+more)%4) (CS ρ K) (SN ρ K)=v at *
 generalize (sM:Rat)*eps=E at *
 generalize SC more d K=z at *
 have hT2:h*((2^t:Int):Rat)≤(r2:Rat)-(r1:Rat):=by rw [hT]; grind
 have m1:=Rat.mul_le_mul_of_nonneg_right (show z≤v+h+26*E by grind) (Rat.le_of_lt T0)
 have m2:=Rat.mul_le_mul_of_nonneg_right (show v≤z+h+26*E by grind) (Rat.le_of_lt T0)
 rw [Rat.intCast_sub,Rat.intCast_add,Rat.intCast_sub]
 generalize ((2^t:Int):Rat)=T at *
 clear h1 h2 l hρ hh hr
 constructor<;>grind
theorem wrem4 (q:Int)(more:Int)(hm:more=0∨more=1):wRem ((wRem q 4+4)+more) 4=(q+more)%4:=by
 unfold wRem
 have b:=wRem_abs (v:=q) (n:=4) (by omega)
 unfold wRem at b
 rw [Int.tmod_eq_emod_of_nonneg (by omega)]
 have e:Int.tmod q 4%4=q%4:=by
  rcases (show 0≤q∨q<0 by omega) with h | h
  ·rw [Int.tmod_eq_emod_of_nonneg h]; omega
  ·have:Int.tmod q 4=-(Int.tmod (-q) 4):=by rw [Int.neg_tmod,Int.neg_neg]
   rw [this,Int.tmod_eq_emod_of_nonneg (by omega)]; omega
 omega
end Go.Proofs.YtcbihoojfakhdaaGreatDoor
