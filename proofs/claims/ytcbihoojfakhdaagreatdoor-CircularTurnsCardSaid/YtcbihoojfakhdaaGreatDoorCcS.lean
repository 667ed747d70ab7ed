/-
  Lower layers: what functions of the program compute, and zxd facts. Conditions: as the theorems say.
-/
import Derived.Test.YtcbihoojfakhdaaGreatDoorCcR
set_option linter.unusedVariables false
set_option linter.unusedSimpArgs false
namespace Go.Proofs.YtcbihoojfakhdaaGreatDoor
def quad (j:Int)(c s:Rat):Rat:=if j=0 then s else if j=1 then c else if j=2 then -s else -c
def yA (j s1 s2 k1 k2:Int):Int:=if j=0 then s1 else if j=1 then k1 else if j=2 then -s2 else -k2
def yB (j s1 s2 k1 k2:Int):Int:=if j=0 then s2 else if j=1 then k2 else if j=2 then -s1 else -k1
theorem zt4 {j:Int}(h:0≤j∧j≤3):j=0∨j=1∨j=2∨j=3:=by omega
theorem zt5 (c s:Rat):quad 0 c s=s:=rfl
theorem zt6 (c s:Rat):quad 1 c s=c:=rfl
theorem zt7 (c s:Rat):quad 2 c s=-s:=rfl
theorem zt8 (c s:Rat):quad 3 c s=-c:=rfl
theorem zt9 (k:Int)(c s:Rat):qS k c s=quad (k%4) c s:=by
 unfold qS
 rcases (show k%4=0∨k%4=1∨k%4=2∨k%4=3 by omega) with q | q | q | q
 ·rw [iZ_0 q,q,zt5]; show s*1+c*0=s; grind
 ·rw [iZ_1 q,q,zt6]; show s*0+c*1=c; grind
 ·rw [iZ_2 q,q,zt7]; show s*-1+c*0=-s; grind
 ·rw [iZ_3 q,q,zt8]; show s*0+c*-1=-c; grind
theorem zta (k:Int)(c s:Rat):qC k c s=quad ((k+1)%4) c s:=by
 unfold qC
 rcases (show k%4=0∨k%4=1∨k%4=2∨k%4=3 by omega) with q | q | q | q
 ·rw [iZ_0 q,show (k+1)%4=1 by omega,zt6]; show c*1-s*0=c; grind
 ·rw [iZ_1 q,show (k+1)%4=2 by omega,zt7]; show c*0-s*1=-s; grind
 ·rw [iZ_2 q,show (k+1)%4=3 by omega,zt8]; show c*-1-s*0=-c; grind
 ·rw [iZ_3 q,show (k+1)%4=0 by omega,zt5]; show c*0-s*-1=s; grind
theorem ztb {j:Int}(hj:0≤j∧j≤3){c s c' s' a:Rat}(hs:-a≤s-s'∧s-s'≤a)(hc:-a≤c-c'∧c-c'≤a):-a≤quad j c s-quad j c' s'∧quad j c s-quad j c' s'≤a:=by
 rcases zt4 hj with rfl | rfl | rfl | rfl
 ·exact hs
 ·exact hc
 ·rw [zt7,zt7]; constructor<;>grind
 ·rw [zt8,zt8]; constructor<;>grind
theorem ztc {j:Int}(hj:0≤j∧j≤3){c s T:Rat}{s1 s2 k1 k2:Int}(hs:(s1:Rat)≤s*T∧s*T≤(s2:Rat))(hc:(k1:Rat)≤c*T∧c*T≤(k2:Rat)) :
  ((yA j s1 s2 k1 k2:Int):Rat)≤quad j c s*T∧quad j c s*T≤((yB j s1 s2 k1 k2:Int):Rat):=by
 rcases zt4 hj with rfl | rfl | rfl | rfl
 ·exact hs
 ·exact hc
 ·have e1:yA 2 s1 s2 k1 k2=-s2:=rfl
  have e2:yB 2 s1 s2 k1 k2=-s1:=rfl
  rw [zt7,e1,e2,Rat.intCast_neg,Rat.intCast_neg]; constructor<;>grind
 ·have e1:yA 3 s1 s2 k1 k2=-k2:=rfl
  have e2:yB 3 s1 s2 k1 k2=-k1:=rfl
  rw [zt8,e1,e2,Rat.intCast_neg,Rat.intCast_neg]; constructor<;>grind
theorem ztd {j:Int}(hj:0≤j∧j≤3){s1 s2 k1 k2 W:Int}(h1:s1≤s2)(h2:s2-s1≤W)(h3:k1≤k2)(h4:k2-k1≤W):yA j s1 s2 k1 k2≤yB j s1 s2 k1 k2∧yB j s1 s2 k1 k2-yA j s1 s2 k1 k2≤W:=by
 unfold yA yB
 rcases zt4 hj with rfl | rfl | rfl | rfl<;>simp<;>omega
theorem zte {j:Int}{s1 s2 k1 k2:Int}{B:Nat}(h1:L s1.natAbs≤B)(h2:L s2.natAbs≤B)(h3:L k1.natAbs≤B)(h4:L k2.natAbs≤B):L (yA j s1 s2 k1 k2).natAbs≤B∧L (yB j s1 s2 k1 k2).natAbs≤B:=by
 have n1:=zcy s1
 have n2:=zcy s2
 have n3:=zcy k1
 have n4:=zcy k2
 unfold yA yB
 constructor
 ·split
  ·omega
  ·split
   ·omega
   ·split<;>omega
 ·split
  ·omega
  ·split
   ·omega
   ·split<;>omega
def SC (more:Int)(d:Rat)(K:Nat):Rat:=if more=0 then SN d K else CS d K
theorem ztf (d:Rat)(k more:Int)(hm:more=0∨more=1){M:Nat}(hk:k.natAbs≤M)(hM:1≤M):∃ N,∀ K,N≤K →
  SC more d K≤quad ((k+more)%4) (CS (d-(k:Rat)*cQ) K) (SN (d-(k:Rat)*cQ) K)+qerr M∧quad ((k+more)%4) (CS (d-(k:Rat)*cQ) K) (SN (d-(k:Rat)*cQ) K)≤SC more d K+qerr M:=by
 obtain ⟨N,h⟩:=zs6 d k hk hM
 refine ⟨N,fun K hK=>?_⟩
 have h:=h K hK
 rw [zt9,zta] at h
 rcases hm with rfl | rfl
 ·rw [Int.add_zero]; exact h.1
 ·exact h.2
theorem EnE.half {f:Nat→Rat}{t s n:Nat}{a b:Int}{g:Rat}(ht:t=s+n)(h:EnE f t a b (g*((2^t:Int):Rat))):EnE f s (a / 2^n) (-(-b / 2^n)) (g*((2^s:Int):Rat)):=by
 obtain ⟨N,h⟩:=h
 refine ⟨N,fun K hK=>?_⟩
 have q:=h K hK
 have e1:f K*((2^t:Int):Rat)+g*((2^t:Int):Rat)=(f K+g)*((2^t:Int):Rat):=by grind
 have P0:(0:Rat)<((2^n:Int):Rat):=Rat.intCast_pos.2 (zi5 n)
 have f1:=(fl_R (a:=a) (zi5 n)).1
 have f2:=(ce_R (a:=b) (zi5 n)).1
 have e:((2^t:Int):Rat)=((2^s:Int):Rat)*((2^n:Int):Rat):=by rw [ht,Int.pow_add,Rat.intCast_mul]
 rw [e] at q
 constructor
 ·refine Rat.le_of_mul_le_mul_right (c:=((2^n:Int):Rat)) ?_ P0
  have:=q.1
  grind
 ·refine Rat.le_of_mul_le_mul_right (c:=((2^n:Int):Rat)) ?_ P0
  have:=q.2
  grind
def sM:Nat:=4294967296
def sE:Rat:=26*((sM:Rat)*eps)
theorem ztg {d ρ:Rat}{q more W:Int}{t:Nat}{y1 y2 r1 r2:Int}(hm:more=0∨more=1)(hq:q.natAbs≤sM)(hr1:(r1:Rat)≤(d-(q:Rat)*cQ)*((2^t:Int):Rat))(hr2:(d-(q:Rat)*cQ)*((2^t:Int):Rat)≤(r2:Rat))(hρ:ρ*((2^t:Int):Rat)=(r1:Rat))
  (hw:r2-r1≤2^t) (hy:∃ N,∀ K,N≤K→(y1:Rat)≤quad ((q+more)%4) (CS ρ K) (SN ρ K)*((2^t:Int):Rat)∧quad ((q+more)%4) (CS ρ K) (SN ρ K)*((2^t:Int):Rat)≤(y2:Rat)) :
  EnE (SC more d) t (y1-(r2-r1)) (y2+(r2-r1)) (sE*((2^t:Int):Rat)):=by
 have T0:(0:Rat)<((2^t:Int):Rat):=Rat.intCast_pos.2 (zi5 t)
 have i0:=Rat.inv_pos.2 T0
 have ie:=zr0 T0
 have e0:=eps0
 have M0:(0:Rat)<(sM:Rat):=of_decide_eq_true (by kernel_rfl)
 have me:=Rat.mul_pos M0 e0
 obtain ⟨N1,h1⟩:=ztf d q more hm hq (by decide)
 obtain ⟨h,hh⟩:∃ h,h=(d-(q:Rat)*cQ)-ρ:=⟨_,rfl⟩
 have hr:ρ+h=d-(q:Rat)*cQ:=by rw [hh]; grind
 have hT:h*((2^t:Int):Rat)=(d-(q:Rat)*cQ)*((2^t:Int):Rat)-(r1:Rat):=by rw [hh,← hρ]; grind
 have h0:0≤h:=Rat.le_of_mul_le_mul_right (c:=((2^t:Int):Rat)) (by rw [Rat.zero_mul,hT]; grind) T0
 have hwR:(r2:Rat)-(r1:Rat)≤((2^t:Int):Rat):=by
  have:=Rat.intCast_le_intCast.2 hw
  rw [Rat.intCast_sub] at this; exact this
 have h1':h≤1:=Rat.le_of_mul_le_mul_right (c:=((2^t:Int):Rat)) (by rw [hT]; grind) T0
 obtain ⟨N2,h2⟩:=lip (x:=ρ) h0 (by grind) me
 obtain ⟨N3,h3⟩:=hy
 refine ⟨N1+N2+N3,fun K hK=>?_⟩
 have h1:=h1 K (by omega)
 have h2:=h2 K (by omega)
 have h3:=h3 K (by omega)
 rw [hr] at h2
 have jb:0≤(q+more)%4∧(q+more)%4≤3:=by omega
 have l:=ztb jb h2.1 h2.2
 have eq:qerr sM=25*((sM:Rat)*eps):=rfl
 rw [eq] at h1
 unfold sE
 generalize quad ((q+more)%4) (CS (d-(q:Rat)*cQ) K) (SN (d-(q:Rat)*cQ) K)=u at *
 generalize quad ((q+more)%4) (CS ρ K) (SN ρ K)=v at *
 generalize (sM:Rat)*eps=E at *
 generalize SC more d K=z at *
 have hT2:h*((2^t:Int):Rat)≤(r2:Rat)-(r1:Rat):=by rw [hT]; grind
 have m1:=Rat.mul_le_mul_of_nonneg_right (show z≤v+h+26*E by grind) (Rat.le_of_lt T0)
 have m2:=Rat.mul_le_mul_of_nonneg_right (show v≤z+h+26*E by grind) (Rat.le_of_lt T0)
 rw [Rat.intCast_sub,Rat.intCast_add,Rat.intCast_sub]
 generalize ((2^t:Int):Rat)=T at *
 clear h1 h2 l hρ hh hr
 constructor<;>grind
theorem zth (q:Int)(more:Int)(hm:more=0∨more=1):wRem ((wRem q 4+4)+more) 4=(q+more)%4:=by
 unfold wRem
 have b:=zo2 (v:=q) (n:=4) (by omega)
 unfold wRem at b
 rw [Int.tmod_eq_emod_of_nonneg (by omega)]
 have e:Int.tmod q 4%4=q%4:=by
  rcases (show 0≤q∨q<0 by omega) with h | h
  ·rw [Int.tmod_eq_emod_of_nonneg h]; omega
  ·have:Int.tmod q 4=-(Int.tmod (-q) 4):=by rw [Int.neg_tmod,Int.neg_neg]
   rw [this,Int.tmod_eq_emod_of_nonneg (by omega)]; omega
 omega
end Go.Proofs.YtcbihoojfakhdaaGreatDoor

namespace Go.Proofs.YtcbihoojfakhdaaGreatDoor
open Go.RowKit
set_option maxRecDepth 100000
set_option maxHeartbeats 2000000
theorem zti {a b c d:Int}(h1:a=c)(h2:b=d):(V.agg [.bool (decide (a<0)),N a.natAbs,.bool (decide (b<0)),N b.natAbs])=.agg [.bool (decide (c<0)),N c.natAbs,.bool (decide (d<0)),N d.natAbs]:=by
 subst h1; subst h2; rfl
theorem ztj (sc q1 q2 x:Int)(hs:24≤sc∧sc≤400)(h:TyH (2^sc.toNat) q1 q2 x x) :
  ∃ n:Nat,n≤sc.toNat∧Impl Tryz.prog Amb 237 [(sV x x),(sV q1 q2),(.int .u32 1),(.int .i64 sc)] (sV (tyA (fun j=>(ty (2^sc.toNat) q1 q2 x x 1 j).1) (fun j=>(ty (2^sc.toNat) q1 q2 x x 1 j).2) n-(ty (2^sc.toNat) q1 q2 x x 1 n).2) (tyB (fun j=>(ty (2^sc.toNat) q1 q2 x x 1 j).1) (fun j=>(ty (2^sc.toNat) q1 q2 x x 1 j).2) n+(ty (2^sc.toNat) q1 q2 x x 1 n).2))∧(0≤(ty (2^sc.toNat) q1 q2 x x 1 n).2∧(ty (2^sc.toNat) q1 q2 x x 1 n).2<8):=by
 obtain ⟨n,n1,n2,n3⟩:=zse h 1
 have tf:=zsc h 1
 have tl:∀ z:Int,0≤z→z≤2^sc.toNat→L z.natAbs≤70:=fun z z0 z1=>by
  have p:((2^sc.toNat:Nat):Int)=(2:Int)^sc.toNat:=(zak _).symm
  exact zqw (t:=sc.toNat) (c:=1) oO oO oO
 have l1:∀ j,L (ty (2^sc.toNat) q1 q2 x x 1 j).1.natAbs≤70:=fun j=>tl _ (tf j).1 (by have:=tf j; omega)
 have l2:∀ j,L (ty (2^sc.toNat) q1 q2 x x 1 j).2.natAbs≤70:=fun j=>tl _ (by have:=tf j; omega) (tf j).2.2.1
 have sb:=zsh (p1:=(fun j=>(ty (2^sc.toNat) q1 q2 x x 1 j).1)) (p2:=(fun j=>(ty (2^sc.toNat) q1 q2 x x 1 j).2)) (T:=2^sc.toNat) tf
 have ls:∀ j,j≤n→L (tyA (fun j=>(ty (2^sc.toNat) q1 q2 x x 1 j).1) (fun j=>(ty (2^sc.toNat) q1 q2 x x 1 j).2) j).natAbs≤70∧L (tyB (fun j=>(ty (2^sc.toNat) q1 q2 x x 1 j).1) (fun j=>(ty (2^sc.toNat) q1 q2 x x 1 j).2) j).natAbs≤70:=fun j hj=>by
  have b:=(sb j).1
  have p:((2^sc.toNat:Nat):Int)=(2:Int)^sc.toNat:=(zak _).symm
  have m:=Int.mul_le_mul_of_nonneg_right (show (j:Int)+1≤1000 by omega) (Int.le_of_lt (zi5 sc.toNat))
  exact ⟨zqw (t:=sc.toNat) (c:=1000) oO oO oO,zqw (t:=sc.toNat) (c:=1000) oO oO oO⟩
 have lq1:=tl q1 h.q0 (by have:=h.q12; have:=h.qT; omega)
 have lq2:=tl q2 (by have:=h.q0; have:=h.q12; omega) h.qT
 refine ⟨n,n1,zsp n 1 q1 q2 sc (fun j=>(ty (2^sc.toNat) q1 q2 x x 1 j).1) (fun j=>(ty (2^sc.toNat) q1 q2 x x 1 j).2) (fun j=>(ty (2^sc.toNat) q1 q2 x x 1 j).1*q1 / 2^sc.toNat) (fun j=>-(-((ty (2^sc.toNat) q1 q2 x x 1 j).2*q2) / 2^sc.toNat)) (fun j hj=>?_) (fun j hj=>?_) (fun j k hj hk=>?_) (fun j hj he=>?_) (fun j hj he=>?_) oO (fun j hj=>⟨Nat.le_trans (ls j hj).1 oO,Nat.le_trans (ls j hj).2 oO,Nat.le_trans (l2 j) oO⟩),by have:=tf n; omega,n2⟩
 ·refine zon (congrArg V.bool (decide_eq_decide.2 ?_)) (zpt (ty (2^sc.toNat) q1 q2 x x 1 j).1 (ty (2^sc.toNat) q1 q2 x x 1 j).2 (by have:=l2 j; omega))
  have z:=tf j
  constructor
  ·intro q
   exact Decidable.byContradiction fun hn=>n3 j oO oO
  ·intro q
   rw [show j=n by omega]
   have:=tf n
   omega
 ·exact zpo (ty (2^sc.toNat) q1 q2 x x 1 j).1 (ty (2^sc.toNat) q1 q2 x x 1 j).2 q1 q2 sc (by have:=l1 j; omega) (by have:=l2 j; omega) oO oO oO
 ·subst hk
  have z:=zsd h 1 j
  have g1:=tl _ z.1.1 z.1.2
  have g2:=tl _ z.2.1.1 z.2.1.2
  exact zpr _ _ (mT 1 j) (by show L ((ty (2^sc.toNat) q1 q2 x x 1 j).1*q1 / 2^sc.toNat).natAbs≤65536; omega) (by show L (-(-((ty (2^sc.toNat) q1 q2 x x 1 j).2*q2) / 2^sc.toNat)).natAbs≤65536; omega) ⟨by have:=zs9 1 j; omega,zsa oO oO⟩
 ·have z:=ls j oO
  have y1:=l1 (j+1)
  have y2:=l2 (j+1)
  exact zon (zti (if_pos he).symm (if_pos he).symm) (zl8 (tyA (fun j=>(ty (2^sc.toNat) q1 q2 x x 1 j).1) (fun j=>(ty (2^sc.toNat) q1 q2 x x 1 j).2) j) (tyB (fun j=>(ty (2^sc.toNat) q1 q2 x x 1 j).1) (fun j=>(ty (2^sc.toNat) q1 q2 x x 1 j).2) j) (ty (2^sc.toNat) q1 q2 x x 1 (j+1)).1 (ty (2^sc.toNat) q1 q2 x x 1 (j+1)).2 oO oO oO oO)
 ·have z:=ls j oO
  have y1:=l1 (j+1)
  have y2:=l2 (j+1)
  have he:¬ j%2=0:=by omega
  exact zon (zti (if_neg he).symm (if_neg he).symm) (zl7 (tyA (fun j=>(ty (2^sc.toNat) q1 q2 x x 1 j).1) (fun j=>(ty (2^sc.toNat) q1 q2 x x 1 j).2) j) (tyB (fun j=>(ty (2^sc.toNat) q1 q2 x x 1 j).1) (fun j=>(ty (2^sc.toNat) q1 q2 x x 1 j).2) j) (ty (2^sc.toNat) q1 q2 x x 1 (j+1)).1 (ty (2^sc.toNat) q1 q2 x x 1 (j+1)).2 oO oO oO oO)
theorem ztk (sc q1 q2:Int)(hs:24≤sc∧sc≤400)(h:TyH (2^sc.toNat) q1 q2 ((2:Int)^sc.toNat) ((2:Int)^sc.toNat)) :
  ∃ n:Nat,1≤n∧n≤sc.toNat∧Impl Tryz.prog Amb 237 [(sV ((2:Int)^sc.toNat) ((2:Int)^sc.toNat)),(sV q1 q2),(.int .u32 0),(.int .i64 sc)] (sV (tyA (fun j=>(ty (2^sc.toNat) q1 q2 ((2:Int)^sc.toNat) ((2:Int)^sc.toNat) 0 j).1) (fun j=>(ty (2^sc.toNat) q1 q2 ((2:Int)^sc.toNat) ((2:Int)^sc.toNat) 0 j).2) n-(ty (2^sc.toNat) q1 q2 ((2:Int)^sc.toNat) ((2:Int)^sc.toNat) 0 n).2) (tyB (fun j=>(ty (2^sc.toNat) q1 q2 ((2:Int)^sc.toNat) ((2:Int)^sc.toNat) 0 j).1) (fun j=>(ty (2^sc.toNat) q1 q2 ((2:Int)^sc.toNat) ((2:Int)^sc.toNat) 0 j).2) n+(ty (2^sc.toNat) q1 q2 ((2:Int)^sc.toNat) ((2:Int)^sc.toNat) 0 n).2))∧(0≤(ty (2^sc.toNat) q1 q2 ((2:Int)^sc.toNat) ((2:Int)^sc.toNat) 0 n).2∧(ty (2^sc.toNat) q1 q2 ((2:Int)^sc.toNat) ((2:Int)^sc.toNat) 0 n).2<8):=by
 obtain ⟨n,n1,n2,n3⟩:=zse h 0
 have tf:=zsc h 0
 have tl:∀ z:Int,0≤z→z≤2^sc.toNat→L z.natAbs≤70:=fun z z0 z1=>by
  have p:((2^sc.toNat:Nat):Int)=(2:Int)^sc.toNat:=(zak _).symm
  exact zqw (t:=sc.toNat) (c:=1) oO oO oO
 have l1:∀ j,L (ty (2^sc.toNat) q1 q2 ((2:Int)^sc.toNat) ((2:Int)^sc.toNat) 0 j).1.natAbs≤70:=fun j=>tl _ (tf j).1 (by have:=tf j; omega)
 have l2:∀ j,L (ty (2^sc.toNat) q1 q2 ((2:Int)^sc.toNat) ((2:Int)^sc.toNat) 0 j).2.natAbs≤70:=fun j=>tl _ (by have:=tf j; omega) (tf j).2.2.1
 have sb:=zsh (p1:=(fun j=>(ty (2^sc.toNat) q1 q2 ((2:Int)^sc.toNat) ((2:Int)^sc.toNat) 0 j).1)) (p2:=(fun j=>(ty (2^sc.toNat) q1 q2 ((2:Int)^sc.toNat) ((2:Int)^sc.toNat) 0 j).2)) (T:=2^sc.toNat) tf
 have ls:∀ j,j≤n→L (tyA (fun j=>(ty (2^sc.toNat) q1 q2 ((2:Int)^sc.toNat) ((2:Int)^sc.toNat) 0 j).1) (fun j=>(ty (2^sc.toNat) q1 q2 ((2:Int)^sc.toNat) ((2:Int)^sc.toNat) 0 j).2) j).natAbs≤70∧L (tyB (fun j=>(ty (2^sc.toNat) q1 q2 ((2:Int)^sc.toNat) ((2:Int)^sc.toNat) 0 j).1) (fun j=>(ty (2^sc.toNat) q1 q2 ((2:Int)^sc.toNat) ((2:Int)^sc.toNat) 0 j).2) j).natAbs≤70:=fun j hj=>by
  have b:=(sb j).1
  have p:((2^sc.toNat:Nat):Int)=(2:Int)^sc.toNat:=(zak _).symm
  have m:=Int.mul_le_mul_of_nonneg_right (show (j:Int)+1≤1000 by omega) (Int.le_of_lt (zi5 sc.toNat))
  exact ⟨zqw (t:=sc.toNat) (c:=1000) oO oO oO,zqw (t:=sc.toNat) (c:=1000) oO oO oO⟩
 have lq1:=tl q1 h.q0 (by have:=h.q12; have:=h.qT; omega)
 have lq2:=tl q2 (by have:=h.q0; have:=h.q12; omega) h.qT
 refine ⟨n,?_,n1,zsp n 0 q1 q2 sc (fun j=>(ty (2^sc.toNat) q1 q2 ((2:Int)^sc.toNat) ((2:Int)^sc.toNat) 0 j).1) (fun j=>(ty (2^sc.toNat) q1 q2 ((2:Int)^sc.toNat) ((2:Int)^sc.toNat) 0 j).2) (fun j=>(ty (2^sc.toNat) q1 q2 ((2:Int)^sc.toNat) ((2:Int)^sc.toNat) 0 j).1*q1 / 2^sc.toNat) (fun j=>-(-((ty (2^sc.toNat) q1 q2 ((2:Int)^sc.toNat) ((2:Int)^sc.toNat) 0 j).2*q2) / 2^sc.toNat)) (fun j hj=>?_) (fun j hj=>?_) (fun j k hj hk=>?_) (fun j hj he=>?_) (fun j hj he=>?_) oO (fun j hj=>⟨Nat.le_trans (ls j hj).1 oO,Nat.le_trans (ls j hj).2 oO,Nat.le_trans (l2 j) oO⟩),by have:=tf n; omega,n2⟩
 ·refine Decidable.byContradiction fun hn=>?_
  rw [show n=0 by omega] at n2
  have n2:(2:Int)^sc.toNat<8:=n2
  have:=h.hT
  omega
 ·refine zon (congrArg V.bool (decide_eq_decide.2 ?_)) (zpt (ty (2^sc.toNat) q1 q2 ((2:Int)^sc.toNat) ((2:Int)^sc.toNat) 0 j).1 (ty (2^sc.toNat) q1 q2 ((2:Int)^sc.toNat) ((2:Int)^sc.toNat) 0 j).2 (by have:=l2 j; omega))
  have z:=tf j
  constructor
  ·intro q
   exact Decidable.byContradiction fun hn=>n3 j oO oO
  ·intro q
   rw [show j=n by omega]
   have:=tf n
   omega
 ·exact zpo (ty (2^sc.toNat) q1 q2 ((2:Int)^sc.toNat) ((2:Int)^sc.toNat) 0 j).1 (ty (2^sc.toNat) q1 q2 ((2:Int)^sc.toNat) ((2:Int)^sc.toNat) 0 j).2 q1 q2 sc (by have:=l1 j; omega) (by have:=l2 j; omega) oO oO oO
 ·subst hk
  have z:=zsd h 0 j
  have g1:=tl _ z.1.1 z.1.2
  have g2:=tl _ z.2.1.1 z.2.1.2
  exact zpr _ _ (mT 0 j) (by show L ((ty (2^sc.toNat) q1 q2 ((2:Int)^sc.toNat) ((2:Int)^sc.toNat) 0 j).1*q1 / 2^sc.toNat).natAbs≤65536; omega) (by show L (-(-((ty (2^sc.toNat) q1 q2 ((2:Int)^sc.toNat) ((2:Int)^sc.toNat) 0 j).2*q2) / 2^sc.toNat)).natAbs≤65536; omega) ⟨by have:=zs9 0 j; omega,zsa oO oO⟩
 ·have z:=ls j oO
  have y1:=l1 (j+1)
  have y2:=l2 (j+1)
  exact zon (zti (if_pos he).symm (if_pos he).symm) (zl8 (tyA (fun j=>(ty (2^sc.toNat) q1 q2 ((2:Int)^sc.toNat) ((2:Int)^sc.toNat) 0 j).1) (fun j=>(ty (2^sc.toNat) q1 q2 ((2:Int)^sc.toNat) ((2:Int)^sc.toNat) 0 j).2) j) (tyB (fun j=>(ty (2^sc.toNat) q1 q2 ((2:Int)^sc.toNat) ((2:Int)^sc.toNat) 0 j).1) (fun j=>(ty (2^sc.toNat) q1 q2 ((2:Int)^sc.toNat) ((2:Int)^sc.toNat) 0 j).2) j) (ty (2^sc.toNat) q1 q2 ((2:Int)^sc.toNat) ((2:Int)^sc.toNat) 0 (j+1)).1 (ty (2^sc.toNat) q1 q2 ((2:Int)^sc.toNat) ((2:Int)^sc.toNat) 0 (j+1)).2 oO oO oO oO)
 ·have z:=ls j oO
  have y1:=l1 (j+1)
  have y2:=l2 (j+1)
  have he:¬ j%2=0:=by omega
  exact zon (zti (if_neg he).symm (if_neg he).symm) (zl7 (tyA (fun j=>(ty (2^sc.toNat) q1 q2 ((2:Int)^sc.toNat) ((2:Int)^sc.toNat) 0 j).1) (fun j=>(ty (2^sc.toNat) q1 q2 ((2:Int)^sc.toNat) ((2:Int)^sc.toNat) 0 j).2) j) (tyB (fun j=>(ty (2^sc.toNat) q1 q2 ((2:Int)^sc.toNat) ((2:Int)^sc.toNat) 0 j).1) (fun j=>(ty (2^sc.toNat) q1 q2 ((2:Int)^sc.toNat) ((2:Int)^sc.toNat) 0 j).2) j) (ty (2^sc.toNat) q1 q2 ((2:Int)^sc.toNat) ((2:Int)^sc.toNat) 0 (j+1)).1 (ty (2^sc.toNat) q1 q2 ((2:Int)^sc.toNat) ((2:Int)^sc.toNat) 0 (j+1)).2 oO oO oO oO)
theorem sq_T {T x:Int}(hT:16≤T)(h0:0≤x)(h1:x≤T){X:Rat}(hX:(x:Rat)=X*(T:Rat)) :
  (0≤x*x / T∧x*x / T≤-(-(x*x) / T)∧-(-(x*x) / T)≤T∧-(-(x*x) / T)-x*x / T≤1)∧((x*x / T:Int):Rat)≤X*X*(T:Rat)∧X*X*(T:Rat)≤((-(-(x*x) / T):Int):Rat):=by
 have T0:0<T:=by omega
 have T0R:(0:Rat)<(T:Rat):=Rat.intCast_pos.2 T0
 have k:=Int.mul_le_mul h1 h1 h0 oO
 have k0:=Int.mul_nonneg h0 h0
 have a0:0≤x*x / T:=Int.ediv_nonneg k0 (Int.le_of_lt T0)
 have a1:=Int.ediv_mul_le (x*x) (show T≠0 by omega)
 have a2:=Int.lt_ediv_add_one_mul_self (x*x) T0
 have b1:=Int.ediv_mul_le (-(x*x)) (show T≠0 by omega)
 have b2:=Int.lt_ediv_add_one_mul_self (-(x*x)) T0
 have f1:=(fl_R (a:=x*x) T0).1
 have f2:=(ce_R (a:=x*x) T0).1
 have e:X*X*(T:Rat)*(T:Rat)=((x*x:Int):Rat):=by rw [Rat.intCast_mul,hX]; grind
 generalize x*x=y at *
 generalize y / T=u at *
 generalize -y / T=v at *
 refine ⟨⟨a0,?_,?_,?_⟩,Rat.le_of_mul_le_mul_right (c:=(T:Rat)) (by rw [e]; exact f1) T0R,Rat.le_of_mul_le_mul_right (c:=(T:Rat)) (by rw [e]; exact f2) T0R⟩
 ·refine Decidable.byContradiction fun hn=>?_
  have m:=Int.mul_le_mul_of_nonneg_right (show 1≤u+v by omega) (Int.le_of_lt T0)
  rw [Int.add_mul] at m
  omega
 ·refine Decidable.byContradiction fun hn=>?_
  have m:=Int.mul_le_mul_of_nonneg_right (show v+1≤-T by omega) (Int.le_of_lt T0)
  rw [Int.neg_mul] at m
  omega
 ·refine Decidable.byContradiction fun hn=>?_
  have m:=Int.mul_le_mul_of_nonneg_right (show u+1+(v+1)≤0 by omega) (Int.le_of_lt T0)
  rw [Int.add_mul] at m
  omega
theorem ztl (x sc:Int)(X:Rat)(hs:24≤sc∧sc≤400)(h0:0≤x)(h1:x≤2^sc.toNat)(hX:X*((2^sc.toNat:Int):Rat)=(x:Rat)) :
  ∃ s1 s2 k1 k2:Int,Impl Tryz.prog Amb 206 [(zV x),(.int .i64 sc)] (.tup [(sV s1 s2),(sV k1 k2)])∧((s1≤s2∧s2-s1≤8000)∧k1≤k2∧k2-k1≤8000)∧((L s1.natAbs≤70∧L s2.natAbs≤70)∧L k1.natAbs≤70∧L k2.natAbs≤70) ∧
   ∃ N,∀ K,N≤K→((s1:Rat)≤SN X K*((2^sc.toNat:Int):Rat)∧SN X K*((2^sc.toNat:Int):Rat)≤(s2:Rat))∧((k1:Rat)≤CS X K*((2^sc.toNat:Int):Rat)∧CS X K*((2^sc.toNat:Int):Rat)≤(k2:Rat)):=by
 have T16:(16:Int)≤2^sc.toNat:=by
  have p:=Int.ofNat_le.2 (Nat.pow_le_pow_right (n:=2) oO (show 4≤sc.toNat by omega))
  rw [← zak,← zak] at p
  exact p
 have T0:(0:Rat)<((2^sc.toNat:Int):Rat):=Rat.intCast_pos.2 oO
 obtain ⟨⟨a1,a2,a3,a4⟩,b1,b2⟩:=sq_T T16 h0 h1 hX.symm
 have X0:0≤X:=Rat.le_of_mul_le_mul_right (c:=((2^sc.toNat:Int):Rat)) (by rw [Rat.zero_mul,hX]; exact Rat.intCast_nonneg.2 h0) T0
 have X1:X≤1:=Rat.le_of_mul_le_mul_right (c:=((2^sc.toNat:Int):Rat)) (by rw [Rat.one_mul,hX]; exact Rat.intCast_le_intCast.2 h1) T0
 have p:((2^sc.toNat:Nat):Int)=(2:Int)^sc.toNat:=(zak _).symm
 have lx:L x.natAbs≤70:=zqw (t:=sc.toNat) (c:=1) oO oO oO
 have hM:=zpo x x x x sc oO oO oO oO oO
 have hO:=zpm sc oO
 rw [Int.one_mul] at hO
 generalize x*x / 2^sc.toNat=q1 at *
 generalize -(-(x*x) / 2^sc.toNat)=q2 at *
 have H1:TyH (2^sc.toNat) q1 q2 x x:=⟨T16,a1,a2,a3,a4,h0,Int.le_refl _,h1,by omega⟩
 have H0:TyH (2^sc.toNat) q1 q2 (2^sc.toNat) (2^sc.toNat):=⟨T16,a1,a2,a3,a4,by omega,Int.le_refl _,Int.le_refl _,by omega⟩
 obtain ⟨n,n1,hA,hA2⟩:=ztj sc q1 q2 x hs H1
 obtain ⟨m,m1,m2,hB,hB2⟩:=ztk sc q1 q2 hs H0
 have w1:=zsh (p1:=fun j=>(ty (2^sc.toNat) q1 q2 x x 1 j).1) (p2:=fun j=>(ty (2^sc.toNat) q1 q2 x x 1 j).2) (T:=2^sc.toNat) (zsc H1 1) n
 have w0:=zsh (p1:=fun j=>(ty (2^sc.toNat) q1 q2 (2^sc.toNat) (2^sc.toNat) 0 j).1) (p2:=fun j=>(ty (2^sc.toNat) q1 q2 (2^sc.toNat) (2^sc.toNat) 0 j).2) (T:=2^sc.toNat) (zsc H0 0) m
 have e1:=fun K hK=>zsn H1 X0 X1 hX.symm b1 b2 (n:=n) (K:=K) hK
 have e0:=fun K hK=>zsm H0 X0 X1 b1 b2 (n:=m) m1 (K:=K) hK
 have mn:=Int.mul_le_mul_of_nonneg_right (show (n:Int)+1≤500 by omega) (Int.le_of_lt (zi5 sc.toNat))
 have mm:=Int.mul_le_mul_of_nonneg_right (show (m:Int)+1≤500 by omega) (Int.le_of_lt (zi5 sc.toNat))
 refine ⟨_,_,_,_,zsq x q1 q2 _ _ _ _ _ _ sc hM hA hO hB oO,?_,?_,2*n+2+(2*m+1),fun K hK=>⟨e1 K oO,e0 K oO⟩⟩
 ·clear e1 e0 hA hB hM hO
  omega
 ·clear e1 e0 hA hB hM hO b1 b2
  refine ⟨⟨zqw (t:=sc.toNat) (c:=1000) ?_ oO oO,zqw (t:=sc.toNat) (c:=1000) ?_ oO oO⟩,zqw (t:=sc.toNat) (c:=1000) ?_ oO oO,zqw (t:=sc.toNat) (c:=1000) ?_ oO oO⟩<;>omega
theorem ztm (m ee more sc q r1 r2 x s1 s2 k1 k2:Int)(hs:(0:Int)≤sc∧sc≤5000)(hm:more=0∨more=1)(hr:r1<0)(c4:Impl Tryz.prog Amb 94 [(yV m ee),(.int .i64 (sc+24))] (.tup [(.int .i64 q),(sV r1 r2)]))(c5:Impl Tryz.prog Amb 129 [(.bool false),(N r1.natAbs)] (zV x))(c6:Impl Tryz.prog Amb 206 [(zV x),(.int .i64 (sc+24))] (.tup [(sV s1 s2),(sV k1 k2)]))(l1:L r1.natAbs≤1000)(l2:L r2.natAbs≤1000)(l3:L s1.natAbs≤1000)(l4:L s2.natAbs≤1000)(l5:L k1.natAbs≤1000)(l6:L k2.natAbs≤1000) :
  Impl Tryz.prog Amb 157 [(yV m ee),(.int .i64 more),(.int .i64 sc)] (sV (((yA ((q+more)%4) (-s2) (-s1) k1 k2)-(r2-r1)) / 2^24) (-(-((yB ((q+more)%4) (-s2) (-s1) k1 k2)+(r2-r1)) / 2^24))):=by
 have hw:=zth q more hm
 have a1:=zgs r2 r1
 have a2:=zcy s1
 have a3:=zcy s2
 have a4:=zcy k1
 have a5:=zcy k2
 have a6:=zcy (-s1)
 have a7:=zcy (-s2)
 have b0:=zgs (-s2) (r2-r1)
 have b1:=zcw (-s1) (r2-r1)
 have b2:=zgs k1 (r2-r1)
 have b3:=zcw k2 (r2-r1)
 have b4:=zgs (-(-s1)) (r2-r1)
 have b5:=zcw (-(-s2)) (r2-r1)
 have b6:=zgs (-k2) (r2-r1)
 have b7:=zcw (-k1) (r2-r1)
 rcases (show (q+more)%4=0∨(q+more)%4=1∨(q+more)%4=2∨(q+more)%4=3 by omega) with hj | hj | hj | hj
 ·have hH:=zl5 ((-s2)-(r2-r1)) ((-s1)+(r2-r1)) ((sc+24)-sc) oO oO oO
  rw [show (sc+24-sc).toNat=24 by omega] at hH
  rw [hj] at hw
  rw [hj]
  exact zsu m ee more sc q r1 r2 x s1 s2 k1 k2 _ _ oO hw oO oO c4 c5 c6 hH oO oO oO oO oO oO
 ·have hH:=zl5 (k1-(r2-r1)) (k2+(r2-r1)) ((sc+24)-sc) oO oO oO
  rw [show (sc+24-sc).toNat=24 by omega] at hH
  rw [hj] at hw
  rw [hj]
  exact zsw m ee more sc q r1 r2 x s1 s2 k1 k2 _ _ oO hw oO oO c4 c5 c6 hH oO oO oO oO oO oO
 ·have hH:=zl5 ((-(-s1))-(r2-r1)) ((-(-s2))+(r2-r1)) ((sc+24)-sc) oO oO oO
  rw [show (sc+24-sc).toNat=24 by omega] at hH
  rw [hj] at hw
  rw [hj]
  exact zsy m ee more sc q r1 r2 x s1 s2 k1 k2 _ _ oO hw oO oO c4 c5 c6 hH oO oO oO oO oO oO
 ·have hH:=zl5 ((-k2)-(r2-r1)) ((-k1)+(r2-r1)) ((sc+24)-sc) oO oO oO
  rw [show (sc+24-sc).toNat=24 by omega] at hH
  rw [hj] at hw
  rw [hj]
  exact zt0 m ee more sc q r1 r2 x s1 s2 k1 k2 _ _ oO hw oO oO c4 c5 c6 hH oO oO oO oO oO oO
theorem ztn (m ee more sc q r1 r2 x s1 s2 k1 k2:Int)(hs:(0:Int)≤sc∧sc≤5000)(hm:more=0∨more=1)(hr:0≤r1)(c4:Impl Tryz.prog Amb 94 [(yV m ee),(.int .i64 (sc+24))] (.tup [(.int .i64 q),(sV r1 r2)]))(c5:Impl Tryz.prog Amb 129 [(.bool false),(N r1.natAbs)] (zV x))(c6:Impl Tryz.prog Amb 206 [(zV x),(.int .i64 (sc+24))] (.tup [(sV s1 s2),(sV k1 k2)]))(l1:L r1.natAbs≤1000)(l2:L r2.natAbs≤1000)(l3:L s1.natAbs≤1000)(l4:L s2.natAbs≤1000)(l5:L k1.natAbs≤1000)(l6:L k2.natAbs≤1000) :
  Impl Tryz.prog Amb 157 [(yV m ee),(.int .i64 more),(.int .i64 sc)] (sV (((yA ((q+more)%4) s1 s2 k1 k2)-(r2-r1)) / 2^24) (-(-((yB ((q+more)%4) s1 s2 k1 k2)+(r2-r1)) / 2^24))):=by
 have hw:=zth q more hm
 have a1:=zgs r2 r1
 have a2:=zcy s1
 have a3:=zcy s2
 have a4:=zcy k1
 have a5:=zcy k2
 have a6:=zcy (-s1)
 have a7:=zcy (-s2)
 have b0:=zgs s1 (r2-r1)
 have b1:=zcw s2 (r2-r1)
 have b2:=zgs k1 (r2-r1)
 have b3:=zcw k2 (r2-r1)
 have b4:=zgs (-s2) (r2-r1)
 have b5:=zcw (-s1) (r2-r1)
 have b6:=zgs (-k2) (r2-r1)
 have b7:=zcw (-k1) (r2-r1)
 rcases (show (q+more)%4=0∨(q+more)%4=1∨(q+more)%4=2∨(q+more)%4=3 by omega) with hj | hj | hj | hj
 ·have hH:=zl5 (s1-(r2-r1)) (s2+(r2-r1)) ((sc+24)-sc) oO oO oO
  rw [show (sc+24-sc).toNat=24 by omega] at hH
  rw [hj] at hw
  rw [hj]
  exact zst m ee more sc q r1 r2 x s1 s2 k1 k2 _ _ oO hw oO oO c4 c5 c6 hH oO oO oO oO oO oO
 ·have hH:=zl5 (k1-(r2-r1)) (k2+(r2-r1)) ((sc+24)-sc) oO oO oO
  rw [show (sc+24-sc).toNat=24 by omega] at hH
  rw [hj] at hw
  rw [hj]
  exact zsv m ee more sc q r1 r2 x s1 s2 k1 k2 _ _ oO hw oO oO c4 c5 c6 hH oO oO oO oO oO oO
 ·have hH:=zl5 ((-s2)-(r2-r1)) ((-s1)+(r2-r1)) ((sc+24)-sc) oO oO oO
  rw [show (sc+24-sc).toNat=24 by omega] at hH
  rw [hj] at hw
  rw [hj]
  exact zsx m ee more sc q r1 r2 x s1 s2 k1 k2 _ _ oO hw oO oO c4 c5 c6 hH oO oO oO oO oO oO
 ·have hH:=zl5 ((-k2)-(r2-r1)) ((-k1)+(r2-r1)) ((sc+24)-sc) oO oO oO
  rw [show (sc+24-sc).toNat=24 by omega] at hH
  rw [hj] at hw
  rw [hj]
  exact zsz m ee more sc q r1 r2 x s1 s2 k1 k2 _ _ oO hw oO oO c4 c5 c6 hH oO oO oO oO oO oO
theorem zto (m ee more sc:Int)(hmo:more=0∨more=1)(hs:24≤sc∧sc≤290)(hm:L (m).natAbs≤20)(he:-440≤ee∧ee≤130)(d1:-4294967296≤dv m ee)(d2:dv m ee≤4294967296) :
  ∃ u1 u2:Int,Impl Tryz.prog Amb 157 [(yV m ee),(.int .i64 more),(.int .i64 sc)] (sV u1 u2)∧u1≤u2∧u2-u1≤2∧EnE (SC more (dv m ee)) sc.toNat u1 u2 (sE*((2^sc.toNat:Int):Rat))∧L u1.natAbs≤75∧L u2.natAbs≤75:=by
 obtain ⟨q,r1,r2,hT,hq,r12,rw_,qb,er1,er2⟩:=zt3 m ee (sc+24) oO hm he d1 d2
 obtain ⟨t,ht⟩:∃ t:Nat,(sc+24).toNat=t:=⟨_,rfl⟩
 rw [ht] at er1 er2
 have T0:(0:Rat)<((2^t:Int):Rat):=Rat.intCast_pos.2 (zi5 t)
 have T48:(281474976710656:Int)≤2^t:=by
  have p:=Int.ofNat_le.2 (Nat.pow_le_pow_right (n:=2) oO (show 48≤t by omega))
  rw [← zak,← zak] at p
  exact p
 have m1:=Rat.mul_le_mul_of_nonneg_right qb.1 (Rat.le_of_lt T0)
 have m2:=Rat.mul_le_mul_of_nonneg_right qb.2 (Rat.le_of_lt T0)
 rw [Rat.mul_assoc] at m1 m2
 have R1:100*r1≤80*2^t:=by
  refine Rat.intCast_le_intCast.1 ?_
  rw [Rat.intCast_mul,Rat.intCast_mul]
  show (100:Rat)*_≤80*_
  grind
 have R2:-(80*2^t)≤100*r2:=by
  refine Rat.intCast_le_intCast.1 ?_
  rw [Rat.intCast_neg,Rat.intCast_mul,Rat.intCast_mul]
  show -((80:Rat)*_)≤100*_
  grind
 have p:((2^t:Nat):Int)=(2:Int)^t:=(zak _).symm
 have l1:L r1.natAbs≤70:=zqw (t:=t) (c:=1) oO oO oO
 have l2:L r2.natAbs≤70:=zqw (t:=t) (c:=2) oO oO oO
 have hNa:=zdc false r1.natAbs oO
 rw [zcs] at hNa
 have ie:=zr0 T0
 have hX:(((r1.natAbs:Int):Rat)*(((2^t:Int):Rat))⁻¹)*((2^t:Int):Rat)=((r1.natAbs:Int):Rat):=by rw [Rat.mul_assoc,ie,Rat.mul_one]
 obtain ⟨s1,s2,k1,k2,hW,⟨⟨w1,w2⟩,w3,w4⟩,⟨⟨g1,g2⟩,g3,g4⟩,N,en⟩:=ztl (r1.natAbs:Int) (sc+24) (((r1.natAbs:Int):Rat)*(((2^t:Int):Rat))⁻¹) oO oO (by rw [ht]; omega) (by rw [ht]; exact hX)
 rw [ht] at en
 have jb:0≤(q+more)%4∧(q+more)%4≤3:=by omega
 have tsc:t=sc.toNat+24:=by omega
 have c300:r2-r1≤300:=rw_
 have n1:=zcy s1
 have n2:=zcy s2
 have zz:=zgs r2 r1
 by_cases hr:r1<0
 ·have hS:=ztm m ee more sc q r1 r2 _ s1 s2 k1 k2 oO hmo hr hT hNa hW oO oO oO oO oO oO
  have y:=ztd (s1:=-s2) (s2:=-s1) (k1:=k1) (k2:=k2) (W:=8000) jb oO oO w3 w4
  have yl:=zte (j:=(q+more)%4) (s1:=-s2) (s2:=-s1) (k1:=k1) (k2:=k2) (B:=70) oO oO g3 g4
  have e:=ztg (d:=dv m ee) (ρ:=-(((r1.natAbs:Int):Rat)*(((2^t:Int):Rat))⁻¹)) (q:=q) (more:=more) (W:=0) (t:=t) (y1:=yA ((q+more)%4) (-s2) (-s1) k1 k2) (y2:=yB ((q+more)%4) (-s2) (-s1) k1 k2) hmo (by unfold sM; omega) er1 er2 (by rw [Rat.neg_mul,hX,show (r1.natAbs:Int)=-r1 by omega,Rat.intCast_neg,Rat.neg_neg]) oO ⟨N,fun K hK=>by
   have z:=en K hK
   refine ztc jb ?_ ?_
   ·rw [zry,Rat.intCast_neg,Rat.intCast_neg]; constructor<;>grind
   ·rw [zrx]; exact z.2⟩
  generalize yA ((q+more)%4) (-s2) (-s1) k1 k2=ya at *
  generalize yB ((q+more)%4) (-s2) (-s1) k1 k2=yb at *
  have hw:=zpe (a:=ya-(r2-r1)) (b:=yb+(r2-r1)) (W:=1) (n:=24) oO
  have v1:=zgs ya (r2-r1)
  have v2:=zcw yb (r2-r1)
  have o1:=zgz (ya-(r2-r1)) 24
  have o2:=zcy (yb+(r2-r1))
  have o3:=zgz (-(yb+(r2-r1))) 24
  have o4:=zcy (-(yb+(r2-r1)) / 2^24)
  have le:(ya-(r2-r1)) / 2^24≤-(-(yb+(r2-r1)) / 2^24):=by
   have:(2:Int)^24=16777216:=rfl
   rw [this]; omega
  exact ⟨_,_,hS,le,hw,e.half tsc,by omega,by omega⟩
 ·have hS:=ztn m ee more sc q r1 r2 _ s1 s2 k1 k2 oO hmo oO hT hNa hW oO oO oO oO oO oO
  have y:=ztd (s1:=s1) (s2:=s2) (k1:=k1) (k2:=k2) (W:=8000) jb oO oO w3 w4
  have yl:=zte (j:=(q+more)%4) (s1:=s1) (s2:=s2) (k1:=k1) (k2:=k2) (B:=70) g1 g2 g3 g4
  have e:=ztg (d:=dv m ee) (ρ:=((r1.natAbs:Int):Rat)*(((2^t:Int):Rat))⁻¹) (q:=q) (more:=more) (W:=0) (t:=t) (y1:=yA ((q+more)%4) s1 s2 k1 k2) (y2:=yB ((q+more)%4) s1 s2 k1 k2) hmo (by unfold sM; omega) er1 er2 (by rw [hX,show (r1.natAbs:Int)=r1 by omega]) oO ⟨N,fun K hK=>by
   have z:=en K hK
   exact ztc jb z.1 z.2⟩
  generalize yA ((q+more)%4) s1 s2 k1 k2=ya at *
  generalize yB ((q+more)%4) s1 s2 k1 k2=yb at *
  have hw:=zpe (a:=ya-(r2-r1)) (b:=yb+(r2-r1)) (W:=1) (n:=24) oO
  have v1:=zgs ya (r2-r1)
  have v2:=zcw yb (r2-r1)
  have o1:=zgz (ya-(r2-r1)) 24
  have o2:=zcy (yb+(r2-r1))
  have o3:=zgz (-(yb+(r2-r1))) 24
  have o4:=zcy (-(yb+(r2-r1)) / 2^24)
  have le:(ya-(r2-r1)) / 2^24≤-(-(yb+(r2-r1)) / 2^24):=by
   have:(2:Int)^24=16777216:=rfl
   rw [this]; omega
  exact ⟨_,_,hS,le,hw,e.half tsc,by omega,by omega⟩
end Go.Proofs.YtcbihoojfakhdaaGreatDoor

namespace Go.Proofs.YtcbihoojfakhdaaGreatDoor
open Go.RowKit
set_option maxRecDepth 100000
set_option maxHeartbeats 2000000
theorem ztp (lo hi c:Int):iLe (cmpI (lo+((c-lo)-(Int.fdiv (c-lo) 4)*4)) hi) 0=decide (lo+(c-lo)%4≤hi):=by
 unfold iLe
 refine decide_eq_decide.2 ?_
 rw [zph,Int.fdiv_eq_ediv_of_nonneg _ oO]
 omega
theorem ztq (x y:Int):L (min x y).natAbs≤max (L x.natAbs) (L y.natAbs):=by
 rcases (show min x y=x∨min x y=y by omega) with h | h<;>rw [h]<;>omega
theorem ztr (x y:Int):L (max x y).natAbs≤max (L x.natAbs) (L y.natAbs):=by
 rcases (show max x y=x∨max x y=y by omega) with h | h<;>rw [h]<;>omega
theorem zts (m e:Int)(c0:L (m).natAbs≤4000)(c1:(-60000:Int)≤e∧e≤60000)(c2:cmpD m e 1 32≤0)(c3:cmpD (-m) e 1 32≤0):Impl Tryz.prog Amb 93 [(yV m e)] (.bool true):=by
 have l1:=zk7 1 (by decide)
 exact z6e hP hAmb Tryz.func93 (by kernel_rfl) (.lit<|.call (zV (1:Int))<|.lits 5<|.call (.int .i64 (cmpD m e (1:Int) 32))<|.lit<|.yes<|.lits 3<|.call (yV (-m) e)<|.lits 4<|.call (.int .i64 (cmpD (-m) e (1:Int) 32))<|.lits 4<|.ret)
  (z6d (aI True.intro (aI (zdd 1 oO) (have f4:=(zgp oO:L (1:Int).natAbs≤2); aI (zj6 m e (1:Int) 32 oO oO oO oO) (have f3:=zi9 m e (1:Int) 32; aI (z7g oO:(iLe (cmpD m e (1:Int) 32) 0)=true) (aI (ziz m e oO) (have f2:=zcy m; aI (zj6 (-m) e (1:Int) 32 oO oO oO oO) (have f1:=zi9 (-m) e (1:Int) 32; (z5x (congrArg V.bool (z7g oO)):vsub (.bool (iLe (cmpD (-m) e (1:Int) 32) 0)) (.bool true))))))))) (by kernel_rfl))
theorem ztt (lo hi c:Int)(c0:L (lo).natAbs≤8000)(c1:L (hi).natAbs≤8000)(c2:-10≤c∧c≤10):Impl Tryz.prog Amb 154 [(zV lo),(zV hi),(.int .i64 c)] (.bool (decide (lo+(c-lo)%4≤hi))):=by
 have l1:=zk7 4 (by decide)
 have l2:=zgp (n:=c) oO
 exact z6e hP hAmb Tryz.func154 (by kernel_rfl) (.lit<|.call (zV c)<|.lits 2<|.call (zV (c-lo))<|.lit<|.call (zV (4:Int))<|.lit<|.call (.tup [(zV (Int.fdiv (c-lo) (4:Int))),(zV ((c-lo)-(Int.fdiv (c-lo) (4:Int))*(4:Int))),(.bool true)])<|.lits 3<|.call (zV (lo+((c-lo)-(Int.fdiv (c-lo) (4:Int))*(4:Int))))<|.lits 2<|.call (.int .i64 (cmpI (lo+((c-lo)-(Int.fdiv (c-lo) (4:Int))*(4:Int))) hi))<|.lits 2<|.ret)
  (z6d (aI True.intro (aI (zdd c oO) (have f7:=(zgp oO:L (c:Int).natAbs≤2); aI (zdj c lo oO oO) (have f6:=zgs c lo; aI (zdd 4 oO) (have f5:=(zgp oO:L (4:Int).natAbs≤2); aI (zn0 (c-lo) (4:Int) oO oO oO) (have f4:=L_rm (c-lo) (4:Int); have f3:=zh7 (c-lo) (4:Int); aI (zdi lo ((c-lo)-(Int.fdiv (c-lo) (4:Int))*(4:Int)) oO oO) (have f2:=zcw lo ((c-lo)-(Int.fdiv (c-lo) (4:Int))*(4:Int)); aI (zdh (lo+((c-lo)-(Int.fdiv (c-lo) (4:Int))*(4:Int))) hi oO oO) (have f1:=zgt (lo+((c-lo)-(Int.fdiv (c-lo) (4:Int))*(4:Int))) hi; (z5x (congrArg V.bool (ztp lo hi c)):vsub (.bool (iLe (cmpI (lo+((c-lo)-(Int.fdiv (c-lo) (4:Int))*(4:Int))) hi) 0)) (.bool (decide (lo+(c-lo)%4≤hi)))))))))))) (by kernel_rfl))
theorem ztu (m ee n f w x y:Int)(c0:Impl Tryz.prog Amb 203 [(yV m ee),(.int .i64 (w+8))] (zV x))(c1:Impl Tryz.prog Amb 203 [(yV n f),(.int .i64 (w+8))] (zV y))(c2:L (x).natAbs≤8000)(c3:L (y).natAbs≤8000)(c4:0≤w∧w≤5000):Impl Tryz.prog Amb 153 [(wV m ee n f),(.int .i64 w)] (.tup [(zV (-(-(x-2) / 2^((w+8)).toNat))),(zV ((y+2) / 2^((w+8)).toNat))]):=by
 have l1:=zk7 2 (by decide)
 have k1:=zgs x 2
 have k2:=zcw y 2
 have k3:=zcy (x-2)
 have k4:=zgz (-(x-2)) (w+8).toNat
 exact z6e hP hAmb Tryz.func153 (by kernel_rfl) (.lit<|.yes<|.lits 2<|.call (zV x)<|.lit<|.call (zV (2:Int))<|.lit<|.call (zV (x-(2:Int)))<|.lits 3<|.call (zV y)<|.lit<|.call (zV (2:Int))<|.lit<|.call (zV (y+(2:Int)))<|.lits 3<|.call (zV (-(x-(2:Int))))<|.lit<|.call (zV ((-(x-(2:Int))) / 2^((w+8)).toNat))<|.lit<|.call (zV (-((-(x-(2:Int))) / 2^((w+8)).toNat)))<|.lits 2<|.call (zV ((y+(2:Int)) / 2^((w+8)).toNat))<|.lits 3<|.ret)
  (z6d (aI True.intro (aI (z7t oS:(fits .i64 (w+8))=true) (aI (c0 ) (aI (zdd 2 oS) (have f8:=(zgp oS:L (2:Int).natAbs≤2); aI (zdj x (2:Int) oS oS) (have f7:=zgs x (2:Int); aI (c1 ) (aI (zdd 2 oS) (have f6:=(zgp oS:L (2:Int).natAbs≤2); aI (zdi y (2:Int) oS oS) (have f5:=zcw y (2:Int); aI (zdg (x-(2:Int)) oS) (have f4:=zcy (x-(2:Int)); aI (zdm (-(x-(2:Int))) (w+8) oS oS) (have f3:=zgz (-(x-(2:Int))) ((w+8)).toNat; aI (zdg ((-(x-(2:Int))) / 2^((w+8)).toNat) oS) (have f2:=zcy ((-(x-(2:Int))) / 2^((w+8)).toNat); aI (zdm (y+(2:Int)) (w+8) oS oS) (have f1:=zgz (y+(2:Int)) ((w+8)).toNat; (z5w _:vsub (.tup [(zV (-((-(x-(2:Int))) / 2^((w+8)).toNat))),(zV ((y+(2:Int)) / 2^((w+8)).toNat))]) (.tup [(zV (-(-(x-2) / 2^((w+8)).toNat))),(zV ((y+2) / 2^((w+8)).toNat))]))))))))))))))) (by kernel_rfl))
theorem ztv (a b:Int)(c0:L (a).natAbs≤8000)(c1:L (b).natAbs≤8000):Impl Tryz.prog Amb 160 [(zV a),(zV b)] (zV (min a b)):=by
 have ci:=zgt a b
 exact z6e hP hAmb Tryz.func160 (by kernel_rfl) (.lits 3<|.call (.int .i64 (cmpI a b))<|.lit<|.both (.lits 3<|.ret) (.lits 3<|.ret))
  (z6d (aI True.intro (aI (zdh a b oO oO) (have f3:=zgt a b; aI (fun (h1:(iGt (cmpI a b) 0)=true)=>have _gh1:=z77 h1; (by rw [show min a b=b by omega]; exact z5w _:vsub (zV b) (zV (min a b)))) (fun (h2:(iGt (cmpI a b) 0)=false)=>have _gh2:=z78 h2; (by rw [show min a b=a by omega]; exact z5w _:vsub (zV a) (zV (min a b))))))) (by kernel_rfl))
theorem ztw (a b:Int)(c0:L (a).natAbs≤8000)(c1:L (b).natAbs≤8000):Impl Tryz.prog Amb 159 [(zV a),(zV b)] (zV (max a b)):=by
 have ci:=zgt a b
 exact z6e hP hAmb Tryz.func159 (by kernel_rfl) (.lits 3<|.call (.int .i64 (cmpI a b))<|.lit<|.both (.lits 3<|.ret) (.lits 3<|.ret))
  (z6d (aI True.intro (aI (zdh a b oO oO) (have f3:=zgt a b; aI (fun (h1:(iLt (cmpI a b) 0)=true)=>have _gh1:=z73 h1; (by rw [show max a b=b by omega]; exact z5w _:vsub (zV b) (zV (max a b)))) (fun (h2:(iLt (cmpI a b) 0)=false)=>have _gh2:=z74 h2; (by rw [show max a b=a by omega]; exact z5w _:vsub (zV a) (zV (max a b))))))) (by kernel_rfl))
theorem ztx (m ee n f more w fi la x1 x2 y1 y2 a1 a2 b1 b2:Int)(c0:0≤w∧w≤4096)(c1:(0:Int)≤more∧more≤1)(c2:Impl Tryz.prog Amb 93 [(yV m ee)] (.bool true))(c3:Impl Tryz.prog Amb 93 [(yV n f)] (.bool true))(c4:Impl Tryz.prog Amb 153 [(wV m ee n f),(.int .i64 w)] (.tup [(zV fi),(zV la)]))(c5:Impl Tryz.prog Amb 154 [(zV fi),(zV la),(.int .i64 ((1:Int)-more))] (.bool true))(c6:Impl Tryz.prog Amb 154 [(zV fi),(zV la),(.int .i64 ((3:Int)-more))] (.bool true))(c7:Impl Tryz.prog Amb 70 [(zV (-((1:Int)*2^(w).toNat))),(.int .i64 ((0:Int)-w))] (.tup [(yV a1 a2),(.int .i64 0)]))(c8:Impl Tryz.prog Amb 70 [(zV ((1:Int)*2^(w).toNat)),(.int .i64 ((0:Int)-w))] (.tup [(yV b1 b2),(.int .i64 0)]))(c9:L (x1).natAbs≤4000)(c10:L (x2).natAbs≤4000)(c11:L (y1).natAbs≤4000)(c12:L (y2).natAbs≤4000):Impl Tryz.prog Amb 92 [(wV m ee n f),(.int .i64 more),(.int .i64 w)] (.tup [(wV a1 a2 b1 b2),(.int .i64 0)]):=by
 have pw:=zk4 w.toNat
 have mn:=ztq x1 y1
 have mx:=ztr x2 y2
 exact z6e hP hAmb Tryz.func92 (by kernel_rfl) (.lit<|.no<|.lits 3<|.no<|.lits 2<|.call (.bool true)<|.lits 6<|.call (.bool true)<|.lits 6<|.call (.tup [(zV fi),(zV la)])<|.lits 6<|.yes<|.lit<|.call (.bool true)<|.lits 4<|.yes<|.lit<|.call (.bool true)<|.lit<|.call (zV (1:Int))<|.lit<|.call (zV ((1:Int)*2^(w).toNat))<|.lits 3<|.call (zV (-((1:Int)*2^(w).toNat)))<|.lits 9<|.yes<|.lit<|.call (.tup [(yV a1 a2),(.int .i64 0)])<|.lits 3<|.yes<|.lit<|.call (.tup [(yV b1 b2),(.int .i64 0)])<|.lits 12<|.ret)
  (z6d (aI True.intro (aI (z7k oS:(iLt w 0)=false) (aI (z7m oS:(iGt w 4096)=false) (aI (c2 ) (aI (c3 ) (aI (c4 ) (aI (z7t oS:(fits .i64 ((1:Int)-more))=true) (aI (c5 ) (aI (z7t oS:(fits .i64 ((3:Int)-more))=true) (aI (c6 ) (aI (zdd 1 oS) (have f3:=(zgp oS:L (1:Int).natAbs≤2); aI (zdl (1:Int) w oS oS) (have f2:=zgx (1:Int) (w).toNat; aI (zdg ((1:Int)*2^(w).toNat) oS) (have f1:=zcy ((1:Int)*2^(w).toNat); aI (z7t oS:(fits .i64 ((0:Int)-w))=true) (aI (c7 ) (aI (z7t oS:(fits .i64 ((0:Int)-w))=true) (aI (c8 ) ((z5w (.tup [(wV a1 a2 b1 b2),(.int .i64 0)])))))))))))))))))))) (by kernel_rfl))
theorem zty (m ee n f more w fi la x1 x2 y1 y2 a1 a2 b1 b2:Int)(c0:0≤w∧w≤4096)(c1:(0:Int)≤more∧more≤1)(c2:Impl Tryz.prog Amb 93 [(yV m ee)] (.bool true))(c3:Impl Tryz.prog Amb 93 [(yV n f)] (.bool true))(c4:Impl Tryz.prog Amb 153 [(wV m ee n f),(.int .i64 w)] (.tup [(zV fi),(zV la)]))(c5:Impl Tryz.prog Amb 154 [(zV fi),(zV la),(.int .i64 ((1:Int)-more))] (.bool true))(c6:Impl Tryz.prog Amb 154 [(zV fi),(zV la),(.int .i64 ((3:Int)-more))] (.bool false))(c7:Impl Tryz.prog Amb 133 [(.int .i64 w),(.clos 156 [(.pt [(V.bool (decide (m<0))),(N m.natAbs),(V.int .i64 ee),(V.bool (decide (n<0))),(N n.natAbs),(V.int .i64 f)] 0),(.pt [(V.int .i64 more)] 0)])] (sV x1 x2))(c8:Impl Tryz.prog Amb 133 [(.int .i64 w),(.clos 158 [(.pt [(V.bool (decide (m<0))),(N m.natAbs),(V.int .i64 ee),(V.bool (decide (n<0))),(N n.natAbs),(V.int .i64 f)] 0),(.pt [(V.int .i64 more)] 0)])] (sV y1 y2))(c9:Impl Tryz.prog Amb 70 [(zV (max (-((1:Int)*2^(w).toNat)) (min x1 y1))),(.int .i64 ((0:Int)-w))] (.tup [(yV a1 a2),(.int .i64 0)]))(c10:Impl Tryz.prog Amb 70 [(zV ((1:Int)*2^(w).toNat)),(.int .i64 ((0:Int)-w))] (.tup [(yV b1 b2),(.int .i64 0)]))(c11:L (x1).natAbs≤4000)(c12:L (x2).natAbs≤4000)(c13:L (y1).natAbs≤4000)(c14:L (y2).natAbs≤4000):Impl Tryz.prog Amb 92 [(wV m ee n f),(.int .i64 more),(.int .i64 w)] (.tup [(wV a1 a2 b1 b2),(.int .i64 0)]):=by
 have pw:=zk4 w.toNat
 have mn:=ztq x1 y1
 have mx:=ztr x2 y2
 exact z6e hP hAmb Tryz.func92 (by kernel_rfl) (.lit<|.no<|.lits 3<|.no<|.lits 2<|.call (.bool true)<|.lits 6<|.call (.bool true)<|.lits 6<|.call (.tup [(zV fi),(zV la)])<|.lits 6<|.yes<|.lit<|.call (.bool true)<|.lits 4<|.yes<|.lit<|.call (.bool false)<|.lit<|.call (zV (1:Int))<|.lit<|.call (zV ((1:Int)*2^(w).toNat))<|.lits 3<|.call (zV (-((1:Int)*2^(w).toNat)))<|.lits 8<|.call (sV x1 x2)<|.lits 2<|.call (sV y1 y2)<|.lits 7<|.call (zV (min x1 y1))<|.lit<|.call (zV (max (-((1:Int)*2^(w).toNat)) (min x1 y1)))<|.lits 5<|.yes<|.lit<|.call (.tup [(yV a1 a2),(.int .i64 0)])<|.lits 3<|.yes<|.lit<|.call (.tup [(yV b1 b2),(.int .i64 0)])<|.lits 12<|.ret)
  (z6d (aI True.intro (aI (z7k oS:(iLt w 0)=false) (aI (z7m oS:(iGt w 4096)=false) (aI (c2 ) (aI (c3 ) (aI (c4 ) (aI (z7t oS:(fits .i64 ((1:Int)-more))=true) (aI (c5 ) (aI (z7t oS:(fits .i64 ((3:Int)-more))=true) (aI (c6 ) (aI (zdd 1 oS) (have f3:=(zgp oS:L (1:Int).natAbs≤2); aI (zdl (1:Int) w oS oS) (have f2:=zgx (1:Int) (w).toNat; aI (zdg ((1:Int)*2^(w).toNat) oS) (have f1:=zcy ((1:Int)*2^(w).toNat); aI (c7 ) (aI (c8 ) (aI (ztv x1 y1 oS oS) (aI (ztw (-((1:Int)*2^(w).toNat)) (min x1 y1) oS oS) (aI (z7t oS:(fits .i64 ((0:Int)-w))=true) (aI (c9 ) (aI (z7t oS:(fits .i64 ((0:Int)-w))=true) (aI (c10 ) ((z5w (.tup [(wV a1 a2 b1 b2),(.int .i64 0)])))))))))))))))))))))))) (by kernel_rfl))
theorem ztz (m ee n f more w fi la x1 x2 y1 y2 a1 a2 b1 b2:Int)(c0:0≤w∧w≤4096)(c1:(0:Int)≤more∧more≤1)(c2:Impl Tryz.prog Amb 93 [(yV m ee)] (.bool true))(c3:Impl Tryz.prog Amb 93 [(yV n f)] (.bool true))(c4:Impl Tryz.prog Amb 153 [(wV m ee n f),(.int .i64 w)] (.tup [(zV fi),(zV la)]))(c5:Impl Tryz.prog Amb 154 [(zV fi),(zV la),(.int .i64 ((1:Int)-more))] (.bool false))(c6:Impl Tryz.prog Amb 154 [(zV fi),(zV la),(.int .i64 ((3:Int)-more))] (.bool true))(c7:Impl Tryz.prog Amb 133 [(.int .i64 w),(.clos 156 [(.pt [(V.bool (decide (m<0))),(N m.natAbs),(V.int .i64 ee),(V.bool (decide (n<0))),(N n.natAbs),(V.int .i64 f)] 0),(.pt [(V.int .i64 more)] 0)])] (sV x1 x2))(c8:Impl Tryz.prog Amb 133 [(.int .i64 w),(.clos 158 [(.pt [(V.bool (decide (m<0))),(N m.natAbs),(V.int .i64 ee),(V.bool (decide (n<0))),(N n.natAbs),(V.int .i64 f)] 0),(.pt [(V.int .i64 more)] 0)])] (sV y1 y2))(c9:Impl Tryz.prog Amb 70 [(zV (-((1:Int)*2^(w).toNat))),(.int .i64 ((0:Int)-w))] (.tup [(yV a1 a2),(.int .i64 0)]))(c10:Impl Tryz.prog Amb 70 [(zV (min ((1:Int)*2^(w).toNat) (max x2 y2))),(.int .i64 ((0:Int)-w))] (.tup [(yV b1 b2),(.int .i64 0)]))(c11:L (x1).natAbs≤4000)(c12:L (x2).natAbs≤4000)(c13:L (y1).natAbs≤4000)(c14:L (y2).natAbs≤4000):Impl Tryz.prog Amb 92 [(wV m ee n f),(.int .i64 more),(.int .i64 w)] (.tup [(wV a1 a2 b1 b2),(.int .i64 0)]):=by
 have pw:=zk4 w.toNat
 have mn:=ztq x1 y1
 have mx:=ztr x2 y2
 exact z6e hP hAmb Tryz.func92 (by kernel_rfl) (.lit<|.no<|.lits 3<|.no<|.lits 2<|.call (.bool true)<|.lits 6<|.call (.bool true)<|.lits 6<|.call (.tup [(zV fi),(zV la)])<|.lits 6<|.yes<|.lit<|.call (.bool false)<|.lits 4<|.yes<|.lit<|.call (.bool true)<|.lit<|.call (zV (1:Int))<|.lit<|.call (zV ((1:Int)*2^(w).toNat))<|.lits 3<|.call (zV (-((1:Int)*2^(w).toNat)))<|.lits 7<|.call (sV x1 x2)<|.lits 2<|.call (sV y1 y2)<|.lits 9<|.call (zV (max x2 y2))<|.lit<|.call (zV (min ((1:Int)*2^(w).toNat) (max x2 y2)))<|.lits 3<|.yes<|.lit<|.call (.tup [(yV a1 a2),(.int .i64 0)])<|.lits 3<|.yes<|.lit<|.call (.tup [(yV b1 b2),(.int .i64 0)])<|.lits 12<|.ret)
  (z6d (aI True.intro (aI (z7k oS:(iLt w 0)=false) (aI (z7m oS:(iGt w 4096)=false) (aI (c2 ) (aI (c3 ) (aI (c4 ) (aI (z7t oS:(fits .i64 ((1:Int)-more))=true) (aI (c5 ) (aI (z7t oS:(fits .i64 ((3:Int)-more))=true) (aI (c6 ) (aI (zdd 1 oS) (have f3:=(zgp oS:L (1:Int).natAbs≤2); aI (zdl (1:Int) w oS oS) (have f2:=zgx (1:Int) (w).toNat; aI (zdg ((1:Int)*2^(w).toNat) oS) (have f1:=zcy ((1:Int)*2^(w).toNat); aI (c7 ) (aI (c8 ) (aI (ztw x2 y2 oS oS) (aI (ztv ((1:Int)*2^(w).toNat) (max x2 y2) oS oS) (aI (z7t oS:(fits .i64 ((0:Int)-w))=true) (aI (c9 ) (aI (z7t oS:(fits .i64 ((0:Int)-w))=true) (aI (c10 ) ((z5w (.tup [(wV a1 a2 b1 b2),(.int .i64 0)])))))))))))))))))))))))) (by kernel_rfl))
theorem zu0 (m ee n f more w fi la x1 x2 y1 y2 a1 a2 b1 b2:Int)(c0:0≤w∧w≤4096)(c1:(0:Int)≤more∧more≤1)(c2:Impl Tryz.prog Amb 93 [(yV m ee)] (.bool true))(c3:Impl Tryz.prog Amb 93 [(yV n f)] (.bool true))(c4:Impl Tryz.prog Amb 153 [(wV m ee n f),(.int .i64 w)] (.tup [(zV fi),(zV la)]))(c5:Impl Tryz.prog Amb 154 [(zV fi),(zV la),(.int .i64 ((1:Int)-more))] (.bool false))(c6:Impl Tryz.prog Amb 154 [(zV fi),(zV la),(.int .i64 ((3:Int)-more))] (.bool false))(c7:Impl Tryz.prog Amb 133 [(.int .i64 w),(.clos 156 [(.pt [(V.bool (decide (m<0))),(N m.natAbs),(V.int .i64 ee),(V.bool (decide (n<0))),(N n.natAbs),(V.int .i64 f)] 0),(.pt [(V.int .i64 more)] 0)])] (sV x1 x2))(c8:Impl Tryz.prog Amb 133 [(.int .i64 w),(.clos 158 [(.pt [(V.bool (decide (m<0))),(N m.natAbs),(V.int .i64 ee),(V.bool (decide (n<0))),(N n.natAbs),(V.int .i64 f)] 0),(.pt [(V.int .i64 more)] 0)])] (sV y1 y2))(c9:Impl Tryz.prog Amb 70 [(zV (max (-((1:Int)*2^(w).toNat)) (min x1 y1))),(.int .i64 ((0:Int)-w))] (.tup [(yV a1 a2),(.int .i64 0)]))(c10:Impl Tryz.prog Amb 70 [(zV (min ((1:Int)*2^(w).toNat) (max x2 y2))),(.int .i64 ((0:Int)-w))] (.tup [(yV b1 b2),(.int .i64 0)]))(c11:L (x1).natAbs≤4000)(c12:L (x2).natAbs≤4000)(c13:L (y1).natAbs≤4000)(c14:L (y2).natAbs≤4000):Impl Tryz.prog Amb 92 [(wV m ee n f),(.int .i64 more),(.int .i64 w)] (.tup [(wV a1 a2 b1 b2),(.int .i64 0)]):=by
 have pw:=zk4 w.toNat
 have mn:=ztq x1 y1
 have mx:=ztr x2 y2
 exact z6e hP hAmb Tryz.func92 (by kernel_rfl) (.lit<|.no<|.lits 3<|.no<|.lits 2<|.call (.bool true)<|.lits 6<|.call (.bool true)<|.lits 6<|.call (.tup [(zV fi),(zV la)])<|.lits 6<|.yes<|.lit<|.call (.bool false)<|.lits 4<|.yes<|.lit<|.call (.bool false)<|.lit<|.call (zV (1:Int))<|.lit<|.call (zV ((1:Int)*2^(w).toNat))<|.lits 3<|.call (zV (-((1:Int)*2^(w).toNat)))<|.lits 7<|.call (sV x1 x2)<|.lits 2<|.call (sV y1 y2)<|.lits 7<|.call (zV (min x1 y1))<|.lit<|.call (zV (max (-((1:Int)*2^(w).toNat)) (min x1 y1)))<|.lits 7<|.call (zV (max x2 y2))<|.lit<|.call (zV (min ((1:Int)*2^(w).toNat) (max x2 y2)))<|.lits 3<|.yes<|.lit<|.call (.tup [(yV a1 a2),(.int .i64 0)])<|.lits 3<|.yes<|.lit<|.call (.tup [(yV b1 b2),(.int .i64 0)])<|.lits 12<|.ret)
  (z6d (aI True.intro (aI (z7k oS:(iLt w 0)=false) (aI (z7m oS:(iGt w 4096)=false) (aI (c2 ) (aI (c3 ) (aI (c4 ) (aI (z7t oS:(fits .i64 ((1:Int)-more))=true) (aI (c5 ) (aI (z7t oS:(fits .i64 ((3:Int)-more))=true) (aI (c6 ) (aI (zdd 1 oS) (have f3:=(zgp oS:L (1:Int).natAbs≤2); aI (zdl (1:Int) w oS oS) (have f2:=zgx (1:Int) (w).toNat; aI (zdg ((1:Int)*2^(w).toNat) oS) (have f1:=zcy ((1:Int)*2^(w).toNat); aI (c7 ) (aI (c8 ) (aI (ztv x1 y1 oS oS) (aI (ztw (-((1:Int)*2^(w).toNat)) (min x1 y1) oS oS) (aI (ztw x2 y2 oS oS) (aI (ztv ((1:Int)*2^(w).toNat) (max x2 y2) oS oS) (aI (z7t oS:(fits .i64 ((0:Int)-w))=true) (aI (c9 ) (aI (z7t oS:(fits .i64 ((0:Int)-w))=true) (aI (c10 ) ((z5w (.tup [(wV a1 a2 b1 b2),(.int .i64 0)])))))))))))))))))))))))))) (by kernel_rfl))
theorem zu1 (m ee n f more ss r1 r2:Int)(c0:Impl Tryz.prog Amb 157 [(yV m ee),(.int .i64 more),(.int .i64 ss)] (sV r1 r2)):Impl Tryz.prog Amb 156 [(.int .i64 ss),(.pt [(V.bool (decide (m<0))),(N m.natAbs),(V.int .i64 ee),(V.bool (decide (n<0))),(N n.natAbs),(V.int .i64 f)] 0),(.pt [(V.int .i64 more)] 0)] (sV r1 r2):=by
 exact z6e hP hAmb Tryz.func156 (by kernel_rfl) (.lits 3<|.call (sV r1 r2)<|.lits 2<|.ret)
  (z6d (aI True.intro (aI (c0 ) ((z5w (sV r1 r2))))) (by kernel_rfl))
theorem zu2 (m ee n f more ss r1 r2:Int)(c0:Impl Tryz.prog Amb 157 [(yV n f),(.int .i64 more),(.int .i64 ss)] (sV r1 r2)):Impl Tryz.prog Amb 158 [(.int .i64 ss),(.pt [(V.bool (decide (m<0))),(N m.natAbs),(V.int .i64 ee),(V.bool (decide (n<0))),(N n.natAbs),(V.int .i64 f)] 0),(.pt [(V.int .i64 more)] 0)] (sV r1 r2):=by
 exact z6e hP hAmb Tryz.func158 (by kernel_rfl) (.lits 3<|.call (sV r1 r2)<|.lits 2<|.ret)
  (z6d (aI True.intro (aI (c0 ) ((z5w (sV r1 r2))))) (by kernel_rfl))
theorem zu3 (m ee n f w a1 a2 b1 b2 e:Int)(c0:Impl Tryz.prog Amb 92 [(wV m ee n f),(.int .i64 0),(.int .i64 w)] (.tup [(wV a1 a2 b1 b2),(.int .i64 e)])):Impl Tryz.prog Amb 34 [(wV m ee n f),(.int .i64 w)] (.tup [(wV a1 a2 b1 b2),(.int .i64 e)]):=by
 exact z6e hP hAmb Tryz.func34 (by kernel_rfl) (.lits 2<|.call (.tup [(wV a1 a2 b1 b2),(.int .i64 e)])<|.lits 2<|.ret)
  (z6d (aI True.intro (aI (c0 ) ((z5w (.tup [(wV a1 a2 b1 b2),(.int .i64 e)]))))) (by kernel_rfl))
theorem zu4 (m ee n f w a1 a2 b1 b2 e:Int)(c0:Impl Tryz.prog Amb 92 [(wV m ee n f),(.int .i64 1),(.int .i64 w)] (.tup [(wV a1 a2 b1 b2),(.int .i64 e)])):Impl Tryz.prog Amb 35 [(wV m ee n f),(.int .i64 w)] (.tup [(wV a1 a2 b1 b2),(.int .i64 e)]):=by
 exact z6e hP hAmb Tryz.func35 (by kernel_rfl) (.lits 2<|.call (.tup [(wV a1 a2 b1 b2),(.int .i64 e)])<|.lits 2<|.ret)
  (z6d (aI True.intro (aI (c0 ) ((z5w (.tup [(wV a1 a2 b1 b2),(.int .i64 e)]))))) (by kernel_rfl))
end Go.Proofs.YtcbihoojfakhdaaGreatDoor



namespace Go.Proofs.YtcbihoojfakhdaaGreatDoor
open Go.RowKit
set_option maxRecDepth 100000
set_option maxHeartbeats 2000000
theorem zu5 {d c T F:Rat}{x1 p1 q:Int}(F0:0<F)(hT:T=F*18446744073709551616)(h1:(x1:Rat)≤d*T)(h2:d*T≤(x1:Rat)+1)(g1:(p1:Rat)≤2*(c*T))(g2:2*(c*T)≤(p1:Rat)+16777216)(c1:157≤100*c)(hF:1≤F)
  (k1:(q:Rat)*(p1:Rat)≤(x1:Rat)*(2*F)) (k2:(x1:Rat)*(2*F)≤((q:Rat)+1)*(p1:Rat)) (d1:-4294967296≤d) (d2:d≤4294967296) :
  (-(4294967296*F)≤(q:Rat)∧(q:Rat)+1≤4294967296*F)∧(q:Rat)*c≤d*F+1 / 100∧d*F≤((q:Rat)+1)*c+1 / 100:=by
 have T0:0<T:=by rw [hT]; exact Rat.mul_pos F0 (by decide)
 have TT:18446744073709551616≤T:=by rw [hT]; grind
 have cT:=Rat.mul_le_mul_of_nonneg_right c1 (Rat.le_of_lt T0)
 rw [Rat.mul_assoc] at cT
 have P3:3*T≤(p1:Rat):=by grind
 have dT1:=Rat.mul_le_mul_of_nonneg_right d1 (Rat.le_of_lt T0)
 have dT2:=Rat.mul_le_mul_of_nonneg_right d2 (Rat.le_of_lt T0)
 have xF1:=Rat.mul_le_mul_of_nonneg_right h1 (Rat.le_of_lt F0)
 have xF2:=Rat.mul_le_mul_of_nonneg_right h2 (Rat.le_of_lt F0)
 have dF1:=Rat.mul_le_mul_of_nonneg_right dT1 (Rat.le_of_lt F0)
 have dF2:=Rat.mul_le_mul_of_nonneg_right dT2 (Rat.le_of_lt F0)
 have TF:=Rat.mul_pos T0 F0
 have TF1:=Rat.mul_le_mul_of_nonneg_right TT (Rat.le_of_lt F0)
 have BP:=Rat.mul_le_mul_of_nonneg_right P3 (Rat.le_of_lt F0)
 have B2:(q:Rat)+1≤4294967296*F:=by
  refine Decidable.byContradiction fun hn=>?_
  have hq:4294967296*F-1≤(q:Rat):=by grind
  have m:=Rat.mul_le_mul_of_nonneg_right hq (show 0≤(p1:Rat) by grind)
  have hp:(p1:Rat)≤4*T+(2*(c*T)-4*T):=by grind
  have e:(4294967296*F-1)*(p1:Rat)=4294967296*((p1:Rat)*F)-(p1:Rat):=by grind
  rw [e] at m
  have c5:0≤4294967296*F-1:=by grind
  have m3:=Rat.mul_le_mul_of_nonneg_left P3 c5
  have e3:(4294967296*F-1)*(3*T)=12884901888*(T*F)-3*T:=by grind
  have e4:(4294967296*F-1)*(p1:Rat)=4294967296*((p1:Rat)*F)-(p1:Rat):=e
  rw [e3,e4] at m3
  have m4:=Rat.mul_le_mul_of_nonneg_left hF (Rat.le_of_lt T0)
  clear m4 hp cT g1 g2
  have m5:=Rat.mul_le_mul_of_nonneg_left hF (Rat.le_of_lt T0)
  grind
 have B1:-(4294967296*F)≤(q:Rat):=by
  refine Decidable.byContradiction fun hn=>?_
  have hq:(q:Rat)+1≤-(4294967296*F)+1:=by grind
  have m:=Rat.mul_le_mul_of_nonneg_right hq (show 0≤(p1:Rat) by grind)
  have c5:0≤4294967296*F-1:=by grind
  have m3:=Rat.mul_le_mul_of_nonneg_left P3 c5
  have e3:(4294967296*F-1)*(3*T)=12884901888*(T*F)-3*T:=by grind
  have e4:(-(4294967296*F)+1)*(p1:Rat)=-((4294967296*F-1)*(p1:Rat)):=by grind
  rw [e3] at m3
  rw [e4] at m
  have m5:=Rat.mul_le_mul_of_nonneg_left hF (Rat.le_of_lt T0)
  generalize (4294967296*F-1)*(p1:Rat)=z at *
  clear cT g1 g2 BP
  grind
 refine ⟨⟨B1,B2⟩,?_,?_⟩
 ·have mb:=zqz (p:=(q:Rat)) (P:=4294967296*F) (x:=2*(c*T)-(p1:Rat)) (a:=16777216) B1 (by grind) (by grind) (by grind)
  have e1:(q:Rat)*(2*(c*T)-(p1:Rat))=2*((q:Rat)*c*T)-(q:Rat)*(p1:Rat):=by grind
  rw [e1] at mb
  refine Rat.le_of_mul_le_mul_right (c:=T) ?_ T0
  have e2:(d*F+1 / 100)*T=d*T*F+T*(1 / 100):=by grind
  rw [e2]
  generalize (q:Rat)*c*T=x at *
  generalize (q:Rat)*(p1:Rat)=y at *
  generalize (x1:Rat)=xx at *
  clear e1 dF1 dF2 dT1 dT2 BP TF TF1 h1 h2 cT g1 g2 P3
  generalize d*T*F=DTF at *
  grind
 ·have mb:=zqz (p:=(q:Rat)+1) (P:=4294967296*F) (x:=2*(c*T)-(p1:Rat)) (a:=16777216) (by grind) B2 (by grind) (by grind)
  have e1:((q:Rat)+1)*(2*(c*T)-(p1:Rat))=2*(((q:Rat)+1)*c*T)-((q:Rat)+1)*(p1:Rat):=by grind
  rw [e1] at mb
  refine Rat.le_of_mul_le_mul_right (c:=T) ?_ T0
  have e2:(((q:Rat)+1)*c+1 / 100)*T=((q:Rat)+1)*c*T+T*(1 / 100):=by grind
  have e3:d*F*T=d*T*F:=by grind
  rw [e2,e3]
  generalize ((q:Rat)+1)*c*T=x at *
  generalize ((q:Rat)+1)*(p1:Rat)=y at *
  clear e1 dF1 dF2 dT1 dT2 BP TF TF1 h1 h2 cT g1 g2 P3
  generalize d*T*F=DTF at *
  grind
theorem zu6 (m ee f:Int)(hf:8≤f∧f≤300)(hm:L (m).natAbs≤20)(he:-440≤ee∧ee≤130)(d1:-4294967296≤dv m ee)(d2:dv m ee≤4294967296) :
  ∃ q:Int,Impl Tryz.prog Amb 203 [(yV m ee),(.int .i64 f)] (zV q)∧L q.natAbs≤70∧(q:Rat)*cQ≤dv m ee*((2^f.toNat:Int):Rat)+1 / 100∧dv m ee*((2^f.toNat:Int):Rat)≤((q:Rat)+1)*cQ+1 / 100:=by
 obtain ⟨t,ht⟩:∃ t:Nat,(t:Int)=f+64:=⟨(f+64).toNat,by omega⟩
 have hO:=zpn m ee (f+64) oO oO oO
 have lf:=zog m ee (f+64)
 have sc1:=(zp0 (dv m ee) t).1
 have sc2:=(zp0 (dv m ee) t).2
 have cl:=zt1 (t:=t) oO
 rw [ht] at sc1 sc2 cl
 have b:=zlf (s:=f+64) oO
 have bw:piHi (f+64)-piLo (f+64)<16777216:=by
  have:=zba (piHi (f+64)-piLo (f+64)).natAbs
  have p:=Nat.pow_le_pow_right (n:=2) oO b.2.2
  omega
 have hP:Impl Tryz.prog Amb 117 [(.int .i64 (f+64))] (sV (piLo (f+64)) (piHi (f+64))):=zle (f+64) oO
 generalize piLo (f+64)=p1 at *
 generalize piHi (f+64)=p2 at *
 generalize flr (dv m ee) (f+64)=x1 at *
 generalize cei (dv m ee) (f+64)=x2 at *
 have hS:=zdl x1 (f+1) oO oO
 have l1:=zgx x1 (f+1).toNat
 have F0:=zi5 f.toNat
 have F0R:(0:Rat)<((2^f.toNat:Int):Rat):=Rat.intCast_pos.2 F0
 have hTR:((2^t:Int):Rat)=((2^f.toNat:Int):Rat)*18446744073709551616:=by
  rw [show t=f.toNat+64 by omega,Int.pow_add,Rat.intCast_mul]; rfl
 have eF:(2:Int)^(f+1).toNat=2^f.toNat*2:=by rw [show (f+1).toNat=f.toNat+1 by omega,Int.pow_succ]
 have e2T:((2^(t+1):Int):Rat)=2*((2^t:Int):Rat):=by
  rw [Int.pow_succ,Rat.intCast_mul]
  show _*(2:Rat)=_
  rw [Rat.mul_comm]
 rw [e2T] at cl
 have c2:cQ*(2*((2^t:Int):Rat))=2*(cQ*((2^t:Int):Rat)):=by grind
 rw [c2] at cl
 have cb:=cQ_b
 have F1:(1:Rat)≤((2^f.toNat:Int):Rat):=Rat.intCast_le_intCast.2 (show (1:Int)≤2^f.toNat by omega)
 have bwR:(p2:Rat)≤(p1:Rat)+16777216:=by
  have:(p2:Rat)≤((p1+16777216:Int):Rat):=Rat.intCast_le_intCast.2 oO
  rw [Rat.intCast_add] at this; exact this
 have p0:0<p1:=by
  have:(0:Rat)<(p1:Rat):=by
   have m:=Rat.mul_le_mul_of_nonneg_right cb.1 (show (0:Rat)≤((2^t:Int):Rat) by rw [hTR]; exact Rat.le_of_lt (Rat.mul_pos F0R (by decide)))
   have TT:(18446744073709551616:Rat)≤((2^t:Int):Rat):=by rw [hTR]; grind
   grind
  exact Rat.intCast_pos.1 this
 have hD:=zn0 (x1*2^(f+1).toNat) p1 oO oO oO
 have q1:=Int.ediv_mul_le (x1*2^(f+1).toNat) (show p1≠0 by omega)
 have q2:=Int.lt_ediv_add_one_mul_self (x1*2^(f+1).toNat) p0
 rw [Int.fdiv_eq_ediv_of_nonneg _ (Int.le_of_lt p0)] at hD
 have ex:((x1*2^(f+1).toNat:Int):Rat)=(x1:Rat)*(2*((2^f.toNat:Int):Rat)):=by
  rw [eF,Rat.intCast_mul,Rat.intCast_mul]
  show (x1:Rat)*(_*2)=_
  grind
 generalize hq:x1*2^(f+1).toNat / p1=q at *
 have q1:=Rat.intCast_le_intCast.2 q1
 have q2:=Rat.intCast_le_intCast.2 (Int.le_of_lt q2)
 rw [ex,Rat.intCast_mul] at q1 q2
 rw [Rat.intCast_add] at q2
 have r:=zu5 (d:=dv m ee) (c:=cQ) (F:=((2^f.toNat:Int):Rat)) F0R hTR sc1 (Rat.le_of_lt sc2) cl.1 (by grind) cb.1 F1 q1 q2 d1 d2
 have Lq:L q.natAbs≤70:=by
  refine zqw (t:=f.toNat+32) (c:=1) ?_ oO oO
  have e:((2^(f.toNat+32):Nat):Int)=4294967296*2^f.toNat:=by rw [← zak,Int.pow_add,Int.mul_comm]; rfl
  have u1:-(4294967296*2^f.toNat)≤q:=by
   refine Rat.intCast_le_intCast.1 ?_
   rw [Rat.intCast_neg,Rat.intCast_mul]
   exact r.1.1
  have u2:q+1≤4294967296*2^f.toNat:=by
   refine Rat.intCast_le_intCast.1 ?_
   rw [Rat.intCast_add,Rat.intCast_mul]
   exact r.1.2
  omega
 exact ⟨q,zss m ee f x1 x2 _ p1 p2 q _ hO hS hP hD oO,Lq,r.2.1,r.2.2⟩
def Tp (a b:Rat)(w c:Int)(g:Bool):Prop :=
 (g=true→∃ k:Int,(k-c)%4=0∧a*((2^(w+8).toNat:Int):Rat)≤(k:Rat)*cQ*((2^(w+8).toNat:Int):Rat)+5∧(k:Rat)*cQ*((2^(w+8).toNat:Int):Rat)≤b*((2^(w+8).toNat:Int):Rat)+5) ∧
 (g=false→∀ k:Int,(k-c)%4=0→(k:Rat)*cQ*((2^(w+8).toNat:Int):Rat)+3≤a*((2^(w+8).toNat:Int):Rat)∨b*((2^(w+8).toNat:Int):Rat)+3≤(k:Rat)*cQ*((2^(w+8).toNat:Int):Rat))
theorem zu7 {a b:Rat}{x y w c:Int}(h1:(x:Rat)*cQ≤a*((2^(w+8).toNat:Int):Rat)+1 / 100)(h2:a*((2^(w+8).toNat:Int):Rat)≤((x:Rat)+1)*cQ+1 / 100)(h3:(y:Rat)*cQ≤b*((2^(w+8).toNat:Int):Rat)+1 / 100)(h4:b*((2^(w+8).toNat:Int):Rat)≤((y:Rat)+1)*cQ+1 / 100) :
  Tp a b w c (decide ((-(-(x-2) / 2^((w+8)).toNat))+(c-(-(-(x-2) / 2^((w+8)).toNat)))%4≤((y+2) / 2^((w+8)).toNat))):=by
 have cb:=cQ_b
 have c0:0≤cQ:=by grind
 unfold Tp
 have F0:=zi5 (w+8).toNat
 generalize hF:(2:Int)^(w+8).toNat=F at *
 have a1:=Int.ediv_mul_le (-(x-2)) (show F≠0 by omega)
 have a2:=Int.lt_ediv_add_one_mul_self (-(x-2)) F0
 have b1:=Int.ediv_mul_le (y+2) (show F≠0 by omega)
 have b2:=Int.lt_ediv_add_one_mul_self (y+2) F0
 generalize -(x-2) / F=u at *
 generalize (y+2) / F=v at *
 have cast:∀ (k z:Int),z≤k*F→(z:Rat)*cQ≤(k:Rat)*cQ*(F:Rat):=fun k z h=>by
  have h:=Rat.mul_le_mul_of_nonneg_right (Rat.intCast_le_intCast.2 h) c0
  rw [Rat.intCast_mul] at h
  grind
 have cast2:∀ (k z:Int),k*F≤z→(k:Rat)*cQ*(F:Rat)≤(z:Rat)*cQ:=fun k z h=>by
  have h:=Rat.mul_le_mul_of_nonneg_right (Rat.intCast_le_intCast.2 h) c0
  rw [Rat.intCast_mul] at h
  grind
 constructor
 ·intro g
  have g:=of_decide_eq_true g
  refine ⟨-u+(c - -u)%4,by omega,?_,?_⟩
  ·have k:=cast (-u+(c - -u)%4) (x-2) (by
    have m:=Int.mul_le_mul_of_nonneg_right (show -u≤-u+(c - -u)%4 by omega) (Int.le_of_lt F0)
    rw [Int.neg_mul] at m
    omega)
   rw [Rat.intCast_sub x 2] at k
   have k:((x:Rat)-2)*cQ≤_:=k
   grind
  ·have k:=cast2 (-u+(c - -u)%4) (y+2) (by
    have m:=Int.mul_le_mul_of_nonneg_right g (Int.le_of_lt F0)
    omega)
   rw [Rat.intCast_add y 2] at k
   have k:_≤((y:Rat)+2)*cQ:=k
   grind
 ·intro g k hk
  have g:=of_decide_eq_false g
  by_cases hl:k < -u
  ·left
   have z:=cast2 k (x-3) (by
    have m:=Int.mul_le_mul_of_nonneg_right (show u+1≤-k by omega) (Int.le_of_lt F0)
    rw [Int.neg_mul] at m
    omega)
   rw [Rat.intCast_sub] at z
   have z:_≤((x:Rat)-3)*cQ:=z
   grind
  ·right
   have z:=cast k (y+3) (by
    have m:=Int.mul_le_mul_of_nonneg_right (show v+1≤k by omega) (Int.le_of_lt F0)
    omega)
   rw [Rat.intCast_add] at z
   have z:((y:Rat)+3)*cQ≤_:=z
   grind
theorem zu8 (m ee n f more w:Int)(hmo:more=0∨more=1)(hw:0≤w∧w≤200)(hm:L (m).natAbs≤20)(he:-440≤ee∧ee≤130)(hd:-4294967296≤dv m ee∧dv m ee≤4294967296) :
  ∃ x1 x2:Int,Impl Tryz.prog Amb 133 [(.int .i64 w),(.clos 156 [(.pt [(V.bool (decide (m<0))),(N m.natAbs),(V.int .i64 ee),(V.bool (decide (n<0))),(N n.natAbs),(V.int .i64 f)] 0),(.pt [(V.int .i64 more)] 0)])] (sV x1 x2)∧(x1≤x2∧x2-x1≤2)∧EnE (SC more (dv m ee)) w.toNat x1 x2 (sE*((2^w.toNat:Int):Rat))∧L x1.natAbs≤76∧L x2.natAbs≤76:=by
 obtain ⟨u1,u2,hS,u12,uw,hE,l1,l2⟩:=zto m ee more (w+24) hmo oO hm he hd.1 hd.2
 have hC:=zu1 m ee n f more (w+24) u1 u2 hS
 have hT:=zq5 156 (.pt [(V.bool (decide (m<0))),(N m.natAbs),(V.int .i64 ee),(V.bool (decide (n<0))),(N n.natAbs),(V.int .i64 f)] 0) (.pt [(V.int .i64 more)] 0) u1 u2 w hC oO (zl2 oO) oO
 have hw3:=zpe (a:=u1) (b:=u2) (W:=1) (n:=24) oO
 have o1:=zgz u1 24
 have o2:=zcy u2
 have o3:=zgz (-u2) 24
 have o4:=zcy (-u2 / 2^24)
 exact ⟨_,_,hT,⟨by have:(2:Int)^24=16777216:=rfl; rw [this]; omega,hw3⟩,hE.half oO,by omega,by omega⟩
theorem zu9 (m ee n f more w:Int)(hmo:more=0∨more=1)(hw:0≤w∧w≤200)(hm:L (n).natAbs≤20)(he:-440≤f∧f≤130)(hd:-4294967296≤dv n f∧dv n f≤4294967296) :
  ∃ x1 x2:Int,Impl Tryz.prog Amb 133 [(.int .i64 w),(.clos 158 [(.pt [(V.bool (decide (m<0))),(N m.natAbs),(V.int .i64 ee),(V.bool (decide (n<0))),(N n.natAbs),(V.int .i64 f)] 0),(.pt [(V.int .i64 more)] 0)])] (sV x1 x2)∧(x1≤x2∧x2-x1≤2)∧EnE (SC more (dv n f)) w.toNat x1 x2 (sE*((2^w.toNat:Int):Rat))∧L x1.natAbs≤76∧L x2.natAbs≤76:=by
 obtain ⟨u1,u2,hS,u12,uw,hE,l1,l2⟩:=zto n f more (w+24) hmo oO hm he hd.1 hd.2
 have hC:=zu2 m ee n f more (w+24) u1 u2 hS
 have hT:=zq5 158 (.pt [(V.bool (decide (m<0))),(N m.natAbs),(V.int .i64 ee),(V.bool (decide (n<0))),(N n.natAbs),(V.int .i64 f)] 0) (.pt [(V.int .i64 more)] 0) u1 u2 w hC oO (zl2 oO) oO
 have hw3:=zpe (a:=u1) (b:=u2) (W:=1) (n:=24) oO
 have o1:=zgz u1 24
 have o2:=zcy u2
 have o3:=zgz (-u2) 24
 have o4:=zcy (-u2 / 2^24)
 exact ⟨_,_,hT,⟨by have:(2:Int)^24=16777216:=rfl; rw [this]; omega,hw3⟩,hE.half oO,by omega,by omega⟩
theorem dv32:dv 1 32=4294967296:=of_decide_eq_true (by kernel_rfl)
theorem zua (m ee:Int)(hm:L (m).natAbs≤20)(he:-440≤ee∧ee≤130)(hd:-4294967296≤dv m ee∧dv m ee≤4294967296):Impl Tryz.prog Amb 93 [(yV m ee)] (.bool true) :=
 zts m ee oO oO (zpu.2 (by rw [dv32]; exact hd.2)) (zpu.2 (by rw [dv32,znd]; have:=hd.1; grind))
theorem zub (m ee n f more w:Int)(hmo:more=0∨more=1)(hw:0≤w∧w≤200)(hm:L (m).natAbs≤20)(he:-440≤ee∧ee≤130)(hd:-4294967296≤dv m ee∧dv m ee≤4294967296)(hn:L (n).natAbs≤20)(hf:-440≤f∧f≤130)(hd':-4294967296≤dv n f∧dv n f≤4294967296) :
  ∃ (tp bt:Bool) (x1 x2 y1 y2:Int),Impl Tryz.prog Amb 92 [(wV m ee n f),(.int .i64 more),(.int .i64 w)] (.tup [(wV (mkM (if bt then -(2^w.toNat) else max (-(2^w.toNat)) (min x1 y1)) (-w)) (mkX (if bt then -(2^w.toNat) else max (-(2^w.toNat)) (min x1 y1)) (-w)) (mkM (if tp then 2^w.toNat else min (2^w.toNat) (max x2 y2)) (-w)) (mkX (if tp then 2^w.toNat else min (2^w.toNat) (max x2 y2)) (-w))),(.int .i64 0)]) ∧
   ((x1≤x2∧x2-x1≤2)∧EnE (SC more (dv m ee)) w.toNat x1 x2 (sE*((2^w.toNat:Int):Rat))∧L x1.natAbs≤76∧L x2.natAbs≤76)∧((y1≤y2∧y2-y1≤2)∧EnE (SC more (dv n f)) w.toNat y1 y2 (sE*((2^w.toNat:Int):Rat))∧L y1.natAbs≤76∧L y2.natAbs≤76)∧Tp (dv m ee) (dv n f) w (1-more) tp∧Tp (dv m ee) (dv n f) w (3-more) bt:=by
 obtain ⟨x1,x2,hX,FX⟩:=zu8 m ee n f more w hmo hw hm he hd
 obtain ⟨y1,y2,hY,FY⟩:=zu9 m ee n f more w hmo hw hn hf hd'
 obtain ⟨x,hQ1,lx,qa,qb⟩:=zu6 m ee (w+8) oO hm he hd.1 hd.2
 obtain ⟨y,hQ2,ly,qc,qd⟩:=zu6 n f (w+8) oO hn hf hd'.1 hd'.2
 have hI1:=zua m ee hm he hd
 have hI2:=zua n f hn hf hd'
 have hTu:=ztu m ee n f w x y hQ1 hQ2 oO oO oO
 have z1:=zk7 2 (by decide)
 have z2:=zgs x 2
 have z3:=zcy (x-2)
 have z4:=zgz (-(x-2)) (w+8).toNat
 have z5:=zcy (-(x-2) / 2^(w+8).toNat)
 have z6:=zcw y 2
 have z7:=zgz (y+2) (w+8).toNat
 have z8:L (2:Int).natAbs≤1:=z1
 have hR1:=ztt (-(-(x-2) / 2^((w+8)).toNat)) ((y+2) / 2^((w+8)).toNat) (1-more) oO oO oO
 have hR2:=ztt (-(-(x-2) / 2^((w+8)).toNat)) ((y+2) / 2^((w+8)).toNat) (3-more) oO oO oO
 have RT:=zu7 (c:=1-more) qa qb qc qd
 have RB:=zu7 (c:=3-more) qa qb qc qd
 have pw:=zk4 w.toNat
 rw [Int.one_mul] at pw
 have pn:=zcy (2^w.toNat)
 have mn:=ztq x1 y1
 have mx:=ztr x2 y2
 have mM:=ztr (-(2^w.toNat)) (min x1 y1)
 have mN:=ztq (2^w.toNat) (max x2 y2)
 have f1:=FX.2.2
 have f2:=FY.2.2
 generalize ht:decide ((-(-(x-2) / 2^((w+8)).toNat))+(1-more-(-(-(x-2) / 2^((w+8)).toNat)))%4≤((y+2) / 2^((w+8)).toNat))=gt at *
 generalize hb:decide ((-(-(x-2) / 2^((w+8)).toNat))+(3-more-(-(-(x-2) / 2^((w+8)).toNat)))%4≤((y+2) / 2^((w+8)).toNat))=gb at *
 cases gt with
 | true =>
  cases gb with
  | true =>
  ·have mA:=zix (-(2^w.toNat)) (0-w) oO oO
   have mB:=zix (2^w.toNat) (0-w) oO oO
   rw [Int.zero_sub,zo5 (m:=(-(2^w.toNat))) (e:=-w) oO oO] at mA
   rw [Int.zero_sub,zo5 (m:=(2^w.toNat)) (e:=-w) oO oO] at mB
   refine ⟨true,true,x1,x2,y1,y2,?_,FX,FY,RT,RB⟩
   exact ztx m ee n f more w _ _ x1 x2 y1 y2 _ _ _ _ oO oO hI1 hI2 hTu hR1 hR2 (by rw [Int.one_mul,Int.zero_sub]; exact mA) (by rw [Int.one_mul,Int.zero_sub]; exact mB) oO oO oO oO
  | false =>
  ·have mA:=zix (max (-(2^w.toNat)) (min x1 y1)) (0-w) oO oO
   have mB:=zix (2^w.toNat) (0-w) oO oO
   rw [Int.zero_sub,zo5 (m:=(max (-(2^w.toNat)) (min x1 y1))) (e:=-w) oO oO] at mA
   rw [Int.zero_sub,zo5 (m:=(2^w.toNat)) (e:=-w) oO oO] at mB
   refine ⟨true,false,x1,x2,y1,y2,?_,FX,FY,RT,RB⟩
   exact zty m ee n f more w _ _ x1 x2 y1 y2 _ _ _ _ oO oO hI1 hI2 hTu hR1 hR2 hX hY (by rw [Int.one_mul,Int.zero_sub]; exact mA) (by rw [Int.one_mul,Int.zero_sub]; exact mB) oO oO oO oO
 | false =>
  cases gb with
  | true =>
  ·have mA:=zix (-(2^w.toNat)) (0-w) oO oO
   have mB:=zix (min (2^w.toNat) (max x2 y2)) (0-w) oO oO
   rw [Int.zero_sub,zo5 (m:=(-(2^w.toNat))) (e:=-w) oO oO] at mA
   rw [Int.zero_sub,zo5 (m:=(min (2^w.toNat) (max x2 y2))) (e:=-w) oO oO] at mB
   refine ⟨false,true,x1,x2,y1,y2,?_,FX,FY,RT,RB⟩
   exact ztz m ee n f more w _ _ x1 x2 y1 y2 _ _ _ _ oO oO hI1 hI2 hTu hR1 hR2 hX hY (by rw [Int.one_mul,Int.zero_sub]; exact mA) (by rw [Int.one_mul,Int.zero_sub]; exact mB) oO oO oO oO
  | false =>
  ·have mA:=zix (max (-(2^w.toNat)) (min x1 y1)) (0-w) oO oO
   have mB:=zix (min (2^w.toNat) (max x2 y2)) (0-w) oO oO
   rw [Int.zero_sub,zo5 (m:=(max (-(2^w.toNat)) (min x1 y1))) (e:=-w) oO oO] at mA
   rw [Int.zero_sub,zo5 (m:=(min (2^w.toNat) (max x2 y2))) (e:=-w) oO oO] at mB
   refine ⟨false,false,x1,x2,y1,y2,?_,FX,FY,RT,RB⟩
   exact zu0 m ee n f more w _ _ x1 x2 y1 y2 _ _ _ _ oO oO hI1 hI2 hTu hR1 hR2 hX hY (by rw [Int.one_mul,Int.zero_sub]; exact mA) (by rw [Int.one_mul,Int.zero_sub]; exact mB) oO oO oO oO
end Go.Proofs.YtcbihoojfakhdaaGreatDoor


namespace Go.Proofs.YtcbihoojfakhdaaGreatDoor
theorem zuc {a b n:Int}(hn:0<n)(hab:a≤b)(w:b-a≤3):ovHi a b n-ovLo a b n≤3∧ovLo a b n≤ovHi a b n:=by
 unfold ovLo ovHi
 rw [show min a b=a by omega,show max a b=b by omega,Int.fdiv_eq_ediv_of_nonneg _ (Int.le_of_lt hn),Int.fdiv_eq_ediv_of_nonneg _ (Int.le_of_lt hn)]
 have f1:=Int.lt_ediv_add_one_mul_self a hn
 have f2:=Int.lt_ediv_add_one_mul_self (-b) hn
 have g1:=Int.ediv_mul_le a (show n≠0 by omega)
 have g2:=Int.ediv_mul_le (-b) (show n≠0 by omega)
 generalize a / n=q1 at *
 generalize -b / n=q2 at *
 rw [Int.add_mul,Int.one_mul] at f1 f2
 constructor
 ·refine Decidable.byContradiction fun h=>?_
  have m:=Int.mul_le_mul_of_nonneg_right (show 4≤-q2-q1 by omega) (Int.le_of_lt hn)
  rw [Int.sub_mul,Int.neg_mul] at m
  omega
 ·refine Decidable.byContradiction fun h=>?_
  have m:=Int.mul_le_mul_of_nonneg_right (show 1≤q1+q2 by omega) (Int.le_of_lt hn)
  rw [Int.add_mul] at m
  omega
theorem zud {a b c d T:Int}(hT:0<T):rm1 a b c d T≤rm2 a b c d T:=by
 have h:mn4 a b c d≤mx4 a b c d:=Int.le_trans (zp3 a b c d).1 (zp4 a b c d).1
 unfold rm1 rm2
 have g1:=Int.ediv_mul_le (mn4 a b c d) (show T≠0 by omega)
 have g2:=Int.ediv_mul_le (-(mx4 a b c d)) (show T≠0 by omega)
 generalize mn4 a b c d / T=q1 at *
 generalize -(mx4 a b c d) / T=q2 at *
 refine Decidable.byContradiction fun hn=>?_
 have m:=Int.mul_le_mul_of_nonneg_right (show 1≤q1+q2 by omega) (Int.le_of_lt hT)
 rw [Int.add_mul] at m
 omega
end Go.Proofs.YtcbihoojfakhdaaGreatDoor

namespace Go.Proofs.YtcbihoojfakhdaaGreatDoor
open Go.RowKit
set_option maxRecDepth 100000
set_option maxHeartbeats 2000000
def mlo (T y1 y2:Int)(j:Nat):Int:=rm1 (reLo T y1 y2 j) (reHi T y1 y2 j) y1 y2 T
def mhi (T y1 y2:Int)(j:Nat):Int:=rm2 (reLo T y1 y2 j) (reHi T y1 y2 j) y1 y2 T
theorem zue {a b c:Rat}(h:a<b)(k:b≤c):a<c:=by grind
end Go.Proofs.YtcbihoojfakhdaaGreatDoor



namespace Go.Proofs.YtcbihoojfakhdaaGreatDoor
open Go.RowKit
set_option maxRecDepth 100000
set_option maxHeartbeats 2000000
theorem zuf (a b:Int)(c0:(-9223372036854775808:Int)≤a∧a≤9223372036854775807)(c1:(-9223372036854775808:Int)≤b∧b≤9223372036854775807):Impl Tryz.prog Amb 63 [(.int .i64 a),(.int .i64 b)] (wV (mkM a 0) (mkX a 0) (mkM b 0) (mkX b 0)):=by
 exact z6e hP hAmb Tryz.func63 (by kernel_rfl) (.lit<|.call (yV (mkM a 0) (mkX a 0))<|.lit<|.call (yV (mkM b 0) (mkX b 0))<|.lits 3<|.ret)
  (z6d (aI True.intro (aI (zjb a oO) (have f14:=(zor (n:=a) oO).2.2.2.2.1; have f13:=(zor (n:=a) oO).2.2.2.1; have f12:=(zor (n:=a) oO).2.2.1; have f11:=(zor (n:=a) oO).2.1; have f10:=(zor (n:=a) oO).1; have f9:=(zgp oO:L (a:Int).natAbs≤2); have f8:=zhz a 0; aI (zjb b oO) (have f7:=(zor (n:=b) oO).2.2.2.2.1; have f6:=(zor (n:=b) oO).2.2.2.1; have f5:=(zor (n:=b) oO).2.2.1; have f4:=(zor (n:=b) oO).2.1; have f3:=(zor (n:=b) oO).1; have f2:=(zgp oO:L (b:Int).natAbs≤2); have f1:=zhz b 0; (z5w (wV (mkM a 0) (mkX a 0) (mkM b 0) (mkX b 0))))))) (by kernel_rfl))
theorem zug (a1 a2:Int)(c0:Impl Tryz.prog Amb 63 [(.int .i64 (-1)),(.int .i64 1)] (wV (-1:Int) 0 (1:Int) 0))(c1:Impl Tryz.prog Amb 35 [(wV (-1:Int) 0 (1:Int) 0),(.int .i64 6)] (.tup [(wV a1 a2 (1:Int) 0),(.int .i64 0)]))(c2:Impl Tryz.prog Amb 63 [(.int .i64 0),(.int .i64 7)] (wV (0:Int) 0 (7:Int) 0))(c3:Impl Tryz.prog Amb 34 [(wV (0:Int) 0 (7:Int) 0),(.int .i64 6)] (.tup [(wV (-1:Int) 0 (1:Int) 0),(.int .i64 0)]))(c4:Impl Tryz.prog Amb 17 [(.int .i64 1)] (yV (1:Int) 0))(c5:Impl Tryz.prog Amb 77 [(yV (1:Int) 0),(yV (1:Int) 0)] (.bool true))(c6:Impl Tryz.prog Amb 37 [(wV (-1:Int) 0 (1:Int) 0),(wV (-1:Int) 0 (1:Int) 0)] (.bool true)):Impl Tryz.prog Amb 23 [] (.bool true):=by
 exact z6e hP hAmb Tryz.func23 (by kernel_rfl) (.lit<|.call (wV (-1:Int) 0 (1:Int) 0)<|.lit<|.call (.tup [(wV a1 a2 (1:Int) 0),(.int .i64 0)])<|.lits 2<|.call (wV (0:Int) 0 (7:Int) 0)<|.lit<|.call (.tup [(wV (-1:Int) 0 (1:Int) 0),(.int .i64 0)])<|.lits 11<|.call (yV (1:Int) 0)<|.lits 2<|.call (.bool true)<|.lits 5<|.call (wV (-1:Int) 0 (1:Int) 0)<|.lits 2<|.call (.bool true)<|.lits 2<|.ret)
  (z6d (aI True.intro (aI (c0 ) (aI (c1 ) (aI (c2 ) (aI (c3 ) (aI (c4 ) (aI (c5 ) (aI (c0 ) (aI (c6 ) ((z5w (.bool true)))))))))))) (by kernel_rfl))
theorem tp_k {a b:Rat}{w c k:Int}{g:Bool}(h:Tp a b w c g)(hk:(k-c)%4=0)(hw:0≤w)(h1:a≤(k:Rat)*cQ)(h2:(k:Rat)*cQ≤b):g=true:=by
 cases g with
 | true=>rfl
 | false =>
  have F0:(0:Rat)<((2^(w+8).toNat:Int):Rat):=Rat.intCast_pos.2 (zi5 _)
  have m1:=Rat.mul_le_mul_of_nonneg_right h1 (Rat.le_of_lt F0)
  have m2:=Rat.mul_le_mul_of_nonneg_right h2 (Rat.le_of_lt F0)
  rcases h.2 rfl k hk with q | q
  ·exfalso; grind
  ·exfalso; grind
theorem dvs:dv (-1) 0=-1∧dv 1 0=1∧dv 0 0=0∧dv 7 0=7:=⟨of_decide_eq_true (by kernel_rfl),of_decide_eq_true (by kernel_rfl),of_decide_eq_true (by kernel_rfl),of_decide_eq_true (by kernel_rfl)⟩
theorem l17_awake:Impl Tryz.prog Amb 23 [] (.bool true):=by
 have cb:=cQ_b
 have dd:=dvs
 have l1:L (1:Int).natAbs≤1:=zk7 1 (by decide)
 have l2:L (-1:Int).natAbs≤1:=zk7 1 (by decide)
 have l3:L (7:Int).natAbs≤1:=zk7 7 (by decide)
 have l4:L (0:Int).natAbs≤1:=zk7 0 (by decide)
 obtain ⟨tp,bt,x1,x2,y1,y2,hC,_,_,t1,_⟩:=zub (-1) 0 1 0 1 6 (.inr rfl) oO oO oO (by rw [dd.1]; constructor<;>grind) oO oO (by rw [dd.2.1]; constructor<;>grind)
 rw [dd.1,dd.2.1] at t1
 have t1:=tp_k t1 (k:=0) (by decide) oO (by show -1≤(0:Rat)*cQ; grind) (by show (0:Rat)*cQ≤1; grind)
 subst t1
 obtain ⟨tp',bt',u1,u2,v1,v2,hS,_,_,t2,t3⟩:=zub 0 0 7 0 0 6 (.inl rfl) oO oO oO (by rw [dd.2.2.1]; constructor<;>grind) oO oO (by rw [dd.2.2.2]; constructor<;>grind)
 rw [dd.2.2.1,dd.2.2.2] at t2 t3
 have t2:=tp_k t2 (k:=1) (by decide) oO (by show 0≤(1:Rat)*cQ; grind) (by show (1:Rat)*cQ≤7; grind)
 have t3:=tp_k t3 (k:=3) (by decide) oO (by show 0≤(3:Rat)*cQ; grind) (by show (3:Rat)*cQ≤7; grind)
 subst t2 t3
 exact zug _ _ (zon (by kernel_rfl) (zuf (-1) 1 oO oO)) (zon (congrArg (fun d=>V.tup [.agg [_,_,_,.bool (decide (d.1<0)),N d.1.natAbs,.int .i64 d.2],.int .i64 0]) (show ((mkM (2^(6:Int).toNat) (-6),mkX (2^(6:Int).toNat) (-6)):Int × Int)=(1,0) by kernel_rfl)) (zu4 (-1) 0 1 0 6 _ _ _ _ 0 hC))
  (zon (by kernel_rfl) (zuf 0 7 oO oO)) (zon (by kernel_rfl) (zu3 0 0 7 0 6 _ _ _ _ 0 hS)) (zon (by kernel_rfl) (zjb 1 oO)) (zon (congrArg V.bool (by decide)) (zjn 1 0 1 0 oO oO)) (zon (congrArg V.bool (by decide)) (zjo (-1) 0 1 0 (-1) 0 1 0 oO oO oO oO))
end Go.Proofs.YtcbihoojfakhdaaGreatDoor





namespace Go.Proofs.YtcbihoojfakhdaaGreatDoor
open Go.RowKit
set_option maxRecDepth 100000
def eA (w:Int):Int:=(mkM ((eLo (w+24)) / 2^24) (-w))
def eB (w:Int):Int:=(mkX ((eLo (w+24)) / 2^24) (-w))
def eC (w:Int):Int:=(mkM (-(-(eHi (w+24)) / 2^24)) (-w))
end Go.Proofs.YtcbihoojfakhdaaGreatDoor

namespace Go.Proofs.YtcbihoojfakhdaaGreatDoor
open Go.RowKit
set_option maxRecDepth 100000
set_option maxHeartbeats 2000000
theorem zuh (m e n f na nb ha hb:Int)(g:Bool)(c0:Impl Tryz.prog Amb 17 [(.int .i64 (-1))] (yV na nb))(c1:Impl Tryz.prog Amb 17 [(.int .i64 1)] (yV ha hb))(c2:Impl Tryz.prog Amb 95 [(wV m e n f),(wV na nb ha hb)] (.bool g)):Impl Tryz.prog Amb 42 [(wV m e n f)] (.bool g):=by
 exact z6e hP hAmb Tryz.func42 (by kernel_rfl) (.lits 2<|.call (yV na nb)<|.lit<|.call (yV ha hb)<|.lits 2<|.call (.bool g)<|.lit<|.ret)
  (z6d (aI True.intro (aI (c0 ) (aI (c1 ) (aI (c2 ) ((z5w (.bool g))))))) (by kernel_rfl))
def rpLo (v:Int):Int:=((((atanT 5 v).1-2)*16)+(-(((atanT 239 v).2+2)*4)))
def rpHi (v:Int):Int:=((((atanT 5 v).2+2)*16)+(-(((atanT 239 v).1-2)*4)))
theorem rpi_all:(List.range 400).all (fun t=>decide (t<24) || (decide (0≤rpLo (t:Int)) && decide (rpLo (t:Int)*2^(430-t)≤ptPi) && decide (ptPi≤rpHi (t:Int)*2^(430-t)) && decide (rpHi (t:Int)≤8*2^t) && decide (rpHi (t:Int)-rpLo (t:Int)≤16384)))=true:=by kernel_rfl
theorem zui {t:Nat}(ht:t<400)(h24:24≤t):(((rpLo (t:Int):Int):Rat)≤cQ*2*((2^t:Int):Rat)∧cQ*2*((2^t:Int):Rat)≤((rpHi (t:Int):Int):Rat))∧0≤rpLo (t:Int)∧rpHi (t:Int)≤8*2^t∧rpHi (t:Int)-rpLo (t:Int)≤16384:=by
 have h:=List.all_eq_true.1 rpi_all t (List.mem_range.2 ht)
 simp only [Bool.or_eq_true,Bool.and_eq_true,decide_eq_true_eq] at h
 have h:=h.resolve_left oO
 rw [← cQ2]
 exact ⟨⟨(zpg oO).1 h.1.1.1.2,(zpg oO).2 h.1.1.2⟩,h.1.1.1.1,h.1.2,h.2⟩
theorem zuj (A B w:Int)(hw:0≤w∧w≤300)(hA:A≤2^w.toNat∧-(2^w.toNat)≤A)(hB:B≤2^w.toNat∧-(2^w.toNat)≤B):Impl Tryz.prog Amb 42 [(wV (mkM A (-w)) (mkX A (-w)) (mkM B (-w)) (mkX B (-w)))] (.bool true):=by
 have pv2:((2^w.toNat:Nat):Int)=(2:Int)^w.toNat:=(zak _).symm
 have lA:L A.natAbs≤70:=zqw (t:=w.toNat) (c:=1) oO oO oO
 have lB:L B.natAbs≤70:=zqw (t:=w.toNat) (c:=1) oO oO oO
 have fA:=zoq (m:=A) (e:=-w) oO oO
 have fB:=zoq (m:=B) (e:=-w) oO oO
 have i1:=zht (-w) 0
 have i2:iMax (-w) 0≤0:=by unfold iMax; split<;>omega
 have hh:dv 1 0=dv (2^w.toNat) (-w):=by
  rw [zn7 (m:=1) (e:=0) (c:=-w) oO,show (0 - -w).toNat=w.toNat by omega,Int.one_mul]
 have b1:dv A (-w)≤dv 1 0:=by rw [hh,zn9]; omega
 have b2:dv B (-w)≤dv 1 0:=by rw [hh,zn9]; omega
 have b3:-dv 1 0≤dv A (-w):=by rw [hh,← znd,zn9]; omega
 have b4:-dv 1 0≤dv B (-w):=by rw [hh,← znd,zn9]; omega
 rw [← fA.2.2.2.2.2] at b1 b3
 rw [← fB.2.2.2.2.2] at b2 b4
 have l1:L (1:Int).natAbs≤1:=zk7 1 (by decide)
 have l2:L (-1:Int).natAbs≤1:=zk7 1 (by decide)
 refine zuh _ _ _ _ (-1) 0 1 0 true (zon (by kernel_rfl) (zjb (-1) oO)) (zon (by kernel_rfl) (zjb 1 oO)) ?_
 exact zon (congrArg V.bool (decide_eq_true ⟨zpu.2 (by rw [znd]; exact b3),zpu.2 b2⟩)) (zjm (mkM A (-w)) (mkX A (-w)) (mkM B (-w)) (mkX B (-w)) (-1) 0 1 0 oO oO oO oO oO oO oO oO)
theorem zuk {v:Int}(hv:24≤v∧v<400):∃ p1 p2 n1 n2:Int,Impl Tryz.prog Amb 30 [(.int .i64 v)] (sV p1 p2)∧Impl Tryz.prog Amb 29 [(sV p1 p2),(.int .i64 2)] (sV n1 n2)∧((n1:Rat)≤cQ*((2^v.toNat:Int):Rat)∧cQ*((2^v.toNat:Int):Rat)≤(n2:Rat))∧(0≤n1∧n2≤8*2^v.toNat∧n2-n1≤8194)∧L n1.natAbs≤70∧L n2.natAbs≤70:=by
 have hP:=zkq v oO
 have rl:=zui (t:=v.toNat) oO oO
 rw [Int.toNat_of_nonneg (show 0≤v by omega)] at rl
 have hP:Impl Tryz.prog Amb 30 [(.int .i64 v)] (sV (rpLo v) (rpHi v)):=hP
 generalize rpLo v=p1 at *
 generalize rpHi v=p2 at *
 obtain ⟨rc,r0,r8,rw_⟩:=rl
 have p12:p1≤p2:=Rat.intCast_le_intCast.1 (Rat.le_trans rc.1 rc.2)
 have pv2:((2^v.toNat:Nat):Int)=(2:Int)^v.toNat:=(zak _).symm
 have l1:L p1.natAbs≤70:=zqw (t:=v.toNat) (c:=8) oO oO oO
 have l2:L p2.natAbs≤70:=zqw (t:=v.toNat) (c:=8) oO oO oO
 have hO:=zkl p1 p2 2 oO oO oO
 have oi:=zpa (a:=p1) (b:=p2) (n:=2) oO rc.1 rc.2
 have e2:cQ*2*((2^v.toNat:Int):Rat) / ((2:Int):Rat)=cQ*((2^v.toNat:Int):Rat):=by
  rw [show ((2:Int):Rat)=2 from rfl,show cQ*2*((2^v.toNat:Int):Rat)=cQ*((2^v.toNat:Int):Rat)*2 by grind,Rat.mul_div_cancel (by decide)]
 rw [e2] at oi
 have oo:ovLo p1 p2 2=p1 / 2∧ovHi p1 p2 2=-(-p2 / 2):=by
  unfold ovLo ovHi
  rw [show min p1 p2=p1 by omega,show max p1 p2=p2 by omega,Int.fdiv_eq_ediv_of_nonneg _ oO,Int.fdiv_eq_ediv_of_nonneg _ oO]
  exact ⟨rfl,rfl⟩
 have q1:0≤ovLo p1 p2 2:=by rw [oo.1]; omega
 have q2:ovHi p1 p2 2≤8*2^v.toNat:=by rw [oo.2]; omega
 have q3:ovHi p1 p2 2-ovLo p1 p2 2≤8194:=by rw [oo.1,oo.2]; omega
 have q4:ovLo p1 p2 2≤ovHi p1 p2 2:=by rw [oo.1,oo.2]; omega
 exact ⟨p1,p2,ovLo p1 p2 2,ovHi p1 p2 2,hP,hO,oi,⟨q1,q2,q3⟩,zqw (t:=v.toNat) (c:=8) oO oO oO,zqw (t:=v.toNat) (c:=8) oO oO oO⟩
end Go.Proofs.YtcbihoojfakhdaaGreatDoor
