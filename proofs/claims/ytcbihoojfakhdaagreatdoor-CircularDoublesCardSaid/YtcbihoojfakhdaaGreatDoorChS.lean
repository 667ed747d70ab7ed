/-
  Lower layers: what functions of the program compute, and plain facts. Conditions: as the theorems say.
-/
import Derived.Test.YtcbihoojfakhdaaGreatDoorChR
set_option linter.unusedVariables false
set_option linter.unusedSimpArgs false
namespace Go.Proofs.YtcbihoojfakhdaaGreatDoor
open Go.RowKit
set_option maxRecDepth 100000
set_option maxHeartbeats 2000000
theorem sp_eq {a b c d:Int}(h1:a=c)(h2:b=d):(V.agg [.bool (decide (a<0)),N a.natAbs,.bool (decide (b<0)),N b.natAbs])=.agg [.bool (decide (c<0)),N c.natAbs,.bool (decide (d<0)),N d.natAbs]:=by
 subst h1; subst h2; rfl
theorem fx_taySN (sc q1 q2 x:Int)(hs:24≤sc∧sc≤400)(h:TyH (2^sc.toNat) q1 q2 x x) :
  ∃ n:Nat,n≤sc.toNat∧Impl Tryz.prog Amb 237 [(sV x x),(sV q1 q2),(.int .u32 1),(.int .i64 sc)] (sV (tyA (fun j=>(ty (2^sc.toNat) q1 q2 x x 1 j).1) (fun j=>(ty (2^sc.toNat) q1 q2 x x 1 j).2) n-(ty (2^sc.toNat) q1 q2 x x 1 n).2) (tyB (fun j=>(ty (2^sc.toNat) q1 q2 x x 1 j).1) (fun j=>(ty (2^sc.toNat) q1 q2 x x 1 j).2) n+(ty (2^sc.toNat) q1 q2 x x 1 n).2))∧(0≤(ty (2^sc.toNat) q1 q2 x x 1 n).2∧(ty (2^sc.toNat) q1 q2 x x 1 n).2<8):=by
 obtain ⟨n,n1,n2,n3⟩:=ty_end h 1
 have tf:=ty_facts h 1
 have tl:∀ z:Int,0≤z→z≤2^sc.toNat→L z.natAbs≤70:=fun z z0 z1=>by
  have p:((2^sc.toNat:Nat):Int)=(2:Int)^sc.toNat:=(pow_cast _).symm
  exact abs_big (t:=sc.toNat) (c:=1) oO oO oO
 have l1:∀ j,L (ty (2^sc.toNat) q1 q2 x x 1 j).1.natAbs≤70:=fun j=>tl _ (tf j).1 (by have:=tf j; omega)
 have l2:∀ j,L (ty (2^sc.toNat) q1 q2 x x 1 j).2.natAbs≤70:=fun j=>tl _ (by have:=tf j; omega) (tf j).2.2.1
 have sb:=tyS_bd (p1:=(fun j=>(ty (2^sc.toNat) q1 q2 x x 1 j).1)) (p2:=(fun j=>(ty (2^sc.toNat) q1 q2 x x 1 j).2)) (T:=2^sc.toNat) tf
 have ls:∀ j,j≤n→L (tyA (fun j=>(ty (2^sc.toNat) q1 q2 x x 1 j).1) (fun j=>(ty (2^sc.toNat) q1 q2 x x 1 j).2) j).natAbs≤70∧L (tyB (fun j=>(ty (2^sc.toNat) q1 q2 x x 1 j).1) (fun j=>(ty (2^sc.toNat) q1 q2 x x 1 j).2) j).natAbs≤70:=fun j hj=>by
  have b:=(sb j).1
  have p:((2^sc.toNat:Nat):Int)=(2:Int)^sc.toNat:=(pow_cast _).symm
  have m:=Int.mul_le_mul_of_nonneg_right (show (j:Int)+1≤1000 by omega) (Int.le_of_lt (two_pos sc.toNat))
  exact ⟨abs_big (t:=sc.toNat) (c:=1000) oO oO oO,abs_big (t:=sc.toNat) (c:=1000) oO oO oO⟩
 have lq1:=tl q1 h.q0 (by have:=h.q12; have:=h.qT; omega)
 have lq2:=tl q2 (by have:=h.q0; have:=h.q12; omega) h.qT
 refine ⟨n,n1,fx_tay n 1 q1 q2 sc (fun j=>(ty (2^sc.toNat) q1 q2 x x 1 j).1) (fun j=>(ty (2^sc.toNat) q1 q2 x x 1 j).2) (fun j=>(ty (2^sc.toNat) q1 q2 x x 1 j).1*q1 / 2^sc.toNat) (fun j=>-(-((ty (2^sc.toNat) q1 q2 x x 1 j).2*q2) / 2^sc.toNat)) (fun j hj=>?_) (fun j hj=>?_) (fun j k hj hk=>?_) (fun j hj he=>?_) (fun j hj he=>?_) oO (fun j hj=>⟨Nat.le_trans (ls j hj).1 oO,Nat.le_trans (ls j hj).2 oO,Nat.le_trans (l2 j) oO⟩),by have:=tf n; omega,n2⟩
 ·refine impl_eq (congrArg V.bool (decide_eq_decide.2 ?_)) (fx_Tiny (ty (2^sc.toNat) q1 q2 x x 1 j).1 (ty (2^sc.toNat) q1 q2 x x 1 j).2 (by have:=l2 j; omega))
  have z:=tf j
  constructor
  ·intro q
   exact Decidable.byContradiction fun hn=>n3 j oO oO
  ·intro q
   rw [show j=n by omega]
   have:=tf n
   omega
 ·exact fx_Mul (ty (2^sc.toNat) q1 q2 x x 1 j).1 (ty (2^sc.toNat) q1 q2 x x 1 j).2 q1 q2 sc (by have:=l1 j; omega) (by have:=l2 j; omega) oO oO oO
 ·subst hk
  have z:=ty_next h 1 j
  have g1:=tl _ z.1.1 z.1.2
  have g2:=tl _ z.2.1.1 z.2.1.2
  exact fx_Part _ _ (mT 1 j) (by show L ((ty (2^sc.toNat) q1 q2 x x 1 j).1*q1 / 2^sc.toNat).natAbs≤65536; omega) (by show L (-(-((ty (2^sc.toNat) q1 q2 x x 1 j).2*q2) / 2^sc.toNat)).natAbs≤65536; omega) ⟨by have:=mT_ge 1 j; omega,mT_le oO oO⟩
 ·have z:=ls j oO
  have y1:=l1 (j+1)
  have y2:=l2 (j+1)
  exact impl_eq (sp_eq (if_pos he).symm (if_pos he).symm) (fx_Sub (tyA (fun j=>(ty (2^sc.toNat) q1 q2 x x 1 j).1) (fun j=>(ty (2^sc.toNat) q1 q2 x x 1 j).2) j) (tyB (fun j=>(ty (2^sc.toNat) q1 q2 x x 1 j).1) (fun j=>(ty (2^sc.toNat) q1 q2 x x 1 j).2) j) (ty (2^sc.toNat) q1 q2 x x 1 (j+1)).1 (ty (2^sc.toNat) q1 q2 x x 1 (j+1)).2 oO oO oO oO)
 ·have z:=ls j oO
  have y1:=l1 (j+1)
  have y2:=l2 (j+1)
  have he:¬ j%2=0:=by omega
  exact impl_eq (sp_eq (if_neg he).symm (if_neg he).symm) (fx_Add (tyA (fun j=>(ty (2^sc.toNat) q1 q2 x x 1 j).1) (fun j=>(ty (2^sc.toNat) q1 q2 x x 1 j).2) j) (tyB (fun j=>(ty (2^sc.toNat) q1 q2 x x 1 j).1) (fun j=>(ty (2^sc.toNat) q1 q2 x x 1 j).2) j) (ty (2^sc.toNat) q1 q2 x x 1 (j+1)).1 (ty (2^sc.toNat) q1 q2 x x 1 (j+1)).2 oO oO oO oO)
theorem fx_tayCS (sc q1 q2:Int)(hs:24≤sc∧sc≤400)(h:TyH (2^sc.toNat) q1 q2 ((2:Int)^sc.toNat) ((2:Int)^sc.toNat)) :
  ∃ n:Nat,1≤n∧n≤sc.toNat∧Impl Tryz.prog Amb 237 [(sV ((2:Int)^sc.toNat) ((2:Int)^sc.toNat)),(sV q1 q2),(.int .u32 0),(.int .i64 sc)] (sV (tyA (fun j=>(ty (2^sc.toNat) q1 q2 ((2:Int)^sc.toNat) ((2:Int)^sc.toNat) 0 j).1) (fun j=>(ty (2^sc.toNat) q1 q2 ((2:Int)^sc.toNat) ((2:Int)^sc.toNat) 0 j).2) n-(ty (2^sc.toNat) q1 q2 ((2:Int)^sc.toNat) ((2:Int)^sc.toNat) 0 n).2) (tyB (fun j=>(ty (2^sc.toNat) q1 q2 ((2:Int)^sc.toNat) ((2:Int)^sc.toNat) 0 j).1) (fun j=>(ty (2^sc.toNat) q1 q2 ((2:Int)^sc.toNat) ((2:Int)^sc.toNat) 0 j).2) n+(ty (2^sc.toNat) q1 q2 ((2:Int)^sc.toNat) ((2:Int)^sc.toNat) 0 n).2))∧(0≤(ty (2^sc.toNat) q1 q2 ((2:Int)^sc.toNat) ((2:Int)^sc.toNat) 0 n).2∧(ty (2^sc.toNat) q1 q2 ((2:Int)^sc.toNat) ((2:Int)^sc.toNat) 0 n).2<8):=by
 obtain ⟨n,n1,n2,n3⟩:=ty_end h 0
 have tf:=ty_facts h 0
 have tl:∀ z:Int,0≤z→z≤2^sc.toNat→L z.natAbs≤70:=fun z z0 z1=>by
  have p:((2^sc.toNat:Nat):Int)=(2:Int)^sc.toNat:=(pow_cast _).symm
  exact abs_big (t:=sc.toNat) (c:=1) oO oO oO
 have l1:∀ j,L (ty (2^sc.toNat) q1 q2 ((2:Int)^sc.toNat) ((2:Int)^sc.toNat) 0 j).1.natAbs≤70:=fun j=>tl _ (tf j).1 (by have:=tf j; omega)
 have l2:∀ j,L (ty (2^sc.toNat) q1 q2 ((2:Int)^sc.toNat) ((2:Int)^sc.toNat) 0 j).2.natAbs≤70:=fun j=>tl _ (by have:=tf j; omega) (tf j).2.2.1
 have sb:=tyS_bd (p1:=(fun j=>(ty (2^sc.toNat) q1 q2 ((2:Int)^sc.toNat) ((2:Int)^sc.toNat) 0 j).1)) (p2:=(fun j=>(ty (2^sc.toNat) q1 q2 ((2:Int)^sc.toNat) ((2:Int)^sc.toNat) 0 j).2)) (T:=2^sc.toNat) tf
 have ls:∀ j,j≤n→L (tyA (fun j=>(ty (2^sc.toNat) q1 q2 ((2:Int)^sc.toNat) ((2:Int)^sc.toNat) 0 j).1) (fun j=>(ty (2^sc.toNat) q1 q2 ((2:Int)^sc.toNat) ((2:Int)^sc.toNat) 0 j).2) j).natAbs≤70∧L (tyB (fun j=>(ty (2^sc.toNat) q1 q2 ((2:Int)^sc.toNat) ((2:Int)^sc.toNat) 0 j).1) (fun j=>(ty (2^sc.toNat) q1 q2 ((2:Int)^sc.toNat) ((2:Int)^sc.toNat) 0 j).2) j).natAbs≤70:=fun j hj=>by
  have b:=(sb j).1
  have p:((2^sc.toNat:Nat):Int)=(2:Int)^sc.toNat:=(pow_cast _).symm
  have m:=Int.mul_le_mul_of_nonneg_right (show (j:Int)+1≤1000 by omega) (Int.le_of_lt (two_pos sc.toNat))
  exact ⟨abs_big (t:=sc.toNat) (c:=1000) oO oO oO,abs_big (t:=sc.toNat) (c:=1000) oO oO oO⟩
 have lq1:=tl q1 h.q0 (by have:=h.q12; have:=h.qT; omega)
 have lq2:=tl q2 (by have:=h.q0; have:=h.q12; omega) h.qT
 refine ⟨n,?_,n1,fx_tay n 0 q1 q2 sc (fun j=>(ty (2^sc.toNat) q1 q2 ((2:Int)^sc.toNat) ((2:Int)^sc.toNat) 0 j).1) (fun j=>(ty (2^sc.toNat) q1 q2 ((2:Int)^sc.toNat) ((2:Int)^sc.toNat) 0 j).2) (fun j=>(ty (2^sc.toNat) q1 q2 ((2:Int)^sc.toNat) ((2:Int)^sc.toNat) 0 j).1*q1 / 2^sc.toNat) (fun j=>-(-((ty (2^sc.toNat) q1 q2 ((2:Int)^sc.toNat) ((2:Int)^sc.toNat) 0 j).2*q2) / 2^sc.toNat)) (fun j hj=>?_) (fun j hj=>?_) (fun j k hj hk=>?_) (fun j hj he=>?_) (fun j hj he=>?_) oO (fun j hj=>⟨Nat.le_trans (ls j hj).1 oO,Nat.le_trans (ls j hj).2 oO,Nat.le_trans (l2 j) oO⟩),by have:=tf n; omega,n2⟩
 ·refine Decidable.byContradiction fun hn=>?_
  rw [show n=0 by omega] at n2
  have n2:(2:Int)^sc.toNat<8:=n2
  have:=h.hT
  omega
 ·refine impl_eq (congrArg V.bool (decide_eq_decide.2 ?_)) (fx_Tiny (ty (2^sc.toNat) q1 q2 ((2:Int)^sc.toNat) ((2:Int)^sc.toNat) 0 j).1 (ty (2^sc.toNat) q1 q2 ((2:Int)^sc.toNat) ((2:Int)^sc.toNat) 0 j).2 (by have:=l2 j; omega))
  have z:=tf j
  constructor
  ·intro q
   exact Decidable.byContradiction fun hn=>n3 j oO oO
  ·intro q
   rw [show j=n by omega]
   have:=tf n
   omega
 ·exact fx_Mul (ty (2^sc.toNat) q1 q2 ((2:Int)^sc.toNat) ((2:Int)^sc.toNat) 0 j).1 (ty (2^sc.toNat) q1 q2 ((2:Int)^sc.toNat) ((2:Int)^sc.toNat) 0 j).2 q1 q2 sc (by have:=l1 j; omega) (by have:=l2 j; omega) oO oO oO
 ·subst hk
  have z:=ty_next h 0 j
  have g1:=tl _ z.1.1 z.1.2
  have g2:=tl _ z.2.1.1 z.2.1.2
  exact fx_Part _ _ (mT 0 j) (by show L ((ty (2^sc.toNat) q1 q2 ((2:Int)^sc.toNat) ((2:Int)^sc.toNat) 0 j).1*q1 / 2^sc.toNat).natAbs≤65536; omega) (by show L (-(-((ty (2^sc.toNat) q1 q2 ((2:Int)^sc.toNat) ((2:Int)^sc.toNat) 0 j).2*q2) / 2^sc.toNat)).natAbs≤65536; omega) ⟨by have:=mT_ge 0 j; omega,mT_le oO oO⟩
 ·have z:=ls j oO
  have y1:=l1 (j+1)
  have y2:=l2 (j+1)
  exact impl_eq (sp_eq (if_pos he).symm (if_pos he).symm) (fx_Sub (tyA (fun j=>(ty (2^sc.toNat) q1 q2 ((2:Int)^sc.toNat) ((2:Int)^sc.toNat) 0 j).1) (fun j=>(ty (2^sc.toNat) q1 q2 ((2:Int)^sc.toNat) ((2:Int)^sc.toNat) 0 j).2) j) (tyB (fun j=>(ty (2^sc.toNat) q1 q2 ((2:Int)^sc.toNat) ((2:Int)^sc.toNat) 0 j).1) (fun j=>(ty (2^sc.toNat) q1 q2 ((2:Int)^sc.toNat) ((2:Int)^sc.toNat) 0 j).2) j) (ty (2^sc.toNat) q1 q2 ((2:Int)^sc.toNat) ((2:Int)^sc.toNat) 0 (j+1)).1 (ty (2^sc.toNat) q1 q2 ((2:Int)^sc.toNat) ((2:Int)^sc.toNat) 0 (j+1)).2 oO oO oO oO)
 ·have z:=ls j oO
  have y1:=l1 (j+1)
  have y2:=l2 (j+1)
  have he:¬ j%2=0:=by omega
  exact impl_eq (sp_eq (if_neg he).symm (if_neg he).symm) (fx_Add (tyA (fun j=>(ty (2^sc.toNat) q1 q2 ((2:Int)^sc.toNat) ((2:Int)^sc.toNat) 0 j).1) (fun j=>(ty (2^sc.toNat) q1 q2 ((2:Int)^sc.toNat) ((2:Int)^sc.toNat) 0 j).2) j) (tyB (fun j=>(ty (2^sc.toNat) q1 q2 ((2:Int)^sc.toNat) ((2:Int)^sc.toNat) 0 j).1) (fun j=>(ty (2^sc.toNat) q1 q2 ((2:Int)^sc.toNat) ((2:Int)^sc.toNat) 0 j).2) j) (ty (2^sc.toNat) q1 q2 ((2:Int)^sc.toNat) ((2:Int)^sc.toNat) 0 (j+1)).1 (ty (2^sc.toNat) q1 q2 ((2:Int)^sc.toNat) ((2:Int)^sc.toNat) 0 (j+1)).2 oO oO oO oO)
theorem sq_T {T x:Int}(hT:16≤T)(h0:0≤x)(h1:x≤T){X:Rat}(hX:(x:Rat)=X*(T:Rat)) :
  (0≤x*x / T∧x*x / T≤-(-(x*x) / T)∧-(-(x*x) / T)≤T∧-(-(x*x) / T)-x*x / T≤1)∧((x*x / T:Int):Rat)≤X*X*(T:Rat)∧X*X*(T:Rat)≤((-(-(x*x) / T):Int):Rat):=by
 have T0:0<T:=by omega
 have T0R:(0:Rat)<(T:Rat):=Rat.intCast_pos.2 T0
 have k:=Int.mul_le_mul h1 h1 h0 oO
 have k0:=Int.mul_nonneg h0 h0
 have a0:0≤x*x / T:=Int.ediv_nonneg k0 (Int.le_of_lt T0)
 have a1:=Int.ediv_mul_le (x*x) (show T≠0 by omega)
 have a2:=Int.lt_ediv_add_one_mul_self (x*x) T0
 have b1:=Int.ediv_mul_le (-(x*x)) (show T≠0 by omega)
 have b2:=Int.lt_ediv_add_one_mul_self (-(x*x)) T0
 have f1:=(fl_R (a:=x*x) T0).1
 have f2:=(ce_R (a:=x*x) T0).1
 have e:X*X*(T:Rat)*(T:Rat)=((x*x:Int):Rat):=by rw [Rat.intCast_mul,hX]; grind
 generalize x*x=y at *
 generalize y / T=u at *
 generalize -y / T=v at *
 refine ⟨⟨a0,?_,?_,?_⟩,Rat.le_of_mul_le_mul_right (c:=(T:Rat)) (by rw [e]; exact f1) T0R,Rat.le_of_mul_le_mul_right (c:=(T:Rat)) (by rw [e]; exact f2) T0R⟩
 ·refine Decidable.byContradiction fun hn=>?_
  have m:=Int.mul_le_mul_of_nonneg_right (show 1≤u+v by omega) (Int.le_of_lt T0)
  rw [Int.add_mul] at m
  omega
 ·refine Decidable.byContradiction fun hn=>?_
  have m:=Int.mul_le_mul_of_nonneg_right (show v+1≤-T by omega) (Int.le_of_lt T0)
  rw [Int.neg_mul] at m
  omega
 ·refine Decidable.byContradiction fun hn=>?_
  have m:=Int.mul_le_mul_of_nonneg_right (show u+1+(v+1)≤0 by omega) (Int.le_of_lt T0)
  rw [Int.add_mul] at m
  omega
theorem fx_wavesE (x sc:Int)(X:Rat)(hs:24≤sc∧sc≤400)(h0:0≤x)(h1:x≤2^sc.toNat)(hX:X*((2^sc.toNat:Int):Rat)=(x:Rat)) :
  ∃ s1 s2 k1 k2:Int,Impl Tryz.prog Amb 206 [(zV x),(.int .i64 sc)] (.tup [(sV s1 s2),(sV k1 k2)])∧((s1≤s2∧s2-s1≤8000)∧k1≤k2∧k2-k1≤8000)∧((L s1.natAbs≤70∧L s2.natAbs≤70)∧L k1.natAbs≤70∧L k2.natAbs≤70) ∧
   ∃ N,∀ K,N≤K→((s1:Rat)≤SN X K*((2^sc.toNat:Int):Rat)∧SN X K*((2^sc.toNat:Int):Rat)≤(s2:Rat))∧((k1:Rat)≤CS X K*((2^sc.toNat:Int):Rat)∧CS X K*((2^sc.toNat:Int):Rat)≤(k2:Rat)):=by
 have T16:(16:Int)≤2^sc.toNat:=by
  have p:=Int.ofNat_le.2 (Nat.pow_le_pow_right (n:=2) oO (show 4≤sc.toNat by omega))
  rw [← pow_cast,← pow_cast] at p
  exact p
 have T0:(0:Rat)<((2^sc.toNat:Int):Rat):=Rat.intCast_pos.2 oO
 obtain ⟨⟨a1,a2,a3,a4⟩,b1,b2⟩:=sq_T T16 h0 h1 hX.symm
 have X0:0≤X:=Rat.le_of_mul_le_mul_right (c:=((2^sc.toNat:Int):Rat)) (by rw [Rat.zero_mul,hX]; exact Rat.intCast_nonneg.2 h0) T0
 have X1:X≤1:=Rat.le_of_mul_le_mul_right (c:=((2^sc.toNat:Int):Rat)) (by rw [Rat.one_mul,hX]; exact Rat.intCast_le_intCast.2 h1) T0
 have p:((2^sc.toNat:Nat):Int)=(2:Int)^sc.toNat:=(pow_cast _).symm
 have lx:L x.natAbs≤70:=abs_big (t:=sc.toNat) (c:=1) oO oO oO
 have hM:=fx_Mul x x x x sc oO oO oO oO oO
 have hO:=fx_One sc oO
 rw [Int.one_mul] at hO
 generalize x*x / 2^sc.toNat=q1 at *
 generalize -(-(x*x) / 2^sc.toNat)=q2 at *
 have H1:TyH (2^sc.toNat) q1 q2 x x:=⟨T16,a1,a2,a3,a4,h0,Int.le_refl _,h1,by omega⟩
 have H0:TyH (2^sc.toNat) q1 q2 (2^sc.toNat) (2^sc.toNat):=⟨T16,a1,a2,a3,a4,by omega,Int.le_refl _,Int.le_refl _,by omega⟩
 obtain ⟨n,n1,hA,hA2⟩:=fx_taySN sc q1 q2 x hs H1
 obtain ⟨m,m1,m2,hB,hB2⟩:=fx_tayCS sc q1 q2 hs H0
 have w1:=tyS_bd (p1:=fun j=>(ty (2^sc.toNat) q1 q2 x x 1 j).1) (p2:=fun j=>(ty (2^sc.toNat) q1 q2 x x 1 j).2) (T:=2^sc.toNat) (ty_facts H1 1) n
 have w0:=tyS_bd (p1:=fun j=>(ty (2^sc.toNat) q1 q2 (2^sc.toNat) (2^sc.toNat) 0 j).1) (p2:=fun j=>(ty (2^sc.toNat) q1 q2 (2^sc.toNat) (2^sc.toNat) 0 j).2) (T:=2^sc.toNat) (ty_facts H0 0) m
 have e1:=fun K hK=>ty_SN H1 X0 X1 hX.symm b1 b2 (n:=n) (K:=K) hK
 have e0:=fun K hK=>ty_CS H0 X0 X1 b1 b2 (n:=m) m1 (K:=K) hK
 have mn:=Int.mul_le_mul_of_nonneg_right (show (n:Int)+1≤500 by omega) (Int.le_of_lt (two_pos sc.toNat))
 have mm:=Int.mul_le_mul_of_nonneg_right (show (m:Int)+1≤500 by omega) (Int.le_of_lt (two_pos sc.toNat))
 refine ⟨_,_,_,_,fx_waves x q1 q2 _ _ _ _ _ _ sc hM hA hO hB oO,?_,?_,2*n+2+(2*m+1),fun K hK=>⟨e1 K oO,e0 K oO⟩⟩
 ·clear e1 e0 hA hB hM hO
  omega
 ·clear e1 e0 hA hB hM hO b1 b2
  refine ⟨⟨abs_big (t:=sc.toNat) (c:=1000) ?_ oO oO,abs_big (t:=sc.toNat) (c:=1000) ?_ oO oO⟩,abs_big (t:=sc.toNat) (c:=1000) ?_ oO oO,abs_big (t:=sc.toNat) (c:=1000) ?_ oO oO⟩<;>omega
theorem fx_SinJN (m ee more sc q r1 r2 x s1 s2 k1 k2:Int)(hs:(0:Int)≤sc∧sc≤5000)(hm:more=0∨more=1)(hr:r1<0)(c4:Impl Tryz.prog Amb 94 [(yV m ee),(.int .i64 (sc+24))] (.tup [(.int .i64 q),(sV r1 r2)]))(c5:Impl Tryz.prog Amb 129 [(.bool false),(N r1.natAbs)] (zV x))(c6:Impl Tryz.prog Amb 206 [(zV x),(.int .i64 (sc+24))] (.tup [(sV s1 s2),(sV k1 k2)]))(l1:L r1.natAbs≤1000)(l2:L r2.natAbs≤1000)(l3:L s1.natAbs≤1000)(l4:L s2.natAbs≤1000)(l5:L k1.natAbs≤1000)(l6:L k2.natAbs≤1000) :
  Impl Tryz.prog Amb 157 [(yV m ee),(.int .i64 more),(.int .i64 sc)] (sV (((yA ((q+more)%4) (-s2) (-s1) k1 k2)-(r2-r1)) / 2^24) (-(-((yB ((q+more)%4) (-s2) (-s1) k1 k2)+(r2-r1)) / 2^24))):=by
 have hw:=wrem4 q more hm
 have a1:=L_abs_sub r2 r1
 have a2:=L_abs_neg s1
 have a3:=L_abs_neg s2
 have a4:=L_abs_neg k1
 have a5:=L_abs_neg k2
 have a6:=L_abs_neg (-s1)
 have a7:=L_abs_neg (-s2)
 have b0:=L_abs_sub (-s2) (r2-r1)
 have b1:=L_abs_add (-s1) (r2-r1)
 have b2:=L_abs_sub k1 (r2-r1)
 have b3:=L_abs_add k2 (r2-r1)
 have b4:=L_abs_sub (-(-s1)) (r2-r1)
 have b5:=L_abs_add (-(-s2)) (r2-r1)
 have b6:=L_abs_sub (-k2) (r2-r1)
 have b7:=L_abs_add (-k1) (r2-r1)
 rcases (show (q+more)%4=0∨(q+more)%4=1∨(q+more)%4=2∨(q+more)%4=3 by omega) with hj | hj | hj | hj
 ·have hH:=fx_Half ((-s2)-(r2-r1)) ((-s1)+(r2-r1)) ((sc+24)-sc) oO oO oO
  rw [show (sc+24-sc).toNat=24 by omega] at hH
  rw [hj] at hw
  rw [hj]
  exact fx_Sin0N m ee more sc q r1 r2 x s1 s2 k1 k2 _ _ oO hw oO oO c4 c5 c6 hH oO oO oO oO oO oO
 ·have hH:=fx_Half (k1-(r2-r1)) (k2+(r2-r1)) ((sc+24)-sc) oO oO oO
  rw [show (sc+24-sc).toNat=24 by omega] at hH
  rw [hj] at hw
  rw [hj]
  exact fx_Sin1N m ee more sc q r1 r2 x s1 s2 k1 k2 _ _ oO hw oO oO c4 c5 c6 hH oO oO oO oO oO oO
 ·have hH:=fx_Half ((-(-s1))-(r2-r1)) ((-(-s2))+(r2-r1)) ((sc+24)-sc) oO oO oO
  rw [show (sc+24-sc).toNat=24 by omega] at hH
  rw [hj] at hw
  rw [hj]
  exact fx_Sin2N m ee more sc q r1 r2 x s1 s2 k1 k2 _ _ oO hw oO oO c4 c5 c6 hH oO oO oO oO oO oO
 ·have hH:=fx_Half ((-k2)-(r2-r1)) ((-k1)+(r2-r1)) ((sc+24)-sc) oO oO oO
  rw [show (sc+24-sc).toNat=24 by omega] at hH
  rw [hj] at hw
  rw [hj]
  exact fx_Sin3N m ee more sc q r1 r2 x s1 s2 k1 k2 _ _ oO hw oO oO c4 c5 c6 hH oO oO oO oO oO oO
theorem fx_SinJP (m ee more sc q r1 r2 x s1 s2 k1 k2:Int)(hs:(0:Int)≤sc∧sc≤5000)(hm:more=0∨more=1)(hr:0≤r1)(c4:Impl Tryz.prog Amb 94 [(yV m ee),(.int .i64 (sc+24))] (.tup [(.int .i64 q),(sV r1 r2)]))(c5:Impl Tryz.prog Amb 129 [(.bool false),(N r1.natAbs)] (zV x))(c6:Impl Tryz.prog Amb 206 [(zV x),(.int .i64 (sc+24))] (.tup [(sV s1 s2),(sV k1 k2)]))(l1:L r1.natAbs≤1000)(l2:L r2.natAbs≤1000)(l3:L s1.natAbs≤1000)(l4:L s2.natAbs≤1000)(l5:L k1.natAbs≤1000)(l6:L k2.natAbs≤1000) :
  Impl Tryz.prog Amb 157 [(yV m ee),(.int .i64 more),(.int .i64 sc)] (sV (((yA ((q+more)%4) s1 s2 k1 k2)-(r2-r1)) / 2^24) (-(-((yB ((q+more)%4) s1 s2 k1 k2)+(r2-r1)) / 2^24))):=by
 have hw:=wrem4 q more hm
 have a1:=L_abs_sub r2 r1
 have a2:=L_abs_neg s1
 have a3:=L_abs_neg s2
 have a4:=L_abs_neg k1
 have a5:=L_abs_neg k2
 have a6:=L_abs_neg (-s1)
 have a7:=L_abs_neg (-s2)
 have b0:=L_abs_sub s1 (r2-r1)
 have b1:=L_abs_add s2 (r2-r1)
 have b2:=L_abs_sub k1 (r2-r1)
 have b3:=L_abs_add k2 (r2-r1)
 have b4:=L_abs_sub (-s2) (r2-r1)
 have b5:=L_abs_add (-s1) (r2-r1)
 have b6:=L_abs_sub (-k2) (r2-r1)
 have b7:=L_abs_add (-k1) (r2-r1)
 rcases (show (q+more)%4=0∨(q+more)%4=1∨(q+more)%4=2∨(q+more)%4=3 by omega) with hj | hj | hj | hj
 ·have hH:=fx_Half (s1-(r2-r1)) (s2+(r2-r1)) ((sc+24)-sc) oO oO oO
  rw [show (sc+24-sc).toNat=24 by omega] at hH
  rw [hj] at hw
  rw [hj]
  exact fx_Sin0P m ee more sc q r1 r2 x s1 s2 k1 k2 _ _ oO hw oO oO c4 c5 c6 hH oO oO oO oO oO oO
 ·have hH:=fx_Half (k1-(r2-r1)) (k2+(r2-r1)) ((sc+24)-sc) oO oO oO
  rw [show (sc+24-sc).toNat=24 by omega] at hH
  rw [hj] at hw
  rw [hj]
  exact fx_Sin1P m ee more sc q r1 r2 x s1 s2 k1 k2 _ _ oO hw oO oO c4 c5 c6 hH oO oO oO oO oO oO
 ·have hH:=fx_Half ((-s2)-(r2-r1)) ((-s1)+(r2-r1)) ((sc+24)-sc) oO oO oO
  rw [show (sc+24-sc).toNat=24 by omega] at hH
  rw [hj] at hw
  rw [hj]
  exact fx_Sin2P m ee more sc q r1 r2 x s1 s2 k1 k2 _ _ oO hw oO oO c4 c5 c6 hH oO oO oO oO oO oO
 ·have hH:=fx_Half ((-k2)-(r2-r1)) ((-k1)+(r2-r1)) ((sc+24)-sc) oO oO oO
  rw [show (sc+24-sc).toNat=24 by omega] at hH
  rw [hj] at hw
  rw [hj]
  exact fx_Sin3P m ee more sc q r1 r2 x s1 s2 k1 k2 _ _ oO hw oO oO c4 c5 c6 hH oO oO oO oO oO oO
theorem fx_SinE (m ee more sc:Int)(hmo:more=0∨more=1)(hs:24≤sc∧sc≤290)(hm:L (m).natAbs≤20)(he:-440≤ee∧ee≤130)(d1:-4294967296≤dv m ee)(d2:dv m ee≤4294967296) :
  ∃ u1 u2:Int,Impl Tryz.prog Amb 157 [(yV m ee),(.int .i64 more),(.int .i64 sc)] (sV u1 u2)∧u1≤u2∧u2-u1≤2∧EnE (SC more (dv m ee)) sc.toNat u1 u2 (sE*((2^sc.toNat:Int):Rat))∧L u1.natAbs≤75∧L u2.natAbs≤75:=by
 obtain ⟨q,r1,r2,hT,hq,r12,rw_,qb,er1,er2⟩:=fx_TurnE m ee (sc+24) oO hm he d1 d2
 obtain ⟨t,ht⟩:∃ t:Nat,(sc+24).toNat=t:=⟨_,rfl⟩
 rw [ht] at er1 er2
 have T0:(0:Rat)<((2^t:Int):Rat):=Rat.intCast_pos.2 (two_pos t)
 have T48:(281474976710656:Int)≤2^t:=by
  have p:=Int.ofNat_le.2 (Nat.pow_le_pow_right (n:=2) oO (show 48≤t by omega))
  rw [← pow_cast,← pow_cast] at p
  exact p
 have m1:=Rat.mul_le_mul_of_nonneg_right qb.1 (Rat.le_of_lt T0)
 have m2:=Rat.mul_le_mul_of_nonneg_right qb.2 (Rat.le_of_lt T0)
 rw [Rat.mul_assoc] at m1 m2
 have R1:100*r1≤80*2^t:=by
  refine Rat.intCast_le_intCast.1 ?_
  rw [Rat.intCast_mul,Rat.intCast_mul]
  show (100:Rat)*_≤80*_
  grind
 have R2:-(80*2^t)≤100*r2:=by
  refine Rat.intCast_le_intCast.1 ?_
  rw [Rat.intCast_neg,Rat.intCast_mul,Rat.intCast_mul]
  show -((80:Rat)*_)≤100*_
  grind
 have p:((2^t:Nat):Int)=(2:Int)^t:=(pow_cast _).symm
 have l1:L r1.natAbs≤70:=abs_big (t:=t) (c:=1) oO oO oO
 have l2:L r2.natAbs≤70:=abs_big (t:=t) (c:=2) oO oO oO
 have hNa:=int_Nat false r1.natAbs oO
 rw [sgn_f] at hNa
 have ie:=inv_one T0
 have hX:(((r1.natAbs:Int):Rat)*(((2^t:Int):Rat))⁻¹)*((2^t:Int):Rat)=((r1.natAbs:Int):Rat):=by rw [Rat.mul_assoc,ie,Rat.mul_one]
 obtain ⟨s1,s2,k1,k2,hW,⟨⟨w1,w2⟩,w3,w4⟩,⟨⟨g1,g2⟩,g3,g4⟩,N,en⟩:=fx_wavesE (r1.natAbs:Int) (sc+24) (((r1.natAbs:Int):Rat)*(((2^t:Int):Rat))⁻¹) oO oO (by rw [ht]; omega) (by rw [ht]; exact hX)
 rw [ht] at en
 have jb:0≤(q+more)%4∧(q+more)%4≤3:=by omega
 have tsc:t=sc.toNat+24:=by omega
 have c300:r2-r1≤300:=rw_
 have n1:=L_abs_neg s1
 have n2:=L_abs_neg s2
 have zz:=L_abs_sub r2 r1
 by_cases hr:r1<0
 ·have hS:=fx_SinJN m ee more sc q r1 r2 _ s1 s2 k1 k2 oO hmo hr hT hNa hW oO oO oO oO oO oO
  have y:=quad_y (s1:=-s2) (s2:=-s1) (k1:=k1) (k2:=k2) (W:=8000) jb oO oO w3 w4
  have yl:=quad_L (j:=(q+more)%4) (s1:=-s2) (s2:=-s1) (k1:=k1) (k2:=k2) (B:=70) oO oO g3 g4
  have e:=sin_EnE (d:=dv m ee) (ρ:=-(((r1.natAbs:Int):Rat)*(((2^t:Int):Rat))⁻¹)) (q:=q) (more:=more) (W:=0) (t:=t) (y1:=yA ((q+more)%4) (-s2) (-s1) k1 k2) (y2:=yB ((q+more)%4) (-s2) (-s1) k1 k2) hmo (by unfold sM; omega) er1 er2 (by rw [Rat.neg_mul,hX,show (r1.natAbs:Int)=-r1 by omega,Rat.intCast_neg,Rat.neg_neg]) oO ⟨N,fun K hK=>by
   have z:=en K hK
   refine quad_enc jb ?_ ?_
   ·rw [SN_neg,Rat.intCast_neg,Rat.intCast_neg]; constructor<;>grind
   ·rw [CS_neg]; exact z.2⟩
  generalize yA ((q+more)%4) (-s2) (-s1) k1 k2=ya at *
  generalize yB ((q+more)%4) (-s2) (-s1) k1 k2=yb at *
  have hw:=half_w (a:=ya-(r2-r1)) (b:=yb+(r2-r1)) (W:=1) (n:=24) oO
  have v1:=L_abs_sub ya (r2-r1)
  have v2:=L_abs_add yb (r2-r1)
  have o1:=L_abs_shr (ya-(r2-r1)) 24
  have o2:=L_abs_neg (yb+(r2-r1))
  have o3:=L_abs_shr (-(yb+(r2-r1))) 24
  have o4:=L_abs_neg (-(yb+(r2-r1)) / 2^24)
  have le:(ya-(r2-r1)) / 2^24≤-(-(yb+(r2-r1)) / 2^24):=by
   have:(2:Int)^24=16777216:=rfl
   rw [this]; omega
  exact ⟨_,_,hS,le,hw,e.half tsc,by omega,by omega⟩
 ·have hS:=fx_SinJP m ee more sc q r1 r2 _ s1 s2 k1 k2 oO hmo oO hT hNa hW oO oO oO oO oO oO
  have y:=quad_y (s1:=s1) (s2:=s2) (k1:=k1) (k2:=k2) (W:=8000) jb oO oO w3 w4
  have yl:=quad_L (j:=(q+more)%4) (s1:=s1) (s2:=s2) (k1:=k1) (k2:=k2) (B:=70) g1 g2 g3 g4
  have e:=sin_EnE (d:=dv m ee) (ρ:=((r1.natAbs:Int):Rat)*(((2^t:Int):Rat))⁻¹) (q:=q) (more:=more) (W:=0) (t:=t) (y1:=yA ((q+more)%4) s1 s2 k1 k2) (y2:=yB ((q+more)%4) s1 s2 k1 k2) hmo (by unfold sM; omega) er1 er2 (by rw [hX,show (r1.natAbs:Int)=r1 by omega]) oO ⟨N,fun K hK=>by
   have z:=en K hK
   exact quad_enc jb z.1 z.2⟩
  generalize yA ((q+more)%4) s1 s2 k1 k2=ya at *
  generalize yB ((q+more)%4) s1 s2 k1 k2=yb at *
  have hw:=half_w (a:=ya-(r2-r1)) (b:=yb+(r2-r1)) (W:=1) (n:=24) oO
  have v1:=L_abs_sub ya (r2-r1)
  have v2:=L_abs_add yb (r2-r1)
  have o1:=L_abs_shr (ya-(r2-r1)) 24
  have o2:=L_abs_neg (yb+(r2-r1))
  have o3:=L_abs_shr (-(yb+(r2-r1))) 24
  have o4:=L_abs_neg (-(yb+(r2-r1)) / 2^24)
  have le:(ya-(r2-r1)) / 2^24≤-(-(yb+(r2-r1)) / 2^24):=by
   have:(2:Int)^24=16777216:=rfl
   rw [this]; omega
  exact ⟨_,_,hS,le,hw,e.half tsc,by omega,by omega⟩
end Go.Proofs.YtcbihoojfakhdaaGreatDoor

namespace Go.Proofs.YtcbihoojfakhdaaGreatDoor
open Go.RowKit
set_option maxRecDepth 100000
set_option maxHeartbeats 2000000
theorem reach_eq (lo hi c:Int):iLe (cmpI (lo+((c-lo)-(Int.fdiv (c-lo) 4)*4)) hi) 0=decide (lo+(c-lo)%4≤hi):=by
 unfold iLe
 refine decide_eq_decide.2 ?_
 rw [cmpI_le,Int.fdiv_eq_ediv_of_nonneg _ oO]
 omega
theorem L_abs_min (x y:Int):L (min x y).natAbs≤max (L x.natAbs) (L y.natAbs):=by
 rcases (show min x y=x∨min x y=y by omega) with h | h<;>rw [h]<;>omega
theorem L_abs_max (x y:Int):L (max x y).natAbs≤max (L x.natAbs) (L y.natAbs):=by
 rcases (show max x y=x∨max x y=y by omega) with h | h<;>rw [h]<;>omega
theorem ci_insT (m e:Int)(c0:L (m).natAbs≤4000)(c1:(-60000:Int)≤e∧e≤60000)(c2:cmpD m e 1 32≤0)(c3:cmpD (-m) e 1 32≤0):Impl Tryz.prog Amb 93 [(yV m e)] (.bool true):=by
 have l1:=L_lit 1 (by decide)
 exact impl_ob hP hAmb Tryz.func93 (by kernel_rfl) (.lit<|.call (zV (1:Int))<|.lits 5<|.call (.int .i64 (cmpD m e (1:Int) 32))<|.lit<|.yes<|.lits 3<|.call (yV (-m) e)<|.lits 4<|.call (.int .i64 (cmpD (-m) e (1:Int) 32))<|.lits 4<|.ret)
  (cast_ob (aI True.intro (aI (int_Of 1 oO) (have f4:=(L_i64 oO:L (1:Int).natAbs≤2); aI (dy_Cmp m e (1:Int) 32 oO oO oO oO) (have f3:=cmpD_range m e (1:Int) 32; aI (iLe_mk oO:(iLe (cmpD m e (1:Int) 32) 0)=true) (aI (dy_Neg m e oO) (have f2:=L_abs_neg m; aI (dy_Cmp (-m) e (1:Int) 32 oO oO oO oO) (have f1:=cmpD_range (-m) e (1:Int) 32; (vsub_of (congrArg V.bool (iLe_mk oO)):vsub (.bool (iLe (cmpD (-m) e (1:Int) 32) 0)) (.bool true))))))))) (by kernel_rfl))
theorem ci_rea (lo hi c:Int)(c0:L (lo).natAbs≤8000)(c1:L (hi).natAbs≤8000)(c2:-10≤c∧c≤10):Impl Tryz.prog Amb 154 [(zV lo),(zV hi),(.int .i64 c)] (.bool (decide (lo+(c-lo)%4≤hi))):=by
 have l1:=L_lit 4 (by decide)
 have l2:=L_i64 (n:=c) oO
 exact impl_ob hP hAmb Tryz.func154 (by kernel_rfl) (.lit<|.call (zV c)<|.lits 2<|.call (zV (c-lo))<|.lit<|.call (zV (4:Int))<|.lit<|.call (.tup [(zV (Int.fdiv (c-lo) (4:Int))),(zV ((c-lo)-(Int.fdiv (c-lo) (4:Int))*(4:Int))),(.bool true)])<|.lits 3<|.call (zV (lo+((c-lo)-(Int.fdiv (c-lo) (4:Int))*(4:Int))))<|.lits 2<|.call (.int .i64 (cmpI (lo+((c-lo)-(Int.fdiv (c-lo) (4:Int))*(4:Int))) hi))<|.lits 2<|.ret)
  (cast_ob (aI True.intro (aI (int_Of c oO) (have f7:=(L_i64 oO:L (c:Int).natAbs≤2); aI (int_Sub c lo oO oO) (have f6:=L_abs_sub c lo; aI (int_Of 4 oO) (have f5:=(L_i64 oO:L (4:Int).natAbs≤2); aI (int_DivMod (c-lo) (4:Int) oO oO oO) (have f4:=L_rm (c-lo) (4:Int); have f3:=L_fdiv (c-lo) (4:Int); aI (int_Add lo ((c-lo)-(Int.fdiv (c-lo) (4:Int))*(4:Int)) oO oO) (have f2:=L_abs_add lo ((c-lo)-(Int.fdiv (c-lo) (4:Int))*(4:Int)); aI (int_Cmp (lo+((c-lo)-(Int.fdiv (c-lo) (4:Int))*(4:Int))) hi oO oO) (have f1:=cmpI_range (lo+((c-lo)-(Int.fdiv (c-lo) (4:Int))*(4:Int))) hi; (vsub_of (congrArg V.bool (reach_eq lo hi c)):vsub (.bool (iLe (cmpI (lo+((c-lo)-(Int.fdiv (c-lo) (4:Int))*(4:Int))) hi) 0)) (.bool (decide (lo+(c-lo)%4≤hi)))))))))))) (by kernel_rfl))
theorem ci_tur (m ee n f w x y:Int)(c0:Impl Tryz.prog Amb 203 [(yV m ee),(.int .i64 (w+8))] (zV x))(c1:Impl Tryz.prog Amb 203 [(yV n f),(.int .i64 (w+8))] (zV y))(c2:L (x).natAbs≤8000)(c3:L (y).natAbs≤8000)(c4:0≤w∧w≤5000):Impl Tryz.prog Amb 153 [(wV m ee n f),(.int .i64 w)] (.tup [(zV (-(-(x-2) / 2^((w+8)).toNat))),(zV ((y+2) / 2^((w+8)).toNat))]):=by
 have l1:=L_lit 2 (by decide)
 have k1:=L_abs_sub x 2
 have k2:=L_abs_add y 2
 have k3:=L_abs_neg (x-2)
 have k4:=L_abs_shr (-(x-2)) (w+8).toNat
 exact impl_ob hP hAmb Tryz.func153 (by kernel_rfl) (.lit<|.yes<|.lits 2<|.call (zV x)<|.lit<|.call (zV (2:Int))<|.lit<|.call (zV (x-(2:Int)))<|.lits 3<|.call (zV y)<|.lit<|.call (zV (2:Int))<|.lit<|.call (zV (y+(2:Int)))<|.lits 3<|.call (zV (-(x-(2:Int))))<|.lit<|.call (zV ((-(x-(2:Int))) / 2^((w+8)).toNat))<|.lit<|.call (zV (-((-(x-(2:Int))) / 2^((w+8)).toNat)))<|.lits 2<|.call (zV ((y+(2:Int)) / 2^((w+8)).toNat))<|.lits 3<|.ret)
  (cast_ob (aI True.intro (aI (fits_i64 oS:(fits .i64 (w+8))=true) (aI (c0 ) (aI (int_Of 2 oS) (have f8:=(L_i64 oS:L (2:Int).natAbs≤2); aI (int_Sub x (2:Int) oS oS) (have f7:=L_abs_sub x (2:Int); aI (c1 ) (aI (int_Of 2 oS) (have f6:=(L_i64 oS:L (2:Int).natAbs≤2); aI (int_Add y (2:Int) oS oS) (have f5:=L_abs_add y (2:Int); aI (int_Neg (x-(2:Int)) oS) (have f4:=L_abs_neg (x-(2:Int)); aI (int_Shr (-(x-(2:Int))) (w+8) oS oS) (have f3:=L_abs_shr (-(x-(2:Int))) ((w+8)).toNat; aI (int_Neg ((-(x-(2:Int))) / 2^((w+8)).toNat) oS) (have f2:=L_abs_neg ((-(x-(2:Int))) / 2^((w+8)).toNat); aI (int_Shr (y+(2:Int)) (w+8) oS oS) (have f1:=L_abs_shr (y+(2:Int)) ((w+8)).toNat; (vsub_refl _:vsub (.tup [(zV (-((-(x-(2:Int))) / 2^((w+8)).toNat))),(zV ((y+(2:Int)) / 2^((w+8)).toNat))]) (.tup [(zV (-(-(x-2) / 2^((w+8)).toNat))),(zV ((y+2) / 2^((w+8)).toNat))]))))))))))))))) (by kernel_rfl))
theorem ci_les (a b:Int)(c0:L (a).natAbs≤8000)(c1:L (b).natAbs≤8000):Impl Tryz.prog Amb 160 [(zV a),(zV b)] (zV (min a b)):=by
 have ci:=cmpI_range a b
 exact impl_ob hP hAmb Tryz.func160 (by kernel_rfl) (.lits 3<|.call (.int .i64 (cmpI a b))<|.lit<|.both (.lits 3<|.ret) (.lits 3<|.ret))
  (cast_ob (aI True.intro (aI (int_Cmp a b oO oO) (have f3:=cmpI_range a b; aI (fun (h1:(iGt (cmpI a b) 0)=true)=>have _gh1:=iGt_t h1; (by rw [show min a b=b by omega]; exact vsub_refl _:vsub (zV b) (zV (min a b)))) (fun (h2:(iGt (cmpI a b) 0)=false)=>have _gh2:=iGt_f h2; (by rw [show min a b=a by omega]; exact vsub_refl _:vsub (zV a) (zV (min a b))))))) (by kernel_rfl))
theorem ci_gre (a b:Int)(c0:L (a).natAbs≤8000)(c1:L (b).natAbs≤8000):Impl Tryz.prog Amb 159 [(zV a),(zV b)] (zV (max a b)):=by
 have ci:=cmpI_range a b
 exact impl_ob hP hAmb Tryz.func159 (by kernel_rfl) (.lits 3<|.call (.int .i64 (cmpI a b))<|.lit<|.both (.lits 3<|.ret) (.lits 3<|.ret))
  (cast_ob (aI True.intro (aI (int_Cmp a b oO oO) (have f3:=cmpI_range a b; aI (fun (h1:(iLt (cmpI a b) 0)=true)=>have _gh1:=iLt_t h1; (by rw [show max a b=b by omega]; exact vsub_refl _:vsub (zV b) (zV (max a b)))) (fun (h2:(iLt (cmpI a b) 0)=false)=>have _gh2:=iLt_f h2; (by rw [show max a b=a by omega]; exact vsub_refl _:vsub (zV a) (zV (max a b))))))) (by kernel_rfl))
theorem ci_imgTT (m ee n f more w fi la x1 x2 y1 y2 a1 a2 b1 b2:Int)(c0:0≤w∧w≤4096)(c1:(0:Int)≤more∧more≤1)(c2:Impl Tryz.prog Amb 93 [(yV m ee)] (.bool true))(c3:Impl Tryz.prog Amb 93 [(yV n f)] (.bool true))(c4:Impl Tryz.prog Amb 153 [(wV m ee n f),(.int .i64 w)] (.tup [(zV fi),(zV la)]))(c5:Impl Tryz.prog Amb 154 [(zV fi),(zV la),(.int .i64 ((1:Int)-more))] (.bool true))(c6:Impl Tryz.prog Amb 154 [(zV fi),(zV la),(.int .i64 ((3:Int)-more))] (.bool true))(c7:Impl Tryz.prog Amb 70 [(zV (-((1:Int)*2^(w).toNat))),(.int .i64 ((0:Int)-w))] (.tup [(yV a1 a2),(.int .i64 0)]))(c8:Impl Tryz.prog Amb 70 [(zV ((1:Int)*2^(w).toNat)),(.int .i64 ((0:Int)-w))] (.tup [(yV b1 b2),(.int .i64 0)]))(c9:L (x1).natAbs≤4000)(c10:L (x2).natAbs≤4000)(c11:L (y1).natAbs≤4000)(c12:L (y2).natAbs≤4000):Impl Tryz.prog Amb 92 [(wV m ee n f),(.int .i64 more),(.int .i64 w)] (.tup [(wV a1 a2 b1 b2),(.int .i64 0)]):=by
 have pw:=L_pow1 w.toNat
 have mn:=L_abs_min x1 y1
 have mx:=L_abs_max x2 y2
 exact impl_ob hP hAmb Tryz.func92 (by kernel_rfl) (.lit<|.no<|.lits 3<|.no<|.lits 2<|.call (.bool true)<|.lits 6<|.call (.bool true)<|.lits 6<|.call (.tup [(zV fi),(zV la)])<|.lits 6<|.yes<|.lit<|.call (.bool true)<|.lits 4<|.yes<|.lit<|.call (.bool true)<|.lit<|.call (zV (1:Int))<|.lit<|.call (zV ((1:Int)*2^(w).toNat))<|.lits 3<|.call (zV (-((1:Int)*2^(w).toNat)))<|.lits 9<|.yes<|.lit<|.call (.tup [(yV a1 a2),(.int .i64 0)])<|.lits 3<|.yes<|.lit<|.call (.tup [(yV b1 b2),(.int .i64 0)])<|.lits 12<|.ret)
  (cast_ob (aI True.intro (aI (iLt_mkF oS:(iLt w 0)=false) (aI (iGt_mkF oS:(iGt w 4096)=false) (aI (c2 ) (aI (c3 ) (aI (c4 ) (aI (fits_i64 oS:(fits .i64 ((1:Int)-more))=true) (aI (c5 ) (aI (fits_i64 oS:(fits .i64 ((3:Int)-more))=true) (aI (c6 ) (aI (int_Of 1 oS) (have f3:=(L_i64 oS:L (1:Int).natAbs≤2); aI (int_Shl (1:Int) w oS oS) (have f2:=L_abs_shl (1:Int) (w).toNat; aI (int_Neg ((1:Int)*2^(w).toNat) oS) (have f1:=L_abs_neg ((1:Int)*2^(w).toNat); aI (fits_i64 oS:(fits .i64 ((0:Int)-w))=true) (aI (c7 ) (aI (fits_i64 oS:(fits .i64 ((0:Int)-w))=true) (aI (c8 ) ((vsub_refl (.tup [(wV a1 a2 b1 b2),(.int .i64 0)])))))))))))))))))))) (by kernel_rfl))
theorem ci_imgTF (m ee n f more w fi la x1 x2 y1 y2 a1 a2 b1 b2:Int)(c0:0≤w∧w≤4096)(c1:(0:Int)≤more∧more≤1)(c2:Impl Tryz.prog Amb 93 [(yV m ee)] (.bool true))(c3:Impl Tryz.prog Amb 93 [(yV n f)] (.bool true))(c4:Impl Tryz.prog Amb 153 [(wV m ee n f),(.int .i64 w)] (.tup [(zV fi),(zV la)]))(c5:Impl Tryz.prog Amb 154 [(zV fi),(zV la),(.int .i64 ((1:Int)-more))] (.bool true))(c6:Impl Tryz.prog Amb 154 [(zV fi),(zV la),(.int .i64 ((3:Int)-more))] (.bool false))(c7:Impl Tryz.prog Amb 133 [(.int .i64 w),(.clos 156 [(.pt [(V.bool (decide (m<0))),(N m.natAbs),(V.int .i64 ee),(V.bool (decide (n<0))),(N n.natAbs),(V.int .i64 f)] 0),(.pt [(V.int .i64 more)] 0)])] (sV x1 x2))(c8:Impl Tryz.prog Amb 133 [(.int .i64 w),(.clos 158 [(.pt [(V.bool (decide (m<0))),(N m.natAbs),(V.int .i64 ee),(V.bool (decide (n<0))),(N n.natAbs),(V.int .i64 f)] 0),(.pt [(V.int .i64 more)] 0)])] (sV y1 y2))(c9:Impl Tryz.prog Amb 70 [(zV (max (-((1:Int)*2^(w).toNat)) (min x1 y1))),(.int .i64 ((0:Int)-w))] (.tup [(yV a1 a2),(.int .i64 0)]))(c10:Impl Tryz.prog Amb 70 [(zV ((1:Int)*2^(w).toNat)),(.int .i64 ((0:Int)-w))] (.tup [(yV b1 b2),(.int .i64 0)]))(c11:L (x1).natAbs≤4000)(c12:L (x2).natAbs≤4000)(c13:L (y1).natAbs≤4000)(c14:L (y2).natAbs≤4000):Impl Tryz.prog Amb 92 [(wV m ee n f),(.int .i64 more),(.int .i64 w)] (.tup [(wV a1 a2 b1 b2),(.int .i64 0)]):=by
 have pw:=L_pow1 w.toNat
 have mn:=L_abs_min x1 y1
 have mx:=L_abs_max x2 y2
 exact impl_ob hP hAmb Tryz.func92 (by kernel_rfl) (.lit<|.no<|.lits 3<|.no<|.lits 2<|.call (.bool true)<|.lits 6<|.call (.bool true)<|.lits 6<|.call (.tup [(zV fi),(zV la)])<|.lits 6<|.yes<|.lit<|.call (.bool true)<|.lits 4<|.yes<|.lit<|.call (.bool false)<|.lit<|.call (zV (1:Int))<|.lit<|.call (zV ((1:Int)*2^(w).toNat))<|.lits 3<|.call (zV (-((1:Int)*2^(w).toNat)))<|.lits 8<|.call (sV x1 x2)<|.lits 2<|.call (sV y1 y2)<|.lits 7<|.call (zV (min x1 y1))<|.lit<|.call (zV (max (-((1:Int)*2^(w).toNat)) (min x1 y1)))<|.lits 5<|.yes<|.lit<|.call (.tup [(yV a1 a2),(.int .i64 0)])<|.lits 3<|.yes<|.lit<|.call (.tup [(yV b1 b2),(.int .i64 0)])<|.lits 12<|.ret)
  (cast_ob (aI True.intro (aI (iLt_mkF oS:(iLt w 0)=false) (aI (iGt_mkF oS:(iGt w 4096)=false) (aI (c2 ) (aI (c3 ) (aI (c4 ) (aI (fits_i64 oS:(fits .i64 ((1:Int)-more))=true) (aI (c5 ) (aI (fits_i64 oS:(fits .i64 ((3:Int)-more))=true) (aI (c6 ) (aI (int_Of 1 oS) (have f3:=(L_i64 oS:L (1:Int).natAbs≤2); aI (int_Shl (1:Int) w oS oS) (have f2:=L_abs_shl (1:Int) (w).toNat; aI (int_Neg ((1:Int)*2^(w).toNat) oS) (have f1:=L_abs_neg ((1:Int)*2^(w).toNat); aI (c7 ) (aI (c8 ) (aI (ci_les x1 y1 oS oS) (aI (ci_gre (-((1:Int)*2^(w).toNat)) (min x1 y1) oS oS) (aI (fits_i64 oS:(fits .i64 ((0:Int)-w))=true) (aI (c9 ) (aI (fits_i64 oS:(fits .i64 ((0:Int)-w))=true) (aI (c10 ) ((vsub_refl (.tup [(wV a1 a2 b1 b2),(.int .i64 0)])))))))))))))))))))))))) (by kernel_rfl))
theorem ci_imgFT (m ee n f more w fi la x1 x2 y1 y2 a1 a2 b1 b2:Int)(c0:0≤w∧w≤4096)(c1:(0:Int)≤more∧more≤1)(c2:Impl Tryz.prog Amb 93 [(yV m ee)] (.bool true))(c3:Impl Tryz.prog Amb 93 [(yV n f)] (.bool true))(c4:Impl Tryz.prog Amb 153 [(wV m ee n f),(.int .i64 w)] (.tup [(zV fi),(zV la)]))(c5:Impl Tryz.prog Amb 154 [(zV fi),(zV la),(.int .i64 ((1:Int)-more))] (.bool false))(c6:Impl Tryz.prog Amb 154 [(zV fi),(zV la),(.int .i64 ((3:Int)-more))] (.bool true))(c7:Impl Tryz.prog Amb 133 [(.int .i64 w),(.clos 156 [(.pt [(V.bool (decide (m<0))),(N m.natAbs),(V.int .i64 ee),(V.bool (decide (n<0))),(N n.natAbs),(V.int .i64 f)] 0),(.pt [(V.int .i64 more)] 0)])] (sV x1 x2))(c8:Impl Tryz.prog Amb 133 [(.int .i64 w),(.clos 158 [(.pt [(V.bool (decide (m<0))),(N m.natAbs),(V.int .i64 ee),(V.bool (decide (n<0))),(N n.natAbs),(V.int .i64 f)] 0),(.pt [(V.int .i64 more)] 0)])] (sV y1 y2))(c9:Impl Tryz.prog Amb 70 [(zV (-((1:Int)*2^(w).toNat))),(.int .i64 ((0:Int)-w))] (.tup [(yV a1 a2),(.int .i64 0)]))(c10:Impl Tryz.prog Amb 70 [(zV (min ((1:Int)*2^(w).toNat) (max x2 y2))),(.int .i64 ((0:Int)-w))] (.tup [(yV b1 b2),(.int .i64 0)]))(c11:L (x1).natAbs≤4000)(c12:L (x2).natAbs≤4000)(c13:L (y1).natAbs≤4000)(c14:L (y2).natAbs≤4000):Impl Tryz.prog Amb 92 [(wV m ee n f),(.int .i64 more),(.int .i64 w)] (.tup [(wV a1 a2 b1 b2),(.int .i64 0)]):=by
 have pw:=L_pow1 w.toNat
 have mn:=L_abs_min x1 y1
 have mx:=L_abs_max x2 y2
 exact impl_ob hP hAmb Tryz.func92 (by kernel_rfl) (.lit<|.no<|.lits 3<|.no<|.lits 2<|.call (.bool true)<|.lits 6<|.call (.bool true)<|.lits 6<|.call (.tup [(zV fi),(zV la)])<|.lits 6<|.yes<|.lit<|.call (.bool false)<|.lits 4<|.yes<|.lit<|.call (.bool true)<|.lit<|.call (zV (1:Int))<|.lit<|.call (zV ((1:Int)*2^(w).toNat))<|.lits 3<|.call (zV (-((1:Int)*2^(w).toNat)))<|.lits 7<|.call (sV x1 x2)<|.lits 2<|.call (sV y1 y2)<|.lits 9<|.call (zV (max x2 y2))<|.lit<|.call (zV (min ((1:Int)*2^(w).toNat) (max x2 y2)))<|.lits 3<|.yes<|.lit<|.call (.tup [(yV a1 a2),(.int .i64 0)])<|.lits 3<|.yes<|.lit<|.call (.tup [(yV b1 b2),(.int .i64 0)])<|.lits 12<|.ret)
  (cast_ob (aI True.intro (aI (iLt_mkF oS:(iLt w 0)=false) (aI (iGt_mkF oS:(iGt w 4096)=false) (aI (c2 ) (aI (c3 ) (aI (c4 ) (aI (fits_i64 oS:(fits .i64 ((1:Int)-more))=true) (aI (c5 ) (aI (fits_i64 oS:(fits .i64 ((3:Int)-more))=true) (aI (c6 ) (aI (int_Of 1 oS) (have f3:=(L_i64 oS:L (1:Int).natAbs≤2); aI (int_Shl (1:Int) w oS oS) (have f2:=L_abs_shl (1:Int) (w).toNat; aI (int_Neg ((1:Int)*2^(w).toNat) oS) (have f1:=L_abs_neg ((1:Int)*2^(w).toNat); aI (c7 ) (aI (c8 ) (aI (ci_gre x2 y2 oS oS) (aI (ci_les ((1:Int)*2^(w).toNat) (max x2 y2) oS oS) (aI (fits_i64 oS:(fits .i64 ((0:Int)-w))=true) (aI (c9 ) (aI (fits_i64 oS:(fits .i64 ((0:Int)-w))=true) (aI (c10 ) ((vsub_refl (.tup [(wV a1 a2 b1 b2),(.int .i64 0)])))))))))))))))))))))))) (by kernel_rfl))
theorem ci_imgFF (m ee n f more w fi la x1 x2 y1 y2 a1 a2 b1 b2:Int)(c0:0≤w∧w≤4096)(c1:(0:Int)≤more∧more≤1)(c2:Impl Tryz.prog Amb 93 [(yV m ee)] (.bool true))(c3:Impl Tryz.prog Amb 93 [(yV n f)] (.bool true))(c4:Impl Tryz.prog Amb 153 [(wV m ee n f),(.int .i64 w)] (.tup [(zV fi),(zV la)]))(c5:Impl Tryz.prog Amb 154 [(zV fi),(zV la),(.int .i64 ((1:Int)-more))] (.bool false))(c6:Impl Tryz.prog Amb 154 [(zV fi),(zV la),(.int .i64 ((3:Int)-more))] (.bool false))(c7:Impl Tryz.prog Amb 133 [(.int .i64 w),(.clos 156 [(.pt [(V.bool (decide (m<0))),(N m.natAbs),(V.int .i64 ee),(V.bool (decide (n<0))),(N n.natAbs),(V.int .i64 f)] 0),(.pt [(V.int .i64 more)] 0)])] (sV x1 x2))(c8:Impl Tryz.prog Amb 133 [(.int .i64 w),(.clos 158 [(.pt [(V.bool (decide (m<0))),(N m.natAbs),(V.int .i64 ee),(V.bool (decide (n<0))),(N n.natAbs),(V.int .i64 f)] 0),(.pt [(V.int .i64 more)] 0)])] (sV y1 y2))(c9:Impl Tryz.prog Amb 70 [(zV (max (-((1:Int)*2^(w).toNat)) (min x1 y1))),(.int .i64 ((0:Int)-w))] (.tup [(yV a1 a2),(.int .i64 0)]))(c10:Impl Tryz.prog Amb 70 [(zV (min ((1:Int)*2^(w).toNat) (max x2 y2))),(.int .i64 ((0:Int)-w))] (.tup [(yV b1 b2),(.int .i64 0)]))(c11:L (x1).natAbs≤4000)(c12:L (x2).natAbs≤4000)(c13:L (y1).natAbs≤4000)(c14:L (y2).natAbs≤4000):Impl Tryz.prog Amb 92 [(wV m ee n f),(.int .i64 more),(.int .i64 w)] (.tup [(wV a1 a2 b1 b2),(.int .i64 0)]):=by
 have pw:=L_pow1 w.toNat
 have mn:=L_abs_min x1 y1
 have mx:=L_abs_max x2 y2
 exact impl_ob hP hAmb Tryz.func92 (by kernel_rfl) (.lit<|.no<|.lits 3<|.no<|.lits 2<|.call (.bool true)<|.lits 6<|.call (.bool true)<|.lits 6<|.call (.tup [(zV fi),(zV la)])<|.lits 6<|.yes<|.lit<|.call (.bool false)<|.lits 4<|.yes<|.lit<|.call (.bool false)<|.lit<|.call (zV (1:Int))<|.lit<|.call (zV ((1:Int)*2^(w).toNat))<|.lits 3<|.call (zV (-((1:Int)*2^(w).toNat)))<|.lits 7<|.call (sV x1 x2)<|.lits 2<|.call (sV y1 y2)<|.lits 7<|.call (zV (min x1 y1))<|.lit<|.call (zV (max (-((1:Int)*2^(w).toNat)) (min x1 y1)))<|.lits 7<|.call (zV (max x2 y2))<|.lit<|.call (zV (min ((1:Int)*2^(w).toNat) (max x2 y2)))<|.lits 3<|.yes<|.lit<|.call (.tup [(yV a1 a2),(.int .i64 0)])<|.lits 3<|.yes<|.lit<|.call (.tup [(yV b1 b2),(.int .i64 0)])<|.lits 12<|.ret)
  (cast_ob (aI True.intro (aI (iLt_mkF oS:(iLt w 0)=false) (aI (iGt_mkF oS:(iGt w 4096)=false) (aI (c2 ) (aI (c3 ) (aI (c4 ) (aI (fits_i64 oS:(fits .i64 ((1:Int)-more))=true) (aI (c5 ) (aI (fits_i64 oS:(fits .i64 ((3:Int)-more))=true) (aI (c6 ) (aI (int_Of 1 oS) (have f3:=(L_i64 oS:L (1:Int).natAbs≤2); aI (int_Shl (1:Int) w oS oS) (have f2:=L_abs_shl (1:Int) (w).toNat; aI (int_Neg ((1:Int)*2^(w).toNat) oS) (have f1:=L_abs_neg ((1:Int)*2^(w).toNat); aI (c7 ) (aI (c8 ) (aI (ci_les x1 y1 oS oS) (aI (ci_gre (-((1:Int)*2^(w).toNat)) (min x1 y1) oS oS) (aI (ci_gre x2 y2 oS oS) (aI (ci_les ((1:Int)*2^(w).toNat) (max x2 y2) oS oS) (aI (fits_i64 oS:(fits .i64 ((0:Int)-w))=true) (aI (c9 ) (aI (fits_i64 oS:(fits .i64 ((0:Int)-w))=true) (aI (c10 ) ((vsub_refl (.tup [(wV a1 a2 b1 b2),(.int .i64 0)])))))))))))))))))))))))))) (by kernel_rfl))
theorem ci_clo1 (m ee n f more ss r1 r2:Int)(c0:Impl Tryz.prog Amb 157 [(yV m ee),(.int .i64 more),(.int .i64 ss)] (sV r1 r2)):Impl Tryz.prog Amb 156 [(.int .i64 ss),(.pt [(V.bool (decide (m<0))),(N m.natAbs),(V.int .i64 ee),(V.bool (decide (n<0))),(N n.natAbs),(V.int .i64 f)] 0),(.pt [(V.int .i64 more)] 0)] (sV r1 r2):=by
 exact impl_ob hP hAmb Tryz.func156 (by kernel_rfl) (.lits 3<|.call (sV r1 r2)<|.lits 2<|.ret)
  (cast_ob (aI True.intro (aI (c0 ) ((vsub_refl (sV r1 r2))))) (by kernel_rfl))
theorem ci_clo2 (m ee n f more ss r1 r2:Int)(c0:Impl Tryz.prog Amb 157 [(yV n f),(.int .i64 more),(.int .i64 ss)] (sV r1 r2)):Impl Tryz.prog Amb 158 [(.int .i64 ss),(.pt [(V.bool (decide (m<0))),(N m.natAbs),(V.int .i64 ee),(V.bool (decide (n<0))),(N n.natAbs),(V.int .i64 f)] 0),(.pt [(V.int .i64 more)] 0)] (sV r1 r2):=by
 exact impl_ob hP hAmb Tryz.func158 (by kernel_rfl) (.lits 3<|.call (sV r1 r2)<|.lits 2<|.ret)
  (cast_ob (aI True.intro (aI (c0 ) ((vsub_refl (sV r1 r2))))) (by kernel_rfl))
theorem ci_Sin (m ee n f w a1 a2 b1 b2 e:Int)(c0:Impl Tryz.prog Amb 92 [(wV m ee n f),(.int .i64 0),(.int .i64 w)] (.tup [(wV a1 a2 b1 b2),(.int .i64 e)])):Impl Tryz.prog Amb 34 [(wV m ee n f),(.int .i64 w)] (.tup [(wV a1 a2 b1 b2),(.int .i64 e)]):=by
 exact impl_ob hP hAmb Tryz.func34 (by kernel_rfl) (.lits 2<|.call (.tup [(wV a1 a2 b1 b2),(.int .i64 e)])<|.lits 2<|.ret)
  (cast_ob (aI True.intro (aI (c0 ) ((vsub_refl (.tup [(wV a1 a2 b1 b2),(.int .i64 e)]))))) (by kernel_rfl))
theorem ci_Cos (m ee n f w a1 a2 b1 b2 e:Int)(c0:Impl Tryz.prog Amb 92 [(wV m ee n f),(.int .i64 1),(.int .i64 w)] (.tup [(wV a1 a2 b1 b2),(.int .i64 e)])):Impl Tryz.prog Amb 35 [(wV m ee n f),(.int .i64 w)] (.tup [(wV a1 a2 b1 b2),(.int .i64 e)]):=by
 exact impl_ob hP hAmb Tryz.func35 (by kernel_rfl) (.lits 2<|.call (.tup [(wV a1 a2 b1 b2),(.int .i64 e)])<|.lits 2<|.ret)
  (cast_ob (aI True.intro (aI (c0 ) ((vsub_refl (.tup [(wV a1 a2 b1 b2),(.int .i64 e)]))))) (by kernel_rfl))
end Go.Proofs.YtcbihoojfakhdaaGreatDoor



namespace Go.Proofs.YtcbihoojfakhdaaGreatDoor
open Go.RowKit
set_option maxRecDepth 100000
set_option maxHeartbeats 2000000
theorem quarters_b {d c T F:Rat}{x1 p1 q:Int}(F0:0<F)(hT:T=F*18446744073709551616)(h1:(x1:Rat)≤d*T)(h2:d*T≤(x1:Rat)+1)(g1:(p1:Rat)≤2*(c*T))(g2:2*(c*T)≤(p1:Rat)+16777216)(c1:157≤100*c)(hF:1≤F)
  (k1:(q:Rat)*(p1:Rat)≤(x1:Rat)*(2*F)) (k2:(x1:Rat)*(2*F)≤((q:Rat)+1)*(p1:Rat)) (d1:-4294967296≤d) (d2:d≤4294967296) :
  (-(4294967296*F)≤(q:Rat)∧(q:Rat)+1≤4294967296*F)∧(q:Rat)*c≤d*F+1 / 100∧d*F≤((q:Rat)+1)*c+1 / 100:=by
 have T0:0<T:=by rw [hT]; exact Rat.mul_pos F0 (by decide)
 have TT:18446744073709551616≤T:=by rw [hT]; grind
 have cT:=Rat.mul_le_mul_of_nonneg_right c1 (Rat.le_of_lt T0)
 rw [Rat.mul_assoc] at cT
 have P3:3*T≤(p1:Rat):=by grind
 have dT1:=Rat.mul_le_mul_of_nonneg_right d1 (Rat.le_of_lt T0)
 have dT2:=Rat.mul_le_mul_of_nonneg_right d2 (Rat.le_of_lt T0)
 have xF1:=Rat.mul_le_mul_of_nonneg_right h1 (Rat.le_of_lt F0)
 have xF2:=Rat.mul_le_mul_of_nonneg_right h2 (Rat.le_of_lt F0)
 have dF1:=Rat.mul_le_mul_of_nonneg_right dT1 (Rat.le_of_lt F0)
 have dF2:=Rat.mul_le_mul_of_nonneg_right dT2 (Rat.le_of_lt F0)
 have TF:=Rat.mul_pos T0 F0
 have TF1:=Rat.mul_le_mul_of_nonneg_right TT (Rat.le_of_lt F0)
 have BP:=Rat.mul_le_mul_of_nonneg_right P3 (Rat.le_of_lt F0)
 have B2:(q:Rat)+1≤4294967296*F:=by
  refine Decidable.byContradiction fun hn=>?_
  have hq:4294967296*F-1≤(q:Rat):=by grind
  have m:=Rat.mul_le_mul_of_nonneg_right hq (show 0≤(p1:Rat) by grind)
  have hp:(p1:Rat)≤4*T+(2*(c*T)-4*T):=by grind
  have e:(4294967296*F-1)*(p1:Rat)=4294967296*((p1:Rat)*F)-(p1:Rat):=by grind
  rw [e] at m
  have c5:0≤4294967296*F-1:=by grind
  have m3:=Rat.mul_le_mul_of_nonneg_left P3 c5
  have e3:(4294967296*F-1)*(3*T)=12884901888*(T*F)-3*T:=by grind
  have e4:(4294967296*F-1)*(p1:Rat)=4294967296*((p1:Rat)*F)-(p1:Rat):=e
  rw [e3,e4] at m3
  have m4:=Rat.mul_le_mul_of_nonneg_left hF (Rat.le_of_lt T0)
  clear m4 hp cT g1 g2
  have m5:=Rat.mul_le_mul_of_nonneg_left hF (Rat.le_of_lt T0)
  grind
 have B1:-(4294967296*F)≤(q:Rat):=by
  refine Decidable.byContradiction fun hn=>?_
  have hq:(q:Rat)+1≤-(4294967296*F)+1:=by grind
  have m:=Rat.mul_le_mul_of_nonneg_right hq (show 0≤(p1:Rat) by grind)
  have c5:0≤4294967296*F-1:=by grind
  have m3:=Rat.mul_le_mul_of_nonneg_left P3 c5
  have e3:(4294967296*F-1)*(3*T)=12884901888*(T*F)-3*T:=by grind
  have e4:(-(4294967296*F)+1)*(p1:Rat)=-((4294967296*F-1)*(p1:Rat)):=by grind
  rw [e3] at m3
  rw [e4] at m
  have m5:=Rat.mul_le_mul_of_nonneg_left hF (Rat.le_of_lt T0)
  generalize (4294967296*F-1)*(p1:Rat)=z at *
  clear cT g1 g2 BP
  grind
 refine ⟨⟨B1,B2⟩,?_,?_⟩
 ·have mb:=mul_bd (p:=(q:Rat)) (P:=4294967296*F) (x:=2*(c*T)-(p1:Rat)) (a:=16777216) B1 (by grind) (by grind) (by grind)
  have e1:(q:Rat)*(2*(c*T)-(p1:Rat))=2*((q:Rat)*c*T)-(q:Rat)*(p1:Rat):=by grind
  rw [e1] at mb
  refine Rat.le_of_mul_le_mul_right (c:=T) ?_ T0
  have e2:(d*F+1 / 100)*T=d*T*F+T*(1 / 100):=by grind
  rw [e2]
  generalize (q:Rat)*c*T=x at *
  generalize (q:Rat)*(p1:Rat)=y at *
  generalize (x1:Rat)=xx at *
  clear e1 dF1 dF2 dT1 dT2 BP TF TF1 h1 h2 cT g1 g2 P3
  generalize d*T*F=DTF at *
  grind
 ·have mb:=mul_bd (p:=(q:Rat)+1) (P:=4294967296*F) (x:=2*(c*T)-(p1:Rat)) (a:=16777216) (by grind) B2 (by grind) (by grind)
  have e1:((q:Rat)+1)*(2*(c*T)-(p1:Rat))=2*(((q:Rat)+1)*c*T)-((q:Rat)+1)*(p1:Rat):=by grind
  rw [e1] at mb
  refine Rat.le_of_mul_le_mul_right (c:=T) ?_ T0
  have e2:(((q:Rat)+1)*c+1 / 100)*T=((q:Rat)+1)*c*T+T*(1 / 100):=by grind
  have e3:d*F*T=d*T*F:=by grind
  rw [e2,e3]
  generalize ((q:Rat)+1)*c*T=x at *
  generalize ((q:Rat)+1)*(p1:Rat)=y at *
  clear e1 dF1 dF2 dT1 dT2 BP TF TF1 h1 h2 cT g1 g2 P3
  generalize d*T*F=DTF at *
  grind
theorem fx_QuartersE (m ee f:Int)(hf:8≤f∧f≤300)(hm:L (m).natAbs≤20)(he:-440≤ee∧ee≤130)(d1:-4294967296≤dv m ee)(d2:dv m ee≤4294967296) :
  ∃ q:Int,Impl Tryz.prog Amb 203 [(yV m ee),(.int .i64 f)] (zV q)∧L q.natAbs≤70∧(q:Rat)*cQ≤dv m ee*((2^f.toNat:Int):Rat)+1 / 100∧dv m ee*((2^f.toNat:Int):Rat)≤((q:Rat)+1)*cQ+1 / 100:=by
 obtain ⟨t,ht⟩:∃ t:Nat,(t:Int)=f+64:=⟨(f+64).toNat,by omega⟩
 have hO:=fx_Of m ee (f+64) oO oO oO
 have lf:=flr_LD m ee (f+64)
 have sc1:=(flr_sc (dv m ee) t).1
 have sc2:=(flr_sc (dv m ee) t).2
 have cl:=pq_at (t:=t) oO
 rw [ht] at sc1 sc2 cl
 have b:=pi_ok (s:=f+64) oO
 have bw:piHi (f+64)-piLo (f+64)<16777216:=by
  have:=nbits_lt (piHi (f+64)-piLo (f+64)).natAbs
  have p:=Nat.pow_le_pow_right (n:=2) oO b.2.2
  omega
 have hP:Impl Tryz.prog Amb 117 [(.int .i64 (f+64))] (sV (piLo (f+64)) (piHi (f+64))):=fx_Pi (f+64) oO
 generalize piLo (f+64)=p1 at *
 generalize piHi (f+64)=p2 at *
 generalize flr (dv m ee) (f+64)=x1 at *
 generalize cei (dv m ee) (f+64)=x2 at *
 have hS:=int_Shl x1 (f+1) oO oO
 have l1:=L_abs_shl x1 (f+1).toNat
 have F0:=two_pos f.toNat
 have F0R:(0:Rat)<((2^f.toNat:Int):Rat):=Rat.intCast_pos.2 F0
 have hTR:((2^t:Int):Rat)=((2^f.toNat:Int):Rat)*18446744073709551616:=by
  rw [show t=f.toNat+64 by omega,Int.pow_add,Rat.intCast_mul]; rfl
 have eF:(2:Int)^(f+1).toNat=2^f.toNat*2:=by rw [show (f+1).toNat=f.toNat+1 by omega,Int.pow_succ]
 have e2T:((2^(t+1):Int):Rat)=2*((2^t:Int):Rat):=by
  rw [Int.pow_succ,Rat.intCast_mul]
  show _*(2:Rat)=_
  rw [Rat.mul_comm]
 rw [e2T] at cl
 have c2:cQ*(2*((2^t:Int):Rat))=2*(cQ*((2^t:Int):Rat)):=by grind
 rw [c2] at cl
 have cb:=cQ_b
 have F1:(1:Rat)≤((2^f.toNat:Int):Rat):=Rat.intCast_le_intCast.2 (show (1:Int)≤2^f.toNat by omega)
 have bwR:(p2:Rat)≤(p1:Rat)+16777216:=by
  have:(p2:Rat)≤((p1+16777216:Int):Rat):=Rat.intCast_le_intCast.2 oO
  rw [Rat.intCast_add] at this; exact this
 have p0:0<p1:=by
  have:(0:Rat)<(p1:Rat):=by
   have m:=Rat.mul_le_mul_of_nonneg_right cb.1 (show (0:Rat)≤((2^t:Int):Rat) by rw [hTR]; exact Rat.le_of_lt (Rat.mul_pos F0R (by decide)))
   have TT:(18446744073709551616:Rat)≤((2^t:Int):Rat):=by rw [hTR]; grind
   grind
  exact Rat.intCast_pos.1 this
 have hD:=int_DivMod (x1*2^(f+1).toNat) p1 oO oO oO
 have q1:=Int.ediv_mul_le (x1*2^(f+1).toNat) (show p1≠0 by omega)
 have q2:=Int.lt_ediv_add_one_mul_self (x1*2^(f+1).toNat) p0
 rw [Int.fdiv_eq_ediv_of_nonneg _ (Int.le_of_lt p0)] at hD
 have ex:((x1*2^(f+1).toNat:Int):Rat)=(x1:Rat)*(2*((2^f.toNat:Int):Rat)):=by
  rw [eF,Rat.intCast_mul,Rat.intCast_mul]
  show (x1:Rat)*(_*2)=_
  grind
 generalize hq:x1*2^(f+1).toNat / p1=q at *
 have q1:=Rat.intCast_le_intCast.2 q1
 have q2:=Rat.intCast_le_intCast.2 (Int.le_of_lt q2)
 rw [ex,Rat.intCast_mul] at q1 q2
 rw [Rat.intCast_add] at q2
 have r:=quarters_b (d:=dv m ee) (c:=cQ) (F:=((2^f.toNat:Int):Rat)) F0R hTR sc1 (Rat.le_of_lt sc2) cl.1 (by grind) cb.1 F1 q1 q2 d1 d2
 have Lq:L q.natAbs≤70:=by
  refine abs_big (t:=f.toNat+32) (c:=1) ?_ oO oO
  have e:((2^(f.toNat+32):Nat):Int)=4294967296*2^f.toNat:=by rw [← pow_cast,Int.pow_add,Int.mul_comm]; rfl
  have u1:-(4294967296*2^f.toNat)≤q:=by
   refine Rat.intCast_le_intCast.1 ?_
   rw [Rat.intCast_neg,Rat.intCast_mul]
   exact r.1.1
  have u2:q+1≤4294967296*2^f.toNat:=by
   refine Rat.intCast_le_intCast.1 ?_
   rw [Rat.intCast_add,Rat.intCast_mul]
   exact r.1.2
  omega
 exact ⟨q,fx_Quarters0 m ee f x1 x2 _ p1 p2 q _ hO hS hP hD oO,Lq,r.2.1,r.2.2⟩
def Tp (a b:Rat)(w c:Int)(g:Bool):Prop :=
 (g=true→∃ k:Int,(k-c)%4=0∧a*((2^(w+8).toNat:Int):Rat)≤(k:Rat)*cQ*((2^(w+8).toNat:Int):Rat)+5∧(k:Rat)*cQ*((2^(w+8).toNat:Int):Rat)≤b*((2^(w+8).toNat:Int):Rat)+5) ∧
 (g=false→∀ k:Int,(k-c)%4=0→(k:Rat)*cQ*((2^(w+8).toNat:Int):Rat)+3≤a*((2^(w+8).toNat:Int):Rat)∨b*((2^(w+8).toNat:Int):Rat)+3≤(k:Rat)*cQ*((2^(w+8).toNat:Int):Rat))
theorem tp_facts {a b:Rat}{x y w c:Int}(h1:(x:Rat)*cQ≤a*((2^(w+8).toNat:Int):Rat)+1 / 100)(h2:a*((2^(w+8).toNat:Int):Rat)≤((x:Rat)+1)*cQ+1 / 100)(h3:(y:Rat)*cQ≤b*((2^(w+8).toNat:Int):Rat)+1 / 100)(h4:b*((2^(w+8).toNat:Int):Rat)≤((y:Rat)+1)*cQ+1 / 100) :
  Tp a b w c (decide ((-(-(x-2) / 2^((w+8)).toNat))+(c-(-(-(x-2) / 2^((w+8)).toNat)))%4≤((y+2) / 2^((w+8)).toNat))):=by
 have cb:=cQ_b
 have c0:0≤cQ:=by grind
 unfold Tp
 have F0:=two_pos (w+8).toNat
 generalize hF:(2:Int)^(w+8).toNat=F at *
 have a1:=Int.ediv_mul_le (-(x-2)) (show F≠0 by omega)
 have a2:=Int.lt_ediv_add_one_mul_self (-(x-2)) F0
 have b1:=Int.ediv_mul_le (y+2) (show F≠0 by omega)
 have b2:=Int.lt_ediv_add_one_mul_self (y+2) F0
 generalize -(x-2) / F=u at *
 generalize (y+2) / F=v at *
 have cast:∀ (k z:Int),z≤k*F→(z:Rat)*cQ≤(k:Rat)*cQ*(F:Rat):=fun k z h=>by
  have h:=Rat.mul_le_mul_of_nonneg_right (Rat.intCast_le_intCast.2 h) c0
  rw [Rat.intCast_mul] at h
  grind
 have cast2:∀ (k z:Int),k*F≤z→(k:Rat)*cQ*(F:Rat)≤(z:Rat)*cQ:=fun k z h=>by
  have h:=Rat.mul_le_mul_of_nonneg_right (Rat.intCast_le_intCast.2 h) c0
  rw [Rat.intCast_mul] at h
  grind
 constructor
 ·intro g
  have g:=of_decide_eq_true g
  refine ⟨-u+(c - -u)%4,by omega,?_,?_⟩
  ·have k:=cast (-u+(c - -u)%4) (x-2) (by
    have m:=Int.mul_le_mul_of_nonneg_right (show -u≤-u+(c - -u)%4 by omega) (Int.le_of_lt F0)
    rw [Int.neg_mul] at m
    omega)
   rw [Rat.intCast_sub x 2] at k
   have k:((x:Rat)-2)*cQ≤_:=k
   grind
  ·have k:=cast2 (-u+(c - -u)%4) (y+2) (by
    have m:=Int.mul_le_mul_of_nonneg_right g (Int.le_of_lt F0)
    omega)
   rw [Rat.intCast_add y 2] at k
   have k:_≤((y:Rat)+2)*cQ:=k
   grind
 ·intro g k hk
  have g:=of_decide_eq_false g
  by_cases hl:k < -u
  ·left
   have z:=cast2 k (x-3) (by
    have m:=Int.mul_le_mul_of_nonneg_right (show u+1≤-k by omega) (Int.le_of_lt F0)
    rw [Int.neg_mul] at m
    omega)
   rw [Rat.intCast_sub] at z
   have z:_≤((x:Rat)-3)*cQ:=z
   grind
  ·right
   have z:=cast k (y+3) (by
    have m:=Int.mul_le_mul_of_nonneg_right (show v+1≤k by omega) (Int.le_of_lt F0)
    omega)
   rw [Rat.intCast_add] at z
   have z:((y:Rat)+3)*cQ≤_:=z
   grind
theorem ci_set1 (m ee n f more w:Int)(hmo:more=0∨more=1)(hw:0≤w∧w≤200)(hm:L (m).natAbs≤20)(he:-440≤ee∧ee≤130)(hd:-4294967296≤dv m ee∧dv m ee≤4294967296) :
  ∃ x1 x2:Int,Impl Tryz.prog Amb 133 [(.int .i64 w),(.clos 156 [(.pt [(V.bool (decide (m<0))),(N m.natAbs),(V.int .i64 ee),(V.bool (decide (n<0))),(N n.natAbs),(V.int .i64 f)] 0),(.pt [(V.int .i64 more)] 0)])] (sV x1 x2)∧(x1≤x2∧x2-x1≤2)∧EnE (SC more (dv m ee)) w.toNat x1 x2 (sE*((2^w.toNat:Int):Rat))∧L x1.natAbs≤76∧L x2.natAbs≤76:=by
 obtain ⟨u1,u2,hS,u12,uw,hE,l1,l2⟩:=fx_SinE m ee more (w+24) hmo oO hm he hd.1 hd.2
 have hC:=ci_clo1 m ee n f more (w+24) u1 u2 hS
 have hT:=fx_Settle2 156 (.pt [(V.bool (decide (m<0))),(N m.natAbs),(V.int .i64 ee),(V.bool (decide (n<0))),(N n.natAbs),(V.int .i64 f)] 0) (.pt [(V.int .i64 more)] 0) u1 u2 w hC oO (nbits_of_lt oO) oO
 have hw3:=half_w (a:=u1) (b:=u2) (W:=1) (n:=24) oO
 have o1:=L_abs_shr u1 24
 have o2:=L_abs_neg u2
 have o3:=L_abs_shr (-u2) 24
 have o4:=L_abs_neg (-u2 / 2^24)
 exact ⟨_,_,hT,⟨by have:(2:Int)^24=16777216:=rfl; rw [this]; omega,hw3⟩,hE.half oO,by omega,by omega⟩
theorem ci_set2 (m ee n f more w:Int)(hmo:more=0∨more=1)(hw:0≤w∧w≤200)(hm:L (n).natAbs≤20)(he:-440≤f∧f≤130)(hd:-4294967296≤dv n f∧dv n f≤4294967296) :
  ∃ x1 x2:Int,Impl Tryz.prog Amb 133 [(.int .i64 w),(.clos 158 [(.pt [(V.bool (decide (m<0))),(N m.natAbs),(V.int .i64 ee),(V.bool (decide (n<0))),(N n.natAbs),(V.int .i64 f)] 0),(.pt [(V.int .i64 more)] 0)])] (sV x1 x2)∧(x1≤x2∧x2-x1≤2)∧EnE (SC more (dv n f)) w.toNat x1 x2 (sE*((2^w.toNat:Int):Rat))∧L x1.natAbs≤76∧L x2.natAbs≤76:=by
 obtain ⟨u1,u2,hS,u12,uw,hE,l1,l2⟩:=fx_SinE n f more (w+24) hmo oO hm he hd.1 hd.2
 have hC:=ci_clo2 m ee n f more (w+24) u1 u2 hS
 have hT:=fx_Settle2 158 (.pt [(V.bool (decide (m<0))),(N m.natAbs),(V.int .i64 ee),(V.bool (decide (n<0))),(N n.natAbs),(V.int .i64 f)] 0) (.pt [(V.int .i64 more)] 0) u1 u2 w hC oO (nbits_of_lt oO) oO
 have hw3:=half_w (a:=u1) (b:=u2) (W:=1) (n:=24) oO
 have o1:=L_abs_shr u1 24
 have o2:=L_abs_neg u2
 have o3:=L_abs_shr (-u2) 24
 have o4:=L_abs_neg (-u2 / 2^24)
 exact ⟨_,_,hT,⟨by have:(2:Int)^24=16777216:=rfl; rw [this]; omega,hw3⟩,hE.half oO,by omega,by omega⟩
theorem dv32:dv 1 32=4294967296:=of_decide_eq_true (by kernel_rfl)
theorem ins_ok (m ee:Int)(hm:L (m).natAbs≤20)(he:-440≤ee∧ee≤130)(hd:-4294967296≤dv m ee∧dv m ee≤4294967296):Impl Tryz.prog Amb 93 [(yV m ee)] (.bool true) :=
 ci_insT m ee oO oO (cmpD_le.2 (by rw [dv32]; exact hd.2)) (cmpD_le.2 (by rw [dv32,dv_neg]; have:=hd.1; grind))
theorem ci_imgE (m ee n f more w:Int)(hmo:more=0∨more=1)(hw:0≤w∧w≤200)(hm:L (m).natAbs≤20)(he:-440≤ee∧ee≤130)(hd:-4294967296≤dv m ee∧dv m ee≤4294967296)(hn:L (n).natAbs≤20)(hf:-440≤f∧f≤130)(hd':-4294967296≤dv n f∧dv n f≤4294967296) :
  ∃ (tp bt:Bool) (x1 x2 y1 y2:Int),Impl Tryz.prog Amb 92 [(wV m ee n f),(.int .i64 more),(.int .i64 w)] (.tup [(wV (mkM (if bt then -(2^w.toNat) else max (-(2^w.toNat)) (min x1 y1)) (-w)) (mkX (if bt then -(2^w.toNat) else max (-(2^w.toNat)) (min x1 y1)) (-w)) (mkM (if tp then 2^w.toNat else min (2^w.toNat) (max x2 y2)) (-w)) (mkX (if tp then 2^w.toNat else min (2^w.toNat) (max x2 y2)) (-w))),(.int .i64 0)]) ∧
   ((x1≤x2∧x2-x1≤2)∧EnE (SC more (dv m ee)) w.toNat x1 x2 (sE*((2^w.toNat:Int):Rat))∧L x1.natAbs≤76∧L x2.natAbs≤76)∧((y1≤y2∧y2-y1≤2)∧EnE (SC more (dv n f)) w.toNat y1 y2 (sE*((2^w.toNat:Int):Rat))∧L y1.natAbs≤76∧L y2.natAbs≤76)∧Tp (dv m ee) (dv n f) w (1-more) tp∧Tp (dv m ee) (dv n f) w (3-more) bt:=by
 obtain ⟨x1,x2,hX,FX⟩:=ci_set1 m ee n f more w hmo hw hm he hd
 obtain ⟨y1,y2,hY,FY⟩:=ci_set2 m ee n f more w hmo hw hn hf hd'
 obtain ⟨x,hQ1,lx,qa,qb⟩:=fx_QuartersE m ee (w+8) oO hm he hd.1 hd.2
 obtain ⟨y,hQ2,ly,qc,qd⟩:=fx_QuartersE n f (w+8) oO hn hf hd'.1 hd'.2
 have hI1:=ins_ok m ee hm he hd
 have hI2:=ins_ok n f hn hf hd'
 have hTu:=ci_tur m ee n f w x y hQ1 hQ2 oO oO oO
 have z1:=L_lit 2 (by decide)
 have z2:=L_abs_sub x 2
 have z3:=L_abs_neg (x-2)
 have z4:=L_abs_shr (-(x-2)) (w+8).toNat
 have z5:=L_abs_neg (-(x-2) / 2^(w+8).toNat)
 have z6:=L_abs_add y 2
 have z7:=L_abs_shr (y+2) (w+8).toNat
 have z8:L (2:Int).natAbs≤1:=z1
 have hR1:=ci_rea (-(-(x-2) / 2^((w+8)).toNat)) ((y+2) / 2^((w+8)).toNat) (1-more) oO oO oO
 have hR2:=ci_rea (-(-(x-2) / 2^((w+8)).toNat)) ((y+2) / 2^((w+8)).toNat) (3-more) oO oO oO
 have RT:=tp_facts (c:=1-more) qa qb qc qd
 have RB:=tp_facts (c:=3-more) qa qb qc qd
 have pw:=L_pow1 w.toNat
 rw [Int.one_mul] at pw
 have pn:=L_abs_neg (2^w.toNat)
 have mn:=L_abs_min x1 y1
 have mx:=L_abs_max x2 y2
 have mM:=L_abs_max (-(2^w.toNat)) (min x1 y1)
 have mN:=L_abs_min (2^w.toNat) (max x2 y2)
 have f1:=FX.2.2
 have f2:=FY.2.2
 generalize ht:decide ((-(-(x-2) / 2^((w+8)).toNat))+(1-more-(-(-(x-2) / 2^((w+8)).toNat)))%4≤((y+2) / 2^((w+8)).toNat))=gt at *
 generalize hb:decide ((-(-(x-2) / 2^((w+8)).toNat))+(3-more-(-(-(x-2) / 2^((w+8)).toNat)))%4≤((y+2) / 2^((w+8)).toNat))=gb at *
 cases gt with
 | true =>
  cases gb with
  | true =>
  ·have mA:=dy_Make (-(2^w.toNat)) (0-w) oO oO
   have mB:=dy_Make (2^w.toNat) (0-w) oO oO
   rw [Int.zero_sub,mk_fine2 (m:=(-(2^w.toNat))) (e:=-w) oO oO] at mA
   rw [Int.zero_sub,mk_fine2 (m:=(2^w.toNat)) (e:=-w) oO oO] at mB
   refine ⟨true,true,x1,x2,y1,y2,?_,FX,FY,RT,RB⟩
   exact ci_imgTT m ee n f more w _ _ x1 x2 y1 y2 _ _ _ _ oO oO hI1 hI2 hTu hR1 hR2 (by rw [Int.one_mul,Int.zero_sub]; exact mA) (by rw [Int.one_mul,Int.zero_sub]; exact mB) oO oO oO oO
  | false =>
  ·have mA:=dy_Make (max (-(2^w.toNat)) (min x1 y1)) (0-w) oO oO
   have mB:=dy_Make (2^w.toNat) (0-w) oO oO
   rw [Int.zero_sub,mk_fine2 (m:=(max (-(2^w.toNat)) (min x1 y1))) (e:=-w) oO oO] at mA
   rw [Int.zero_sub,mk_fine2 (m:=(2^w.toNat)) (e:=-w) oO oO] at mB
   refine ⟨true,false,x1,x2,y1,y2,?_,FX,FY,RT,RB⟩
   exact ci_imgTF m ee n f more w _ _ x1 x2 y1 y2 _ _ _ _ oO oO hI1 hI2 hTu hR1 hR2 hX hY (by rw [Int.one_mul,Int.zero_sub]; exact mA) (by rw [Int.one_mul,Int.zero_sub]; exact mB) oO oO oO oO
 | false =>
  cases gb with
  | true =>
  ·have mA:=dy_Make (-(2^w.toNat)) (0-w) oO oO
   have mB:=dy_Make (min (2^w.toNat) (max x2 y2)) (0-w) oO oO
   rw [Int.zero_sub,mk_fine2 (m:=(-(2^w.toNat))) (e:=-w) oO oO] at mA
   rw [Int.zero_sub,mk_fine2 (m:=(min (2^w.toNat) (max x2 y2))) (e:=-w) oO oO] at mB
   refine ⟨false,true,x1,x2,y1,y2,?_,FX,FY,RT,RB⟩
   exact ci_imgFT m ee n f more w _ _ x1 x2 y1 y2 _ _ _ _ oO oO hI1 hI2 hTu hR1 hR2 hX hY (by rw [Int.one_mul,Int.zero_sub]; exact mA) (by rw [Int.one_mul,Int.zero_sub]; exact mB) oO oO oO oO
  | false =>
  ·have mA:=dy_Make (max (-(2^w.toNat)) (min x1 y1)) (0-w) oO oO
   have mB:=dy_Make (min (2^w.toNat) (max x2 y2)) (0-w) oO oO
   rw [Int.zero_sub,mk_fine2 (m:=(max (-(2^w.toNat)) (min x1 y1))) (e:=-w) oO oO] at mA
   rw [Int.zero_sub,mk_fine2 (m:=(min (2^w.toNat) (max x2 y2))) (e:=-w) oO oO] at mB
   refine ⟨false,false,x1,x2,y1,y2,?_,FX,FY,RT,RB⟩
   exact ci_imgFF m ee n f more w _ _ x1 x2 y1 y2 _ _ _ _ oO oO hI1 hI2 hTu hR1 hR2 hX hY (by rw [Int.one_mul,Int.zero_sub]; exact mA) (by rw [Int.one_mul,Int.zero_sub]; exact mB) oO oO oO oO
end Go.Proofs.YtcbihoojfakhdaaGreatDoor




namespace Go.Proofs.YtcbihoojfakhdaaGreatDoor
open Go.RowKit
set_option maxRecDepth 100000
set_option maxHeartbeats 2000000
theorem dv_tople {m e t:Int}(h:topD m e≤t):-(dv 1 t)≤dv m e∧dv m e≤dv 1 t:=by
 by_cases hm:m=0
 ·have:=dv_ge0 (m:=1) (e:=t) |>.2 (by decide)
  rw [hm,dv_zero]; constructor<;>grind
 ·have a:=(dv_top (e:=e) hm).1
  have u:dv 1 (topD m e)≤dv 1 t:=by
   rw [dv_at (m:=1) (e:=t) (c:=topD m e) oO,dv_le,Int.one_mul]
   have:=two_pos (t-topD m e).toNat
   omega
  rcases (show (m.natAbs:Int)=m∨(m.natAbs:Int)=-m by omega) with q | q
  ·have n0:0≤dv m e:=dv_ge0.2 oO
   rw [q] at a
   constructor<;>grind
  ·have n0:0≤dv (-m) e:=dv_ge0.2 oO
   rw [q] at a
   rw [dv_neg] at a n0
   constructor<;>grind
end Go.Proofs.YtcbihoojfakhdaaGreatDoor


namespace Go.Proofs.YtcbihoojfakhdaaGreatDoor
open Go.RowKit
set_option maxRecDepth 100000
set_option maxHeartbeats 2000000
def shc (m e:Int)(j:Nat):Int:=if m=0 then 0 else e-15*(j:Int)
theorem shc_fit {m e:Int}(he:-40≤e∧e≤104){j:Nat}(hj:j≤12):-220≤shc m e j∧shc m e j≤104:=by
 unfold shc; split<;>omega
theorem shc_step {m e:Int}(hv:vdb m e=true)(hm:L m.natAbs≤2)(he:-40≤e∧e≤104){j:Nat}(hj:j<12):Impl Tryz.prog Amb 38 [(yV m (shc m e j)),(.int .i64 (-15))] (.tup [(yV m (shc m e (j+1))),(.int .i64 0)]):=by
 have f:=shc_fit (m:=m) he (j:=j) oO
 have h:=r08_Shift m (shc m e j) (-15) oO oO oO
 have key:mkM m (shc m e j+-15)=m∧mkX m (shc m e j+-15)=shc m e (j+1)∧mkE m (shc m e j+-15)=0:=by
  by_cases hz:m=0
  ·subst hz
   have:=mk_r2 (m:=0) (e:=shc 0 e j+-15) oO rfl
   exact ⟨this.1,this.2.1,this.2.2⟩
  ·have s:shc m e j+-15=shc m e (j+1):=by unfold shc; rw [if_neg hz,if_neg hz]; omega
   rw [s]
   have f':=shc_fit (m:=m) he (j:=j+1) oO
   refine mk_valid ?_
   rcases vdb_iff.1 hv with q | q
   ·exact absurd q.1 hz
   ·exact vdb_iff.2 (.inr ⟨hz,q.2.1,by omega,by omega,q.2.2.2.2⟩)
 rw [key.1,key.2.1,key.2.2] at h
 exact h
theorem shc_zero {m e:Int}(hv:vdb m e=true):shc m e 0=e:=by
 unfold shc
 split
 ·rename_i h
  rcases vdb_iff.1 hv with q | q
  ·exact q.2.symm
  ·exact absurd h q.1
 ·omega
theorem shc_vdb {m e:Int}(hv:vdb m e=true){j:Nat}(hf:-65536≤shc m e j∧shc m e j≤65536):vdb m (shc m e j)=true:=by
 by_cases hm:m=0
 ·subst hm
  exact vdb_iff.2 (.inl ⟨rfl,by unfold shc; rw [if_pos rfl]⟩)
 ·exact vdb_sh hv hm hf
theorem shc_dv (m e:Int)(j:Nat):dv m (shc m e j)*(2:Rat)^((15*(j:Int):Int))=dv m e:=by
 by_cases hm:m=0
 ·subst hm; rw [dv_zero,dv_zero,Rat.zero_mul]
 ·rw [dv_exp m e (15*(j:Int))]
  unfold shc; rw [if_neg hm]
theorem shc_le {m e n f:Int}{j:Nat}(h:dv m e≤dv n f):dv m (shc m e j)≤dv n (shc n f j):=by
 refine Rat.le_of_mul_le_mul_right (c:=(2:Rat)^((15*(j:Int):Int))) ?_ (zp_pos _)
 rw [shc_dv,shc_dv]; exact h
theorem shc_top {m e:Int}(hm:L m.natAbs≤2)(he:-40≤e∧e≤104):topD m (shc m e 12)≤0:=by
 by_cases hz:m=0
 ·subst hz
  unfold topD
  rw [if_pos rfl]; omega
 ·have s:shc m e 12=e-180:=by unfold shc; rw [if_neg hz]; omega
  rw [s]
  have r:=topD_range m (e-180)
  omega
theorem arg_rounds7 {m ee n f fa:Int}(hm:L m.natAbs≤2)(hn:L n.natAbs≤2)(he:-40≤ee∧ee≤104)(hf:-40≤f∧f≤104)(hfa:0≤fa) :
  ∃ nn,nn≤12∧∀ j,j≤nn→(j=nn↔topD m (shc m ee j)≤fa∧topD n (shc n f j)≤fa):=by
 have t1:=shc_top (m:=m) hm he
 have t2:=shc_top (m:=n) hn hf
 obtain ⟨nn,h1,h2,h3⟩:=least (P:=fun j=>topD m (shc m ee j)≤fa∧topD n (shc n f j)≤fa) (n:=12) ⟨by omega,by omega⟩
 refine ⟨nn,h1,fun j hj=>⟨fun q=>by rw [q]; exact h2,fun q=>?_⟩⟩
 exact Decidable.byContradiction fun hn=>h3 j oO q
theorem l17_of (a b:Int)(c0:(-9223372036854775808:Int)≤a∧a≤9223372036854775807)(c1:(-9223372036854775808:Int)≤b∧b≤9223372036854775807):Impl Tryz.prog Amb 63 [(.int .i64 a),(.int .i64 b)] (wV (mkM a 0) (mkX a 0) (mkM b 0) (mkX b 0)):=by
 exact impl_ob hP hAmb Tryz.func63 (by kernel_rfl) (.lit<|.call (yV (mkM a 0) (mkX a 0))<|.lit<|.call (yV (mkM b 0) (mkX b 0))<|.lits 3<|.ret)
  (cast_ob (aI True.intro (aI (r08_Of a oO) (have f14:=(of_fit (n:=a) oO).2.2.2.2.1; have f13:=(of_fit (n:=a) oO).2.2.2.1; have f12:=(of_fit (n:=a) oO).2.2.1; have f11:=(of_fit (n:=a) oO).2.1; have f10:=(of_fit (n:=a) oO).1; have f9:=(L_i64 oO:L (a:Int).natAbs≤2); have f8:=mk_facts a 0; aI (r08_Of b oO) (have f7:=(of_fit (n:=b) oO).2.2.2.2.1; have f6:=(of_fit (n:=b) oO).2.2.2.1; have f5:=(of_fit (n:=b) oO).2.2.1; have f4:=(of_fit (n:=b) oO).2.1; have f3:=(of_fit (n:=b) oO).1; have f2:=(L_i64 oO:L (b:Int).natAbs≤2); have f1:=mk_facts b 0; (vsub_refl (wV (mkM a 0) (mkX a 0) (mkM b 0) (mkX b 0))))))) (by kernel_rfl))
theorem l17_awake0 (a1 a2:Int)(c0:Impl Tryz.prog Amb 63 [(.int .i64 (-1)),(.int .i64 1)] (wV (-1:Int) 0 (1:Int) 0))(c1:Impl Tryz.prog Amb 35 [(wV (-1:Int) 0 (1:Int) 0),(.int .i64 6)] (.tup [(wV a1 a2 (1:Int) 0),(.int .i64 0)]))(c2:Impl Tryz.prog Amb 63 [(.int .i64 0),(.int .i64 7)] (wV (0:Int) 0 (7:Int) 0))(c3:Impl Tryz.prog Amb 34 [(wV (0:Int) 0 (7:Int) 0),(.int .i64 6)] (.tup [(wV (-1:Int) 0 (1:Int) 0),(.int .i64 0)]))(c4:Impl Tryz.prog Amb 17 [(.int .i64 1)] (yV (1:Int) 0))(c5:Impl Tryz.prog Amb 77 [(yV (1:Int) 0),(yV (1:Int) 0)] (.bool true))(c6:Impl Tryz.prog Amb 37 [(wV (-1:Int) 0 (1:Int) 0),(wV (-1:Int) 0 (1:Int) 0)] (.bool true)):Impl Tryz.prog Amb 23 [] (.bool true):=by
 exact impl_ob hP hAmb Tryz.func23 (by kernel_rfl) (.lit<|.call (wV (-1:Int) 0 (1:Int) 0)<|.lit<|.call (.tup [(wV a1 a2 (1:Int) 0),(.int .i64 0)])<|.lits 2<|.call (wV (0:Int) 0 (7:Int) 0)<|.lit<|.call (.tup [(wV (-1:Int) 0 (1:Int) 0),(.int .i64 0)])<|.lits 11<|.call (yV (1:Int) 0)<|.lits 2<|.call (.bool true)<|.lits 5<|.call (wV (-1:Int) 0 (1:Int) 0)<|.lits 2<|.call (.bool true)<|.lits 2<|.ret)
  (cast_ob (aI True.intro (aI (c0 ) (aI (c1 ) (aI (c2 ) (aI (c3 ) (aI (c4 ) (aI (c5 ) (aI (c0 ) (aI (c6 ) ((vsub_refl (.bool true)))))))))))) (by kernel_rfl))
theorem l17_argF (b1:Bool)(l1:List Nat)(e1:Int)(b2:Bool)(l2:List Nat)(e2 fa m ee n f:Int)(c0:Impl Tryz.prog Amb 78 [(.agg [(.bool b1),(.sl 1 (U l1)),(.int .i64 e1),(.bool b2),(.sl 1 (U l2)),(.int .i64 e2)]),(.int .i64 2),(.int .i64 40)] (.tup [(wV m ee n f),(.bool false)])):Impl Tryz.prog Amb 24 [(.agg [(.bool b1),(.sl 1 (U l1)),(.int .i64 e1),(.bool b2),(.sl 1 (U l2)),(.int .i64 e2)]),(.int .i64 fa)] (.tup [(wV m ee n f),(.bool false)]):=by
 exact impl_ob hP hAmb Tryz.func24 (by kernel_rfl) (.lits 2<|.call (.tup [(wV m ee n f),(.bool false)])<|.lits 6<|.ret)
  (cast_ob (aI True.intro (aI (c0 ) ((vsub_refl (.tup [(wV m ee n f),(.bool false)]))))) (by kernel_rfl))
def l17_arg_0_mk (b1:Bool)(l1:List Nat)(e1:Int)(b2:Bool)(l2:List Nat)(e2:Int)(fa m ee n f:Int)(_:Nat)(x:Nat):St:=⟨mkS 43 [(1,(.val (.int .i64 fa))),(4,(.own 1 0)),(6,(.own 2 0))],[⟨true,false,[(V.bool b1),(V.sl 1 (U l1)),(V.int .i64 e1),(V.bool b2),(V.sl 1 (U l2)),(V.int .i64 e2)]⟩,⟨true,false,[(V.bool false),V.nil,(V.int .i64 0),(V.bool false),V.nil,(V.int .i64 0)]⟩,⟨true,false,[(V.bool (decide (m<0))),(N m.natAbs),(V.int .i64 (shc m ee x)),(V.bool (decide (n<0))),(N n.natAbs),(V.int .i64 (shc n f x))]⟩]⟩
def l17_arg_0_I (_:Bool)(_:List Nat)(_:Int)(_:Bool)(_:List Nat)(_:Int)(_ _ _ _ _:Int)(nn:Nat)(x:Nat):Prop:=x≤nn
def l17_arg_0_mu (_:Bool)(_:List Nat)(_:Int)(_:Bool)(_:List Nat)(_:Int)(_ _ _ _ _:Int)(nn:Nat)(x:Nat):Nat:=nn-x
def l17_arg_0_ex (b1:Bool)(l1:List Nat)(e1:Int)(b2:Bool)(l2:List Nat)(e2:Int)(_ m ee n f:Int)(_:Nat)(y:Nat):Ex × St:=(.exit 0,⟨mkS 43 [(4,(.own 1 0)),(6,(.own 2 0))],[⟨true,false,[(V.bool b1),(V.sl 1 (U l1)),(V.int .i64 e1),(V.bool b2),(V.sl 1 (U l2)),(V.int .i64 e2)]⟩,⟨true,false,[(V.bool false),V.nil,(V.int .i64 0),(V.bool false),V.nil,(V.int .i64 0)]⟩,⟨true,false,[(V.bool (decide (m<0))),(N m.natAbs),(V.int .i64 (shc m ee y)),(V.bool (decide (n<0))),(N n.natAbs),(V.int .i64 (shc n f y))]⟩]⟩)
def l17_arg_0_J (_:Bool)(_:List Nat)(_:Int)(_:Bool)(_:List Nat)(_:Int)(_ _ _ _ _:Int)(nn:Nat)(y:Nat):Prop:=y=nn
abbrev l17_arg_0_N (b1:Bool)(l1:List Nat)(e1:Int)(b2:Bool)(l2:List Nat)(e2:Int)(fa m ee n f:Int)(nn:Nat):=NX (l17_arg_0_mk b1 l1 e1 b2 l2 e2 fa m ee n f nn) (l17_arg_0_I b1 l1 e1 b2 l2 e2 fa m ee n f nn) (l17_arg_0_mu b1 l1 e1 b2 l2 e2 fa m ee n f nn) (l17_arg_0_ex b1 l1 e1 b2 l2 e2 fa m ee n f nn) (l17_arg_0_J b1 l1 e1 b2 l2 e2 fa m ee n f nn)
theorem l17_arg_0 (b1:Bool)(l1:List Nat)(e1:Int)(b2:Bool)(l2:List Nat)(e2:Int)(fa m ee n f:Int)(nn:Nat)(c0:nn≤100)(c1:∀ j,j≤nn→(j=nn↔(topD m (shc m ee j))≤fa∧(topD n (shc n f j))≤fa))(c2:∀ j,j≤nn→Impl Tryz.prog Amb 18 [(yV m (shc m ee j))] (.int .i64 (topD m (shc m ee j))))(c3:∀ j,j≤nn→Impl Tryz.prog Amb 18 [(yV n (shc n f j))] (.int .i64 (topD n (shc n f j))))(c4:∀ j,j<nn→Impl Tryz.prog Amb 38 [(yV m (shc m ee j)),(.int .i64 (-15))] (.tup [(yV m (shc m ee (j+1))),(.int .i64 0)]))(c5:∀ j,j<nn→Impl Tryz.prog Amb 38 [(yV n (shc n f j)),(.int .i64 (-15))] (.tup [(yV n (shc n f (j+1))),(.int .i64 0)]))(x0:Nat)(hI:l17_arg_0_I b1 l1 e1 b2 l2 e2 fa m ee n f nn x0):LoopOk Tryz.prog Amb (loopN Tryz.f24 0) (l17_arg_0_mk b1 l1 e1 b2 l2 e2 fa m ee n f nn x0) (fun e st_=>∃ y,l17_arg_0_J b1 l1 e1 b2 l2 e2 fa m ee n f nn y∧l17_arg_0_ex b1 l1 e1 b2 l2 e2 fa m ee n f nn y=(e,st_)) :=
 loop_ob hP hAmb ⟨[1,4,6],3,[]⟩ (l17_arg_0_mk b1 l1 e1 b2 l2 e2 fa m ee n f nn) (l17_arg_0_I b1 l1 e1 b2 l2 e2 fa m ee n f nn) (l17_arg_0_mu b1 l1 e1 b2 l2 e2 fa m ee n f nn) (l17_arg_0_ex b1 l1 e1 b2 l2 e2 fa m ee n f nn) (l17_arg_0_J b1 l1 e1 b2 l2 e2 fa m ee n f nn) x0 hI (fun j=>.lits 2<|.call (.int .i64 (topD m (shc m ee j)))<|.lit<|.both (.lits 8<|.call (.tup [(yV m (shc m ee (j+1))),(.int .i64 0)])<|.lits 3<|.call (.tup [(yV n (shc n f (j+1))),(.int .i64 0)])<|.lit<|.fin2 ⟨[1,4,6],3,[]⟩) (.lits 4<|.call (.int .i64 (topD n (shc n f j)))<|.lits 4<|.both (.lits 2<|.call (.tup [(yV m (shc m ee (j+1))),(.int .i64 0)])<|.lits 3<|.call (.tup [(yV n (shc n f (j+1))),(.int .i64 0)])<|.lit<|.fin2 ⟨[1,4,6],3,[]⟩) (.fin2 ⟨[4,6],3,[]⟩))) (by
  rintro j hI
  have hI:j≤nn:=hI
  have h1:=hI
  have q:=c1 j h1
  exact cast_ob (aI True.intro (aI (c2 j h1 ) (aI (fun (h101:(iGt (topD m (shc m ee j)) fa)=true)=>have _gh101:=iGt_t h101; aI (c4 j oO ) (aI (c5 j oO ) (aI tT ((nx_next (j+1) (show (j+1)≤nn from show j+1≤nn by omega) (show nn-(j+1)<nn-j by omega):l17_arg_0_N b1 l1 e1 b2 l2 e2 fa m ee n f nn j .normal (l17_arg_0_mk b1 l1 e1 b2 l2 e2 fa m ee n f nn (j+1))))))) (fun (h102:(iGt (topD m (shc m ee j)) fa)=false)=>have _gh102:=iGt_f h102; aI (c3 j h1 ) (aI (fun (h103:(iGt (topD n (shc n f j)) fa)=true)=>have _gh103:=iGt_t h103; aI (c4 j oO ) (aI (c5 j oO ) (aI tT ((nx_next (j+1) (show (j+1)≤nn from show j+1≤nn by omega) (show nn-(j+1)<nn-j by omega):l17_arg_0_N b1 l1 e1 b2 l2 e2 fa m ee n f nn j .normal (l17_arg_0_mk b1 l1 e1 b2 l2 e2 fa m ee n f nn (j+1))))))) (fun (h104:(iGt (topD n (shc n f j)) fa)=false)=>have _gh104:=iGt_f h104; aI tT ((nx_exit 0 ((l17_arg_0_ex b1 l1 e1 b2 l2 e2 fa m ee n f nn j).2) j (show j=nn from show j=nn by omega) rfl:l17_arg_0_N b1 l1 e1 b2 l2 e2 fa m ee n f nn j (.exit 0) ((l17_arg_0_ex b1 l1 e1 b2 l2 e2 fa m ee n f nn j).2))))))))) (by kernel_rfl))
theorem l17_argT (b1:Bool)(l1:List Nat)(e1:Int)(b2:Bool)(l2:List Nat)(e2 fa m ee n f:Int)(nn:Nat)(c0:Impl Tryz.prog Amb 78 [(.agg [(.bool b1),(.sl 1 (U l1)),(.int .i64 e1),(.bool b2),(.sl 1 (U l2)),(.int .i64 e2)]),(.int .i64 2),(.int .i64 40)] (.tup [(wV m (shc m ee 0) n (shc n f 0)),(.bool true)]))(c1:nn≤100)(c2:∀ j,j≤nn→(j=nn↔(topD m (shc m ee j))≤fa∧(topD n (shc n f j))≤fa))(c3:∀ j,j≤nn→Impl Tryz.prog Amb 18 [(yV m (shc m ee j))] (.int .i64 (topD m (shc m ee j))))(c4:∀ j,j≤nn→Impl Tryz.prog Amb 18 [(yV n (shc n f j))] (.int .i64 (topD n (shc n f j))))(c5:∀ j,j<nn→Impl Tryz.prog Amb 38 [(yV m (shc m ee j)),(.int .i64 (-15))] (.tup [(yV m (shc m ee (j+1))),(.int .i64 0)]))(c6:∀ j,j<nn→Impl Tryz.prog Amb 38 [(yV n (shc n f j)),(.int .i64 (-15))] (.tup [(yV n (shc n f (j+1))),(.int .i64 0)])):Impl Tryz.prog Amb 24 [(.agg [(.bool b1),(.sl 1 (U l1)),(.int .i64 e1),(.bool b2),(.sl 1 (U l2)),(.int .i64 e2)]),(.int .i64 fa)] (.tup [(wV m (shc m ee nn) n (shc n f nn)),(.bool true)]):=by
 exact impl_ob hP hAmb Tryz.func24 (by kernel_rfl) (.lits 2<|.call (.tup [(wV m (shc m ee 0) n (shc n f 0)),(.bool true)])<|.lits 3<|.loop ⟨[1,4,6],3,[]⟩ ((l17_arg_0_mk b1 l1 e1 b2 l2 e2 fa m ee n f nn 0)) (Nat) (l17_arg_0_ex b1 l1 e1 b2 l2 e2 fa m ee n f nn) (l17_arg_0_J b1 l1 e1 b2 l2 e2 fa m ee n f nn) (fun y=>.lits 3<|.ret))
  (cast_ob (aI True.intro (aI (c0 ) (aI tT (aI (rfl:(l17_arg_0_mk b1 l1 e1 b2 l2 e2 fa m ee n f nn 0)=(l17_arg_0_mk b1 l1 e1 b2 l2 e2 fa m ee n f nn 0)) (aI (l17_arg_0 b1 l1 e1 b2 l2 e2 fa m ee n f nn c1 c2 c3 c4 c5 c6 0 (show 0≤nn from Nat.zero_le _)) (fun y (hJ:l17_arg_0_J b1 l1 e1 b2 l2 e2 fa m ee n f nn y)=>have hJ:y=nn:=hJ; (by rw [show y=nn from hJ]; exact vsub_refl _:vsub (.tup [(wV m (shc m ee y) n (shc n f y)),(.bool true)]) (.tup [(wV m (shc m ee nn) n (shc n f nn)),(.bool true)])))))))) (by kernel_rfl))
theorem l17_arg (b1:Bool)(l1:List Nat)(e1:Int)(b2:Bool)(l2:List Nat)(e2 fa:Int)(c0:Dig l1)(c1:l1.length≤9223372036854775807)(c2:(-9223372036854775808:Int)≤e1∧e1≤9223372036854775807)(c3:Dig l2)(c4:l2.length≤9223372036854775807)(c5:(-9223372036854775808:Int)≤e2∧e2≤9223372036854775807)(hfa:0≤fa∧fa≤100):∃ (m ee n f:Int) (ok:Bool),Impl Tryz.prog Amb 24 [(.agg [(.bool b1),(.sl 1 (U l1)),(.int .i64 e1),(.bool b2),(.sl 1 (U l2)),(.int .i64 e2)]),(.int .i64 fa)] (.tup [(wV m ee n f),(.bool ok)])∧(L m.natAbs≤2∧L n.natAbs≤2)∧((-220≤ee∧ee≤104)∧(-220≤f∧f≤104))∧(ok=true→(topD m ee≤fa∧topD n f≤fa)∧(vdb m ee=true∧vdb n f=true)∧dv m ee≤dv n f):=by
 have fa':=iv_fit (b:=b1) (e:=e1) (c:=b2) (f:=e2) (n:=2) (k:=40) c0 c3 oO oO
 have hi:=mill_Iv b1 l1 e1 b2 l2 e2 2 40 c0 c1 c3 c4 c2 c5 oO oO
 generalize (ivM b1 l1 e1 b2 l2 e2 2 40)=m at fa' hi
 generalize (ivX b1 l1 e1 b2 l2 e2 2 40)=ee at fa' hi
 generalize (ivN b1 l1 e1 b2 l2 e2 2 40)=n at fa' hi
 generalize (ivF b1 l1 e1 b2 l2 e2 2 40)=f at fa' hi
 by_cases hok:((l1.length:Int)≤2∧(l2.length:Int)≤2)
 ·rw [decide_eq_true hok] at hi
  obtain ⟨nn,hn,ht⟩:=arg_rounds7 (m:=m) (n:=n) (ee:=ee) (f:=f) (fa:=fa) oO oO oO oO oO
  have s1:=fun j (hj:j≤12)=>shc_fit (m:=m) (e:=ee) (j:=j) oO hj
  have s2:=fun j (hj:j≤12)=>shc_fit (m:=n) (e:=f) (j:=j) oO hj
  refine ⟨m,shc m ee nn,n,shc n f nn,true,l17_argT b1 l1 e1 b2 l2 e2 fa m ee n f nn ?_ oO ht ?_ ?_ ?_ ?_,by omega,⟨s1 nn hn,s2 nn hn⟩,fun _=>⟨(ht nn (Nat.le_refl _)).1 rfl,⟨shc_vdb fa'.2.1 (by have:=s1 nn hn; omega),shc_vdb fa'.2.2.1 (by have:=s2 nn hn; omega)⟩,shc_le fa'.2.2.2⟩⟩
  ·rw [shc_zero fa'.2.1,shc_zero fa'.2.2.1]; exact hi
  ·intro j hj; have:=s1 j oO; exact r08_Top m _ oO oO
  ·intro j hj; have:=s2 j oO; exact r08_Top n _ oO oO
  ·intro j hj; exact shc_step fa'.2.1 oO oO oO
  ·intro j hj; exact shc_step fa'.2.2.1 oO oO oO
 ·rw [decide_eq_false hok] at hi
  exact ⟨m,ee,n,f,false,l17_argF b1 l1 e1 b2 l2 e2 fa m ee n f hi,by omega,by omega,fun h=>by cases h⟩
theorem tp_k {a b:Rat}{w c k:Int}{g:Bool}(h:Tp a b w c g)(hk:(k-c)%4=0)(hw:0≤w)(h1:a≤(k:Rat)*cQ)(h2:(k:Rat)*cQ≤b):g=true:=by
 cases g with
 | true=>rfl
 | false =>
  have F0:(0:Rat)<((2^(w+8).toNat:Int):Rat):=Rat.intCast_pos.2 (two_pos _)
  have m1:=Rat.mul_le_mul_of_nonneg_right h1 (Rat.le_of_lt F0)
  have m2:=Rat.mul_le_mul_of_nonneg_right h2 (Rat.le_of_lt F0)
  rcases h.2 rfl k hk with q | q
  ·exfalso; grind
  ·exfalso; grind
theorem dvs:dv (-1) 0=-1∧dv 1 0=1∧dv 0 0=0∧dv 7 0=7:=⟨of_decide_eq_true (by kernel_rfl),of_decide_eq_true (by kernel_rfl),of_decide_eq_true (by kernel_rfl),of_decide_eq_true (by kernel_rfl)⟩
theorem l17_awake:Impl Tryz.prog Amb 23 [] (.bool true):=by
 have cb:=cQ_b
 have dd:=dvs
 have l1:L (1:Int).natAbs≤1:=L_lit 1 (by decide)
 have l2:L (-1:Int).natAbs≤1:=L_lit 1 (by decide)
 have l3:L (7:Int).natAbs≤1:=L_lit 7 (by decide)
 have l4:L (0:Int).natAbs≤1:=L_lit 0 (by decide)
 obtain ⟨tp,bt,x1,x2,y1,y2,hC,_,_,t1,_⟩:=ci_imgE (-1) 0 1 0 1 6 (.inr rfl) oO oO oO (by rw [dd.1]; constructor<;>grind) oO oO (by rw [dd.2.1]; constructor<;>grind)
 rw [dd.1,dd.2.1] at t1
 have t1:=tp_k t1 (k:=0) (by decide) oO (by show -1≤(0:Rat)*cQ; grind) (by show (0:Rat)*cQ≤1; grind)
 subst t1
 obtain ⟨tp',bt',u1,u2,v1,v2,hS,_,_,t2,t3⟩:=ci_imgE 0 0 7 0 0 6 (.inl rfl) oO oO oO (by rw [dd.2.2.1]; constructor<;>grind) oO oO (by rw [dd.2.2.2]; constructor<;>grind)
 rw [dd.2.2.1,dd.2.2.2] at t2 t3
 have t2:=tp_k t2 (k:=1) (by decide) oO (by show 0≤(1:Rat)*cQ; grind) (by show (1:Rat)*cQ≤7; grind)
 have t3:=tp_k t3 (k:=3) (by decide) oO (by show 0≤(3:Rat)*cQ; grind) (by show (3:Rat)*cQ≤7; grind)
 subst t2 t3
 exact l17_awake0 _ _ (impl_eq (by kernel_rfl) (l17_of (-1) 1 oO oO)) (impl_eq (congrArg (fun d=>V.tup [.agg [_,_,_,.bool (decide (d.1<0)),N d.1.natAbs,.int .i64 d.2],.int .i64 0]) (show ((mkM (2^(6:Int).toNat) (-6),mkX (2^(6:Int).toNat) (-6)):Int × Int)=(1,0) by kernel_rfl)) (ci_Cos (-1) 0 1 0 6 _ _ _ _ 0 hC))
  (impl_eq (by kernel_rfl) (l17_of 0 7 oO oO)) (impl_eq (by kernel_rfl) (ci_Sin 0 0 7 0 6 _ _ _ _ 0 hS)) (impl_eq (by kernel_rfl) (r08_Of 1 oO)) (impl_eq (congrArg V.bool (by decide)) (r08_Same 1 0 1 0 oO oO)) (impl_eq (congrArg V.bool (by decide)) (r10_Same (-1) 0 1 0 (-1) 0 1 0 oO oO oO oO))
end Go.Proofs.YtcbihoojfakhdaaGreatDoor





namespace Go.Proofs.YtcbihoojfakhdaaGreatDoor
open Go.RowKit
set_option maxRecDepth 100000
def eA (w:Int):Int:=(mkM ((eLo (w+24)) / 2^24) (-w))
def eB (w:Int):Int:=(mkX ((eLo (w+24)) / 2^24) (-w))
def eC (w:Int):Int:=(mkM (-(-(eHi (w+24)) / 2^24)) (-w))
end Go.Proofs.YtcbihoojfakhdaaGreatDoor


namespace Go.Proofs.YtcbihoojfakhdaaGreatDoor
structure Sq where
 s1:Int
 s2:Int
 c1:Int
 c2:Int
end Go.Proofs.YtcbihoojfakhdaaGreatDoor






namespace Go.Proofs.YtcbihoojfakhdaaGreatDoor
open Go.RowKit
set_option maxRecDepth 100000
set_option maxHeartbeats 4000000
structure QtH (a b T:Rat) (n1 n2 l1 l2 g1 g2:Int):Prop where
 T0:1208925819614629174706176≤T
 c1:(n1:Rat)≤cQ*T
 c2:cQ*T≤(n2:Rat)
 cw:n2-n1≤8194
 a1:(l1:Rat)≤a*T
 a2:a*T≤(l1:Rat)+1
 b2:b*T≤(g2:Rat)
 b1:(g2:Rat)≤b*T+1
 ad:-4294967296≤a∧a≤4294967296
theorem SC_one (more:Int)(d:Rat){e:Rat}(he:0<e):∃ N,∀ K,N≤K→-(1+e)≤SC more d K∧SC more d K≤1+e:=by
 obtain ⟨N,h⟩:=CS_one d he
 refine ⟨N,fun K hK=>?_⟩
 unfold SC
 split
 ·exact (h K hK).2
 ·exact (h K hK).1
theorem enc_one {more:Int}{d:Rat}{s:Nat}{lo hi:Int}{g:Rat}(hg:2*g≤1)(h:EnE (SC more d) s lo hi g):lo≤2^s∧-(2^s)≤hi:=by
 have P:(0:Rat)<((2^s:Int):Rat):=Rat.intCast_pos.2 (two_pos s)
 have i0:=Rat.inv_pos.2 P
 have ie:=inv_one P
 obtain ⟨N,h⟩:=h
 obtain ⟨M,o⟩:=SC_one more d (Rat.mul_pos i0 (show (0:Rat)<1 / 4 from of_decide_eq_true (by kernel_rfl)))
 have h:=h (N+M) oO
 have o:=o (N+M) oO
 have m1:=Rat.mul_le_mul_of_nonneg_right o.1 (Rat.le_of_lt P)
 have m2:=Rat.mul_le_mul_of_nonneg_right o.2 (Rat.le_of_lt P)
 have e:(1+(((2^s:Int):Rat))⁻¹*(1 / 4))*((2^s:Int):Rat)=((2^s:Int):Rat)+1 / 4:=by grind
 rw [Rat.neg_mul,e] at m1
 rw [e] at m2
 constructor
 ·refine int_gap2 (X:=SC more d (N+M)*((2^s:Int):Rat)+g) (Y:=((2^s:Int):Rat)) h.1 Rat.le_refl ?_
  grind
 ·refine int_gap2 (X:=-((2^s:Int):Rat)) (Y:=SC more d (N+M)*((2^s:Int):Rat)-g) (by rw [Rat.intCast_neg]; exact Rat.le_refl) (by have:=h.2; grind) ?_
  grind
end Go.Proofs.YtcbihoojfakhdaaGreatDoor





namespace Go.Proofs.YtcbihoojfakhdaaGreatDoor
open Go.RowKit
set_option maxRecDepth 100000
set_option maxHeartbeats 4000000
theorem sE_num:sE*((2^300:Int):Rat)*8≤1∧0≤sE∧qerr sM≤sE:=⟨of_decide_eq_true (by kernel_rfl),of_decide_eq_true (by kernel_rfl),of_decide_eq_true (by kernel_rfl)⟩
theorem sE_sc {t:Nat}(ht:t≤300):0≤sE*((2^t:Int):Rat)∧8*(sE*((2^t:Int):Rat))≤1∧8*(qerr sM*((2^t:Int):Rat))≤1:=by
 have n:=sE_num
 have p0:(0:Rat)<((2^t:Int):Rat):=Rat.intCast_pos.2 (two_pos t)
 have e:((2^300:Int):Rat)=((2^t:Int):Rat)*((2^(300-t):Int):Rat):=by rw [← Rat.intCast_mul,← Int.pow_add]; congr 2; omega
 have a:(1:Rat)≤((2^(300-t):Int):Rat):=by
  have:=two_pos (300-t)
  exact Rat.intCast_le_intCast.2 (show (1:Int)≤2^(300-t) by omega)
 have m:=Rat.mul_le_mul_of_nonneg_left a (Rat.mul_nonneg n.2.1 (Rat.le_of_lt p0))
 have q:=Rat.mul_le_mul_of_nonneg_right n.2.2 (Rat.le_of_lt p0)
 rw [e] at n
 refine ⟨Rat.mul_nonneg n.2.1 (Rat.le_of_lt p0),by grind,by grind⟩
end Go.Proofs.YtcbihoojfakhdaaGreatDoor


namespace Go.Proofs.YtcbihoojfakhdaaGreatDoor
open Go.RowKit
set_option maxRecDepth 100000
set_option maxHeartbeats 4000000
structure EndH (m e:Int):Prop where
 lL:L m.natAbs≤20
 lE:-440≤e
 lV:vdb m e=true
 lD:-1000≤dv m e∧dv m e≤1000
theorem EndH.top {m e:Int}(h:EndH m e):topD m e≤34:=by
 refine Decidable.byContradiction fun hn=>?_
 have hm:m≠0:=fun q=>by
  unfold topD at hn
  rw [if_pos q] at hn
  omega
 have a:=(dv_top (e:=e) hm).2
 have u:dv 1 33≤dv 1 (topD m e-1):=by
  rw [dv_at (m:=1) (e:=topD m e-1) (c:=33) oO,dv_le,Int.one_mul]
  have:=two_pos (topD m e-1-33).toNat
  omega
 have d33:dv 1 33=8589934592:=of_decide_eq_true (by kernel_rfl)
 rw [d33] at u
 have d:=h.lD
 rcases (show (m.natAbs:Int)=m∨(m.natAbs:Int)=-m by omega) with q | q
 ·rw [q] at a; grind
 ·rw [q,dv_neg] at a; grind
theorem EndH.hi {m e:Int}(h:EndH m e):e≤130:=by
 have t:=h.top
 rcases topD_range m e with ⟨a,_⟩ | ⟨_,a,_⟩
 ·rcases vdb_iff.1 h.lV with q | q<;>omega
 ·omega
end Go.Proofs.YtcbihoojfakhdaaGreatDoor

namespace Go.Proofs.YtcbihoojfakhdaaGreatDoor
open Go.RowKit
set_option maxRecDepth 100000
set_option maxHeartbeats 4000000
theorem dv_g {a w:Int}{k:Nat}(h:L a.natAbs≤k)(hk:k≤300)(hw:0≤w∧w≤400):dv (mkM a (-w)) (mkX a (-w))=dv a (-w)∧L (mkM a (-w)).natAbs≤k∧(-400≤mkX a (-w)∧mkX a (-w)≤32*k)∧vdb (mkM a (-w)) (mkX a (-w))=true∧mkE a (-w)=0∧-w≤mkX a (-w):=by
 have f:=mk_fit (m:=a) (e:=-w) oO oO
 have i1:=iMin_range (-w) 0
 have i2:iMax (-w) 0≤0:=by unfold iMax; split<;>omega
 exact ⟨f.2.2.2.2.2,by omega,by omega,f.2.2.2.2.1,f.1,by omega⟩
theorem enV_ok {lo hi:Rat}{w:Int}(h:enE lo hi w=0):enV lo hi w=(.tup [(wV (mkM (flr lo w) (-w)) (mkX (flr lo w) (-w)) (mkM (cei hi w) (-w)) (mkX (cei hi w) (-w))),(.int .i64 0)]):=by
 obtain ⟨a,b,c,d⟩:=en_yes h
 unfold enV
 rw [a,b,c,d,h]
theorem dv_T {a w:Int}(hw:0≤w):dv a (-w)*((2^w.toNat:Int):Rat)=(a:Rat):=by
 obtain ⟨n,rfl⟩:=Int.eq_ofNat_of_zero_le hw
 rw [Int.toNat_natCast,← zp_nat]
 unfold dv
 rw [Rat.mul_assoc,← zp_add,Int.add_left_neg,zp_zero,Rat.mul_one]
theorem flr_same (x w:Int):flr (dv x (-w)) w=x∧cei (dv x (-w)) w=x:=by
 have a:=le_flr.2 (Rat.le_refl (a:=dv x (-w)))
 have b:=dv_le.1 (flr_le (dv x (-w)) w)
 have c:=cei_le.2 (Rat.le_refl (a:=dv x (-w)))
 have d:=dv_le.1 (cei_ge (dv x (-w)) w)
 omega
theorem dv_plus (a c w:Int):dv a w+dv c w=dv (a+c) w:=by unfold dv; rw [Rat.intCast_add,Rat.add_mul]
theorem g_fit {a b w:Int}(hw:0≤w∧w≤200)(o:a≤b)(la:L a.natAbs≤8)(lb:L b.natAbs≤8):FitI (mkM a (-w)) (mkX a (-w)) (mkM b (-w)) (mkX b (-w)):=by
 have A:=dv_g (w:=w) la oO oO
 have B:=dv_g (w:=w) lb oO oO
 exact ⟨⟨A.2.1,by omega,by omega⟩,⟨B.2.1,by omega,by omega⟩,by rw [A.1,B.1]; exact dv_le.2 o⟩
theorem g_mul (a b c d w:Int)(hw:0≤w∧w≤200)(o1:a≤b)(o2:c≤d)(la:L a.natAbs≤8)(lb:L b.natAbs≤8)(lc:L c.natAbs≤8)(ld:L d.natAbs≤8) :
  ∃ p q:Int,Impl Tryz.prog Amb 53 [(wV (mkM a (-w)) (mkX a (-w)) (mkM b (-w)) (mkX b (-w))),(wV (mkM c (-w)) (mkX c (-w)) (mkM d (-w)) (mkX d (-w))),(.int .i64 w)] (.tup [(wV (mkM p (-w)) (mkX p (-w)) (mkM q (-w)) (mkX q (-w))),(.int .i64 0)])∧p≤q∧(L p.natAbs≤60∧L q.natAbs≤60) ∧
   (∀ X Y:Rat,(a:Rat)≤X→X≤(b:Rat)→(c:Rat)≤Y→Y≤(d:Rat)→(p:Rat)*((2^w.toNat:Int):Rat)≤X*Y∧X*Y≤(q:Rat)*((2^w.toNat:Int):Rat)) ∧
   (∀ k:Int,(∀ x y:Int,(x=a∨x=b)→(y=c∨y=d)→k*2^w.toNat≤x*y)→k≤p)∧(∀ k:Int,(∀ x y:Int,(x=a∨x=b)→(y=c∨y=d)→x*y≤k*2^w.toNat)→q≤k):=by
 have A:=dv_g (w:=w) la oO oO
 have B:=dv_g (w:=w) lb oO oO
 have C:=dv_g (w:=w) lc oO oO
 have D:=dv_g (w:=w) ld oO oO
 have F1:=g_fit hw o1 la lb
 have F2:=g_fit hw o2 lc ld
 have kq:=ml_ok (w:=w) F1 F2 hw
 have lpq:=ml_L (w:=w) F1 F2 hw
 have hq:=impl_eq (enV_ok kq) (ar_Mul (mkM a (-w)) (mkX a (-w)) (mkM b (-w)) (mkX b (-w)) (mkM c (-w)) (mkX c (-w)) (mkM d (-w)) (mkX d (-w)) w oO oO oO oO oO oO oO oO (ml_fine oO oO oO oO) (ml_fine oO oO oO oO) (ml_fine oO oO oO oO) (ml_fine oO oO oO oO) oO)
 have T0:(0:Rat)<((2^w.toNat:Int):Rat):=Rat.intCast_pos.2 (two_pos _)
 have uT:(2:Rat)^(-w)*((2^w.toNat:Int):Rat)=1:=by
  have:=dv_T (a:=1) (w:=w) hw.1
  unfold dv at this
  rw [show ((1:Int):Rat)=1 from rfl,Rat.one_mul] at this
  exact this
 have u0:=zp_pos (-w)
 have dvu:∀ x:Int,dv x (-w)=(x:Rat)*(2:Rat)^(-w):=fun x=>rfl
 refine ⟨_,_,hq,flr_cei (ml_le F1.2.2 F2.2.2) w,lpq,?_,?_,?_⟩
 ·intro X Y h1 h2 h3 h4
  have r:=ml_in (m:=mkM a (-w)) (e:=mkX a (-w)) (n:=mkM b (-w)) (f:=mkX b (-w)) (p:=mkM c (-w)) (g:=mkX c (-w)) (q:=mkM d (-w)) (h:=mkX d (-w)) (a:=X*(2:Rat)^(-w)) (b:=Y*(2:Rat)^(-w))
   (by rw [A.1,dvu]; exact Rat.mul_le_mul_of_nonneg_right h1 (Rat.le_of_lt u0)) (by rw [B.1,dvu]; exact Rat.mul_le_mul_of_nonneg_right h2 (Rat.le_of_lt u0)) (by rw [C.1,dvu]; exact Rat.mul_le_mul_of_nonneg_right h3 (Rat.le_of_lt u0)) (by rw [D.1,dvu]; exact Rat.mul_le_mul_of_nonneg_right h4 (Rat.le_of_lt u0))
  have a1:=Rat.mul_le_mul_of_nonneg_right (Rat.le_trans (flr_le _ w) r.1) (Rat.le_of_lt (Rat.mul_pos T0 T0))
  have a2:=Rat.mul_le_mul_of_nonneg_right (Rat.le_trans r.2 (cei_ge _ w)) (Rat.le_of_lt (Rat.mul_pos T0 T0))
  rw [dvu] at a1 a2
  generalize flr _ w=p at *
  generalize cei _ w=q at *
  generalize (2:Rat)^(-w)=u at *
  generalize ((2^w.toNat:Int):Rat)=t at *
  have e1:X*u*(Y*u)*(t*t)=X*Y:=by
   have:X*u*(Y*u)*(t*t)=X*Y*(u*t)*(u*t):=by grind
   rw [this,uT]; grind
  have e2:∀ z:Rat,z*u*(t*t)=z*t:=fun z=>by
   have:z*u*(t*t)=z*t*(u*t):=by grind
   rw [this,uT,Rat.mul_one]
  rw [e1,e2] at a1 a2
  exact ⟨a1,a2⟩
 ·intro k hk
  have key:∀ x y:Int,(x=a∨x=b)→(y=c∨y=d)→dv k (-w)≤dv x (-w)*dv y (-w):=by
   intro x y hx hy
   have h:=Rat.mul_le_mul_of_nonneg_right (Rat.intCast_le_intCast.2 (hk x y hx hy)) (Rat.le_of_lt (Rat.mul_pos u0 u0))
   rw [Rat.intCast_mul,Rat.intCast_mul] at h
   rw [dvu,dvu,dvu]
   generalize (2:Rat)^(-w)=u at *
   generalize ((2^w.toNat:Int):Rat)=t at *
   have e1:(k:Rat)*t*(u*u)=(k:Rat)*u*(u*t):=by grind
   have e2:(x:Rat)*u*((y:Rat)*u)=(x:Rat)*(y:Rat)*(u*u):=by grind
   rw [e1,uT,Rat.mul_one] at h
   rw [e2]; exact h
  refine le_flr.2 ?_
  unfold mlLo
  rw [A.1,B.1,C.1,D.1]
  exact le_qmin (le_qmin (le_qmin (key a c (.inl rfl) (.inl rfl)) (key a d (.inl rfl) (.inr rfl))) (key b c (.inr rfl) (.inl rfl))) (key b d (.inr rfl) (.inr rfl))
 ·intro k hk
  have key:∀ x y:Int,(x=a∨x=b)→(y=c∨y=d)→dv x (-w)*dv y (-w)≤dv k (-w):=by
   intro x y hx hy
   have h:=Rat.mul_le_mul_of_nonneg_right (Rat.intCast_le_intCast.2 (hk x y hx hy)) (Rat.le_of_lt (Rat.mul_pos u0 u0))
   rw [Rat.intCast_mul,Rat.intCast_mul] at h
   rw [dvu,dvu,dvu]
   generalize (2:Rat)^(-w)=u at *
   generalize ((2^w.toNat:Int):Rat)=t at *
   have e1:(k:Rat)*t*(u*u)=(k:Rat)*u*(u*t):=by grind
   have e2:(x:Rat)*u*((y:Rat)*u)=(x:Rat)*(y:Rat)*(u*u):=by grind
   rw [e1,uT,Rat.mul_one] at h
   rw [e2]; exact h
  refine cei_le.2 ?_
  unfold mlHi
  rw [A.1,B.1,C.1,D.1]
  exact qmax_le2 (qmax_le2 (qmax_le2 (key a c (.inl rfl) (.inl rfl)) (key a d (.inl rfl) (.inr rfl))) (key b c (.inr rfl) (.inl rfl))) (key b d (.inr rfl) (.inr rfl))
theorem g_meet {m e n f p g q h:Int}(h1:dv p g≤dv n f)(h2:dv m e≤dv q h):ivCmp m e n f p g q h=0:=by
 unfold ivCmp
 rw [if_neg,if_neg]
 ·have:=cmpD_le.2 h2
  omega
 ·intro k
  rw [cmpD_dv] at k
  rcases cmpQ_range (dv n f) (dv p g) with ⟨_,x⟩ | ⟨x,_⟩ | ⟨x,_⟩
  ·exact Rat.not_lt.2 h1 x
  ·omega
  ·omega
theorem g_cmp (a b c d w:Int)(hw:0≤w∧w≤200)(la:L a.natAbs≤60)(lb:L b.natAbs≤60)(lc:L c.natAbs≤60)(ld:L d.natAbs≤60)(h1:c≤b)(h2:a≤d):Impl Tryz.prog Amb 52 [(wV (mkM a (-w)) (mkX a (-w)) (mkM b (-w)) (mkX b (-w))),(wV (mkM c (-w)) (mkX c (-w)) (mkM d (-w)) (mkX d (-w)))] (.int .i64 0):=by
 have A:=dv_g (w:=w) la oO oO
 have B:=dv_g (w:=w) lb oO oO
 have C:=dv_g (w:=w) lc oO oO
 have D:=dv_g (w:=w) ld oO oO
 exact impl_eq (congrArg (V.int .i64) (g_meet (by rw [C.1,B.1]; exact dv_le.2 h1) (by rw [A.1,D.1]; exact dv_le.2 h2))) (r10_Cmp (mkM a (-w)) (mkX a (-w)) (mkM b (-w)) (mkX b (-w)) (mkM c (-w)) (mkX c (-w)) (mkM d (-w)) (mkX d (-w)) oO oO oO oO oO oO oO oO)
theorem sE_pos:0<sE:=of_decide_eq_true (by kernel_rfl)
theorem pt_S (m ee w:Int)(hw:0≤w∧w≤200)(hm:L (m).natAbs≤20)(he:-440≤ee∧ee≤130)(hd:-4294967296≤dv m ee∧dv m ee≤4294967296) :
  ∃ lo hi:Int,Impl Tryz.prog Amb 34 [(wV m ee m ee),(.int .i64 w)] (.tup [(wV (mkM lo (-w)) (mkX lo (-w)) (mkM hi (-w)) (mkX hi (-w))),(.int .i64 0)])∧lo≤hi∧(-(2^w.toNat)≤lo∧hi≤2^w.toNat)∧EnE (SC 0 (dv m ee)) w.toNat lo hi (sE*((2^w.toNat:Int):Rat)):=by
 obtain ⟨tp,bt,x1,x2,y1,y2,hI,⟨wx,eX,lx⟩,⟨wy,eY,ly⟩,_,_⟩:=ci_imgE m ee m ee 0 w (.inl rfl) hw hm he hd hm he hd
 have sc:=sE_sc (t:=w.toNat) oO
 have oX:=enc_one (by grind) eX
 have oY:=enc_one (by grind) eY
 have P1:(1:Int)≤2^w.toNat:=two_pos _
 obtain ⟨lo,hlo,p1,p2,p3⟩:∃ lo,(if bt then -(2^w.toNat) else max (-(2^w.toNat)) (min x1 y1))=lo∧-(2^w.toNat)≤lo∧lo≤2^w.toNat∧(lo=-(2^w.toNat)∨lo≤x1):=by
  cases bt with
  | true=>exact ⟨_,rfl,by show -(2^w.toNat)≤-(2^w.toNat); omega,by show -(2^w.toNat)≤(2^w.toNat:Int); omega,.inl rfl⟩
  | false=>exact ⟨max (-(2^w.toNat)) (min x1 y1),rfl,by omega,by omega,by omega⟩
 obtain ⟨hi,hhi,q1,q2,q3,q4⟩:∃ hi,(if tp then 2^w.toNat else min (2^w.toNat) (max x2 y2))=hi∧-(2^w.toNat)≤hi∧hi≤2^w.toNat∧(hi=2^w.toNat∨x2≤hi)∧(hi=2^w.toNat∨x2≤hi):=by
  cases tp with
  | true=>exact ⟨_,rfl,by show -(2^w.toNat)≤(2^w.toNat:Int); omega,by show (2^w.toNat)≤(2^w.toNat:Int); omega,.inl rfl,.inl rfl⟩
  | false=>exact ⟨min (2^w.toNat) (max x2 y2),rfl,by omega,by omega,by omega,by omega⟩
 rw [hlo,hhi] at hI
 have P:(0:Rat)<((2^w.toNat:Int):Rat):=Rat.intCast_pos.2 (two_pos _)
 have sp:0<sE:=sE_pos
 obtain ⟨N,h⟩:=eX
 obtain ⟨M,o⟩:=SC_one 0 (dv m ee) sp
 refine ⟨lo,hi,ci_Sin m ee m ee w _ _ _ _ 0 hI,by omega,⟨p1,q2⟩,N+M,fun K hK=>?_⟩
 have h:=h K oO
 have o:=o K oO
 have m1:=Rat.mul_le_mul_of_nonneg_right o.1 (Rat.le_of_lt P)
 have m2:=Rat.mul_le_mul_of_nonneg_right o.2 (Rat.le_of_lt P)
 rw [Rat.neg_mul,Rat.add_mul,Rat.one_mul] at m1
 rw [Rat.add_mul,Rat.one_mul] at m2
 constructor
 ·rcases p3 with q | q
  ·rw [q,Rat.intCast_neg]; grind
  ·have:=Rat.intCast_le_intCast.2 q
   grind
 ·rcases q3 with q | q
  ·rw [q]; grind
  ·have:=Rat.intCast_le_intCast.2 q
   grind
theorem pt_C (m ee w:Int)(hw:0≤w∧w≤200)(hm:L (m).natAbs≤20)(he:-440≤ee∧ee≤130)(hd:-4294967296≤dv m ee∧dv m ee≤4294967296) :
  ∃ lo hi:Int,Impl Tryz.prog Amb 35 [(wV m ee m ee),(.int .i64 w)] (.tup [(wV (mkM lo (-w)) (mkX lo (-w)) (mkM hi (-w)) (mkX hi (-w))),(.int .i64 0)])∧lo≤hi∧(-(2^w.toNat)≤lo∧hi≤2^w.toNat)∧EnE (SC 1 (dv m ee)) w.toNat lo hi (sE*((2^w.toNat:Int):Rat)):=by
 obtain ⟨tp,bt,x1,x2,y1,y2,hI,⟨wx,eX,lx⟩,⟨wy,eY,ly⟩,_,_⟩:=ci_imgE m ee m ee 1 w (.inr rfl) hw hm he hd hm he hd
 have sc:=sE_sc (t:=w.toNat) oO
 have oX:=enc_one (by grind) eX
 have oY:=enc_one (by grind) eY
 have P1:(1:Int)≤2^w.toNat:=two_pos _
 obtain ⟨lo,hlo,p1,p2,p3⟩:∃ lo,(if bt then -(2^w.toNat) else max (-(2^w.toNat)) (min x1 y1))=lo∧-(2^w.toNat)≤lo∧lo≤2^w.toNat∧(lo=-(2^w.toNat)∨lo≤x1):=by
  cases bt with
  | true=>exact ⟨_,rfl,by show -(2^w.toNat)≤-(2^w.toNat); omega,by show -(2^w.toNat)≤(2^w.toNat:Int); omega,.inl rfl⟩
  | false=>exact ⟨max (-(2^w.toNat)) (min x1 y1),rfl,by omega,by omega,by omega⟩
 obtain ⟨hi,hhi,q1,q2,q3,q4⟩:∃ hi,(if tp then 2^w.toNat else min (2^w.toNat) (max x2 y2))=hi∧-(2^w.toNat)≤hi∧hi≤2^w.toNat∧(hi=2^w.toNat∨x2≤hi)∧(hi=2^w.toNat∨x2≤hi):=by
  cases tp with
  | true=>exact ⟨_,rfl,by show -(2^w.toNat)≤(2^w.toNat:Int); omega,by show (2^w.toNat)≤(2^w.toNat:Int); omega,.inl rfl,.inl rfl⟩
  | false=>exact ⟨min (2^w.toNat) (max x2 y2),rfl,by omega,by omega,by omega,by omega⟩
 rw [hlo,hhi] at hI
 have P:(0:Rat)<((2^w.toNat:Int):Rat):=Rat.intCast_pos.2 (two_pos _)
 have sp:0<sE:=sE_pos
 obtain ⟨N,h⟩:=eX
 obtain ⟨M,o⟩:=SC_one 1 (dv m ee) sp
 refine ⟨lo,hi,ci_Cos m ee m ee w _ _ _ _ 0 hI,by omega,⟨p1,q2⟩,N+M,fun K hK=>?_⟩
 have h:=h K oO
 have o:=o K oO
 have m1:=Rat.mul_le_mul_of_nonneg_right o.1 (Rat.le_of_lt P)
 have m2:=Rat.mul_le_mul_of_nonneg_right o.2 (Rat.le_of_lt P)
 rw [Rat.neg_mul,Rat.add_mul,Rat.one_mul] at m1
 rw [Rat.add_mul,Rat.one_mul] at m2
 constructor
 ·rcases p3 with q | q
  ·rw [q,Rat.intCast_neg]; grind
  ·have:=Rat.intCast_le_intCast.2 q
   grind
 ·rcases q3 with q | q
  ·rw [q]; grind
  ·have:=Rat.intCast_le_intCast.2 q
   grind
theorem prod_bd {P x y:Int}(h1:-P≤x∧x≤P)(h2:-P≤y∧y≤P):-P*P≤x*y∧x*y≤P*P:=by
 have a:=Int.mul_nonneg (show 0≤P-x by omega) (show 0≤P+y by omega)
 have b:=Int.mul_nonneg (show 0≤P+x by omega) (show 0≤P-y by omega)
 have c:=Int.mul_nonneg (show 0≤P-x by omega) (show 0≤P-y by omega)
 have d:=Int.mul_nonneg (show 0≤P+x by omega) (show 0≤P+y by omega)
 constructor<;>grind
theorem clamp {x a b g:Rat}(hab:a≤b)(h1:a≤x+g)(h2:x≤b+g)(g0:0≤g):∃ X,a≤X∧X≤b∧-g≤X-x∧X-x≤g:=by
 by_cases k1:x<a
 ·exact ⟨a,Rat.le_refl,hab,by grind,by grind⟩
 ·by_cases k2:b<x
  ·exact ⟨b,hab,Rat.le_refl,by grind,by grind⟩
  ·exact ⟨x,by grind,by grind,by grind,by grind⟩
theorem EnE.neg {f:Nat→Rat}{t:Nat}{a b:Int}{x:Rat}(h:EnE f t a b x):EnE (fun K=>-(f K)) t (-b) (-a) x:=by
 obtain ⟨N,h⟩:=h
 refine ⟨N,fun K hK=>?_⟩
 have h:=h K hK
 rw [Rat.intCast_neg,Rat.intCast_neg,Rat.neg_mul]
 constructor<;>grind
theorem L_le2 {x w:Int}(hw:0≤w∧w≤200)(h1:-(2*2^w.toNat)≤x)(h2:x≤2*2^w.toNat):L x.natAbs≤8:=by
 have e:((2^(w.toNat+2):Nat):Int)=2^w.toNat*4:=by rw [← pow_cast,Int.pow_add]; rfl
 have:=two_pos w.toNat
 exact L_pow2 (n:=w.toNat+2) oO oO
end Go.Proofs.YtcbihoojfakhdaaGreatDoor


