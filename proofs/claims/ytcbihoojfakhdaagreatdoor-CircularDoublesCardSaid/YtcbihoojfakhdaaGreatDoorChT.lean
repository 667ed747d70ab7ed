/-
  Lower layers: what functions of the program compute, and plain facts. Conditions: as the theorems say.
-/
import Derived.Test.YtcbihoojfakhdaaGreatDoorChecked
import Derived.Test.YtcbihoojfakhdaaGreatDoorRows
import Derived.WalkKit
import Derived.ProofKit
import Derived.OpenShut
import Derived.Deep.DeepHandedRow
import Derived.Lib.LaidTab
import Derived.Lib.SmallJoins
import Derived.ChangeSlices
import Derived.Carry
import Derived.Test.YtcbihoojfakhdaaGreatDoorCards
import Derived.Test.YtcbihoojfakhdaaGreatDoorTie
import Derived.Test.YtcbihoojfakhdaaGreatDoorChS
set_option linter.unusedVariables false
set_option linter.unusedSimpArgs false
namespace Go.Proofs.YtcbihoojfakhdaaGreatDoor
theorem CS_fall {a b:Rat}(h0:0≤a)(h:a≤b)(h1:b≤1):Lq (CS b) (CS a):=by
 intro e he
 have hb:(a+b)*(1 / 2)+(b-a)*(1 / 2)=b:=by grind
 have ha:(a+b)*(1 / 2)+-((b-a)*(1 / 2))=a:=by grind
 obtain ⟨N,p⟩:=CS_addN ((a+b)*(1 / 2)) ((b-a)*(1 / 2)) (e:=e*(1 / 2)) (by grind)
 obtain ⟨M,q⟩:=CS_addN ((a+b)*(1 / 2)) (-((b-a)*(1 / 2))) (e:=e*(1 / 2)) (by grind)
 refine ⟨N+M+4,fun K hK=>?_⟩
 have p:=(p K (by omega)).1.1
 have q:=(q K (by omega)).1.2
 rw [hb] at p
 rw [ha,CS_neg,SN_neg] at q
 have s:=(SN_small (u:=(a+b)*(1 / 2)) (by grind) (by grind) (K:=K) (by omega)).1
 have t:=(SN_small (u:=(b-a)*(1 / 2)) (by grind) (by grind) (K:=K) (by omega)).1
 have m:=Rat.mul_nonneg s t
 rw [Rat.mul_neg] at q
 generalize SN ((a+b)*(1 / 2)) K*SN ((b-a)*(1 / 2)) K=x at *
 generalize CS ((a+b)*(1 / 2)) K*CS ((b-a)*(1 / 2)) K=y at *
 grind
theorem CS_nn {s:Rat}(h0:-1≤s)(h1:s≤1){K:Nat}(hK:3≤K):0≤CS s K:=by
 by_cases h:0≤s
 ·have a:=(CS_small h h1 hK).1
  have b:=Rat.mul_le_mul_of_nonneg_left h1 h
  grind
 ·have a:=(CS_small (u:=-s) (by grind) (by grind) hK).1
  have b:=Rat.mul_le_mul_of_nonneg_left (show -s≤1 by grind) (show 0≤-s by grind)
  rw [CS_neg] at a
  grind
theorem SN_rise {a b:Rat}(h0:-1≤a)(h:a≤b)(h1:b≤1):Lq (SN a) (SN b):=by
 intro e he
 have hb:(a+b)*(1 / 2)+(b-a)*(1 / 2)=b:=by grind
 have ha:(a+b)*(1 / 2)+-((b-a)*(1 / 2))=a:=by grind
 obtain ⟨N,p⟩:=CS_addN ((a+b)*(1 / 2)) ((b-a)*(1 / 2)) (e:=e*(1 / 2)) (by grind)
 obtain ⟨M,q⟩:=CS_addN ((a+b)*(1 / 2)) (-((b-a)*(1 / 2))) (e:=e*(1 / 2)) (by grind)
 refine ⟨N+M+4,fun K hK=>?_⟩
 have p:=(p K (by omega)).2.2
 have q:=(q K (by omega)).2.1
 rw [hb] at p
 rw [ha,CS_neg,SN_neg] at q
 have s:=CS_nn (s:=(a+b)*(1 / 2)) (by grind) (by grind) (K:=K) (by omega)
 have t:=(SN_small (u:=(b-a)*(1 / 2)) (by grind) (by grind) (K:=K) (by omega)).1
 have m:=Rat.mul_nonneg s t
 rw [Rat.mul_neg] at q
 generalize CS ((a+b)*(1 / 2)) K*SN ((b-a)*(1 / 2)) K=x at *
 generalize SN ((a+b)*(1 / 2)) K*CS ((b-a)*(1 / 2)) K=y at *
 grind
theorem CS_even (x:Rat):CS (-x)=CS x:=funext fun K=>CS_neg x K
theorem Lq.negs {f g:Nat→Rat}(h:Lq g f):Lq (fun K=>-(f K)) (fun K=>-(g K)):=fun e he=>by
 obtain ⟨N,h⟩:=h e he
 exact ⟨N,fun K hK=>by have:=h K hK; show -(f K)≤-(g K)+e; grind⟩
theorem qerr_pos {M:Nat}(h:1≤M):0<qerr M:=by
 unfold qerr
 have:(1:Rat)≤(M:Rat):=by exact_mod_cast h
 have:=Rat.mul_pos (show (0:Rat)<(M:Rat) by grind) eps0
 grind
theorem near_via (t d:Rat)(k:Int){M:Nat}(hM:1≤M)(hk:k.natAbs≤M)
  (h:Lq (fun K=>quad (k%4) (CS (t-(k:Rat)*cQ) K) (SN (t-(k:Rat)*cQ) K)) (fun K=>quad (k%4) (CS (d-(k:Rat)*cQ) K) (SN (d-(k:Rat)*cQ) K))):∃ N,∀ K,N≤K→SN t K≤SN d K+3*qerr M:=by
 obtain ⟨N1,a⟩:=near_SC t k 0 (.inl rfl) hk hM
 obtain ⟨N2,b⟩:=near_SC d k 0 (.inl rfl) hk hM
 obtain ⟨N3,h⟩:=h (qerr M) (qerr_pos hM)
 refine ⟨N1+N2+N3,fun K hK=>?_⟩
 have a:=(a K (by omega)).1
 have b:=(b K (by omega)).2
 have h:=h K (by omega)
 rw [Int.add_zero] at a b
 have a:SN t K≤_:=a
 have b:_≤SN d K+qerr M:=b
 have h:quad (k%4) (CS (t-(k:Rat)*cQ) K) (SN (t-(k:Rat)*cQ) K)≤quad (k%4) (CS (d-(k:Rat)*cQ) K) (SN (d-(k:Rat)*cQ) K)+qerr M:=h
 grind
theorem side_lo {d t1 t2:Rat}{k:Int}{M:Nat}(hM:1≤M)(hk:k.natAbs≤M)(h1:t1≤d)(h2:d≤t2)(r1:-1≤t1-(k:Rat)*cQ)(r2:t2-(k:Rat)*cQ≤1)(hb:k%4=3→(k:Rat)*cQ≤t1∨t2≤(k:Rat)*cQ) :
  (∃ N,∀ K,N≤K→SN t1 K≤SN d K+3*qerr M)∨(∃ N,∀ K,N≤K→SN t2 K≤SN d K+3*qerr M):=by
 rcases (show k%4=0∨k%4=1∨k%4=2∨k%4=3 by omega) with q | q | q | q
 ·refine .inl (near_via t1 d k hM hk ?_)
  rw [q]; exact SN_rise r1 (by grind) (by grind)
 ·by_cases z:0≤d-(k:Rat)*cQ
  ·refine .inr (near_via t2 d k hM hk ?_)
   rw [q]; exact CS_fall z (by grind) r2
  ·refine .inl (near_via t1 d k hM hk ?_)
   have c:=CS_fall (a:=-(d-(k:Rat)*cQ)) (b:=-(t1-(k:Rat)*cQ)) (by grind) (by grind) (by grind)
   rw [CS_even,CS_even] at c
   rw [q]; exact c
 ·refine .inr (near_via t2 d k hM hk ?_)
  rw [q]; exact (SN_rise (a:=d-(k:Rat)*cQ) (b:=t2-(k:Rat)*cQ) (by grind) (by grind) r2).negs
 ·rcases hb q with z | z
  ·refine .inl (near_via t1 d k hM hk ?_)
   rw [q]; exact (CS_fall (a:=t1-(k:Rat)*cQ) (b:=d-(k:Rat)*cQ) (by grind) (by grind) (by grind)).negs
  ·refine .inr (near_via t2 d k hM hk ?_)
   have c:=CS_fall (a:=-(t2-(k:Rat)*cQ)) (b:=-(d-(k:Rat)*cQ)) (by grind) (by grind) (by grind)
   rw [CS_even,CS_even] at c
   rw [q]; exact c.negs
theorem side_hi {d t1 t2:Rat}{k:Int}{M:Nat}(hM:1≤M)(hk:k.natAbs≤M)(h1:t1≤d)(h2:d≤t2)(r1:-1≤t1-(k:Rat)*cQ)(r2:t2-(k:Rat)*cQ≤1)(hb:k%4=1→(k:Rat)*cQ≤t1∨t2≤(k:Rat)*cQ) :
  (∃ N,∀ K,N≤K→SN d K≤SN t1 K+3*qerr M)∨(∃ N,∀ K,N≤K→SN d K≤SN t2 K+3*qerr M):=by
 have e:((-k:Int):Rat)*cQ=-((k:Rat)*cQ):=by rw [Rat.intCast_neg,Rat.neg_mul]
 have c:=side_lo (d:=-d) (t1:=-t2) (t2:=-t1) (k:=-k) hM (by omega) (by grind) (by grind) (by rw [e]; grind) (by rw [e]; grind) (fun q=>by
  rw [e]
  rcases hb (by omega) with z | z
  ·right; grind
  ·left; grind)
 rcases c with ⟨N,c⟩ | ⟨N,c⟩
 ·exact .inr ⟨N,fun K hK=>by have:=c K hK; rw [SN_neg,SN_neg] at this; grind⟩
 ·exact .inl ⟨N,fun K hK=>by have:=c K hK; rw [SN_neg,SN_neg] at this; grind⟩
theorem near_kq (d:Rat):∃ k:Int,-(4 / 5)≤d-(k:Rat)*cQ∧d-(k:Rat)*cQ≤4 / 5:=by
 have cb:=cQ_b
 have c0:0<cQ:=by grind
 have i0:=Rat.inv_pos.2 c0
 have ie:=inv_one c0
 have f:=flr_sc (d*cQ⁻¹+1 / 2) 0
 have one:(((2:Int)^0:Int):Rat)=1:=rfl
 rw [one,Rat.mul_one] at f
 refine ⟨flr (d*cQ⁻¹+1 / 2) ((0:Nat):Int),?_⟩
 generalize ((flr (d*cQ⁻¹+1 / 2) ((0:Nat):Int):Int):Rat)=k at *
 have a:=Rat.mul_le_mul_of_nonneg_right f.1 (Rat.le_of_lt c0)
 have b:=Rat.mul_le_mul_of_nonneg_right (Rat.le_of_lt f.2) (Rat.le_of_lt c0)
 have e:(d*cQ⁻¹+1 / 2)*cQ=d+cQ*(1 / 2):=by
  have:(d*cQ⁻¹+1 / 2)*cQ=d*(cQ⁻¹*cQ)+cQ*(1 / 2):=by grind
  rw [this,ie,Rat.mul_one]
 rw [e] at a b
 constructor<;>grind
theorem SN_comp (d:Rat){e:Rat}(he:0<e):∃ N,∀ K,N≤K→SN (cQ+-d) K≤CS d K+(3*eps+e)∧CS d K≤SN (cQ+-d) K+(3*eps+e):=by
 obtain ⟨N,a⟩:=CS_addN cQ (-d) (e:=e*(1 / 2)) (by grind)
 obtain ⟨M,o⟩:=CS_one d (e:=1 / 2) (by grind)
 refine ⟨N+M+96,fun K hK=>?_⟩
 have a:=(a K (by omega)).2
 have o:=o K (by omega)
 have c:=CQ (K:=K) (by omega)
 have e0:=eps0
 rw [CS_neg,SN_neg] at a
 have m1:=Rat.mul_le_mul_of_nonneg_left (show CS cQ K≤eps from c.1.2) (show 0≤3 / 2 - -(SN d K) by grind)
 have m2:=Rat.mul_le_mul_of_nonneg_left (show -eps≤CS cQ K from c.1.1) (show 0≤3 / 2 - -(SN d K) by grind)
 have m3:=Rat.mul_le_mul_of_nonneg_left (show SN cQ K-1≤eps from c.2.2) (show 0≤3 / 2+CS d K by grind)
 have m4:=Rat.mul_le_mul_of_nonneg_left (show -eps≤SN cQ K-1 from c.2.1) (show 0≤3 / 2+CS d K by grind)
 have n1:=Rat.mul_le_mul_of_nonneg_left (show CS cQ K≤eps from c.1.2) (show 0≤3 / 2+-(SN d K) by grind)
 have n2:=Rat.mul_le_mul_of_nonneg_left (show -eps≤CS cQ K from c.1.1) (show 0≤3 / 2+-(SN d K) by grind)
 have n3:=Rat.mul_le_mul_of_nonneg_left (show SN cQ K-1≤eps from c.2.2) (show 0≤3 / 2-CS d K by grind)
 have n4:=Rat.mul_le_mul_of_nonneg_left (show -eps≤SN cQ K-1 from c.2.1) (show 0≤3 / 2-CS d K by grind)
 constructor<;>grind
end Go.Proofs.YtcbihoojfakhdaaGreatDoor

namespace Go.Proofs.YtcbihoojfakhdaaGreatDoor
open Go.RowKit
set_option maxRecDepth 100000
set_option maxHeartbeats 4000000
theorem l17_DoublesF (b1:Bool)(l1:List Nat)(e1:Int)(b2:Bool)(l2:List Nat)(e2 w m ee n f q1 q2 q3 q4 q5 vs1 vs2 vs3 vs4 vc1 vc2 vc3 vc4 vu1 vu2 vu3 vu4 vp1 vp2 vp3 vp4 vo1 vo2 vo3 vo4 vh1 vh2 vh3 vh4 vt1 vt2 vt3 vt4 vv1 vv2 vv3 vv4 vm1 vm2 vm3 vm4 vd1 vd2 vd3 vd4:Int)(c0:(-9223372036854775808:Int)≤w∧w≤9223372036854775807)(c1:Impl Tryz.prog Amb 23 [] (.bool true))(c2:Impl Tryz.prog Amb 24 [(.agg [(.bool b1),(.sl 1 (U l1)),(.int .i64 e1),(.bool b2),(.sl 1 (U l2)),(.int .i64 e2)]),(.int .i64 10)] (.tup [(wV m ee n f),(.bool false)])):Impl Tryz.prog Amb 13 [(.agg [(.bool b1),(.sl 1 (U l1)),(.int .i64 e1),(.bool b2),(.sl 1 (U l2)),(.int .i64 e2)]),(.int .i64 w)] (.bool true):=by
 exact impl_ob hP hAmb Tryz.func13 (by kernel_rfl) (.lit<|.call (.bool true)<|.lits 4<|.call (.tup [(wV m ee n f),(.bool false)])<|.lits 4<|.ret)
  (cast_ob (aI True.intro (aI (c1 ) (aI (c2 ) ((vsub_refl (.bool true)))))) (by kernel_rfl))
theorem l17_DoublesT (b1:Bool)(l1:List Nat)(e1:Int)(b2:Bool)(l2:List Nat)(e2 w m ee n f q1 q2 q3 q4 q5 vs1 vs2 vs3 vs4 vc1 vc2 vc3 vc4 vu1 vu2 vu3 vu4 vp1 vp2 vp3 vp4 vo1 vo2 vo3 vo4 vh1 vh2 vh3 vh4 vt1 vt2 vt3 vt4 vv1 vv2 vv3 vv4 vm1 vm2 vm3 vm4 vd1 vd2 vd3 vd4:Int)(c0:(-9223372036854775808:Int)≤w∧w≤9223372036854775807)(c1:Impl Tryz.prog Amb 23 [] (.bool true))(c2:Impl Tryz.prog Amb 24 [(.agg [(.bool b1),(.sl 1 (U l1)),(.int .i64 e1),(.bool b2),(.sl 1 (U l2)),(.int .i64 e2)]),(.int .i64 10)] (.tup [(wV m ee n f),(.bool true)]))(c3:Impl Tryz.prog Amb 34 [(wV m ee m ee),(.int .i64 ((10:Int)+(w%80)))] (.tup [(wV vs1 vs2 vs3 vs4),(.int .i64 0)]))(c4:Impl Tryz.prog Amb 35 [(wV m ee m ee),(.int .i64 ((10:Int)+(w%80)))] (.tup [(wV vc1 vc2 vc3 vc4),(.int .i64 0)]))(c5:Impl Tryz.prog Amb 38 [(yV m ee),(.int .i64 1)] (.tup [(yV q1 q2),(.int .i64 q3)]))(c6:Impl Tryz.prog Amb 34 [(wV q1 q2 q1 q2),(.int .i64 ((10:Int)+(w%80)))] (.tup [(wV vu1 vu2 vu3 vu4),(.int .i64 0)]))(c7:Impl Tryz.prog Amb 61 [(.int .i64 ((10:Int)+(w%80)))] (.tup [(wV vp1 vp2 vp3 vp4),(.int .i64 0)]))(c8:Impl Tryz.prog Amb 63 [(.int .i64 2),(.int .i64 2)] (wV vo1 vo2 vo3 vo4))(c9:Impl Tryz.prog Amb 62 [(wV vp1 vp2 vp3 vp4),(wV vo1 vo2 vo3 vo4),(.int .i64 ((10:Int)+(w%80)))] (.tup [(wV vh1 vh2 vh3 vh4),(.int .i64 0)]))(c10:Impl Tryz.prog Amb 64 [(wV vh1 vh2 vh3 vh4),(wV m ee m ee),(.int .i64 (((10:Int)+(w%80))+60))] (.tup [(wV vt1 vt2 vt3 vt4),(.int .i64 0)]))(c11:Impl Tryz.prog Amb 34 [(wV vt1 vt2 vt3 vt4),(.int .i64 ((10:Int)+(w%80)))] (.tup [(wV vv1 vv2 vv3 vv4),(.int .i64 0)]))(c12:Impl Tryz.prog Amb 53 [(wV vs1 vs2 vs3 vs4),(wV vc1 vc2 vc3 vc4),(.int .i64 ((10:Int)+(w%80)))] (.tup [(wV vm1 vm2 vm3 vm4),(.int .i64 q4)]))(c13:Impl Tryz.prog Amb 53 [(wV vo1 vo2 vo3 vo4),(wV vm1 vm2 vm3 vm4),(.int .i64 ((10:Int)+(w%80)))] (.tup [(wV vd1 vd2 vd3 vd4),(.int .i64 q5)]))(c14:Impl Tryz.prog Amb 52 [(wV vd1 vd2 vd3 vd4),(wV vu1 vu2 vu3 vu4)] (.int .i64 0))(c15:Impl Tryz.prog Amb 52 [(wV vv1 vv2 vv3 vv4),(wV vc1 vc2 vc3 vc4)] (.int .i64 0)):Impl Tryz.prog Amb 13 [(.agg [(.bool b1),(.sl 1 (U l1)),(.int .i64 e1),(.bool b2),(.sl 1 (U l2)),(.int .i64 e2)]),(.int .i64 w)] (.bool true):=by
 exact impl_ob hP hAmb Tryz.func13 (by kernel_rfl) (.lit<|.call (.bool true)<|.lits 4<|.call (.tup [(wV m ee n f),(.bool true)])<|.lits 6<|.call (.int .i64 (w%80))<|.lit<|.yes<|.lits 2<|.call (.tup [(wV vs1 vs2 vs3 vs4),(.int .i64 0)])<|.lits 3<|.call (.tup [(wV vc1 vc2 vc3 vc4),(.int .i64 0)])<|.lits 3<|.call (.tup [(yV q1 q2),(.int .i64 q3)])<|.lits 5<|.call (.tup [(wV vu1 vu2 vu3 vu4),(.int .i64 0)])<|.lits 2<|.call (.tup [(wV vp1 vp2 vp3 vp4),(.int .i64 0)])<|.lits 3<|.call (wV vo1 vo2 vo3 vo4)<|.lit<|.call (.tup [(wV vh1 vh2 vh3 vh4),(.int .i64 0)])<|.lits 3<|.yes<|.lit<|.call (.tup [(wV vt1 vt2 vt3 vt4),(.int .i64 0)])<|.lits 3<|.call (.tup [(wV vv1 vv2 vv3 vv4),(.int .i64 0)])<|.lits 30<|.call (.tup [(wV vm1 vm2 vm3 vm4),(.int .i64 q4)])<|.lits 2<|.call (wV vo1 vo2 vo3 vo4)<|.lits 2<|.call (.tup [(wV vd1 vd2 vd3 vd4),(.int .i64 q5)])<|.lits 3<|.call (.int .i64 0)<|.lits 7<|.call (.int .i64 0)<|.lits 4<|.ret)
  (cast_ob (aI True.intro (aI (c1 ) (aI (c2 ) (aI (mill_Mod w 80 oS oS) (have f2:=Int.emod_lt_of_pos w (show (0:Int)<80 by first | omega | assumption); have f1:=Int.emod_nonneg w (show (80:Int)≠0 by first | omega | assumption); aI (fits_i64 oS:(fits .i64 ((10:Int)+(w%80)))=true) (aI (c3 ) (aI (c4 ) (aI (c5 ) (aI (c6 ) (aI (c7 ) (aI (c8 ) (aI (c9 ) (aI (fits_i64 oS:(fits .i64 (((10:Int)+(w%80))+60))=true) (aI (c10 ) (aI (c11 ) (aI (c12 ) (aI (c8 ) (aI (c13 ) (aI (c14 ) (aI (c15 ) ((vsub_refl (.bool true))))))))))))))))))))))) (by kernel_rfl))
theorem qmax_ge2 {a b:Rat}(h:a≤b):qmax b a=b:=by
 rcases qmax_or b a with ⟨q,k⟩ | ⟨q,_⟩
 ·exact absurd k (Rat.not_lt.2 h)
 ·exact q
theorem two_mk:mkM 2 0=1∧mkX 2 0=1∧dv 1 1=2:=⟨by kernel_rfl,by kernel_rfl,of_decide_eq_true (by kernel_rfl)⟩
theorem dv_dbl (a w:Int):2*dv a w=dv (2*a) w:=by unfold dv; rw [Rat.intCast_mul,Rat.mul_assoc]; rfl
theorem g_dbl (a b w:Int)(hw:0≤w∧w≤200)(o:a≤b)(la:L a.natAbs≤8)(lb:L b.natAbs≤8):Impl Tryz.prog Amb 53 [(wV (mkM 2 0) (mkX 2 0) (mkM 2 0) (mkX 2 0)),(wV (mkM a (-w)) (mkX a (-w)) (mkM b (-w)) (mkX b (-w))),(.int .i64 w)] (.tup [(wV (mkM (2*a) (-w)) (mkX (2*a) (-w)) (mkM (2*b) (-w)) (mkX (2*b) (-w))),(.int .i64 0)]):=by
 have t:=two_mk
 have A:=dv_g (w:=w) la oO oO
 have B:=dv_g (w:=w) lb oO oO
 have l1:L (1:Int).natAbs≤1:=L_lit 1 (by decide)
 rw [t.1,t.2.1]
 have F1:FitI 1 1 1 1:=⟨⟨by omega,by omega,by omega⟩,⟨by omega,by omega,by omega⟩,Rat.le_refl⟩
 have F2:=g_fit hw o la lb
 have kq:=ml_ok (w:=w) F1 F2 hw
 have ab:2*dv a (-w)≤2*dv b (-w):=Rat.mul_le_mul_of_nonneg_left (dv_le.2 o) (by decide)
 have e1:mlLo 1 1 1 1 (mkM a (-w)) (mkX a (-w)) (mkM b (-w)) (mkX b (-w))=dv (2*a) (-w):=by
  unfold mlLo
  rw [t.2.2,A.1,B.1,qmin_le ab,qmin_le Rat.le_refl,qmin_le ab,dv_dbl]
 have e2:mlHi 1 1 1 1 (mkM a (-w)) (mkX a (-w)) (mkM b (-w)) (mkX b (-w))=dv (2*b) (-w):=by
  unfold mlHi
  rw [t.2.2,A.1,B.1,qmax_le ab,qmax_ge2 ab,qmax_le Rat.le_refl,dv_dbl]
 have f1:=(flr_same (2*a) w).1
 have f2:=(flr_same (2*b) w).2
 rw [← e1] at f1
 rw [← e2] at f2
 have key:=enV_ok kq
 rw [f1,f2] at key
 exact impl_eq key (ar_Mul 1 1 1 1 (mkM a (-w)) (mkX a (-w)) (mkM b (-w)) (mkX b (-w)) w oO oO oO oO oO oO oO oO (ml_fine oO oO oO oO) (ml_fine oO oO oO oO) (ml_fine oO oO oO oO) (ml_fine oO oO oO oO) oO)
theorem g_halfpi (w:Int)(hw:0≤w∧w≤100):∃ pl ph hl hh:Int,Impl Tryz.prog Amb 61 [(.int .i64 w)] (.tup [(wV (mkM pl (-w)) (mkX pl (-w)) (mkM ph (-w)) (mkX ph (-w))),(.int .i64 0)])∧Impl Tryz.prog Amb 62 [(wV (mkM pl (-w)) (mkX pl (-w)) (mkM ph (-w)) (mkX ph (-w))),(wV (mkM 2 0) (mkX 2 0) (mkM 2 0) (mkX 2 0)),(.int .i64 w)] (.tup [(wV (mkM hl (-w)) (mkX hl (-w)) (mkM hh (-w)) (mkX hh (-w))),(.int .i64 0)]) ∧
  ((hl:Rat)≤cQ*((2^w.toNat:Int):Rat)∧cQ*((2^w.toNat:Int):Rat)≤(hh:Rat))∧(hl≤hh∧hh-hl≤4)∧(L hl.natAbs≤8∧L hh.natAbs≤8):=by
 have hP:=ct_Pi w oO
 have b:=pi_ok (s:=w+24) oO
 have bw:piHi (w+24)-piLo (w+24)<16777216:=by
  have:=nbits_lt (piHi (w+24)-piLo (w+24)).natAbs
  have p:=Nat.pow_le_pow_right (n:=2) oO b.2.2
  omega
 have cl:=pq_at (t:=(w+24).toNat) oO
 rw [show (((w+24).toNat:Nat):Int)=w+24 by omega] at cl
 have e24:((2^((w+24).toNat+1):Int):Rat)=((2^w.toNat:Int):Rat)*33554432:=by
  rw [show (w+24).toNat+1=w.toNat+25 by omega,Int.pow_add,Rat.intCast_mul]; rfl
 rw [e24] at cl
 have T0:=two_pos w.toNat
 have P:(0:Rat)<((2^w.toNat:Int):Rat):=Rat.intCast_pos.2 T0
 have cb:=cQ_b
 have lo0:0≤cQ*((2^w.toNat:Int):Rat):=Rat.mul_nonneg (by grind) (Rat.le_of_lt P)
 have c2T:=Rat.mul_le_mul_of_nonneg_right (show cQ≤2 by grind) (Rat.le_of_lt P)
 generalize hlo:piLo (w+24)=x at *
 generalize hhi:piHi (w+24)=y at *
 have e16:(2:Int)^24=16777216:=rfl
 generalize hpl:x / 2^24=pl at *
 generalize hph:-(-y / 2^24)=ph at *
 rw [e16] at hpl hph
 have q1:pl*16777216≤x∧x≤pl*16777216+16777215:=by omega
 have q2:y≤ph*16777216∧ph*16777216≤y+16777215:=by omega
 have q3:pl≤ph∧ph-pl≤2:=by
  have:x≤y:=Rat.intCast_le_intCast.1 (Rat.le_trans cl.1 cl.2)
  omega
 have r1:(pl:Rat)≤2*(cQ*((2^w.toNat:Int):Rat)):=by
  have:=Rat.intCast_le_intCast.2 q1.1
  rw [Rat.intCast_mul] at this
  have:(pl:Rat)*16777216≤(x:Rat):=this
  grind
 have r2:2*(cQ*((2^w.toNat:Int):Rat))≤(ph:Rat):=by
  have:=Rat.intCast_le_intCast.2 q2.1
  rw [Rat.intCast_mul] at this
  have:(y:Rat)≤(ph:Rat)*16777216:=this
  grind
 have s1:pl≤4*2^w.toNat:=by
  refine Rat.intCast_le_intCast.1 ?_
  rw [Rat.intCast_mul]
  show (pl:Rat)≤4*((2^w.toNat:Int):Rat)
  grind
 have s2:0≤ph:=by
  refine Rat.intCast_nonneg.1 ?_
  grind
 have L8:∀ z:Int,-(16*2^w.toNat)≤z→z≤16*2^w.toNat→L z.natAbs≤8:=fun z a b=>by
  have e:((2^(w.toNat+5):Nat):Int)=2^w.toNat*32:=by rw [← pow_cast,Int.pow_add]; rfl
  exact L_pow2 (n:=w.toNat+5) oO oO
 have l1:=L8 pl oO oO
 have l2:=L8 ph oO oO
 have t:=two_mk
 have A:=dv_g (w:=w) l1 oO oO
 have B:=dv_g (w:=w) l2 oO oO
 have lone:L (1:Int).natAbs≤1:=L_lit 1 (by decide)
 have ab:dv pl (-w) / 2≤dv ph (-w) / 2:=by have:=(dv_le (c:=-w)).2 q3.1; grind
 have e1:dvLo (mkM pl (-w)) (mkX pl (-w)) (mkM ph (-w)) (mkX ph (-w)) 1 1 1 1=dv pl (-w) / 2:=by
  unfold dvLo
  rw [t.2.2,A.1,B.1,qmin_le Rat.le_refl,qmin_le ab,qmin_le ab]
 have e2:dvHi (mkM pl (-w)) (mkX pl (-w)) (mkM ph (-w)) (mkX ph (-w)) 1 1 1 1=dv ph (-w) / 2:=by
  unfold dvHi
  rw [t.2.2,A.1,B.1,qmax_le Rat.le_refl,qmax_le ab,qmax_le Rat.le_refl]
 have dd:∀ z:Int,dv z (-w)=dv (2*z) (-w) / 2:=fun z=>by rw [← dv_dbl]; grind
 have half:∀ a b:Rat,a / 2≤b / 2↔a≤b:=fun a b=>by constructor<;>intro h<;>grind
 have f1:2*flr (dv pl (-w) / 2) w≤pl∧pl≤2*flr (dv pl (-w) / 2) w+1:=by
  constructor
  ·have:=flr_le (dv pl (-w) / 2) w
   rw [dd,half] at this
   exact dv_le.1 this
  ·have:pl / 2≤flr (dv pl (-w) / 2) w:=le_flr.2 (by rw [dd,half]; exact dv_le.2 oO)
   omega
 have f2:ph≤2*cei (dv ph (-w) / 2) w∧2*cei (dv ph (-w) / 2) w≤ph+1:=by
  constructor
  ·have:=cei_ge (dv ph (-w) / 2) w
   rw [dd (cei (dv ph (-w) / 2) w),half] at this
   exact dv_le.1 this
  ·have:cei (dv ph (-w) / 2) w≤(ph+1) / 2:=cei_le.2 (by rw [dd ((ph+1) / 2),half]; exact dv_le.2 oO)
   omega
 rw [← e1] at f1
 rw [← e2] at f2
 have l3:=L8 (flr (dvLo (mkM pl (-w)) (mkX pl (-w)) (mkM ph (-w)) (mkX ph (-w)) 1 1 1 1) w) oO oO
 have l4:=L8 (cei (dvHi (mkM pl (-w)) (mkX pl (-w)) (mkM ph (-w)) (mkX ph (-w)) 1 1 1 1) w) oO oO
 have kq:enE (dvLo (mkM pl (-w)) (mkX pl (-w)) (mkM ph (-w)) (mkX ph (-w)) 1 1 1 1) (dvHi (mkM pl (-w)) (mkX pl (-w)) (mkM ph (-w)) (mkX ph (-w)) 1 1 1 1) w=0:=en_ok oO (by rw [e1,e2]; exact ab) oO oO
 have hD:=impl_eq (enV_ok kq) (ar_DivE (mkM pl (-w)) (mkX pl (-w)) (mkM ph (-w)) (mkX ph (-w)) 1 1 1 1 w oO oO oO oO oO oO oO oO oO rfl oO)
 refine ⟨pl,ph,_,_,hP,by rw [t.1,t.2.1]; exact hD,⟨?_,?_⟩,by omega,l3,l4⟩
 ·have:=Rat.intCast_le_intCast.2 f1.1
  rw [Rat.intCast_mul] at this
  have:(2:Rat)*_≤(pl:Rat):=this
  grind
 ·have:=Rat.intCast_le_intCast.2 f2.1
  rw [Rat.intCast_mul] at this
  have:(ph:Rat)≤(2:Rat)*_:=this
  grind
theorem exp_hi {m e:Int}(v:vdb m e=true)(d1:-4294967296≤dv m e)(d2:dv m e≤4294967296):e≤130:=by
 by_cases hm:m=0
 ·rcases vdb_iff.1 v with q | q
  ·omega
  ·exact absurd hm q.1
 refine Decidable.byContradiction fun hn=>?_
 have a:dv 1 (33:Int)≤dv (m.natAbs:Int) e:=by
  rw [dv_at (m:=(m.natAbs:Int)) (e:=e) (c:=33) oO,dv_le]
  have p:=two_pos (e-33).toNat
  have:=Int.mul_le_mul (show (1:Int)≤(m.natAbs:Int) by omega) (show (1:Int)≤2^(e-33).toNat by omega) oO oO
  omega
 have d33:dv 1 33=8589934592:=of_decide_eq_true (by kernel_rfl)
 rw [d33] at a
 rcases (show (m.natAbs:Int)=m∨(m.natAbs:Int)=-m by omega) with q | q
 ·rw [q] at a; grind
 ·rw [q,dv_neg] at a; grind
theorem L_of_dv {x v:Int}(hv:0≤v∧v≤160)(h1:-2000≤dv x (-v))(h2:dv x (-v)≤2000):L x.natAbs≤8:=by
 have k:∀ k:Int,dv (k*2^v.toNat) (-v)=(k:Rat):=fun k=>by
  rw [dv_shl,show (-v+(v.toNat:Int))=0 by omega]; unfold dv; rw [zp_zero,Rat.mul_one]
 have k1:=k (-2000)
 have k2:=k 2000
 have a:(-2000)*2^v.toNat≤x:=(dv_le (c:=-v)).1 (by rw [k1]; exact h1)
 have b:x≤2000*2^v.toNat:=(dv_le (c:=-v)).1 (by rw [k2]; exact h2)
 have e:((2^(v.toNat+11):Nat):Int)=2^v.toNat*2048:=by rw [← pow_cast,Int.pow_add]; rfl
 have:=two_pos v.toNat
 exact L_pow2 (n:=v.toNat+11) oO oO
theorem g_turned (hl hh m ee w:Int)(hw:10≤w∧w≤100)(o:hl≤hh∧hh-hl≤4)(l1:L hl.natAbs≤8)(l2:L hh.natAbs≤8)(hm:L m.natAbs≤2)(he:-220≤ee∧ee≤104)(c:(hl:Rat)≤cQ*((2^w.toNat:Int):Rat)∧cQ*((2^w.toNat:Int):Rat)≤(hh:Rat))(hd:-1024≤dv m ee∧dv m ee≤1024) :
  ∃ a b p q:Int,Impl Tryz.prog Amb 64 [(wV (mkM hl (-w)) (mkX hl (-w)) (mkM hh (-w)) (mkX hh (-w))),(wV m ee m ee),(.int .i64 (w+60))] (.tup [(wV a b p q),(.int .i64 0)])∧(L a.natAbs≤20∧L p.natAbs≤20)∧((-440≤b∧b≤130)∧(-440≤q∧q≤130)) ∧
   (dv a b≤cQ-dv m ee∧cQ-dv m ee≤dv p q)∧dv p q-dv a b≤1 / 100:=by
 have A:=dv_g (w:=w) l1 oO oO
 have B:=dv_g (w:=w) l2 oO oO
 have F1:=g_fit (w:=w) oO o.1 l1 l2
 have F2:FitI m ee m ee:=⟨⟨by omega,by omega,by omega⟩,⟨by omega,by omega,by omega⟩,Rat.le_refl⟩
 have kq:=sb_ok (w:=w+60) F1 F2 oO
 have lq:=(sb_L (w:=w+60) F1 F2 oO).1
 have nm:=L_abs_neg m
 have hS:=impl_eq (enV_ok kq) (ar_Sub (mkM hl (-w)) (mkX hl (-w)) (mkM hh (-w)) (mkX hh (-w)) m ee m ee (w+60) oO oO oO oO oO oO oO oO (ad_fine oO oO oO oO) (ad_fine oO oO oO oO) oO)
 rw [A.1,B.1] at lq
 have P:(0:Rat)<((2^w.toNat:Int):Rat):=Rat.intCast_pos.2 (two_pos _)
 have u1:dv hl (-w)≤cQ:=by
  refine Rat.le_of_mul_le_mul_right (c:=((2^w.toNat:Int):Rat)) ?_ P
  rw [dv_T oO]; exact c.1
 have u2:cQ≤dv hh (-w):=by
  refine Rat.le_of_mul_le_mul_right (c:=((2^w.toNat:Int):Rat)) ?_ P
  rw [dv_T oO]; exact c.2
 have small:∀ k v:Int,0≤k→10≤v→dv k (-v)≤dv k (-10):=fun k v hk hv=>by
  rw [dv_at (m:=k) (e:=-10) (c:=-v) oO,dv_le]
  have p:=two_pos (-10 - -v).toNat
  have:=Int.mul_le_mul_of_nonneg_left (show (1:Int)≤2^(-10 - -v).toNat by omega) hk
  omega
 have n10:dv 1 (-10)=1 / 1024∧dv 4 (-10)=4 / 1024:=⟨of_decide_eq_true (by kernel_rfl),of_decide_eq_true (by kernel_rfl)⟩
 have w4:dv hh (-w)≤dv hl (-w)+4 / 1024:=by
  have s:=small 4 w oO oO
  rw [n10.2] at s
  have e:=dv_plus hl 4 (-w)
  have m:=(dv_le (c:=-w)).2 (show hh≤hl+4 by omega)
  grind
 have one:=small 1 (w+60) oO oO
 rw [n10.1] at one
 generalize hr1:dv hl (-w)+-(dv m ee)=r1 at *
 generalize hr2:dv hh (-w)+-(dv m ee)=r2 at *
 have g1:=flr_le r1 (w+60)
 have g2:r1≤dv (flr r1 (w+60)) (-(w+60))+dv 1 (-(w+60)):=by
  rw [dv_plus]
  refine Rat.not_lt.1 fun h=>?_
  have:=le_flr.2 (Rat.le_of_lt h)
  omega
 have g3:=cei_ge r2 (w+60)
 have g4:dv (cei r2 (w+60)) (-(w+60))≤r2+dv 1 (-(w+60)):=by
  have e:=dv_plus (cei r2 (w+60)-1) 1 (-(w+60))
  rw [Int.sub_add_cancel] at e
  rw [← e]
  have:dv (cei r2 (w+60)-1) (-(w+60))≤r2:=by
   refine Rat.not_lt.1 fun h=>?_
   have:=cei_le.2 (Rat.le_of_lt h)
   omega
  grind
 have e1:flr (dv (mkM hl (-w)) (mkX hl (-w))+-(dv m ee)) (w+60)=flr r1 (w+60):=by rw [A.1,hr1]
 have e2:cei (dv (mkM hh (-w)) (mkX hh (-w))+-(dv m ee)) (w+60)=cei r2 (w+60):=by rw [B.1,hr2]
 rw [e1,e2] at hS
 have C:=dv_g (w:=w+60) lq.1 oO oO
 have D:=dv_g (w:=w+60) lq.2 oO oO
 have mf1:=mk_fit (m:=flr r1 (w+60)) (e:=-(w+60)) oO oO
 have mf2:=mk_fit (m:=cei r2 (w+60)) (e:=-(w+60)) oO oO
 have cb:=cQ_b
 generalize flr r1 (w+60)=x at *
 generalize cei r2 (w+60)=y at *
 have h1:=exp_hi C.2.2.2.1 (by rw [C.1]; grind) (by rw [C.1]; grind)
 have h2:=exp_hi D.2.2.2.1 (by rw [D.1]; grind) (by rw [D.1]; grind)
 refine ⟨_,_,_,_,hS,⟨?_,?_⟩,⟨⟨by omega,h1⟩,⟨by omega,h2⟩⟩,?_,?_⟩
 ·have:=L_of_dv (x:=x) (v:=w+60) oO (by grind) (by grind)
  omega
 ·have:=L_of_dv (x:=y) (v:=w+60) oO (by grind) (by grind)
  omega
 ·rw [C.1,D.1]; constructor<;>grind
 ·rw [C.1,D.1]; grind
theorem le_gap {f f':Nat→Rat}{t:Nat}{a b c d:Int}{g g' x:Rat}(h:EnE f t a b g)(k:EnE f' t c d g')(hn:∃ N,∀ K,N≤K→f K≤f' K+x)(hx:g+g'+x*((2^t:Int):Rat)<1):a≤d:=by
 obtain ⟨N1,h⟩:=h
 obtain ⟨N2,k⟩:=k
 obtain ⟨N3,hn⟩:=hn
 have h:=(h (N1+N2+N3) oO).1
 have k:=(k (N1+N2+N3) oO).2
 have hn:=hn (N1+N2+N3) oO
 have P:(0:Rat)<((2^t:Int):Rat):=Rat.intCast_pos.2 (two_pos t)
 have m:=Rat.mul_le_mul_of_nonneg_right hn (Rat.le_of_lt P)
 rw [Rat.add_mul] at m
 have:(a:Rat)<((d+1:Int):Rat):=by
  rw [Rat.intCast_add]; show _<(d:Rat)+1; grind
 have:=Rat.intCast_lt_intCast.1 this
 omega
theorem eps_sE:4*eps≤qerr sM:=of_decide_eq_true (by kernel_rfl)
theorem comp_meet {a b d:Rat}{v x1 x2 y1 y2 c1 c2:Int}{tp bt:Bool}(hv:10≤v∧v≤100)(o:a≤cQ-d∧cQ-d≤b)(ob:b-a≤1 / 100)(hd:-1024≤d∧d≤1024)(eX:EnE (SC 0 a) v.toNat x1 x2 (sE*((2^v.toNat:Int):Rat)))(eY:EnE (SC 0 b) v.toNat y1 y2 (sE*((2^v.toNat:Int):Rat)))
  (eC:EnE (SC 1 d) v.toNat c1 c2 (sE*((2^v.toNat:Int):Rat))) (pT:Tp a b v (1-0) tp) (pB:Tp a b v (3-0) bt) :
  (if bt then -(2^v.toNat) else max (-(2^v.toNat)) (min x1 y1))≤c2∧c1≤(if tp then 2^v.toNat else min (2^v.toNat) (max x2 y2)):=by
 have sc:=sE_sc (t:=v.toNat) oO
 have oC:=enc_one (by grind) eC
 have cb:=cQ_b
 have P:(0:Rat)<((2^v.toNat:Int):Rat):=Rat.intCast_pos.2 (two_pos _)
 have F0:(0:Rat)<((2^(v+8).toNat:Int):Rat):=Rat.intCast_pos.2 (two_pos _)
 obtain ⟨k,k1,k2⟩:=near_kq (cQ-d)
 have hk:k.natAbs≤sM:=by
  have n1:k≤1000:=by
   refine Decidable.byContradiction fun hn=>?_
   have m:=Rat.mul_le_mul_of_nonneg_right (Rat.intCast_le_intCast.2 (show (1001:Int)≤k by omega)) (show 0≤cQ by grind)
   have m:(1001:Rat)*cQ≤(k:Rat)*cQ:=m
   grind
  have n2:-1000≤k:=by
   refine Decidable.byContradiction fun hn=>?_
   have z:(k:Rat)≤-1001:=Rat.intCast_le_intCast.2 (show k≤-1001 by omega)
   have m:=Rat.mul_le_mul_of_nonneg_right z (show 0≤cQ by grind)
   grind
  unfold sM; omega
 have M1:1≤sM:=by unfold sM; omega
 have ee:cQ-d=cQ+-d:=by grind
 have c4:=eps_sE
 have m4:=Rat.mul_le_mul_of_nonneg_right c4 (Rat.le_of_lt P)
 obtain ⟨N0,cc⟩:=SN_comp d eps0
 have sg:sE*((2^v.toNat:Int):Rat)+sE*((2^v.toNat:Int):Rat)+(3*qerr sM+4*eps)*((2^v.toNat:Int):Rat)<1:=by
  rw [Rat.add_mul]
  have:3*qerr sM*((2^v.toNat:Int):Rat)=3*(qerr sM*((2^v.toNat:Int):Rat)):=by grind
  grind
 have clear_:∀ (z cc:Int) (g:Bool),Tp a b v cc g→g=false→(z-cc)%4=0→(z:Rat)*cQ≤a∨b≤(z:Rat)*cQ:=fun z cc g h hg hz=>by
  rcases h.2 hg z hz with q | q
  ·left
   refine Rat.le_of_mul_le_mul_right (c:=((2^(v+8).toNat:Int):Rat)) ?_ F0
   grind
  ·right
   refine Rat.le_of_mul_le_mul_right (c:=((2^(v+8).toNat:Int):Rat)) ?_ F0
   grind
 constructor
 ·cases bt with
  | true=>show -(2^v.toNat)≤c2; exact oC.2
  | false =>
   show max (-(2^v.toNat)) (min x1 y1)≤c2
   have key:x1≤c2∨y1≤c2:=by
    rcases side_lo M1 hk o.1 o.2 (by grind) (by grind) (fun hz=>clear_ k _ _ pB rfl oO) with ⟨N,s⟩ | ⟨N,s⟩
    ·exact .inl (le_gap eX eC ⟨N+N0,fun K hK=>by
      have s:=s K oO
      have cc:=(cc K oO).1
      rw [ee] at s
      show SN a K≤CS d K+_
      grind⟩ sg)
    ·exact .inr (le_gap eY eC ⟨N+N0,fun K hK=>by
      have s:=s K oO
      have cc:=(cc K oO).1
      rw [ee] at s
      show SN b K≤CS d K+_
      grind⟩ sg)
   have:=oC.2
   omega
 ·cases tp with
  | true=>show c1≤2^v.toNat; exact oC.1
  | false =>
   show c1≤min (2^v.toNat) (max x2 y2)
   have key:c1≤x2∨c1≤y2:=by
    rcases side_hi M1 hk o.1 o.2 (by grind) (by grind) (fun hz=>clear_ k _ _ pT rfl oO) with ⟨N,s⟩ | ⟨N,s⟩
    ·exact .inl (le_gap eC eX ⟨N+N0,fun K hK=>by
      have s:=s K oO
      have cc:=(cc K oO).2
      rw [ee] at s
      show CS d K≤SN a K+_
      grind⟩ sg)
    ·exact .inr (le_gap eC eY ⟨N+N0,fun K hK=>by
      have s:=s K oO
      have cc:=(cc K oO).2
      rw [ee] at s
      show CS d K≤SN b K+_
      grind⟩ sg)
   have:=oC.1
   omega
theorem prod_near {X Y s c g T:Rat}(g0:0≤g)(gT:g≤T)(x1:-g≤X-s)(x2:X-s≤g)(y1:-g≤Y-c)(y2:Y-c≤g)(a1:-T≤X)(a2:X≤T)(b1:-T≤Y)(b2:Y≤T):-(3*(T*g))≤X*Y-s*c∧X*Y-s*c≤3*(T*g):=by
 have p:=mul_bd (p:=Y) (P:=T) (x:=X-s) (a:=g) b1 b2 x1 x2
 have q:=mul_bd (p:=s) (P:=2*T) (x:=Y-c) (a:=g) (by grind) (by grind) y1 y2
 have e:X*Y-s*c=Y*(X-s)+s*(Y-c):=by grind
 have f:2*T*g=2*(T*g):=by grind
 rw [e]
 rw [f] at q
 generalize T*g=z at *
 constructor<;>grind
theorem gle {x T:Rat}(h:8192*x≤1)(h0:0≤x)(h1:1≤T):x≤T:=by grind
theorem dbl_meet {d d2:Rat}{v s1 s2 c1 c2 u1 u2 m1 m2:Int}(hd:d2=d+d)(hv:10≤v∧v≤100)(os:s1≤s2)(oc:c1≤c2)(bs:-(2^v.toNat)≤s1∧s2≤2^v.toNat)(bc:-(2^v.toNat)≤c1∧c2≤2^v.toNat)
  (eS:EnE (SC 0 d) v.toNat s1 s2 (sE*((2^v.toNat:Int):Rat))) (eC:EnE (SC 1 d) v.toNat c1 c2 (sE*((2^v.toNat:Int):Rat))) (eU:EnE (SC 0 d2) v.toNat u1 u2 (sE*((2^v.toNat:Int):Rat)))
  (hm:∀ X Y:Rat,(s1:Rat)≤X→X≤(s2:Rat)→(c1:Rat)≤Y→Y≤(c2:Rat)→(m1:Rat)*((2^v.toNat:Int):Rat)≤X*Y∧X*Y≤(m2:Rat)*((2^v.toNat:Int):Rat)):2*m1≤u2∧u1≤2*m2:=by
 have sc:=sE_sc (t:=v.toNat+10) oO
 have e10:((2^(v.toNat+10):Int):Rat)=((2^v.toNat:Int):Rat)*1024:=by rw [Int.pow_add,Rat.intCast_mul]; rfl
 rw [e10] at sc
 have P:(0:Rat)<((2^v.toNat:Int):Rat):=Rat.intCast_pos.2 (two_pos _)
 have P1:(1:Rat)≤((2^v.toNat:Int):Rat):=Rat.intCast_le_intCast.2 (show (1:Int)≤2^v.toNat from two_pos _)
 have c1':=Rat.intCast_le_intCast.2 bs.1
 have c2':=Rat.intCast_le_intCast.2 bs.2
 have c3':=Rat.intCast_le_intCast.2 bc.1
 have c4':=Rat.intCast_le_intCast.2 bc.2
 rw [Rat.intCast_neg] at c1' c3'
 obtain ⟨N1,eS⟩:=eS
 obtain ⟨N2,eC⟩:=eC
 obtain ⟨N3,eU⟩:=eU
 obtain ⟨N4,h⟩:=CS_addN d d sE_pos
 have eS:=eS (N1+N2+N3+N4) oO
 have eC:=eC (N1+N2+N3+N4) oO
 have eU:=eU (N1+N2+N3+N4) oO
 have h:=(h (N1+N2+N3+N4) oO).2
 rw [hd] at eU
 generalize N1+N2+N3+N4=K at *
 have f0:SC 0 d K=SN d K:=rfl
 have f1:SC 1 d K=CS d K:=rfl
 have f2:SC 0 (d+d) K=SN (d+d) K:=rfl
 rw [f0] at eS
 rw [f1] at eC
 rw [f2] at eU
 have g0:0≤sE*((2^v.toNat:Int):Rat):=Rat.mul_nonneg (Rat.le_of_lt sE_pos) (Rat.le_of_lt P)
 obtain ⟨X,x1,x2,x3,x4⟩:=clamp (Rat.intCast_le_intCast.2 os) eS.1 eS.2 g0
 obtain ⟨Y,y1,y2,y3,y4⟩:=clamp (Rat.intCast_le_intCast.2 oc) eC.1 eC.2 g0
 have hm:=hm X Y x1 x2 y1 y2
 have gs:8192*(sE*((2^v.toNat:Int):Rat))≤1:=by grind
 have pn:=prod_near g0 (gle gs g0 P1) x3 x4 y3 y4 (by grind) (by grind) (by grind) (by grind)
 have k1:=Rat.mul_le_mul_of_nonneg_right h.1 (Rat.mul_nonneg (Rat.le_of_lt P) (Rat.le_of_lt P))
 have k2:=Rat.mul_le_mul_of_nonneg_right h.2 (Rat.mul_nonneg (Rat.le_of_lt P) (Rat.le_of_lt P))
 have k3:=Rat.mul_le_mul_of_nonneg_right eU.1 (Rat.le_of_lt P)
 have k4:=Rat.mul_le_mul_of_nonneg_right eU.2 (Rat.le_of_lt P)
 have k5:=Rat.mul_le_mul_of_nonneg_right gs (Rat.le_of_lt P)
 generalize ((2^v.toNat:Int):Rat)=T at *
 generalize SN (d+d) K=U at *
 generalize SN d K=S at *
 generalize CS d K=C at *
 have z1:S*T*(C*T)=S*C*(T*T):=by grind
 have z2:(C*S+S*C+sE)*(T*T)=2*(S*C*(T*T))+sE*T*T:=by grind
 have z3:(U+sE)*(T*T)=U*T*T+sE*T*T:=by grind
 have z4:(C*S+S*C)*(T*T)=2*(S*C*(T*T)):=by grind
 have z5:U*(T*T)=U*T*T:=by grind
 have z6:T*(sE*T)=sE*T*T:=by grind
 have z7:8192*(sE*T)*T=8192*(sE*T*T):=by grind
 have z8:(U*T+sE*T)*T=U*T*T+sE*T*T:=by grind
 have z9:((u2:Rat)+sE*T)*T=(u2:Rat)*T+sE*T*T:=by grind
 rw [z1,z6] at pn
 rw [z2,z5] at k1
 rw [z3,z4] at k2
 rw [z8] at k3
 rw [z9] at k4
 rw [z7] at k5
 have a:((2*m1:Int):Rat)*T<((u2:Rat)+1)*T:=by
  rw [Rat.intCast_mul]
  have e1:((2:Int):Rat)*(m1:Rat)*T=2*((m1:Rat)*T):=by
   show (2:Rat)*_*T=_
   grind
  have e2:((u2:Rat)+1)*T=(u2:Rat)*T+T:=by grind
  rw [e1,e2]
  clear z1 z2 z3 z4 z5 z6 z7 z8 z9 e1 e2 sc e10 h eS eC eU x3 x4 y3 y4 g0 gs
  generalize sE*T*T=q at *
  generalize S*C*(T*T)=r at *
  generalize U*T*T=u at *
  generalize X*Y=xy at *
  generalize (m1:Rat)*T=m1T at *
  generalize (u2:Rat)*T=u2T at *
  grind
 have b:(u1:Rat)*T<(((2*m2:Int):Rat)+1)*T:=by
  rw [Rat.intCast_mul]
  have e1:(((2:Int):Rat)*(m2:Rat)+1)*T=2*((m2:Rat)*T)+T:=by
   show ((2:Rat)*_+1)*T=_
   grind
  rw [e1]
  clear z1 z2 z3 z4 z5 z6 z7 z8 z9 e1 sc e10 h eS eC eU x3 x4 y3 y4 g0 gs
  generalize sE*T*T=q at *
  generalize S*C*(T*T)=r at *
  generalize U*T*T=u at *
  generalize X*Y=xy at *
  generalize (m2:Rat)*T=m2T at *
  generalize (u1:Rat)*T=u1T at *
  grind
 have a:=Rat.lt_of_mul_lt_mul_right a (Rat.le_of_lt P)
 have b:=Rat.lt_of_mul_lt_mul_right b (Rat.le_of_lt P)
 have a:2*m1<u2+1:=Rat.intCast_lt_intCast.1 (by rw [Rat.intCast_add u2 1]; exact a)
 have b:u1<2*m2+1:=Rat.intCast_lt_intCast.1 (by rw [Rat.intCast_add (2*m2) 1]; exact b)
 omega
theorem l17_CircularDoubles (b1:Bool)(l1:List Nat)(e1:Int)(b2:Bool)(l2:List Nat)(e2 w:Int)(c0:Dig l1)(c1:l1.length≤9223372036854775807)(c2:(-9223372036854775808:Int)≤e1∧e1≤9223372036854775807)(c3:Dig l2)(c4:l2.length≤9223372036854775807)(c5:(-9223372036854775808:Int)≤e2∧e2≤9223372036854775807)(c6:(-9223372036854775808:Int)≤w∧w≤9223372036854775807):Impl Tryz.prog Amb 13 [(.agg [(.bool b1),(.sl 1 (U l1)),(.int .i64 e1),(.bool b2),(.sl 1 (U l2)),(.int .i64 e2)]),.int .i64 w] (.bool true):=by
 have w1:=Int.emod_nonneg w (show (80:Int)≠0 by omega)
 have w2:=Int.emod_lt_of_pos w (show (0:Int)<80 by omega)
 have vb:10≤(10:Int)+w%80∧(10:Int)+w%80≤89:=by omega
 obtain ⟨m,ee,n,f,ok,hA,lm,le,hok⟩:=l17_arg b1 l1 e1 b2 l2 e2 10 c0 c1 c2 c3 c4 c5 oO
 cases ok with
 | false=>exact l17_DoublesF b1 l1 e1 b2 l2 e2 w m ee n f 0 0 0 0 0 0 0 0 0 0 0 0 0 0 0 0 0 0 0 0 0 0 0 0 0 0 0 0 0 0 0 0 0 0 0 0 0 0 0 0 0 0 0 0 0 c6 l17_awake hA
 | true =>
  obtain ⟨⟨t1,_⟩,⟨v1,_⟩,_⟩:=hok rfl
  have s1:=dv_tople t1
  have d10:dv 1 10=1024:=of_decide_eq_true (by kernel_rfl)
  rw [d10] at s1
  generalize hv:(10:Int)+w%80=v at *
  have eb:-440≤ee∧ee≤130:=by omega
  obtain ⟨sa,sb,hS,os,bs,eS⟩:=pt_S m ee v oO oO eb (by constructor<;>grind)
  obtain ⟨ca,cb,hC,oc,bc,eC⟩:=pt_C m ee v oO oO eb (by constructor<;>grind)
  have hSh:=r08_Shift m ee 1 oO oO oO
  have mf:=mk_fit (m:=m) (e:=ee+1) oO oO
  have i1:=iMin_range (ee+1) 0
  have d2:dv m (ee+1)=dv m ee+dv m ee:=by
   have:=dv_shl m ee 1
   have e:=dv_dbl m ee
   have z:m*2^1=2*m:=by omega
   rw [z,← e] at this
   have z2:ee+((1:Nat):Int)=ee+1:=rfl
   rw [z2] at this
   rw [← this]; grind
  have mfd:=mf.2.2.2.2.2
  rw [d2] at mfd
  have xh:=exp_hi mf.2.2.2.2.1 (by rw [mfd]; grind) (by rw [mfd]; grind)
  obtain ⟨ua,ub,hU,ou,bu,eU⟩:=pt_S (mkM m (ee+1)) (mkX m (ee+1)) v oO oO oO (by rw [mfd]; constructor<;>grind)
  obtain ⟨pl,ph,hl,hh,hP,hD,hc,ho,lh1,lh2⟩:=g_halfpi v oO
  obtain ⟨a,b,p,q,hT,⟨la,lp⟩,⟨ra,rp⟩,oT,wT⟩:=g_turned hl hh m ee v oO ho lh1 lh2 lm.1 le.1 hc s1
  have cq:=cQ_b
  obtain ⟨tp,bt,x1,x2,y1,y2,hI,⟨wx,eX,lx⟩,⟨wy,eY,ly⟩,pT,pB⟩:=ci_imgE a b p q 0 v (.inl rfl) oO la ra (by constructor<;>grind) lp rp (by constructor<;>grind)
  have meet:=comp_meet oO oT wT s1 eX eY eC pT pB
  have P1:(1:Int)≤2^v.toNat:=two_pos _
  have sc:=sE_sc (t:=v.toNat) oO
  have oX:=enc_one (by grind) eX
  have oY:=enc_one (by grind) eY
  obtain ⟨lo,hlo,p1,p2⟩:∃ lo,(if bt then -(2^v.toNat) else max (-(2^v.toNat)) (min x1 y1))=lo∧-(2^v.toNat)≤lo∧lo≤2^v.toNat:=by
   cases bt with
   | true=>exact ⟨_,rfl,by show -(2^v.toNat)≤-(2^v.toNat); omega,by show -(2^v.toNat)≤(2^v.toNat:Int); omega⟩
   | false=>exact ⟨max (-(2^v.toNat)) (min x1 y1),rfl,by omega,by omega⟩
  obtain ⟨hi,hhi,q1,q2⟩:∃ hi,(if tp then 2^v.toNat else min (2^v.toNat) (max x2 y2))=hi∧-(2^v.toNat)≤hi∧hi≤2^v.toNat:=by
   cases tp with
   | true=>exact ⟨_,rfl,by show -(2^v.toNat)≤(2^v.toNat:Int); omega,by show (2^v.toNat)≤(2^v.toNat:Int); omega⟩
   | false=>exact ⟨min (2^v.toNat) (max x2 y2),rfl,by omega,by omega⟩
  rw [hlo,hhi] at hI meet
  have hV:=ci_Sin a b p q v _ _ _ _ 0 hI
  have Lg:∀ x:Int,-(2^v.toNat)≤x→x≤2^v.toNat→L x.natAbs≤8:=fun x h1 h2=>L_le2 (w:=v) oO oO oO
  obtain ⟨ma,mb,hM,om,lmm,vm,m1,m2⟩:=g_mul sa sb ca cb v oO os oc (Lg _ oO oO) (Lg _ oO oO) (Lg _ oO oO) (Lg _ oO oO)
  have m1:=m1 (-(2^v.toNat)) fun x y hx hy=>(prod_bd (by rcases hx with h | h<;>omega) (by rcases hy with h | h<;>omega)).1
  have m2:=m2 (2^v.toNat) fun x y hx hy=>(prod_bd (by rcases hx with h | h<;>omega) (by rcases hy with h | h<;>omega)).2
  have hDb:=g_dbl ma mb v oO om (Lg _ oO oO) (Lg _ oO oO)
  have dm:=dbl_meet mfd oO os oc bs bc eS eC eU vm
  have L9:∀ x:Int,-(2*2^v.toNat)≤x→x≤2*2^v.toNat→L x.natAbs≤60:=fun x h1 h2=>Nat.le_trans (L_le2 (w:=v) oO h1 h2) oO
  have h1:=g_cmp (2*ma) (2*mb) ua ub v oO (L9 _ oO oO) (L9 _ oO oO) (L9 _ oO oO) (L9 _ oO oO) dm.2 dm.1
  have h2:=g_cmp lo hi ca cb v oO (L9 _ oO oO) (L9 _ oO oO) (L9 _ oO oO) (L9 _ oO oO) meet.2 meet.1
  subst hv
  exact l17_DoublesT b1 l1 e1 b2 l2 e2 w m ee n f _ _ _ 0 0 _ _ _ _ _ _ _ _ _ _ _ _ _ _ _ _ _ _ _ _ _ _ _ _ _ _ _ _ _ _ _ _ _ _ _ _ _ _ _ _ c6 l17_awake hA hS hC hSh hU hP (l17_of 2 2 oO oO) hD hT hV hM hDb h1 h2
end Go.Proofs.YtcbihoojfakhdaaGreatDoor

namespace Go.Proofs.YtcbihoojfakhdaaGreatDoor
open Go.ChangeShapes Go.WideShapes Go.ChangeAt Go.RowKit
theorem ownNone:ownKnob Tryz.prog.godebug=none:=by kernel_rfl
theorem gTab:Tryz.prog.globalNamed "math/bits.deBruijn32tab"=some 0:=by kernel_rfl
theorem gTabType:(Tryz.prog.globals[0]?).map (·.type)=some 184:=by kernel_rfl
theorem cellsTab:Tryz.prog.cellsOf 184=32:=by kernel_rfl
theorem cellsU8:Tryz.prog.cellsOf 5=1:=by kernel_rfl
theorem amb_of {W:World}(h:laidMetH Tryz.prog [("math/bits.deBruijn32tab",Rows.laid_math_bits_deBruijn32tab)] W):Amb W:=by
 have t:Lib.TabIs Tryz.prog W "math/bits.deBruijn32tab" .u8 tab32:=Lib.tabIs_of_head (rest:=[]) gTab gTabType Tryz.underlying184 Tryz.underlying5 cellsU8 cellsTab h
 intro i v hi
 have hlt:i<tab32.length:=by
  rcases Nat.lt_or_ge i tab32.length with q | q
  ·exact q
  ·rw [List.getElem?_eq_none q] at hi; cases hi
 have h1:=t.cell gTab i hlt
 rw [List.getD_eq_getElem?_getD,hi] at h1
 exact h1
theorem int_wf {n:Int}(h:(Lit.int .i64 n).wf=true):(-9223372036854775808:Int)≤n∧n≤9223372036854775807:=by
 simp only [Lit.wf,Bool.and_eq_true,decide_eq_true_eq] at h
 simp [IntKind.min,IntKind.max,IntKind.signed,IntKind.bits] at h
 omega
noncomputable def laidWorld (os : Os) : World :=
  { World.holding Tryz.prog os ⟨#[], #[], []⟩ with heap := (World.holding Tryz.prog os ⟨#[], #[], []⟩).heap.modify 0 fun
      | .cells _ t frozen => .cells (tab32.map (Value.int .u8)).toArray t frozen
      | o => o }
theorem post_of_below {H:Type}{enc:TypeId × Value→H}{P:Program}{f:Func}{s:ChangeSpec}{apart fresh handsOn again:Bool}{W W':World}{args:Array Value}{v:Value}{ds gs:List (DataW H)}{before pa pv:List MemPlace}
  (hW:DataW.Whole enc P f.params.toList s.vars apart W args.toList ds gs before)
  (hres:∀ (b:Nat) (sp:Nat→Bool) (hd:Bool),DataW.TrodAll enc P W' b sp hd f.resultTypes.toList (v.resultList f.resultTypes.size) (s.fn H (ds ++ gs)).results [])
  (hargs:∀ sp:Nat→Bool,(∀ p∈before,sp p.block=true)→DataW.TrodAll enc P W' 0 sp true f.params.toList args.toList (s.fn H (ds ++ gs)).args pa)
  (hvars:∀ sp:Nat→Bool,(∀ p∈before,sp p.block=true)→DataW.TrodVars enc P W' sp s.vars (s.fn H (ds ++ gs)).vars pv)
  (hps:before=pa ++ pv) (hb:Below W.heap.size W W')
  (hok:∀ (j:Nat) (t:TypeId) (r:Value),f.resultTypes[j]?=some t→(v.resultList f.resultTypes.size)[j]?=some r→Value.okWide P W' .any 0 t r):s.post enc P f apart fresh handsOn again W args v W':=by
 have lt:=hW.lt
 have old:∀ p∈before,(fun b=>decide (b<W.heap.size)) p.block=true:=fun p hp=>decide_eq_true (lt p hp)
 subst hps
 refine ⟨ds,gs,pa ++ pv,[],pa,pv,hW,hres _ _ _,hargs _ old,hvars _ old,hb.frame _,fun _=>?_⟩
 obtain ⟨_,_,_,_,_,hz,hn⟩:=hW
 have h1:=trodAll_append (hargs (fun _=>true) fun _ _=>rfl) (hres 0 (fun _=>true) true)
 refine ⟨hok,_,_,_,⟨_,pv,h1,hvars _ fun _ _=>rfl,rfl,fun b off hp=>?_,fun ha=>?_⟩,fun p hp _=>?_⟩
 ·have hp':MemPlace.cell b off∈pa ++ pv:=by simpa using hp
  rw [hb.frozen (lt _ hp')]
  exact hz b off hp'
 ·simpa using hn ha
 ·simpa using hp
end Go.Proofs.YtcbihoojfakhdaaGreatDoor

namespace Go.Proofs.YtcbihoojfakhdaaGreatDoor
open Go.ChangeShapes Go.WideShapes Go.ChangeAt Go.RowKit
set_option maxRecDepth 100000
variable {H:Type} {enc:TypeId × Value→H} {W:World} {sp:Nat→Bool} {held:Bool}
theorem laidOut:laidOutB Tryz.prog=true:=by kernel_rfl
theorem cellsU32:Tryz.prog.cellsOf 141=1:=by kernel_rfl
theorem cellsSl:Tryz.prog.cellsOf 22=1:=by kernel_rfl
theorem cellsBool:Tryz.prog.cellsOf 4=1:=by kernel_rfl
theorem cellsInt:Tryz.prog.cellsOf 3=1:=by kernel_rfl
theorem cellsZ:Tryz.prog.cellsOf 24=2:=by kernel_rfl
theorem cellsY:Tryz.prog.cellsOf 26=3:=by kernel_rfl
theorem cellsW:Tryz.prog.cellsOf 38=6:=by kernel_rfl
theorem rdl_U (S:Nat→Prop):∀ l:List Nat,RdL W S (l.map fun (d:Nat)=>Value.int .u32 (d:Int)) (U l)
 | []=>.nil
 | _::l=>.cons .int (rdl_U S l)
theorem wf_u32 {n:Int}(h:(Lit.int .u32 n).wf=true):0≤n∧n<4294967296:=by
 simp only [Lit.wf,Bool.and_eq_true,decide_eq_true_eq] at h
 simp [IntKind.min,IntKind.max,IntKind.signed,IntKind.bits] at h
 omega
theorem open_slice32 {n:Nat}{c:Value}{x:DataW H × List MemPlace}{b0:Nat}(h:DataW.trod enc Tryz.prog W 0 sp held n 22 [c]=some x)(hok:Cell.okWide Tryz.prog W .any b0 22 c) :
  ∃ l:List Nat,Dig l∧l.length≤maxLen∧Rd W (fun _=>True) c (.sl 1 (U l)):=by
 rcases open_ints Tryz.underlying22 Tryz.underlying141 cellsU32 h with ⟨hc,_⟩ | ⟨a,len,cap,zs,hc,_,hl,hm,hz,_,hcell,hwf⟩
 ·obtain rfl:c=.slice none 0 0:=by simpa using hc
  exact ⟨[],(fun d hd=>by cases hd),Nat.zero_le _,.nilsl⟩
 ·obtain rfl:c=.slice (some a) len cap:=by simpa using hc
  have hlen:len≤zs.length:=by rw [hz]; split<;>omega
  simp only [Cell.okWide,Cell.ok,Tryz.underlying22,World.has] at hok
  obtain ⟨_,_,_,hs,row,cells,hsh,_⟩:=hok
  obtain ⟨ab,ao,spot⟩:=a
  simp only at hs hsh
  subst hs
  have hb:ab<W.heap.size:=by
   unfold World.shape? at hsh
   split at hsh
   ·rename_i q; exact (Array.getElem?_eq_some_iff.1 q).1
   ·cases hsh
  refine ⟨(zs.take len).map Int.toNat,?_,?_,?_⟩
  ·intro d hd
   obtain ⟨z,hz',rfl⟩:=List.mem_map.1 hd
   have:=wf_u32 (hwf z (List.mem_of_mem_take hz'))
   show z.toNat<4294967296
   omega
  ·simp; omega
  ·refine .sl (vals:=((zs.take len).map Int.toNat).map fun (d:Nat)=>Value.int .u32 (d:Int)) trivial hb hl (by simp [U]; omega) (rdl_U _ _) ?_
   intro i v hv
   simp only [List.getElem?_map,Option.map_eq_some_iff] at hv
   obtain ⟨d,⟨z,hz',rfl⟩,rfl⟩:=hv
   have hi:i<len:=by
    rcases Nat.lt_or_ge i len with q | q
    ·exact q
    ·rw [List.getElem?_eq_none (by simp; omega)] at hz'; cases hz'
   rw [List.getElem?_take,if_pos hi] at hz'
   have h1:=hcell i (by omega)
   rw [List.getD_eq_getElem?_getD,hz'] at h1
   have h2:=wf_u32 (hwf z (List.mem_of_getElem? hz'))
   have h3:((z.toNat:Nat):Int)=z:=Int.toNat_of_nonneg h2.1
   simp only [Option.getD_some] at h1
   rw [h3]
   have h4:(Addr.mk ab ao none).add i=⟨ab,ao+i,none⟩:=by
    unfold Addr.add; split
    ·rename_i q; subst q; rfl
    ·rfl
   rw [h4] at h1
   exact h1
theorem open_Z {n:Nat}{c0 c1:Value}{x:DataW H × List MemPlace}{b0:Nat}(h:DataW.trod enc Tryz.prog W 0 sp held n 24 [c0,c1]=some x)(hok:Cell.okWide Tryz.prog W .any b0 22 c1) :
  ∃ (b:Bool) (l:List Nat),Dig l∧l.length≤maxLen∧RdL W (fun _=>True) [c0,c1] [.bool b,.sl 1 (U l)]:=by
 obtain ⟨y0,y1,m,_,_,h0,h1⟩:=trod_struct2 Tryz.underlying24 h
 have k0:DataW.trod enc Tryz.prog W 0 sp held m 4 [c0]=some y0:=by simpa [cellsBool] using h0
 have k1:DataW.trod enc Tryz.prog W 0 sp held m 22 [c1]=some y1:=by simpa [cellsSl] using h1
 obtain ⟨b,hb,_⟩:=DataW.trod_bool Tryz.underlying4 k0
 obtain rfl:c0=.bool b:=by simpa using hb
 obtain ⟨l,d,e,r⟩:=open_slice32 k1 hok
 exact ⟨b,l,d,e,.cons .bool (.cons r .nil)⟩
theorem open_Y {n:Nat}{c0 c1 c2:Value}{x:DataW H × List MemPlace}{b0:Nat}(h:DataW.trod enc Tryz.prog W 0 sp held n 26 [c0,c1,c2]=some x)(hok:Cell.okWide Tryz.prog W .any b0 22 c1) :
  ∃ (b:Bool) (l:List Nat) (e:Int),Dig l∧l.length≤maxLen∧((-9223372036854775808:Int)≤e∧e≤9223372036854775807)∧RdL W (fun _=>True) [c0,c1,c2] [.bool b,.sl 1 (U l),.int .i64 e]:=by
 obtain ⟨y0,y1,m,_,_,h0,h1⟩:=trod_struct2 Tryz.underlying26 h
 have k0:DataW.trod enc Tryz.prog W 0 sp held m 24 [c0,c1]=some y0:=by simpa [cellsZ] using h0
 have k1:DataW.trod enc Tryz.prog W 0 sp held m 3 [c2]=some y1:=by simpa [cellsInt] using h1
 obtain ⟨b,l,d,e,r⟩:=open_Z k0 hok
 obtain ⟨z,hz,_,hw⟩:=DataW.trod_int Tryz.underlying3 k1
 obtain rfl:c2=.int .i64 z:=by simpa using hz
 cases r with | cons r0 r=>cases r with | cons r1 r=>cases r with | nil =>
  exact ⟨b,l,z,d,e,int_wf hw,.cons r0 (.cons r1 (.cons .int .nil))⟩
theorem array6 {α:Type}{cs:Array α}(h:cs.size=6):∃ c0 c1 c2 c3 c4 c5,cs=#[c0,c1,c2,c3,c4,c5]:=by
 obtain ⟨l⟩:=cs
 match l,h with
 | [c0,c1,c2,c3,c4,c5],_=>exact ⟨c0,c1,c2,c3,c4,c5,rfl⟩
theorem open_W {v:Value}{d:DataW H}{p:List MemPlace}{b0:Nat}(hv:Value.okWide Tryz.prog W .any b0 38 v)(h:DataW.Trod enc Tryz.prog W 0 sp held 38 v d p) :
  ∃ (b:Bool) (l:List Nat) (e:Int) (c:Bool) (r:List Nat) (f:Int),(Dig l∧l.length≤maxLen∧((-9223372036854775808:Int)≤e∧e≤9223372036854775807))∧(Dig r∧r.length≤maxLen∧((-9223372036854775808:Int)≤f∧f≤9223372036854775807)) ∧
   Rd W (fun _=>True) v (.agg [.bool b,.sl 1 (U l),.int .i64 e,.bool c,.sl 1 (U r),.int .i64 f]):=by
 simp only [Value.okWide,Tryz.underlying38] at hv
 obtain ⟨cs,rfl,hsz,ts,hts,_,hrow⟩:=hv
 have e0:Tryz.prog.cellTypes Tryz.prog.depth 38=some [4,22,3,4,22,3]:=by kernel_rfl
 rw [e0] at hts
 obtain rfl:=Option.some.inj hts
 obtain ⟨c0,c1,c2,c3,c4,c5,rfl⟩:=array6 (hsz.trans cellsW)
 obtain ⟨u1,q1,ok1⟩:=hrow 1 c1 rfl
 obtain rfl:22=u1:=by simpa using q1
 obtain ⟨u4,q4,ok4⟩:=hrow 4 c4 rfl
 obtain rfl:22=u4:=by simpa using q4
 obtain ⟨n,hn⟩:=h
 obtain ⟨y0,y1,m,_,_,h0,h1⟩:=trod_struct2 Tryz.underlying38 hn
 have k0:DataW.trod enc Tryz.prog W 0 sp held m 26 [c0,c1,c2]=some y0:=by simpa [cellsY,Value.cells] using h0
 have k1:DataW.trod enc Tryz.prog W 0 sp held m 26 [c3,c4,c5]=some y1:=by simpa [cellsY,Value.cells] using h1
 obtain ⟨b,l,e,d1,d2,d3,r1⟩:=open_Y k0 ok1
 obtain ⟨c,r,f,f1,f2,f3,r2⟩:=open_Y k1 ok4
 refine ⟨b,l,e,c,r,f,⟨d1,d2,d3⟩,⟨f1,f2,f3⟩,?_⟩
 cases r1 with | cons a0 r1=>cases r1 with | cons a1 r1=>cases r1 with | cons a2 r1=>cases r1 with | nil =>
 cases r2 with | cons b0 r2=>cases r2 with | cons b1 r2=>cases r2 with | cons b2 r2=>cases r2 with | nil =>
  exact .agg (.cons a0 (.cons a1 (.cons a2 (.cons b0 (.cons b1 (.cons b2 .nil))))))
end Go.Proofs.YtcbihoojfakhdaaGreatDoor

namespace Go.Proofs.YtcbihoojfakhdaaGreatDoor.circularDoubles
open Go.ChangeShapes Go.WideShapes Go.ChangeAt Go.RowKit
set_option maxRecDepth 100000 in
theorem contract (H:Type)(enc:TypeId × Value→H)(W:World)(base:Nat)(args:Array Value)(ds gs:List (DataW H))(before:List MemPlace)
  (hval:∀ (j:Nat) t v,Tryz.f13.params[j]?=some t→args[j]?=some v→Value.okWide Tryz.prog W .any base t v)
  (hW:DataW.Whole enc Tryz.prog Tryz.f13.params.toList Rows.circularDoublesSpec.vars false W args.toList ds gs before) (hL:laidMetH Tryz.prog Rows.circularDoublesRow.laid W) :
  Calls Tryz.prog 13 args W fun e W'=>∃ v,e=.returned v∧Rows.circularDoublesSpec.post enc Tryz.prog Tryz.f13 false true false false W args v W':=by
 have hW':=hW
 obtain ⟨p,q,hA0,hV,rfl,hfz,hnd⟩:=hW
 have hA:DataW.TrodAll enc Tryz.prog W 0 (fun _=>true) true Tryz.f13.params.toList args.toList ds p:=hA0
 rw [Tryz.params13] at hA hval
 obtain ⟨v0,vs0,d0,ds0,p0,q0,hargs0,rfl,rfl,h0,r0⟩:=trodAll_cons hA
 obtain ⟨v1,vs1,d1,ds1,p1,q1,hargs1,rfl,rfl,h1,r1⟩:=trodAll_cons r0
 obtain ⟨rfl,rfl,rfl⟩:=trodAll_nil r1
 obtain rfl:args=#[v0,v1]:=by cases args; simp_all
 obtain ⟨rfl,rfl⟩:=trodVars_none hV
 obtain ⟨b0,l0,e0,c0,s0,f0,⟨a0,a0',a0''⟩,⟨z0,z0',z0''⟩,t0⟩:=open_W (hval 0 38 v0 rfl rfl) h0
 have m0:l0.length≤9223372036854775807:=a0'
 have n0:s0.length≤9223372036854775807:=z0'
 have k1:=h1
 obtain ⟨x1,rfl,rfl,rfl,w1⟩:=open_int Tryz.underlying3 (hval 1 3 v1 rfl rfl) h1
 have b1:=int_wf w1
 clear hA0
 have hlt:=hW'.lt
 have hI:=l17_CircularDoubles b0 l0 e0 c0 s0 f0 x1 a0 m0 a0'' z0 n0 z0'' b1
 have hC:=hI.2 W (fun _=>True) [v0,.int .i64 x1] (amb_of hL) (fun _ _=>trivial) (.cons t0 (.cons .int (.nil)))
 refine hC.mono fun e W' hh=>?_
 obtain ⟨v,rfl,hv,hb⟩:=hh
 have hv:=hv.bool_inv
 subst hv
 exact ⟨_,rfl,post_of_below (pa:=(p0 ++ ([] ++ []))) (pv:=[]) hW' (fun _ _ _=>trodAll_cons_mk (shut_bool Tryz.underlying4 _) trodAll_mk0) (fun sp hsp=>(trodAll_cons_mk (WideElems.Trod_stays laidOut (by kernel_rfl) (of_decide_eq_true (by kernel_rfl)) h0 (fun x hx=>hb.same (hlt x (by simp [hx]))) (fun x hx=>hsp x (by simp [hx]))) (trodAll_cons_mk (shut_int Tryz.underlying3 w1) trodAll_mk0))) (fun _ _=>rfl) rfl
  hb (ok_one (by kernel_rfl) rfl (okWide_bool_mk Tryz.underlying4 _))⟩
theorem laid_met (os:Os):laidMet Tryz.prog Rows.circularDoublesRow.laid ((laidWorld os).forCall (fun _ _=>0) ⟨#[],#[.agg #[.bool false,.slice none 0 0,.int .i64 0,.bool false,.slice none 0 0,.int .i64 0],.int .i64 0],[]⟩).memory :=
 laidMet_of_run' 64 (by kernel_rfl) (by kernel_rfl)
theorem reads (os:Os){H:Type}(enc:TypeId × Value→H):∃ places,DataW.whole enc Tryz.prog ((laidWorld os).forCall (fun _ _=>0) ⟨#[],#[.agg #[.bool false,.slice none 0 0,.int .i64 0,.bool false,.slice none 0 0,.int .i64 0],.int .i64 0],[]⟩).memory Tryz.f13.params.toList Rows.circularDoublesSpec.vars false #[Value.agg #[.bool false,.slice none 0 0,.int .i64 0,.bool false,.slice none 0 0,.int .i64 0],Value.int .i64 0].toList 64=some ([.agg [.agg [.agg [.lit (.bool false),.nil],.lit (.int .i64 0)],.agg [.agg [.lit (.bool false),.nil],.lit (.int .i64 0)]],.lit (.int .i64 0)],[],places) :=
 ⟨[],by kernel_rfl⟩
set_option maxRecDepth 100000 in
theorem lifted (os:Os)(started:os.Started)(H:Type)(enc:TypeId × Value→H)(F:Stop.Interp) :
  ReturnsInHanded {} Tryz.checked os 13 .any ((OpenSpec.ofChange Rows.circularDoublesSpec).preRow enc Tryz.prog Tryz.f13 Rows.circularDoublesRow.domain false Rows.circularDoublesRow.laid) (((OpenSpec.ofChange Rows.circularDoublesSpec).at F).post enc Tryz.prog Tryz.f13 false true false false):=by
 obtain ⟨places,hx⟩:=reads os enc
 refine returnsInHanded_of_row (C:=Tryz.checked) (s:=OpenSpec.ofChange Rows.circularDoublesSpec) ownNone started (by kernel_rfl) Tryz.func13
  (witness_row_at (enc:=enc) (C:=Tryz.checked) false (laidWorld os) #[.agg #[.bool false,.slice none 0 0,.int .i64 0,.bool false,.slice none 0 0,.int .i64 0],.int .i64 0] rfl (by kernel_rfl) (by kernel_rfl) (by kernel_rfl)
   (OpenSpec.preRow_of_cond 64 hx (by kernel_rfl) (fun k hk=>by cases hk) (by kernel_rfl) (laid_met os))) ?_
 intro W base args ds gs before hval hW _ _ _ hL _ _
 exact contract H enc W base args ds gs before hval hW hL
end Go.Proofs.YtcbihoojfakhdaaGreatDoor.circularDoubles
