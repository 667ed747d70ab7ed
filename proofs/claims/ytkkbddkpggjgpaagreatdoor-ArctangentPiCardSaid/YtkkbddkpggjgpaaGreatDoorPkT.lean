/-
  Lower layers: what functions of the program compute, and plain facts. Conditions: as the theorems say.
-/
import Derived.Test.YtkkbddkpggjgpaaGreatDoorChecked
import Derived.Test.YtkkbddkpggjgpaaGreatDoorRows
import Derived.WalkKit
import Derived.ProofKit
import Derived.OpenShut
import Derived.Deep.DeepHandedRow
import Derived.Lib.LaidTab
import Derived.Lib.SmallJoins
import Derived.ChangeSlices
import Derived.Carry
import Derived.Test.YtkkbddkpggjgpaaGreatDoorCards
import Derived.Test.YtkkbddkpggjgpaaGreatDoorTie
import Derived.Test.YtkkbddkpggjgpaaGreatDoorPkS
set_option linter.unusedVariables false
set_option linter.unusedSimpArgs false
namespace Go.Proofs.YtkkbddkpggjgpaaGreatDoor
open Go.RowKit
set_option maxRecDepth 100000
set_option maxHeartbeats 2000000
theorem at_clo (m ee ss lo hi:Int)(c0:Impl Tryz.prog Amb 111 [(yV m ee),(.int .i64 ss)] (sV lo hi)):Impl Tryz.prog Amb 110 [(.int .i64 ss),(.pt [(V.bool (decide (m<0))),(N m.natAbs),(V.int .i64 ee)] 0)] (sV lo hi):=by
 exact impl_ob hP hAmb Tryz.func110 (by kernel_rfl) (.lits 2<|.call (sV lo hi)<|.lits 2<|.ret)
  (cast_ob (aI True.intro (aI (c0 ) ((vsub_refl (sV lo hi))))) (by kernel_rfl))
theorem at_value0 (m ee w lo hi:Int)(c0:Impl Tryz.prog Amb 78 [(.int .i64 w),(.clos 110 [(.pt [(V.bool (decide (m<0))),(N m.natAbs),(V.int .i64 ee)] 0)])] (sV lo hi)):Impl Tryz.prog Amb 48 [(yV m ee),(.int .i64 w)] (sV lo hi):=by
 exact impl_ob hP hAmb Tryz.func48 (by kernel_rfl) (.lit<|.call (sV lo hi)<|.lits 2<|.ret)
  (cast_ob (aI True.intro (aI (c0 ) ((vsub_refl (sV lo hi))))) (by kernel_rfl))
theorem at_intv (l1 h1 l2 h2 w a1 a2 b1 b2:Int)(c0:0≤w∧w≤4096)(c1:Impl Tryz.prog Amb 74 [(zV l1),(.int .i64 ((0:Int)-w))] (.tup [(yV a1 a2),(.int .i64 0)]))(c2:Impl Tryz.prog Amb 74 [(zV h2),(.int .i64 ((0:Int)-w))] (.tup [(yV b1 b2),(.int .i64 0)])):Impl Tryz.prog Amb 47 [(sV l1 h1),(sV l2 h2),(.int .i64 w)] (.tup [(wV a1 a2 b1 b2),(.int .i64 0)]):=by
 exact impl_ob hP hAmb Tryz.func47 (by kernel_rfl) (.lits 2<|.yes<|.lit<|.call (.tup [(yV a1 a2),(.int .i64 0)])<|.lits 3<|.yes<|.lit<|.call (.tup [(yV b1 b2),(.int .i64 0)])<|.lits 12<|.ret)
  (cast_ob (aI True.intro (aI (fits_i64 oS:(fits .i64 ((0:Int)-w))=true) (aI (c1 ) (aI (fits_i64 oS:(fits .i64 ((0:Int)-w))=true) (aI (c2 ) ((vsub_refl (.tup [(wV a1 a2 b1 b2),(.int .i64 0)])))))))) (by kernel_rfl))
theorem at_Atan0 (m e n f w l1 h1 l2 h2 a1 a2 b1 b2:Int)(c0:0≤w∧w≤4096)(c1:Impl Tryz.prog Amb 48 [(yV m e),(.int .i64 w)] (sV l1 h1))(c2:Impl Tryz.prog Amb 48 [(yV n f),(.int .i64 w)] (sV l2 h2))(c3:Impl Tryz.prog Amb 47 [(sV l1 h1),(sV l2 h2),(.int .i64 w)] (.tup [(wV a1 a2 b1 b2),(.int .i64 0)])):Impl Tryz.prog Amb 15 [(wV m e n f),(.int .i64 w)] (.tup [(wV a1 a2 b1 b2),(.int .i64 0)]):=by
 exact impl_ob hP hAmb Tryz.func15 (by kernel_rfl) (.lit<|.no<|.lits 3<|.no<|.lits 2<|.call (sV l1 h1)<|.lits 2<|.call (sV l2 h2)<|.lit<|.call (.tup [(wV a1 a2 b1 b2),(.int .i64 0)])<|.lits 2<|.ret)
  (cast_ob (aI True.intro (aI (iLt_mkF oS:(iLt w 0)=false) (aI (iGt_mkF oS:(iGt w 4096)=false) (aI (c1 ) (aI (c2 ) (aI (c3 ) ((vsub_refl (.tup [(wV a1 a2 b1 b2),(.int .i64 0)]))))))))) (by kernel_rfl))
theorem two_up {a b:Nat}(h:a≤b):(2:Int)^a≤2^b:=by
 have p:=Int.ofNat_le.2 (Nat.pow_le_pow_right (n:=2) oO h)
 rw[← pow_cast,← pow_cast] at p
 exact p
theorem fx_AtanM (m ee sc:Int)(hs:24≤sc∧sc≤360)(hm:L (m).natAbs≤100)(he:-5000≤ee∧ee≤5000) :
  ∃ y1 y2:Int,(∀ (neg:Bool),neg=decide (m<0)→Impl Tryz.prog Amb 111 [(yV m ee),(.int .i64 sc)] (sV ((if neg then -y2 else y1) / 2^24) (-(-(if neg then -y1 else y2) / 2^24))))∧EnE (ATp (dv (m.natAbs:Int) ee)) (sc+24).toNat y1 y2 (3*tq*((2^(sc+24).toNat:Int):Rat))∧y2-y1≤1099528404992∧L y1.natAbs≤420∧L y2.natAbs≤420:=by
 obtain⟨t,ht⟩:∃ t:Nat,(t:Int)=sc+24:=⟨(sc+24).toNat,by omega⟩
 have tn:(sc+24).toNat=t:=by omega
 have hNa:=int_Nat false m.natAbs oO
 rw[show sgn false m.natAbs=(m.natAbs:Int) from sgn_f _] at hNa
 have la:L ((m.natAbs:Int)).natAbs≤100:=by rw[Int.natAbs_natCast];exact hm
 have hOf:=fx_Of (m.natAbs:Int) ee (sc+24) oO oO oO
 have lf:=flr_LD (m.natAbs:Int) ee (sc+24)
 have X0:0≤dv (m.natAbs:Int) ee:=dv_ge0.2 (Int.natCast_nonneg _)
 generalize hX:dv (m.natAbs:Int) ee=X at *
 have sc1:=(flr_sc X t).1
 have sc2:=(cei_sc X t).1
 have fc:=(flr_cei1 X t)
 have hO:=fx_One (sc+24) oO
 rw[tn] at hO
 rw[ht] at sc1 sc2 fc
 have P:=two_pos t
 have PB:=two_up (show 48≤t by omega)
 rw[show (2:Int)^48=281474976710656 from rfl] at PB
 have x10:0≤flr X (sc+24):=le_flr.2 (by rw[dv_zero];exact X0)
 have lO:=L_pow1 t
 generalize flr X (sc+24)=x1 at *
 generalize cei X (sc+24)=x2 at *
 have s1:=(at_sc (x:=x1) (X:=X) P).1 sc1
 have s2:=(at_sc (x:=x2) (X:=X) P).2 sc2
 have T0:(0:Rat)<((2^t:Int):Rat):=Rat.intCast_pos.2 P
 have i0:=Rat.inv_pos.2 T0
 have ie:=inv_one T0
 have one:(((2^t:Int)):Rat)*(((2^t:Int):Rat))⁻¹=1:=by rw[Rat.mul_comm];exact ie
 have n1:0≤(x1:Rat)*(((2^t:Int):Rat))⁻¹:=Rat.mul_nonneg (Rat.intCast_nonneg.2 x10) (Rat.le_of_lt i0)
 have small:∀ {x:Int},x≤2^t+1→(x:Rat)*(((2^t:Int):Rat))⁻¹≤4 / 3:=by
  intro x hx
  have h:=Rat.intCast_le_intCast.2 (show 3*x≤4*2^t by omega)
  rw[Rat.intCast_mul,Rat.intCast_mul,show ((3:Int):Rat)=3 from rfl,show ((4:Int):Rat)=4 from rfl] at h
  have m:=Rat.mul_le_mul_of_nonneg_right h (Rat.le_of_lt i0)
  grind
 have le1:∀ {x:Int},x≤2^t→(x:Rat)*(((2^t:Int):Rat))⁻¹≤1:=by
  intro x hx
  have m:=Rat.mul_le_mul_of_nonneg_right (Rat.intCast_le_intCast.2 hx) (Rat.le_of_lt i0)
  rw[one] at m;exact m
 have w0:∀ {r1 r2:Int},r2-r1≤1099511627776→r2-r1≤1099528404992:=fun h=>by omega
 by_cases c1:x1≤1*2^t
 ·by_cases c2:x2≤1*2^t
  ·-- up to 1
   obtain⟨r1,r2,hA,l,u,w,lr1,lr2⟩:=fx_angE x1 x2 (sc+24) oO x10 oO (by rw[tn];omega) oO
   rw[tn] at l u
   refine⟨r1,r2,fun neg hn=>?_,?_,w0 w,by omega,by omega⟩
   ·cases neg with
    | true=>exact fx_AtanAN m ee sc (m.natAbs:Int) x1 x2 (1*2^t) (1*2^t) 0 0 0 0 0 0 0 0 r1 r2 oO (of_decide_eq_true hn.symm) c1 c2 oO oO oO oO oO oO hNa hOf hO hA
    | false=>exact fx_AtanAP m ee sc (m.natAbs:Int) x1 x2 (1*2^t) (1*2^t) 0 0 0 0 0 0 0 0 r1 r2 oO (by have:=of_decide_eq_false hn.symm;omega) c1 c2 oO oO oO oO oO oO hNa hOf hO hA
   ·rw[tn]
    exact en_mid l u n1 s1 (le1 oO) s2 (small oO)
  ·obtain⟨r1,r2,hA,l,u,w,lr1,lr2⟩:=fx_angE x1 (1*2^t+1) (sc+24) oO x10 oO (by rw[tn];omega) oO
   rw[tn] at l u
   refine⟨r1,r2,fun neg hn=>?_,?_,w0 w,by omega,by omega⟩
   ·cases neg with
    | true=>exact fx_AtanCN m ee sc (m.natAbs:Int) x1 x2 (1*2^t) (1*2^t) 0 0 0 0 0 0 0 0 r1 r2 oO (of_decide_eq_true hn.symm) c1 oO oO oO oO oO oO oO hNa hOf hO hA
    | false=>exact fx_AtanCP m ee sc (m.natAbs:Int) x1 x2 (1*2^t) (1*2^t) 0 0 0 0 0 0 0 0 r1 r2 oO (by have:=of_decide_eq_false hn.symm;omega) c1 oO oO oO oO oO oO oO hNa hOf hO hA
   ·rw[tn]
    refine en_mid l u n1 s1 (le1 oO) ?_ (small oO)
    refine Rat.le_trans s2 ?_
    exact Rat.mul_le_mul_of_nonneg_right (Rat.intCast_le_intCast.2 oO) (Rat.le_of_lt i0)
 ·-- beyond 1
  have cl:=pq_at (t:=t+2) oO
  have tt:((t+2:Nat):Int)=sc+24+2:=by omega
  rw[tt] at cl
  have b:=pi_ok (s:=sc+24+2) oO
  have bw:piHi (sc+24+2)-piLo (sc+24+2)<16777216:=by
   have:=nbits_lt (piHi (sc+24+2)-piLo (sc+24+2)).natAbs
   have p:=Nat.pow_le_pow_right (n:=2) oO b.2.2
   omega
  have hP:Impl Tryz.prog Amb 104 [(.int .i64 ((sc+24)+2))] (sV (piLo (sc+24+2)) (piHi (sc+24+2))):=fx_Pi (sc+24+2) oO
  generalize piLo (sc+24+2)=p1 at *
  generalize piHi (sc+24+2)=p2 at *
  have hH:=fx_Half p1 p2 3 oO oO oO
  have he1:=half_enc (a:=p1) (b:=p2) (X:=cQ) (t:=t+2+1) (s:=t) (n:=3) oO cl.1 cl.2
  have hw1:=half_w (a:=p1) (b:=p2) (W:=2097152) (n:=3) oO
  have o1:=L_abs_shr p1 3
  have o2:=L_abs_neg p2
  have o3:=L_abs_shr (-p2) 3
  have o4:=L_abs_neg (-p2 / 2^3)
  rw[show (3:Int).toNat=3 from rfl] at hH
  generalize p1 / 2^3=h1 at *
  generalize -(-p2 / 2^3)=h2 at *
  -- the quotient
  have lx:L x1.natAbs≤1000∧L x2.natAbs≤1000:=by omega
  have hD:=fx_Div (1*2^t) (1*2^t) x1 x2 (sc+24) oO oO oO oO oO oO oO
  rw[tn,Int.fdiv_eq_ediv_of_nonneg _ (show 0≤x2 by omega),Int.fdiv_eq_ediv_of_nonneg _ (show 0≤x1 by omega)] at hD
  have q1:=Int.ediv_mul_le (1*2^t*2^t) (show x2≠0 by omega)
  have q2:=Int.lt_ediv_add_one_mul_self (1*2^t*2^t) (show 0<x2 by omega)
  have q3:=Int.ediv_mul_le (-(1*2^t*2^t)) (show x1≠0 by omega)
  have q4:=Int.lt_ediv_add_one_mul_self (-(1*2^t*2^t)) (show 0<x1 by omega)
  generalize 1*2^t*2^t / x2=z1 at *
  generalize -(1*2^t*2^t) / x1=z2 at *
  rw[Int.add_mul] at q2 q4
  have e1:(1:Int)*2^t*2^t=2^t*2^t:=by rw[Int.one_mul]
  rw[e1] at q1 q2 q3 q4
  have nz:-z2*x1=-(z2*x1):=Int.neg_mul _ _
  have zf:=inv_span (T:=2^t) (x1:=x1) (x2:=x2) (z1:=z1) (z2:=-z2) P oO oO oO q1 oO oO oO
  obtain⟨a1,a2,hA,l,u,w,lr1,lr2⟩:=fx_angE z1 (-z2) (sc+24) oO zf.1 zf.2.1 (by rw[tn];omega) oO
  rw[tn] at l u
  have X1:1<X:=by
   have h:=Rat.intCast_lt_intCast.2 (show (2:Int)^t<x1 by omega)
   refine Rat.lt_of_mul_lt_mul_right (c:=((2^t:Int):Rat)) ?_ (Rat.le_of_lt T0)
   rw[Rat.one_mul];grind
  have v1:=(inv_enc (z:=z1) (x:=x2) P X1).1 ⟨sc2,zf.1,q1⟩
  have v2:=(inv_enc (z:=-z2) (x:=x1) P X1).2 ⟨sc1,by omega,by omega⟩
  have iv:=inv_le1 (x:=X) (Rat.le_of_lt X1)
  have hS:=fx_Sub h1 h2 a1 a2 oO oO oO oO
  have y1:=L_abs_sub h1 a2
  have y2:=L_abs_sub h2 a1
  have n2:0≤(z1:Rat)*(((2^t:Int):Rat))⁻¹:=Rat.mul_nonneg (Rat.intCast_nonneg.2 zf.1) (Rat.le_of_lt i0)
  refine⟨h1-a2,h2-a1,fun neg hn=>?_,?_,by omega,by omega,by omega⟩
  ·have hS:Impl Tryz.prog Amb 164 [(sV h1 h2),(sV a1 a2)] (sV (h1-a2) (h2-a1)):=impl_eq (sp_eqA oO oO) hS
   cases neg with
   | true=>exact fx_AtanBN m ee sc (m.natAbs:Int) x1 x2 (1*2^t) (1*2^t) p1 p2 h1 h2 z1 (-z2) a1 a2 (h1-a2) (h2-a1) oO (of_decide_eq_true hn.symm) oO oO oO oO oO oO oO oO hNa hOf hO hP hH hD hA hS
   | false=>exact fx_AtanBP m ee sc (m.natAbs:Int) x1 x2 (1*2^t) (1*2^t) p1 p2 h1 h2 z1 (-z2) a1 a2 (h1-a2) (h2-a1) oO (by have:=of_decide_eq_false hn.symm;omega) oO oO oO oO oO oO oO oO hNa hOf hO hP hH hD hA hS
  ·rw[tn]
   exact en_comp l u (by grind) (AT0_le n2 v1 (by grind)) (AT0_le (by grind) v2 (small oO)) he1.1 he1.2
theorem dv_neg_lt {m e:Int}(h:m<0):dv m e<0:=by
 have:=(dv_pos (m:=-m) (e:=e)).2 oO
 rw[dv_neg] at this;grind
theorem dv_lt_neg {m e:Int}(h:dv m e<0):m<0:=by
 refine Decidable.byContradiction fun hn=>?_
 have:=(dv_ge0 (m:=m) (e:=e)).2 oO
 grind
theorem fx_AtanE (m ee sc:Int)(hs:24≤sc∧sc≤360)(hm:L (m).natAbs≤100)(he:-5000≤ee∧ee≤5000) :
  ∃ y1 y2:Int,Impl Tryz.prog Amb 111 [(yV m ee),(.int .i64 sc)] (sV y1 y2)∧EnE (AT (dv m ee)) sc.toNat y1 y2 (3*tq*((2^sc.toNat:Int):Rat))∧y2-y1≤65540∧L y1.natAbs≤430∧L y2.natAbs≤430:=by
 obtain⟨y1,y2,hC,hE,hw,l1,l2⟩:=fx_AtanM m ee sc hs hm he
 have n1:=L_abs_neg y1
 have n2:=L_abs_neg y2
 have key:∀ {a b:Int},EnE (AT (dv m ee)) (sc+24).toNat a b (3*tq*((2^(sc+24).toNat:Int):Rat))→b-a≤1099528404992→L a.natAbs≤420→L b.natAbs≤420→EnE (AT (dv m ee)) sc.toNat (a / 2^24) (-(-b / 2^24)) (3*tq*((2^sc.toNat:Int):Rat))∧-(-b / 2^24)-a / 2^24≤65540∧L (a / 2^24).natAbs≤430∧L (-(-b / 2^24)).natAbs≤430:=by
  intro a b e w la lb
  have hw:=half_w (a:=a) (b:=b) (W:=65538) (n:=24) oO
  have o1:=L_abs_shr a 24
  have o2:=L_abs_neg b
  have o3:=L_abs_shr (-b) 24
  have o4:=L_abs_neg (-b / 2^24)
  exact⟨e.half oO,by omega,by omega,by omega⟩
 by_cases h:m<0
 ·have hC:=hC true (decide_eq_true h).symm
  have e:EnE (AT (dv m ee)) (sc+24).toNat (-y2) (-y1) (3*tq*((2^(sc+24).toNat:Int):Rat)):=hE.ng.congr fun K=>by
   rw[AT_m (dv_neg_lt h),← dv_neg,show -m=(m.natAbs:Int) by omega]
  obtain⟨k1,k2,k3,k4⟩:=key e oO oO oO
  exact⟨_,_,hC,k1,k2,k3,k4⟩
 ·have hC:=hC false (decide_eq_false h).symm
  have e:EnE (AT (dv m ee)) (sc+24).toNat y1 y2 (3*tq*((2^(sc+24).toNat:Int):Rat)):=hE.congr fun K=>by
   rw[AT_p (fun q=>h (dv_lt_neg q)),show (m.natAbs:Int)=m by omega]
  obtain⟨k1,k2,k3,k4⟩:=key e oO oO oO
  exact⟨_,_,hC,k1,k2,k3,k4⟩
end Go.Proofs.YtkkbddkpggjgpaaGreatDoor




namespace Go.Proofs.YtkkbddkpggjgpaaGreatDoor
open Go.RowKit
set_option maxRecDepth 100000
set_option maxHeartbeats 4000000
theorem dv_g {a w:Int}{k:Nat}(h:L a.natAbs≤k)(hk:k≤300)(hw:0≤w∧w≤400):dv (mkM a (-w)) (mkX a (-w))=dv a (-w)∧L (mkM a (-w)).natAbs≤k∧(-400≤mkX a (-w)∧mkX a (-w)≤32*k)∧vdb (mkM a (-w)) (mkX a (-w))=true∧mkE a (-w)=0∧-w≤mkX a (-w):=by
 have f:=mk_fit (m:=a) (e:=-w) oO oO
 have i1:=iMin_range (-w) 0
 have i2:iMax (-w) 0≤0:=by unfold iMax;split<;>omega
 exact⟨f.2.2.2.2.2,by omega,by omega,f.2.2.2.2.1,f.1,by omega⟩
theorem enV_ok {lo hi:Rat}{w:Int}(h:enE lo hi w=0):enV lo hi w=(.tup [(wV (mkM (flr lo w) (-w)) (mkX (flr lo w) (-w)) (mkM (cei hi w) (-w)) (mkX (cei hi w) (-w))),(.int .i64 0)]):=by
 obtain⟨a,b,c,d⟩:=en_yes h
 unfold enV
 rw[a,b,c,d,h]
theorem flr_same (x w:Int):flr (dv x (-w)) w=x∧cei (dv x (-w)) w=x:=by
 have a:=le_flr.2 (Rat.le_refl (a:=dv x (-w)))
 have b:=dv_le.1 (flr_le (dv x (-w)) w)
 have c:=cei_le.2 (Rat.le_refl (a:=dv x (-w)))
 have d:=dv_le.1 (cei_ge (dv x (-w)) w)
 omega
theorem dv_plus (a c w:Int):dv a w+dv c w=dv (a+c) w:=by unfold dv;rw[Rat.intCast_add,Rat.add_mul]
theorem g_fit {a b w:Int}(hw:0≤w∧w≤200)(o:a≤b)(la:L a.natAbs≤8)(lb:L b.natAbs≤8):FitI (mkM a (-w)) (mkX a (-w)) (mkM b (-w)) (mkX b (-w)):=by
 have A:=dv_g (w:=w) la oO oO
 have B:=dv_g (w:=w) lb oO oO
 exact⟨⟨A.2.1,by omega,by omega⟩,⟨B.2.1,by omega,by omega⟩,by rw[A.1,B.1];exact dv_le.2 o⟩
theorem g_meet {m e n f p g q h:Int}(h1:dv p g≤dv n f)(h2:dv m e≤dv q h):ivCmp m e n f p g q h=0:=by
 unfold ivCmp
 rw[if_neg,if_neg]
 ·have:=cmpD_le.2 h2
  omega
 ·intro k
  rw[cmpD_dv] at k
  rcases cmpQ_range (dv n f) (dv p g) with ⟨_,x⟩ | ⟨x,_⟩ | ⟨x,_⟩
  ·exact Rat.not_lt.2 h1 x
  ·omega
  ·omega
theorem g_cmp (a b c d w:Int)(hw:0≤w∧w≤200)(la:L a.natAbs≤60)(lb:L b.natAbs≤60)(lc:L c.natAbs≤60)(ld:L d.natAbs≤60)(h1:c≤b)(h2:a≤d):Impl Tryz.prog Amb 21 [(wV (mkM a (-w)) (mkX a (-w)) (mkM b (-w)) (mkX b (-w))),(wV (mkM c (-w)) (mkX c (-w)) (mkM d (-w)) (mkX d (-w)))] (.int .i64 0):=by
 have A:=dv_g (w:=w) la oO oO
 have B:=dv_g (w:=w) lb oO oO
 have C:=dv_g (w:=w) lc oO oO
 have D:=dv_g (w:=w) ld oO oO
 exact impl_eq (congrArg (V.int .i64) (g_meet (by rw[C.1,B.1];exact dv_le.2 h1) (by rw[A.1,D.1];exact dv_le.2 h2))) (r10_Cmp (mkM a (-w)) (mkX a (-w)) (mkM b (-w)) (mkX b (-w)) (mkM c (-w)) (mkX c (-w)) (mkM d (-w)) (mkX d (-w)) oO oO oO oO oO oO oO oO)
theorem g_has (a b k w:Int)(hw:0≤w∧w≤200)(la:L a.natAbs≤60)(lb:L b.natAbs≤60)(hk:(-9223372036854775808:Int)≤k∧k≤9223372036854775807)(h1:a≤k*2^w.toNat)(h2:k*2^w.toNat≤b):Impl Tryz.prog Amb 41 [(wV (mkM a (-w)) (mkX a (-w)) (mkM b (-w)) (mkX b (-w))),(.agg [(.bool (decide (((k:Int):Rat).num<0))),(N ((((k:Int):Rat).num).natAbs)),(N (((k:Int):Rat).den))])] (.bool true):=by
 have A:=dv_g (w:=w) la oO oO
 have B:=dv_g (w:=w) lb oO oO
 have e:((k:Int):Rat)=dv (k*2^w.toNat) (-w):=by
  rw[dv_shl,show (-w+(w.toNat:Int))=0 by omega];unfold dv;rw[zp_zero,Rat.mul_one]
 have q:=q_ofL (n:=k) oO
 exact impl_eq (congrArg V.bool (decide_eq_true ⟨cmpQ_le.2 (by rw[A.1,e];exact dv_le.2 h1),cmpQ_le.2 (by rw[B.1,e];exact dv_le.2 h2)⟩)) (r10_Has (mkM a (-w)) (mkX a (-w)) (mkM b (-w)) (mkX b (-w)) ((k:Int):Rat) oO oO oO oO A.2.2.2.1 B.2.2.2.1 oO oO)
theorem EnE.neg {f:Nat→Rat}{t:Nat}{a b:Int}{x:Rat}(h:EnE f t a b x):EnE (fun K=>-(f K)) t (-b) (-a) x:=by
 obtain⟨N,h⟩:=h
 refine⟨N,fun K hK=>?_⟩
 have h:=h K hK
 rw[Rat.intCast_neg,Rat.intCast_neg,Rat.neg_mul]
 constructor<;>grind
end Go.Proofs.YtkkbddkpggjgpaaGreatDoor

namespace Go.Proofs.YtkkbddkpggjgpaaGreatDoor
open Go.RowKit
set_option maxRecDepth 100000
set_option maxHeartbeats 2000000
theorem tq_gE {n:Nat}(h:n≤370):8*tq*((2^n:Int):Rat)≤gE:=by
 have a:(0:Rat)≤8*tq:=of_decide_eq_true (by kernel_rfl)
 have m:=Rat.mul_le_mul_of_nonneg_left (pow_up h) a
 exact Rat.le_trans m (of_decide_eq_true (by kernel_rfl))
theorem at_valueE (m ee w:Int)(hw:0≤w∧w≤330)(hm:L (m).natAbs≤100)(he:-5000≤ee∧ee≤5000) :
  ∃ lo hi:Int,Impl Tryz.prog Amb 48 [(yV m ee),(.int .i64 w)] (sV lo hi)∧EnE (AT (dv m ee)) w.toNat lo hi gE∧hi-lo≤2∧(1000*hi≤1571*2^w.toNat+3000∧-(1571*2^w.toNat+3000)≤1000*lo):=by
 obtain⟨y1,y2,hC,hE,hw2,l1,l2⟩:=fx_AtanE m ee (w+24) oO hm he
 have tz:=tq_gE (n:=(w+24).toNat) oO
 have tq0:=tq_pos
 have Z0:(0:Rat)<((2^(w+24).toNat:Int):Rat):=Rat.intCast_pos.2 (two_pos _)
 have tZ:=Rat.mul_pos tq0 Z0
 have gb:=gE_b
 have y12:y1≤y2:=hE.le hE (Lq.refl _) (by grind)
 have hT:=fx_Settle1 110 _ y1 y2 w (at_clo m ee (w+24) y1 y2 hC) oO (nbits_of_lt oO) oO
 have w2:=half_w (a:=y1) (b:=y2) (W:=1) (n:=24) oO
 have e:=hE.half (s:=w.toNat) (n:=24) oO
 have t:=tq_gE (n:=w.toNat) oO
 have tp:=tq_pos
 have T0:(0:Rat)<((2^w.toNat:Int):Rat):=Rat.intCast_pos.2 (two_pos _)
 have tT:=Rat.mul_pos tp T0
 have e:=e.mono (g':=gE) (by grind)
 refine⟨_,_,at_value0 m ee w _ _ hT,e,w2,?_⟩
 generalize y1 / 2^24=lo at *
 generalize -(-y2 / 2^24)=hi at *
 obtain⟨N,e⟩:=e
 have e:=e N (Nat.le_refl _)
 have b:=AT_b (dv m ee) N
 have c:=cQ_b
 have g:=gE_b
 have m1:=Rat.mul_le_mul_of_nonneg_right (show 1000*AT (dv m ee) N≤1571 by grind) (Rat.le_of_lt T0)
 have m2:=Rat.mul_le_mul_of_nonneg_right (show -1571≤1000*AT (dv m ee) N by grind) (Rat.le_of_lt T0)
 have k1:((1000*lo:Int):Rat)≤((1571*2^w.toNat+1000:Int):Rat):=by
  rw[Rat.intCast_add,Rat.intCast_mul,Rat.intCast_mul]
  show (1000:Rat)*_≤1571*_+1000
  grind
 have k2:((-(1571*2^w.toNat)-1000:Int):Rat)≤((1000*hi:Int):Rat):=by
  rw[Rat.intCast_sub,Rat.intCast_neg,Rat.intCast_mul,Rat.intCast_mul]
  show -((1571:Rat)*_)-1000≤(1000:Rat)*_
  grind
 have k1:=Rat.intCast_le_intCast.1 k1
 have k2:=Rat.intCast_le_intCast.1 k2
 omega
theorem at_L {x w:Int}(hw:0≤w∧w≤350)(h1:1000*x≤1571*2^w.toNat+5000)(h2:-(1571*2^w.toNat+5000)≤1000*x):L x.natAbs≤12:=by
 have e:((2^(w.toNat+3):Nat):Int)=2^w.toNat*8:=by rw[← pow_cast,Int.pow_add];rfl
 have:=two_pos w.toNat
 exact L_pow2 (n:=w.toNat+3) oO oO
theorem EnE.sh {f:Nat→Rat}{s:Nat}{a b:Int}{x e:Rat}(h:EnE f s a b x)(e0:0≤e):EnE (fun K=>f K+e) s a b (x+e*((2^s:Int):Rat)):=by
 obtain⟨N,h⟩:=h
 have T0:(0:Rat)<((2^s:Int):Rat):=Rat.intCast_pos.2 (two_pos s)
 have p:=Rat.mul_nonneg e0 (Rat.le_of_lt T0)
 refine⟨N,fun K hK=>?_⟩
 have h:=h K hK
 constructor<;>grind
theorem at_le {x y:Rat}{s:Nat}{a b c d:Int}(h:EnE (AT x) s a b gE)(k:EnE (AT y) s c d gE)(hxy:x≤y)(hs:s≤350):a≤d:=by
 have t:=tq_gE (n:=s) oO
 have tp:=tq_pos
 have g:=gE_b
 have T0:(0:Rat)<((2^s:Int):Rat):=Rat.intCast_pos.2 (two_pos s)
 have tT:=Rat.mul_pos tp T0
 exact h.le (k.sh (Rat.le_of_lt tp)) (AT_mono hxy) (by grind)
theorem at_AtanE (m ee n f w:Int)(hw:0≤w∧w≤300)(hm:L (m).natAbs≤100)(he:-5000≤ee∧ee≤5000)(hn:L (n).natAbs≤100)(hf:-5000≤f∧f≤5000) :
  ∃ l1 h1 l2 h2:Int,Impl Tryz.prog Amb 15 [(wV m ee n f),(.int .i64 w)] (.tup [(wV (mkM l1 (-w)) (mkX l1 (-w)) (mkM h2 (-w)) (mkX h2 (-w))),(.int .i64 0)])∧(EnE (AT (dv m ee)) w.toNat l1 h1 gE∧h1-l1≤2∧(1000*h1≤1571*2^w.toNat+3000∧-(1571*2^w.toNat+3000)≤1000*l1))∧(EnE (AT (dv n f)) w.toNat l2 h2 gE∧h2-l2≤2∧(1000*h2≤1571*2^w.toNat+3000∧-(1571*2^w.toNat+3000)≤1000*l2))∧(L l1.natAbs≤12∧L h2.natAbs≤12):=by
 obtain⟨l1,h1,hA,eA,wA,bA⟩:=at_valueE m ee w oO hm he
 obtain⟨l2,h2,hB,eB,wB,bB⟩:=at_valueE n f w oO hn hf
 have ge:=gE_b
 have o1:l1≤h1:=eA.le eA (Lq.refl _) (by grind)
 have o2:l2≤h2:=eB.le eB (Lq.refl _) (by grind)
 have z1:=at_L (x:=l1) (w:=w) oO oO oO
 have z2:=at_L (x:=h2) (w:=w) oO oO oO
 have mA:=dy_Make l1 (0-w) oO oO
 have mB:=dy_Make h2 (0-w) oO oO
 rw[Int.zero_sub,mk_fine2 (m:=l1) (e:=-w) oO oO] at mA
 rw[Int.zero_sub,mk_fine2 (m:=h2) (e:=-w) oO oO] at mB
 have hI:=at_intv l1 h1 l2 h2 w _ _ _ _ oO (by rw[Int.zero_sub];exact mA) (by rw[Int.zero_sub];exact mB)
 exact⟨l1,h1,l2,h2,at_Atan0 m ee n f w l1 h1 l2 h2 _ _ _ _ oO hA hB hI,⟨eA,wA,bA⟩,⟨eB,wB,bB⟩,z1,z2⟩
end Go.Proofs.YtkkbddkpggjgpaaGreatDoor

namespace Go.Proofs.YtkkbddkpggjgpaaGreatDoor
structure Hstep (T a b a' b':Int):Prop where
 h1:0≤a'
 h2:a'≤b'
 h3:2*b'≤b+2
 lo:2*((a':Rat)*(T:Rat)⁻¹)≤(a:Rat)*(T:Rat)⁻¹*(1-(a':Rat)*(T:Rat)⁻¹*((a':Rat)*(T:Rat)⁻¹))
 hi:(b:Rat)*(T:Rat)⁻¹*(1-(b':Rat)*(T:Rat)⁻¹*((b':Rat)*(T:Rat)⁻¹))≤2*((b':Rat)*(T:Rat)⁻¹)
end Go.Proofs.YtkkbddkpggjgpaaGreatDoor










namespace Go.Proofs.YtkkbddkpggjgpaaGreatDoor
open Go.RowKit
set_option maxRecDepth 100000
def eA (w:Int):Int:=(mkM ((eLo (w+24)) / 2^24) (-w))
def eB (w:Int):Int:=(mkX ((eLo (w+24)) / 2^24) (-w))
end Go.Proofs.YtkkbddkpggjgpaaGreatDoor




namespace Go.Proofs.YtkkbddkpggjgpaaGreatDoor
open Go.RowKit
set_option maxRecDepth 100000
set_option maxHeartbeats 2000000
theorem l16_of (a b:Int)(c0:(-9223372036854775808:Int)≤a∧a≤9223372036854775807)(c1:(-9223372036854775808:Int)≤b∧b≤9223372036854775807):Impl Tryz.prog Amb 36 [(.int .i64 a),(.int .i64 b)] (wV (mkM a 0) (mkX a 0) (mkM b 0) (mkX b 0)):=by
 exact impl_ob hP hAmb Tryz.func36 (by kernel_rfl) (.lit<|.call (yV (mkM a 0) (mkX a 0))<|.lit<|.call (yV (mkM b 0) (mkX b 0))<|.lits 3<|.ret)
  (cast_ob (aI True.intro (aI (r08_Of a oO) (have f14:=(of_fit (n:=a) oO).2.2.2.2.1;have f13:=(of_fit (n:=a) oO).2.2.2.1;have f12:=(of_fit (n:=a) oO).2.2.1;have f11:=(of_fit (n:=a) oO).2.1;have f10:=(of_fit (n:=a) oO).1;have f9:=(L_i64 oO:L (a:Int).natAbs≤2);have f8:=mk_facts a 0;aI (r08_Of b oO) (have f7:=(of_fit (n:=b) oO).2.2.2.2.1;have f6:=(of_fit (n:=b) oO).2.2.2.1;have f5:=(of_fit (n:=b) oO).2.2.1;have f4:=(of_fit (n:=b) oO).2.1;have f3:=(of_fit (n:=b) oO).1;have f2:=(L_i64 oO:L (b:Int).natAbs≤2);have f1:=mk_facts b 0;(vsub_refl (wV (mkM a 0) (mkX a 0) (mkM b 0) (mkX b 0))))))) (by kernel_rfl))
theorem at_RecipB (n w:Int)(c0:(-9223372036854775808:Int)≤n∧n≤9223372036854775807)(c1:(-9223372036854775808:Int)≤w∧w≤9223372036854775807)(c2:0≤w∧w≤4096)(c3:n<2):Impl Tryz.prog Amb 26 [(.int .i64 n),(.int .i64 w)] (.tup [(.agg [(.bool false),.nil,(.int .i64 0),(.bool false),.nil,(.int .i64 0)]),(.int .i64 1)]):=by
 exact impl_ob hP hAmb Tryz.func26 (by kernel_rfl) (.lit<|.no<|.lits 3<|.no<|.lits 4<|.yes<|.lits 6<|.ret)
  (cast_ob (aI True.intro (aI (iLt_mkF oO:(iLt w 0)=false) (aI (iGt_mkF oO:(iGt w 4096)=false) (aI (iLt_mk oO:(iLt n 2)=true) ((vsub_refl (.tup [(.agg [(.bool false),.nil,(.int .i64 0),(.bool false),.nil,(.int .i64 0)]),(.int .i64 1)]))))))) (by kernel_rfl))
theorem l16_awake0 (t1 t2 t3 t4 a1 a2 a3 a4:Int)(qa:Rat)(c0:Impl Tryz.prog Amb 36 [(.int .i64 0),(.int .i64 0)] (wV t1 t2 t3 t4))(c1:Impl Tryz.prog Amb 15 [(wV t1 t2 t3 t4),(.int .i64 4)] (.tup [(wV a1 a2 a3 a4),(.int .i64 0)]))(c2:Impl Tryz.prog Amb 26 [(.int .i64 1),(.int .i64 5)] (.tup [(.agg [(.bool false),.nil,(.int .i64 0),(.bool false),.nil,(.int .i64 0)]),(.int .i64 1)]))(c3:Impl Tryz.prog Amb 29 [(.int .i64 0)] (.agg [(.bool (decide (qa.num<0))),(N qa.num.natAbs),(N qa.den)]))(c4:Impl Tryz.prog Amb 41 [(wV a1 a2 a3 a4),(.agg [(.bool (decide (qa.num<0))),(N qa.num.natAbs),(N qa.den)])] (.bool true)):Impl Tryz.prog Amb 11 [] (.bool true):=by
 exact impl_ob hP hAmb Tryz.func11 (by kernel_rfl) (.lit<|.call (wV t1 t2 t3 t4)<|.lit<|.call (.tup [(wV a1 a2 a3 a4),(.int .i64 0)])<|.lits 2<|.call (.tup [(.agg [(.bool false),.nil,(.int .i64 0),(.bool false),.nil,(.int .i64 0)]),(.int .i64 1)])<|.lits 6<|.call (.agg [(.bool (decide (qa.num<0))),(N qa.num.natAbs),(N qa.den)])<|.lits 2<|.call (.bool true)<|.lits 6<|.ret)
  (cast_ob (aI True.intro (aI (c0 ) (aI (c1 ) (aI (c2 ) (aI (c3 ) (aI (c4 ) ((vsub_refl (.bool true))))))))) (by kernel_rfl))
end Go.Proofs.YtkkbddkpggjgpaaGreatDoor

namespace Go.Proofs.YtkkbddkpggjgpaaGreatDoor
open Go.RowKit
set_option maxRecDepth 100000
set_option maxHeartbeats 4000000
theorem AT_00 (K:Nat):AT 0 K=0:=by
 rw[AT_p (show ¬ (0:Rat)<0 by grind),ATp_1 (show (0:Rat)≤1 by decide)]
 unfold AT0
 rw[if_pos (by grind),AL_zero]
theorem l16_00:mkM 0 0=0∧mkX 0 0=0:=⟨by kernel_rfl,by kernel_rfl⟩
theorem l16_awake:Impl Tryz.prog Amb 11 [] (.bool true):=by
 have y:=l16_of 0 0 oO oO
 rw[l16_00.1,l16_00.2] at y
 have z0:L (0:Int).natAbs=0:=L_zero
 obtain⟨l1,h1,l2,h2,hA,⟨e1,_,_⟩,⟨e2,_,_⟩,la,lb⟩:=at_AtanE 0 0 0 0 4 oO oO oO oO oO
 rw[dv_zero] at e1 e2
 have g:=gE_b
 have k1:l1≤0:=by
  obtain⟨N,e⟩:=e1
  have e:=(e N (Nat.le_refl _)).1
  rw[AT_00,Rat.zero_mul,Rat.zero_add] at e
  refine Decidable.byContradiction fun hn=>?_
  have:((1:Int):Rat)≤(l1:Rat):=Rat.intCast_le_intCast.2 oO
  rw[show ((1:Int):Rat)=1 from rfl] at this
  grind
 have k2:0≤h2:=by
  obtain⟨N,e⟩:=e2
  have e:=(e N (Nat.le_refl _)).2
  rw[AT_00,Rat.zero_mul] at e
  refine Decidable.byContradiction fun hn=>?_
  have:(h2:Rat)≤((-1:Int):Rat):=Rat.intCast_le_intCast.2 oO
  rw[show ((-1:Int):Rat)=-1 from rfl] at this
  grind
 have hH:=g_has l1 h2 0 4 oO oO oO oO oO oO
 exact l16_awake0 _ _ _ _ _ _ _ _ _ y hA (at_RecipB 1 5 oO oO oO oO) (r07_Of 0 oO) hH
theorem at_L8 {x w:Int}(hw:0≤w∧w≤200)(h1:1000*x≤1571*2^w.toNat+5000)(h2:-(1571*2^w.toNat+5000)≤1000*x):L x.natAbs≤8:=by
 have e:((2^(w.toNat+3):Nat):Int)=2^w.toNat*8:=by rw[← pow_cast,Int.pow_add];rfl
 have:=two_pos w.toNat
 exact L_pow2 (n:=w.toNat+3) oO oO
end Go.Proofs.YtkkbddkpggjgpaaGreatDoor

namespace Go.Proofs.YtkkbddkpggjgpaaGreatDoor
theorem fl_U {p m:Nat}{X:Rat}(hm:0<m)(h1:((p:Int):Rat)≤X)(h2:X<((p:Int):Rat)+1):(((p / m:Nat):Int):Rat)*((m:Int):Rat)≤X∧X<((((p / m:Nat):Int):Rat)+1)*((m:Int):Rat):=by
 have a:=Nat.div_mul_le_self p m
 have b:p+1≤(p / m+1)*m:=by
  have:=Nat.lt_div_mul_add (a:=p) hm
  rw[Nat.add_mul,Nat.one_mul];omega
 have a:=Rat.intCast_le_intCast.2 (Int.ofNat_le.2 a)
 have b:=Rat.intCast_le_intCast.2 (Int.ofNat_le.2 b)
 rw[Int.natCast_mul,Rat.intCast_mul] at a
 rw[Int.natCast_mul,Rat.intCast_mul,Int.natCast_add,Int.natCast_add,Rat.intCast_add,Rat.intCast_add,Int.natCast_one,show ((1:Int):Rat)=1 from rfl] at b
 constructor<;>grind
theorem tA_mul (z:Rat)(j:Nat):tA z j*(odn j:Rat)=z^(2*j+1):=by
 have n0:(0:Rat)<(odn j:Rat):=Rat.intCast_pos.2 (odn_pos j)
 exact Rat.div_mul_cancel (by grind)
theorem arc_E {n s:Int}{T:Int × Int}{z S:Rat}(hn:2≤n)(hz:z*(n:Rat)=1)(z0:0<z):∀ (m:Nat) (f k:Int) (p:Nat) (a:Int) (j:Nat),f.toNat=m→k=(j:Int)→ArcInv n true s T f k p a→((p:Int):Rat)≤z^(2*j+1)*S→z^(2*j+1)*S<((p:Int):Rat)+1 →
  -((j:Int):Rat)≤(a:Rat)-AL z j*S→(a:Rat)-AL z j*S≤((j:Int):Rat)→∃ j':Nat,T.1=(j':Int)∧(-((j':Int):Rat)≤(T.2:Rat)-AL z j'*S∧(T.2:Rat)-AL z j'*S≤((j':Int):Rat))∧z^(2*j'+1)*S<1
 | m,f,k,p,a,j,hm,hk,h,h1,h2,h3,h4=>by
  by_cases hp:p=0
  ·obtain⟨e1,e2⟩:=arc_end h hp
   subst hp
   refine⟨j,by rw[← e1,hk],⟨by rw[← e2];exact h3,by rw[← e2];exact h4⟩,?_⟩
   have c:(((0:Nat):Int):Rat)=0:=rfl
   rw[c,Rat.zero_add] at h2
   exact h2
  ·have hf:=arc_f h hp
   cases m with
   | zero=>omega
   | succ m =>
    have nx:=arc_next hn h hp (b:=(true && decide (k%2=1))) rfl
    have nN:((n.toNat:Nat):Int)=n:=by omega
    have u1:=fl_U (m:=n.toNat) (by omega) h1 h2
    rw[nN] at u1
    have v1:(((p / n.toNat:Nat):Int):Rat)≤z^(2*j+1)*S*z∧z^(2*j+1)*S*z<(((p / n.toNat:Nat):Int):Rat)+1:=by
     have m1:=Rat.mul_le_mul_of_nonneg_right u1.1 (Rat.le_of_lt z0)
     have m2:=Rat.mul_lt_mul_of_pos_right u1.2 z0
     have e1:(((p / n.toNat:Nat):Int):Rat)*(n:Rat)*z=(((p / n.toNat:Nat):Int):Rat):=by rw[Rat.mul_assoc,Rat.mul_comm (n:Rat),hz,Rat.mul_one]
     have e2:((((p / n.toNat:Nat):Int):Rat)+1)*(n:Rat)*z=(((p / n.toNat:Nat):Int):Rat)+1:=by rw[Rat.mul_assoc,Rat.mul_comm (n:Rat),hz,Rat.mul_one]
     rw[e1] at m1
     rw[e2] at m2
     exact⟨m1,m2⟩
    have u2:=fl_U (m:=n.toNat) (by omega) v1.1 v1.2
    rw[nN] at u2
    have v2:(((p / n.toNat / n.toNat:Nat):Int):Rat)≤z^(2*(j+1)+1)*S∧z^(2*(j+1)+1)*S<(((p / n.toNat / n.toNat:Nat):Int):Rat)+1:=by
     have m1:=Rat.mul_le_mul_of_nonneg_right u2.1 (Rat.le_of_lt z0)
     have m2:=Rat.mul_lt_mul_of_pos_right u2.2 z0
     have e1:(((p / n.toNat / n.toNat:Nat):Int):Rat)*(n:Rat)*z=(((p / n.toNat / n.toNat:Nat):Int):Rat):=by rw[Rat.mul_assoc,Rat.mul_comm (n:Rat),hz,Rat.mul_one]
     have e2:((((p / n.toNat / n.toNat:Nat):Int):Rat)+1)*(n:Rat)*z=(((p / n.toNat / n.toNat:Nat):Int):Rat)+1:=by rw[Rat.mul_assoc,Rat.mul_comm (n:Rat),hz,Rat.mul_one]
     rw[e1] at m1
     rw[e2] at m2
     have e3:z^(2*(j+1)+1)*S=z^(2*j+1)*S*z*z:=by rw[odd_succ];grind
     rw[e3]
     exact⟨m1,m2⟩
    have od:((2*k+1).toNat:Int)=odn j:=by unfold odn;omega
    have u3:=fl_U (m:=(2*k+1).toNat) (by omega) h1 h2
    rw[od] at u3
    have n0:(0:Rat)<(odn j:Rat):=Rat.intCast_pos.2 (odn_pos j)
    have tm:tA z j*S*(odn j:Rat)=z^(2*j+1)*S:=by rw[← tA_mul];grind
    rw[← tm] at u3
    have w1:=Rat.le_of_mul_le_mul_right u3.1 n0
    have w2:=Rat.lt_of_mul_lt_mul_right u3.2 (Rat.le_of_lt n0)
    have eA:AL z (j+1)*S=AL z j*S+sg j*(tA z j*S):=by
     show (AL z j+sg j*tA z j)*S=_
     grind
    have cj:(((j+1:Nat):Int):Rat)=((j:Int):Rat)+1:=by rw[Int.natCast_add,Rat.intCast_add];rfl
    have st:-(((j:Int):Rat)+1)≤((a+sgn (true && decide (k%2=1)) (p / (2*k+1).toNat):Int):Rat)-AL z (j+1)*S∧((a+sgn (true && decide (k%2=1)) (p / (2*k+1).toNat):Int):Rat)-AL z (j+1)*S≤((j:Int):Rat)+1:=by
     rw[eA,Rat.intCast_add]
     generalize p / (2*k+1).toNat=t at *
     generalize tA z j*S=y at *
     by_cases q:j%2=0
     ·have s1:sg j=1:=by unfold sg;rw[if_pos q]
      rw[decide_eq_false (show ¬ k%2=1 by omega),s1]
      show -(((j:Int):Rat)+1)≤(a:Rat)+((t:Int):Rat)-_∧(a:Rat)+((t:Int):Rat)-_≤_
      constructor<;>grind
     ·have s1:sg j=-1:=by unfold sg;rw[if_neg q]
      rw[decide_eq_true (show k%2=1 by omega),s1]
      show -(((j:Int):Rat)+1)≤(a:Rat)+((-(t:Int):Int):Rat)-_∧(a:Rat)+((-(t:Int):Int):Rat)-_≤_
      rw[Rat.intCast_neg]
      constructor<;>grind
    exact arc_E hn hz z0 m (f-1) (k+1) _ _ (j+1) (by omega) (by omega) nx v2.1 v2.2 (by rw[cj];exact st.1) (by rw[cj];exact st.2)
theorem arc_enc {n s:Int}{z:Rat}(hn:2≤n)(hs:0≤s)(hz:z*(n:Rat)=1)(z0:0<z)(z1:z≤1 / 2):∃ N,∀ K,N≤K→(((arcT n true s).2-3*((arcT n true s).1+2):Int):Rat)≤AL z K*((2^s.toNat:Int):Rat)∧AL z K*((2^s.toNat:Int):Rat)≤(((arcT n true s).2+3*((arcT n true s).1+2):Int):Rat):=by
 have h:=arc_init (n:=n) (g:=true) (s:=s) hs
 have T0:(0:Rat)<((2^s.toNat:Int):Rat):=Rat.intCast_pos.2 (two_pos _)
 have nN:((n.toNat:Nat):Int)=n:=by omega
 have c:(((1*2^s.toNat:Nat):Int):Rat)=((2^s.toNat:Int):Rat):=by rw[Nat.one_mul,pow_cast]
 have u:=fl_U (p:=1*2^s.toNat) (m:=n.toNat) (X:=((2^s.toNat:Int):Rat)) (by omega) (by rw[c];exact Rat.le_refl) (by rw[c];grind)
 rw[nN] at u
 have m1:=Rat.mul_le_mul_of_nonneg_right u.1 (Rat.le_of_lt z0)
 have m2:=Rat.mul_lt_mul_of_pos_right u.2 z0
 rw[Rat.mul_assoc,Rat.mul_comm (n:Rat),hz,Rat.mul_one] at m1
 rw[Rat.mul_assoc,Rat.mul_comm (n:Rat),hz,Rat.mul_one] at m2
 have zp:z^(2*0+1)=z:=by rw[Rat.pow_succ,Rat.pow_zero,Rat.one_mul]
 have a0:AL z 0=0:=rfl
 obtain⟨j,e1,e2,e3⟩:=arc_E (S:=((2^s.toNat:Int):Rat)) hn hz z0 _ _ 0 _ 0 0 rfl rfl h (by rw[zp,Rat.mul_comm];exact m1) (by rw[zp,Rat.mul_comm];exact m2) (by rw[a0];show -(0:Rat)≤0-0*_;grind) (by rw[a0];show (0:Rat)-0*_≤0;grind)
 refine⟨j,fun K hK=>?_⟩
 have nr:=AL_near (Rat.le_of_lt z0) (by grind) hK
 have t:=(tA_nn (Rat.le_of_lt z0) j).2
 have t2:=Rat.mul_le_mul_of_nonneg_right t (Rat.le_of_lt T0)
 have k1:=Rat.mul_le_mul_of_nonneg_right nr.1 (Rat.le_of_lt T0)
 have k2:=Rat.mul_le_mul_of_nonneg_right nr.2 (Rat.le_of_lt T0)
 have j0:(0:Rat)≤((j:Int):Rat):=Rat.intCast_nonneg.2 (Int.natCast_nonneg _)
 rw[e1,Rat.intCast_sub,Rat.intCast_add,Rat.intCast_mul,Rat.intCast_add,show ((3:Int):Rat)=3 from rfl,show ((2:Int):Rat)=2 from rfl]
 constructor<;>grind
theorem machin_num:(-(tq*(1 / 2))≤16*AL (1 / 5) 93-4*AL (1 / 239) 28-2*cQ∧16*AL (1 / 5) 93-4*AL (1 / 239) 28-2*cQ≤tq*(1 / 2))∧16*tA (1 / 5) 93+4*tA (1 / 239) 28≤tq*(1 / 2):=⟨⟨of_decide_eq_true (by kernel_rfl),of_decide_eq_true (by kernel_rfl)⟩,of_decide_eq_true (by kernel_rfl)⟩
theorem machin {K:Nat}(hK:93≤K):-tq≤16*AL (1 / 5) K-4*AL (1 / 239) K-2*cQ∧16*AL (1 / 5) K-4*AL (1 / 239) K-2*cQ≤tq:=by
 have n:=machin_num
 have a:=AL_near (z:=1 / 5) (by grind) (by grind) (n:=93) (K:=K) (by omega)
 have b:=AL_near (z:=1 / 239) (by grind) (by grind) (n:=28) (K:=K) (by omega)
 generalize AL (1 / 5) 93=x1 at *
 generalize AL (1 / 239) 28=x2 at *
 generalize AL (1 / 5) K=x3 at *
 generalize AL (1 / 239) K=x4 at *
 constructor<;>grind
end Go.Proofs.YtkkbddkpggjgpaaGreatDoor

namespace Go.Proofs.YtkkbddkpggjgpaaGreatDoor
open Go.RowKit
set_option maxRecDepth 100000
set_option maxHeartbeats 2000000
theorem at_rclo (n ss lo hi:Int)(c0:2≤n∧n≤1000000)(c1:Impl Tryz.prog Amb 80 [(.int .u32 n),(.int .i64 ss),(.bool true)] (sV lo hi)):Impl Tryz.prog Amb 79 [(.int .i64 ss),(.pt [(V.int .i64 n)] 0)] (sV lo hi):=by
 exact impl_ob hP hAmb Tryz.func79 (by kernel_rfl) (.lits 2<|.yes<|.lit<|.call (sV lo hi)<|.lits 2<|.ret)
  (cast_ob (aI True.intro (aI (fits_u32 oS:(fits .u32 n)=true) (aI (c1 ) ((vsub_refl (sV lo hi)))))) (by kernel_rfl))
theorem at_Recip0 (n w a1 a2 g1 g2 g3 g4:Int)(c0:0≤w∧w≤4096)(c1:2≤n∧n≤1000000)(c2:Impl Tryz.prog Amb 78 [(.int .i64 w),(.clos 79 [(.pt [(V.int .i64 n)] 0)])] (sV a1 a2))(c3:Impl Tryz.prog Amb 47 [(sV a1 a2),(sV a1 a2),(.int .i64 w)] (.tup [(wV g1 g2 g3 g4),(.int .i64 0)])):Impl Tryz.prog Amb 26 [(.int .i64 n),(.int .i64 w)] (.tup [(wV g1 g2 g3 g4),(.int .i64 0)]):=by
 exact impl_ob hP hAmb Tryz.func26 (by kernel_rfl) (.lit<|.no<|.lits 3<|.no<|.lits 4<|.no<|.lits 4<|.no<|.lit<|.call (sV a1 a2)<|.lits 4<|.call (.tup [(wV g1 g2 g3 g4),(.int .i64 0)])<|.lits 2<|.ret)
  (cast_ob (aI True.intro (aI (iLt_mkF oO:(iLt w 0)=false) (aI (iGt_mkF oO:(iGt w 4096)=false) (aI (iLt_mkF oO:(iLt n 2)=false) (aI (iGt_mkF oO:(iGt n 1000000)=false) (aI (c2 ) (aI (c3 ) ((vsub_refl (.tup [(wV g1 g2 g3 g4),(.int .i64 0)])))))))))) (by kernel_rfl))
theorem l16_Pi0 (w vpa vpb vpc vpd voa vob voc vod vaa vab vac vad vfa vfb vfc vfd vba vbb vbc vbd vxa vxb vxc vxd vya vyb vyc vyd vga vgb vgc vgd vua vub vuc vud vha vhb vhc vhd vva vvb vvc vvd vma vmb vmc vmd:Int)(c0:(-9223372036854775808:Int)≤w∧w≤9223372036854775807)(c1:Impl Tryz.prog Amb 11 [] (.bool true))(c2:Impl Tryz.prog Amb 42 [(.int .i64 (w%150))] (.tup [(wV vpa vpb vpc vpd),(.int .i64 0)]))(c3:Impl Tryz.prog Amb 36 [(.int .i64 1),(.int .i64 1)] (wV voa vob voc vod))(c4:Impl Tryz.prog Amb 15 [(wV voa vob voc vod),(.int .i64 (w%150))] (.tup [(wV vaa vab vac vad),(.int .i64 0)]))(c5:Impl Tryz.prog Amb 36 [(.int .i64 4),(.int .i64 4)] (wV vfa vfb vfc vfd))(c6:Impl Tryz.prog Amb 37 [(wV vfa vfb vfc vfd),(wV vaa vab vac vad),(.int .i64 (w%150))] (.tup [(wV vba vbb vbc vbd),(.int .i64 0)]))(c7:Impl Tryz.prog Amb 26 [(.int .i64 5),(.int .i64 (w%150))] (.tup [(wV vxa vxb vxc vxd),(.int .i64 0)]))(c8:Impl Tryz.prog Amb 26 [(.int .i64 239),(.int .i64 (w%150))] (.tup [(wV vya vyb vyc vyd),(.int .i64 0)]))(c9:Impl Tryz.prog Amb 36 [(.int .i64 16),(.int .i64 16)] (wV vga vgb vgc vgd))(c10:Impl Tryz.prog Amb 37 [(wV vga vgb vgc vgd),(wV vxa vxb vxc vxd),(.int .i64 (w%150))] (.tup [(wV vua vub vuc vud),(.int .i64 0)]))(c11:Impl Tryz.prog Amb 37 [(wV vfa vfb vfc vfd),(wV vya vyb vyc vyd),(.int .i64 (w%150))] (.tup [(wV vva vvb vvc vvd),(.int .i64 0)]))(c12:Impl Tryz.prog Amb 43 [(wV vua vub vuc vud),(wV vva vvb vvc vvd),(.int .i64 (w%150))] (.tup [(wV vma vmb vmc vmd),(.int .i64 0)]))(c13:Impl Tryz.prog Amb 21 [(wV vba vbb vbc vbd),(wV vpa vpb vpc vpd)] (.int .i64 0))(c14:Impl Tryz.prog Amb 21 [(wV vma vmb vmc vmd),(wV vpa vpb vpc vpd)] (.int .i64 0)):Impl Tryz.prog Amb 10 [(.int .i64 w)] (.bool true):=by
 exact impl_ob hP hAmb Tryz.func10 (by kernel_rfl) (.lit<|.call (.bool true)<|.lits 3<|.call (.int .i64 (w%150))<|.lit<|.call (.tup [(wV vpa vpb vpc vpd),(.int .i64 0)])<|.lits 2<|.call (wV voa vob voc vod)<|.lit<|.call (.tup [(wV vaa vab vac vad),(.int .i64 0)])<|.lits 2<|.call (wV vfa vfb vfc vfd)<|.lits 2<|.call (.tup [(wV vba vbb vbc vbd),(.int .i64 0)])<|.lit<|.call (.tup [(wV vxa vxb vxc vxd),(.int .i64 0)])<|.lits 2<|.call (.tup [(wV vya vyb vyc vyd),(.int .i64 0)])<|.lits 2<|.call (wV vga vgb vgc vgd)<|.lits 2<|.call (.tup [(wV vua vub vuc vud),(.int .i64 0)])<|.lit<|.call (wV vfa vfb vfc vfd)<|.lits 2<|.call (.tup [(wV vva vvb vvc vvd),(.int .i64 0)])<|.lits 3<|.call (.tup [(wV vma vmb vmc vmd),(.int .i64 0)])<|.lits 34<|.call (.int .i64 0)<|.lits 7<|.call (.int .i64 0)<|.lits 4<|.ret)
  (cast_ob (aI True.intro (aI (c1 ) (aI (mill_Mod w 150 oS oS) (have f2:=Int.emod_lt_of_pos w (show (0:Int)<150 by first | omega | assumption);have f1:=Int.emod_nonneg w (show (150:Int)≠0 by first | omega | assumption);aI (c2 ) (aI (c3 ) (aI (c4 ) (aI (c5 ) (aI (c6 ) (aI (c7 ) (aI (c8 ) (aI (c9 ) (aI (c10 ) (aI (c5 ) (aI (c11 ) (aI (c12 ) (aI (c13 ) (aI (c14 ) ((vsub_refl (.bool true)))))))))))))))))))) (by kernel_rfl))
end Go.Proofs.YtkkbddkpggjgpaaGreatDoor

namespace Go.Proofs.YtkkbddkpggjgpaaGreatDoor
open Go.RowKit
set_option maxRecDepth 100000
set_option maxHeartbeats 2000000
theorem at_RecipE (n w:Int)(hn:2≤n∧n≤1000000)(hw:0≤w∧w≤200):∃ lo hi:Int,Impl Tryz.prog Amb 26 [(.int .i64 n),(.int .i64 w)] (.tup [(wV (mkM lo (-w)) (mkX lo (-w)) (mkM hi (-w)) (mkX hi (-w))),(.int .i64 0)])∧hi-lo≤2∧(L lo.natAbs≤8∧L hi.natAbs≤8)∧lo≤hi∧(∀ z:Rat,z*(n:Rat)=1→0<z→z≤1 / 2→EnE (AL z) w.toNat lo hi 0):=by
 have hA:=fx_Arc1 n (w+24) oO oO
 have al:=arcT_L (n:=n) true (s:=w+24) hn.1 oO
 have en:=fun z h1 h2 h3=>arc_enc (n:=n) (s:=w+24) (z:=z) hn.1 oO h1 h2 h3
 generalize (arcT n true (w+24)).1=tk at *
 generalize (arcT n true (w+24)).2=ta at *
 have hC:=at_rclo n (w+24) _ _ hn hA
 have hT:=fx_Settle1 79 _ (ta-3*(tk+2)) (ta+3*(tk+2)) w hC oO (nbits_of_lt oO) oO
 have w2:=half_w (a:=ta-3*(tk+2)) (b:=ta+3*(tk+2)) (W:=1) (n:=24) oO
 have E:(∀ z:Rat,z*(n:Rat)=1→0<z→z≤1 / 2→EnE (AL z) w.toNat ((ta-3*(tk+2)) / 2^24) (-(-(ta+3*(tk+2)) / 2^24)) 0):=fun z h1 h2 h3=>by
  obtain⟨N,e⟩:=en z h1 h2 h3
  refine⟨N,fun K hK=>?_⟩
  have e:=half_enc (s:=w.toNat) (n:=24) oO (e K hK).1 (e K hK).2
  constructor<;>grind
 generalize (ta-3*(tk+2)) / 2^24=lo at *
 generalize -(-(ta+3*(tk+2)) / 2^24)=hi at *
 have n0:(0:Rat)<(n:Rat):=Rat.intCast_pos.2 oO
 have n2:((2:Int):Rat)≤(n:Rat):=Rat.intCast_le_intCast.2 hn.1
 rw[show ((2:Int):Rat)=2 from rfl] at n2
 have zi:=inv_one n0
 have z0:=Rat.inv_pos.2 n0
 have zh:(n:Rat)⁻¹≤1 / 2:=by
  have:=Rat.mul_le_mul_of_nonneg_left n2 (Rat.le_of_lt z0)
  grind
 obtain⟨N,e⟩:=E _ zi z0 zh
 have e:=e N (Nat.le_refl _)
 have b:=AL_b (Rat.le_of_lt z0) (by grind) N
 have T0:(0:Rat)<((2^w.toNat:Int):Rat):=Rat.intCast_pos.2 (two_pos _)
 have m1:=Rat.mul_le_mul_of_nonneg_right b.1 (Rat.le_of_lt T0)
 have m2:=Rat.mul_le_mul_of_nonneg_right (show AL (n:Rat)⁻¹ N≤1 by grind) (Rat.le_of_lt T0)
 have k1:lo≤2^w.toNat:=Rat.intCast_le_intCast.1 (by grind)
 have k2:0≤hi:=by
  have:((0:Int):Rat)≤(hi:Rat):=by rw[show ((0:Int):Rat)=0 from rfl];grind
  exact Rat.intCast_le_intCast.1 this
 have k3:lo≤hi:=Rat.intCast_le_intCast.1 (by grind)
 have PW:=two_pos w.toNat
 have l1:=at_L8 (x:=lo) (w:=w) oO oO oO
 have l2:=at_L8 (x:=hi) (w:=w) oO oO oO
 have mA:=dy_Make lo (0-w) oO oO
 have mB:=dy_Make hi (0-w) oO oO
 rw[Int.zero_sub,mk_fine2 (m:=lo) (e:=-w) oO oO] at mA
 rw[Int.zero_sub,mk_fine2 (m:=hi) (e:=-w) oO oO] at mB
 have hI:=at_intv lo hi lo hi w _ _ _ _ oO (by rw[Int.zero_sub];exact mA) (by rw[Int.zero_sub];exact mB)
 exact⟨lo,hi,at_Recip0 n w lo hi _ _ _ _ oO hn hT hI,w2,⟨l1,l2⟩,k3,E⟩
end Go.Proofs.YtkkbddkpggjgpaaGreatDoor

namespace Go.Proofs.YtkkbddkpggjgpaaGreatDoor
open Go.RowKit
set_option maxRecDepth 100000
set_option maxHeartbeats 2000000
theorem pow_1:(mkM 1 0=1∧mkX 1 0=0)∧(mkM 4 0=1∧mkX 4 0=2)∧(mkM 16 0=1∧mkX 16 0=4)∧dv 1 0=1:=⟨⟨by kernel_rfl,by kernel_rfl⟩,⟨by kernel_rfl,by kernel_rfl⟩,⟨by kernel_rfl,by kernel_rfl⟩,of_decide_eq_true (by kernel_rfl)⟩
theorem dv_pw8 (a w:Int)(e:Nat):dv 1 (e:Int)*dv a (-w)=dv (a*2^e) (-w):=by
 rw[← dv_mul,dv_shl,Int.one_mul,Int.add_comm]
theorem g_pow (a b w:Int)(e:Nat)(he:e≤4)(hw:0≤w∧w≤200)(o:a≤b)(la:L a.natAbs≤8)(lb:L b.natAbs≤8):Impl Tryz.prog Amb 37 [(wV (1:Int) (e:Int) (1:Int) (e:Int)),(wV (mkM a (-w)) (mkX a (-w)) (mkM b (-w)) (mkX b (-w))),(.int .i64 w)] (.tup [(wV (mkM (a*2^e) (-w)) (mkX (a*2^e) (-w)) (mkM (b*2^e) (-w)) (mkX (b*2^e) (-w))),(.int .i64 0)]):=by
 have A:=dv_g (w:=w) la oO oO
 have B:=dv_g (w:=w) lb oO oO
 have l1:L (1:Int).natAbs≤1:=L_lit 1 (by decide)
 have F1:FitI 1 (e:Int) 1 (e:Int):=⟨⟨by omega,by omega,by omega⟩,⟨by omega,by omega,by omega⟩,Rat.le_refl⟩
 have F2:=g_fit hw o la lb
 have kq:=ml_ok (w:=w) F1 F2 hw
 have ab:dv (a*2^e) (-w)≤dv (b*2^e) (-w):=dv_le.2 (Int.mul_le_mul_of_nonneg_right o (Int.le_of_lt (two_pos e)))
 have e1:mlLo 1 (e:Int) 1 (e:Int) (mkM a (-w)) (mkX a (-w)) (mkM b (-w)) (mkX b (-w))=dv (a*2^e) (-w):=by
  unfold mlLo
  rw[A.1,B.1,dv_pw8,dv_pw8,qmin_le ab,qmin_le Rat.le_refl,qmin_le ab]
 have e2:mlHi 1 (e:Int) 1 (e:Int) (mkM a (-w)) (mkX a (-w)) (mkM b (-w)) (mkX b (-w))=dv (b*2^e) (-w):=by
  have key:∀ x:Rat,x=mlHi 1 (e:Int) 1 (e:Int) (mkM a (-w)) (mkX a (-w)) (mkM b (-w)) (mkX b (-w))→x=dv (b*2^e) (-w):=by
   intro x hx
   refine Rat.le_antisymm ?_ ?_
   ·rw[hx];unfold mlHi
    rw[A.1,B.1,dv_pw8,dv_pw8]
    exact qmax_le2 (qmax_le2 (qmax_le2 ab Rat.le_refl) ab) Rat.le_refl
   ·have:=(ml_in (m:=1) (e:=(e:Int)) (n:=1) (f:=(e:Int)) (p:=mkM a (-w)) (g:=mkX a (-w)) (q:=mkM b (-w)) (h:=mkX b (-w)) (a:=dv 1 (e:Int)) (b:=dv b (-w)) Rat.le_refl Rat.le_refl (by rw[A.1];exact dv_le.2 o) (by rw[B.1];exact Rat.le_refl)).2
    rw[dv_pw8] at this
    rw[hx];exact this
  exact key _ rfl
 have f1:=(flr_same (a*2^e) w).1
 have f2:=(flr_same (b*2^e) w).2
 rw[← e1] at f1
 rw[← e2] at f2
 have key:=enV_ok kq
 rw[f1,f2] at key
 exact impl_eq key (ar_Mul 1 (e:Int) 1 (e:Int) (mkM a (-w)) (mkX a (-w)) (mkM b (-w)) (mkX b (-w)) w oO oO oO oO oO oO oO oO (ml_fine oO oO oO oO) (ml_fine oO oO oO oO) (ml_fine oO oO oO oO) (ml_fine oO oO oO oO) oO)
theorem g_sub (a b c d w:Int)(hw:0≤w∧w≤200)(o1:a≤b)(o2:c≤d)(la:L a.natAbs≤12)(lb:L b.natAbs≤12)(lc:L c.natAbs≤12)(ld:L d.natAbs≤12):Impl Tryz.prog Amb 43 [(wV (mkM a (-w)) (mkX a (-w)) (mkM b (-w)) (mkX b (-w))),(wV (mkM c (-w)) (mkX c (-w)) (mkM d (-w)) (mkX d (-w))),(.int .i64 w)] (.tup [(wV (mkM (a-d) (-w)) (mkX (a-d) (-w)) (mkM (b-c) (-w)) (mkX (b-c) (-w))),(.int .i64 0)]):=by
 have A:=dv_g (w:=w) la oO oO
 have B:=dv_g (w:=w) lb oO oO
 have C:=dv_g (w:=w) lc oO oO
 have D:=dv_g (w:=w) ld oO oO
 have e1:dv (mkM a (-w)) (mkX a (-w))+-(dv (mkM d (-w)) (mkX d (-w)))=dv (a-d) (-w):=by rw[A.1,D.1,← dv_neg,dv_plus,Int.sub_eq_add_neg]
 have e2:dv (mkM b (-w)) (mkX b (-w))+-(dv (mkM c (-w)) (mkX c (-w)))=dv (b-c) (-w):=by rw[B.1,C.1,← dv_neg,dv_plus,Int.sub_eq_add_neg]
 have s1:=L_abs_sub a d
 have s2:=L_abs_sub b c
 have f1:=(flr_same (a-d) w).1
 have f2:=(flr_same (b-c) w).2
 have kq:enE (dv (mkM a (-w)) (mkX a (-w))+-(dv (mkM d (-w)) (mkX d (-w)))) (dv (mkM b (-w)) (mkX b (-w))+-(dv (mkM c (-w)) (mkX c (-w)))) w=0:=by
  rw[e1,e2]
  exact en_ok oO (dv_le.2 oO) (by rw[f1];omega) (by rw[f2];omega)
 have key:=enV_ok kq
 rw[e1,e2,f1,f2] at key
 have n1:=L_abs_neg (mkM c (-w))
 have n2:=L_abs_neg (mkM d (-w))
 have hS:=ar_Sub (mkM a (-w)) (mkX a (-w)) (mkM b (-w)) (mkX b (-w)) (mkM c (-w)) (mkX c (-w)) (mkM d (-w)) (mkX d (-w)) w oO oO oO oO oO oO oO oO (ad_fine oO oO oO oO) (ad_fine oO oO oO oO) oO
 rw[e1,e2] at hS
 exact impl_eq key hS
theorem pi_L8 {x w:Int}(hw:0≤w∧w≤200)(h1:x≤4*2^w.toNat+4)(h2:-4≤x):L x.natAbs≤8:=by
 have e:((2^(w.toNat+4):Nat):Int)=2^w.toNat*16:=by rw[← pow_cast,Int.pow_add];rfl
 have:=two_pos w.toNat
 exact L_pow2 (n:=w.toNat+4) oO oO
theorem lt_int {a b:Int}{x y:Rat}(h1:(a:Rat)≤x)(h2:x≤(b:Rat)+y)(hy:y<1):a≤b:=by
 refine Decidable.byContradiction fun hn=>?_
 have:((b+1:Int):Rat)≤(a:Rat):=Rat.intCast_le_intCast.2 oO
 rw[Rat.intCast_add,show ((1:Int):Rat)=1 from rfl] at this
 grind
theorem l16_ArctangentPi (w:Int)(c0:(-9223372036854775808:Int)≤w∧w≤9223372036854775807):Impl Tryz.prog Amb 10 [.int .i64 w] (.bool true):=by
 have w1:=Int.emod_nonneg w (show (150:Int)≠0 by omega)
 have w2:=Int.emod_lt_of_pos w (show (0:Int)<150 by omega)
 generalize hv:w%150=v at *
 have pw:=pow_1
 have y1:=l16_of 1 1 oO oO
 have y4:=l16_of 4 4 oO oO
 have y16:=l16_of 16 16 oO oO
 rw[pw.1.1,pw.1.2] at y1
 rw[pw.2.1.1,pw.2.1.2] at y4
 rw[pw.2.2.1.1,pw.2.2.1.2] at y16
 have l1:L (1:Int).natAbs≤1:=L_lit 1 (by decide)
 have hK:=ct_Pi v oO
 have cl:=pq_at (t:=(v+24).toNat) oO
 rw[show (((v+24).toNat:Nat):Int)=v+24 by omega] at cl
 have c2:cQ*((2^((v+24).toNat+1):Int):Rat)=cQ*2*((2^(v+24).toNat:Int):Rat):=by
  rw[Int.pow_succ,Rat.intCast_mul,show ((2:Int):Rat)=2 from rfl];grind
 rw[c2] at cl
 have hc:=half_enc (t:=(v+24).toNat) (s:=v.toNat) (n:=24) oO cl.1 cl.2
 have lok:=(pi_ok (s:=v+24) oO).2.2
 have lol:=nbits_lt (piHi (v+24)-piLo (v+24)).natAbs
 have lon:=Nat.pow_le_pow_right (n:=2) oO lok
 have low:=half_w (a:=piLo (v+24)) (b:=piHi (v+24)) (W:=1) (n:=24) oO
 generalize piLo (v+24) / 2^24=ka at *
 generalize -(-piHi (v+24) / 2^24)=kb at *
 have T0:(0:Rat)<((2^v.toNat:Int):Rat):=Rat.intCast_pos.2 (two_pos _)
 have cb:=cQ_b
 have q1:=Rat.mul_le_mul_of_nonneg_right (show cQ*2≤4 by grind) (Rat.le_of_lt T0)
 have q2:=Rat.mul_nonneg (show 0≤cQ*2 by grind) (Rat.le_of_lt T0)
 have k1:ka≤4*2^v.toNat:=by
  have:(ka:Rat)≤((4*2^v.toNat:Int):Rat):=by rw[Rat.intCast_mul,show ((4:Int):Rat)=4 from rfl];grind
  exact Rat.intCast_le_intCast.1 this
 have k2:0≤kb:=by
  have:((0:Int):Rat)≤(kb:Rat):=by rw[show ((0:Int):Rat)=0 from rfl];grind
  exact Rat.intCast_le_intCast.1 this
 have k3:ka≤kb:=Rat.intCast_le_intCast.1 (Rat.le_trans hc.1 hc.2)
 have la:=pi_L8 (x:=ka) (w:=v) oO oO oO
 have lb:=pi_L8 (x:=kb) (w:=v) oO oO oO
 have gb:=gE_b
 have tz:=tq_gE (n:=v.toNat) oO
 have tp:=tq_pos
 have tT:=Rat.mul_pos tp T0
 -- four times the arctangent of 1
 obtain⟨i1,j1,i2,j2,hA,⟨E1,u1,r1⟩,⟨E2,u2,r2⟩,_,_⟩:=at_AtanE 1 0 1 0 v oO oO oO oO oO
 have o1:i1≤j1:=E1.le E1 (Lq.refl _) (by grind)
 have m1:=at_L8 (x:=i1) (w:=v) oO oO oO
 have o2:i2≤j2:=E2.le E2 (Lq.refl _) (by grind)
 have m2:=at_L8 (x:=j2) (w:=v) oO oO oO
 have o12:=at_le E1 E2 Rat.le_refl oO
 have hB:=g_pow i1 j2 v 2 oO oO o12 m1 m2
 rw[pw.2.2.2] at E1 E2
 have a1:i1*2^2≤kb:=by
  obtain⟨N,E⟩:=E1
  have E:=(E (N+215) oO).1
  have t:=(AT1 (K:=N+215) oO).1
  rw[AT_p (show ¬ (1:Rat)<0 by decide),ATp_1 (show (1:Rat)≤1 by decide)] at E
  have m:=Rat.mul_le_mul_of_nonneg_right (show 2*AT0 1 (N+215)≤cQ+tq by grind) (Rat.le_of_lt T0)
  refine lt_int (x:=4*(AT0 1 (N+215)*((2^v.toNat:Int):Rat))+4*gE) (y:=2*(tq*((2^v.toNat:Int):Rat))+4*gE) ?_ ?_ ?_
  ·rw[Rat.intCast_mul,show ((2^2:Int):Rat)=4 from rfl];grind
  ·grind
  ·grind
 have a2:ka≤j2*2^2:=by
  obtain⟨N,E⟩:=E2
  have E:=(E (N+215) oO).2
  have t:=(AT1 (K:=N+215) oO).2
  rw[AT_p (show ¬ (1:Rat)<0 by decide),ATp_1 (show (1:Rat)≤1 by decide)] at E
  have m:=Rat.mul_le_mul_of_nonneg_right (show cQ-tq≤2*AT0 1 (N+215) by grind) (Rat.le_of_lt T0)
  refine lt_int (x:=cQ*2*((2^v.toNat:Int):Rat)) (y:=2*(tq*((2^v.toNat:Int):Rat))+4*gE) hc.1 ?_ ?_
  ·rw[Rat.intCast_mul,show ((2^2:Int):Rat)=4 from rfl];grind
  ·grind
 have z1:=L_abs_shl i1 2
 have z2:=L_abs_shl j2 2
 have hC:=g_cmp (i1*2^2) (j2*2^2) ka kb v oO oO oO oO oO a2 a1
 -- Machin's sum
 obtain⟨x1,x2,hX,_,⟨lx1,lx2⟩,ox,EX⟩:=at_RecipE 5 v oO oO
 obtain⟨d1,d2,hY,_,⟨ly1,ly2⟩,oy,EY⟩:=at_RecipE 239 v oO oO
 have EX:=EX (1 / 5) (of_decide_eq_true (by kernel_rfl)) (of_decide_eq_true (by kernel_rfl)) (of_decide_eq_true (by kernel_rfl))
 have EY:=EY (1 / 239) (of_decide_eq_true (by kernel_rfl)) (of_decide_eq_true (by kernel_rfl)) (of_decide_eq_true (by kernel_rfl))
 have hU:=g_pow x1 x2 v 4 oO oO ox lx1 lx2
 have hV:=g_pow d1 d2 v 2 oO oO oy ly1 ly2
 have s1:=L_abs_shl x1 4
 have s2:=L_abs_shl x2 4
 have s3:=L_abs_shl d1 2
 have s4:=L_abs_shl d2 2
 have hM:=g_sub (x1*2^4) (x2*2^4) (d1*2^2) (d2*2^2) v oO oO oO oO oO oO oO
 have b1:=L_abs_sub (x1*2^4) (d2*2^2)
 have b2:=L_abs_sub (x2*2^4) (d1*2^2)
 obtain⟨N1,EX⟩:=EX
 obtain⟨N2,EY⟩:=EY
 have EX:=EX (N1+N2+93) oO
 have EY:=EY (N1+N2+93) oO
 have mc:=machin (K:=N1+N2+93) oO
 generalize AL (1 / 5) (N1+N2+93)=p5 at *
 generalize AL (1 / 239) (N1+N2+93)=p9 at *
 have mu:=Rat.mul_le_mul_of_nonneg_right (show 16*p5-4*p9≤2*cQ+tq by grind) (Rat.le_of_lt T0)
 have mv:=Rat.mul_le_mul_of_nonneg_right (show 2*cQ-tq≤16*p5-4*p9 by grind) (Rat.le_of_lt T0)
 have c16:((2^4:Int):Rat)=16:=rfl
 have c4:((2^2:Int):Rat)=4:=rfl
 have g1:x1*2^4-d2*2^2≤kb:=by
  refine lt_int (x:=(16*p5-4*p9)*((2^v.toNat:Int):Rat)) (y:=tq*((2^v.toNat:Int):Rat)) ?_ ?_ ?_
  ·rw[Rat.intCast_sub,Rat.intCast_mul,Rat.intCast_mul,c16,c4];grind
  ·grind
  ·grind
 have g2:ka≤x2*2^4-d1*2^2:=by
  refine lt_int (x:=cQ*2*((2^v.toNat:Int):Rat)) (y:=tq*((2^v.toNat:Int):Rat)) hc.1 ?_ ?_
  ·rw[Rat.intCast_sub,Rat.intCast_mul,Rat.intCast_mul,c16,c4];grind
  ·grind
 have hD:=g_cmp (x1*2^4-d2*2^2) (x2*2^4-d1*2^2) ka kb v oO oO oO oO oO g2 g1
 subst hv
 exact l16_Pi0 w _ _ _ _ _ _ _ _ _ _ _ _ _ _ _ _ _ _ _ _ _ _ _ _ _ _ _ _ _ _ _ _ _ _ _ _ 0 0 0 0 _ _ _ _ _ _ _ _ c0 l16_awake hK y1 hA y4 hB hX hY y16 hU hV hM hC hD
end Go.Proofs.YtkkbddkpggjgpaaGreatDoor

namespace Go.Proofs.YtkkbddkpggjgpaaGreatDoor
open Go.ChangeShapes Go.WideShapes Go.ChangeAt Go.RowKit
theorem ownNone:ownKnob Tryz.prog.godebug=none:=by kernel_rfl
theorem gTab:Tryz.prog.globalNamed "math/bits.deBruijn32tab"=some 0:=by kernel_rfl
theorem gTabType:(Tryz.prog.globals[0]?).map (·.type)=some 162:=by kernel_rfl
theorem cellsTab:Tryz.prog.cellsOf 162=32:=by kernel_rfl
theorem cellsU8:Tryz.prog.cellsOf 5=1:=by kernel_rfl
theorem amb_of {W:World}(h:laidMetH Tryz.prog [("math/bits.deBruijn32tab",Rows.laid_math_bits_deBruijn32tab)] W):Amb W:=by
 have t:Lib.TabIs Tryz.prog W "math/bits.deBruijn32tab" .u8 tab32:=Lib.tabIs_of_head (rest:=[]) gTab gTabType Tryz.underlying162 Tryz.underlying5 cellsU8 cellsTab h
 intro i v hi
 have hlt:i<tab32.length:=by
  rcases Nat.lt_or_ge i tab32.length with q | q
  ·exact q
  ·rw[List.getElem?_eq_none q] at hi;cases hi
 have h1:=t.cell gTab i hlt
 rw[List.getD_eq_getElem?_getD,hi] at h1
 exact h1
theorem int_wf {n:Int}(h:(Lit.int .i64 n).wf=true):(-9223372036854775808:Int)≤n∧n≤9223372036854775807:=by
 simp only [Lit.wf,Bool.and_eq_true,decide_eq_true_eq] at h
 simp [IntKind.min,IntKind.max,IntKind.signed,IntKind.bits] at h
 omega
noncomputable def laidWorld (os : Os) : World :=
  { World.holding Tryz.prog os ⟨#[], #[], []⟩ with heap := (World.holding Tryz.prog os ⟨#[], #[], []⟩).heap.modify 0 fun
      | .cells _ t frozen => .cells (tab32.map (Value.int .u8)).toArray t frozen
      | o => o }
theorem post_of_below {H:Type}{enc:TypeId × Value→H}{P:Program}{f:Func}{s:ChangeSpec}{apart fresh handsOn again:Bool}{W W':World}{args:Array Value}{v:Value}{ds gs:List (DataW H)}{before pa pv:List MemPlace}
  (hW:DataW.Whole enc P f.params.toList s.vars apart W args.toList ds gs before)
  (hres:∀ (b:Nat) (sp:Nat→Bool) (hd:Bool),DataW.TrodAll enc P W' b sp hd f.resultTypes.toList (v.resultList f.resultTypes.size) (s.fn H (ds ++ gs)).results [])
  (hargs:∀ sp:Nat→Bool,(∀ p∈before,sp p.block=true)→DataW.TrodAll enc P W' 0 sp true f.params.toList args.toList (s.fn H (ds ++ gs)).args pa)
  (hvars:∀ sp:Nat→Bool,(∀ p∈before,sp p.block=true)→DataW.TrodVars enc P W' sp s.vars (s.fn H (ds ++ gs)).vars pv)
  (hps:before=pa ++ pv) (hb:Below W.heap.size W W')
  (hok:∀ (j:Nat) (t:TypeId) (r:Value),f.resultTypes[j]?=some t→(v.resultList f.resultTypes.size)[j]?=some r→Value.okWide P W' .any 0 t r):s.post enc P f apart fresh handsOn again W args v W':=by
 have lt:=hW.lt
 have old:∀ p∈before,(fun b=>decide (b<W.heap.size)) p.block=true:=fun p hp=>decide_eq_true (lt p hp)
 subst hps
 refine⟨ds,gs,pa ++ pv,[],pa,pv,hW,hres _ _ _,hargs _ old,hvars _ old,hb.frame _,fun _=>?_⟩
 obtain⟨_,_,_,_,_,hz,hn⟩:=hW
 have h1:=trodAll_append (hargs (fun _=>true) fun _ _=>rfl) (hres 0 (fun _=>true) true)
 refine⟨hok,_,_,_,⟨_,pv,h1,hvars _ fun _ _=>rfl,rfl,fun b off hp=>?_,fun ha=>?_⟩,fun p hp _=>?_⟩
 ·have hp':MemPlace.cell b off∈pa ++ pv:=by simpa using hp
  rw[hb.frozen (lt _ hp')]
  exact hz b off hp'
 ·simpa using hn ha
 ·simpa using hp
end Go.Proofs.YtkkbddkpggjgpaaGreatDoor


namespace Go.Proofs.YtkkbddkpggjgpaaGreatDoor.arctangentPi
open Go.ChangeShapes Go.WideShapes Go.ChangeAt Go.RowKit
set_option maxRecDepth 100000 in
theorem contract (H:Type)(enc:TypeId × Value→H)(W:World)(base:Nat)(args:Array Value)(ds gs:List (DataW H))(before:List MemPlace)
  (hval:∀ (j:Nat) t v,Tryz.f10.params[j]?=some t→args[j]?=some v→Value.okWide Tryz.prog W .any base t v)
  (hW:DataW.Whole enc Tryz.prog Tryz.f10.params.toList Rows.arctangentPiSpec.vars false W args.toList ds gs before) (hL:laidMetH Tryz.prog Rows.arctangentPiRow.laid W) :
  Calls Tryz.prog 10 args W fun e W'=>∃ v,e=.returned v∧Rows.arctangentPiSpec.post enc Tryz.prog Tryz.f10 false true false false W args v W':=by
 have hW':=hW
 obtain⟨p,q,hA0,hV,rfl,hfz,hnd⟩:=hW
 have hA:DataW.TrodAll enc Tryz.prog W 0 (fun _=>true) true Tryz.f10.params.toList args.toList ds p:=hA0
 rw[Tryz.params10] at hA hval
 obtain⟨v0,vs0,d0,ds0,p0,q0,hargs0,rfl,rfl,h0,r0⟩:=trodAll_cons hA
 obtain⟨rfl,rfl,rfl⟩:=trodAll_nil r0
 obtain rfl:args=#[v0]:=by cases args;simp_all
 obtain⟨rfl,rfl⟩:=trodVars_none hV
 have k0:=h0
 obtain⟨x0,rfl,rfl,rfl,w0⟩:=open_int Tryz.underlying3 (hval 0 3 v0 rfl rfl) h0
 have b0:=int_wf w0
 clear hA0
 have hlt:=hW'.lt
 have hI:=l16_ArctangentPi x0 b0
 have hC:=hI.2 W (fun _=>True) [.int .i64 x0] (amb_of hL) (fun _ _=>trivial) (.cons .int (.nil))
 refine hC.mono fun e W' hh=>?_
 obtain⟨v,rfl,hv,hb⟩:=hh
 have hv:=hv.bool_inv
 subst hv
 exact⟨_,rfl,post_of_below (pa:=([] ++ [])) (pv:=[]) hW' (fun _ _ _=>trodAll_cons_mk (shut_bool Tryz.underlying4 _) trodAll_mk0) (fun sp hsp=>(trodAll_cons_mk (shut_int Tryz.underlying3 w0) trodAll_mk0)) (fun _ _=>rfl) rfl
  hb (ok_one (by kernel_rfl) rfl (okWide_bool_mk Tryz.underlying4 _))⟩
theorem laid_met (os:Os):laidMet Tryz.prog Rows.arctangentPiRow.laid ((laidWorld os).forCall (fun _ _=>0) ⟨#[],#[.int .i64 0],[]⟩).memory :=
 laidMet_of_run' 64 (by kernel_rfl) (by kernel_rfl)
theorem reads (os:Os){H:Type}(enc:TypeId × Value→H):∃ places,DataW.whole enc Tryz.prog ((laidWorld os).forCall (fun _ _=>0) ⟨#[],#[.int .i64 0],[]⟩).memory Tryz.f10.params.toList Rows.arctangentPiSpec.vars false #[Value.int .i64 0].toList 64=some ([.lit (.int .i64 0)],[],places) :=
 ⟨[],by kernel_rfl⟩
set_option maxRecDepth 100000 in
theorem lifted (os:Os)(started:os.Started)(H:Type)(enc:TypeId × Value→H)(F:Stop.Interp) :
  ReturnsInHanded {} Tryz.checked os 10 .any ((OpenSpec.ofChange Rows.arctangentPiSpec).preRow enc Tryz.prog Tryz.f10 Rows.arctangentPiRow.domain false Rows.arctangentPiRow.laid) (((OpenSpec.ofChange Rows.arctangentPiSpec).at F).post enc Tryz.prog Tryz.f10 false true false false):=by
 obtain⟨places,hx⟩:=reads os enc
 refine returnsInHanded_of_row (C:=Tryz.checked) (s:=OpenSpec.ofChange Rows.arctangentPiSpec) ownNone started (by kernel_rfl) Tryz.func10
  (witness_row_at (enc:=enc) (C:=Tryz.checked) false (laidWorld os) #[.int .i64 0] rfl (by kernel_rfl) (by kernel_rfl) (by kernel_rfl)
   (OpenSpec.preRow_of_cond 64 hx (by kernel_rfl) (fun k hk=>by cases hk) (by kernel_rfl) (laid_met os))) ?_
 intro W base args ds gs before hval hW _ _ _ hL _ _
 exact contract H enc W base args ds gs before hval hW hL
end Go.Proofs.YtkkbddkpggjgpaaGreatDoor.arctangentPi
