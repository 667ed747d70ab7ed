/-
  Lower layers: what functions of the program compute, and zyt facts. Conditions: as the theorems say.
-/
import Derived.Test.YtcbihoojfakhdaaGreatDoorCbS
set_option linter.unusedVariables false
set_option linter.unusedSimpArgs false
namespace Go.Proofs.YtcbihoojfakhdaaGreatDoor
open Go.RowKit
set_option maxRecDepth 100000
set_option maxHeartbeats 2000000
theorem zuv {d c T F:Rat}{x1 p1 q:Int}(F0:0<F)(hT:T=F*18446744073709551616)(h1:(x1:Rat)≤d*T)(h2:d*T≤(x1:Rat)+1)(g1:(p1:Rat)≤2*(c*T))(g2:2*(c*T)≤(p1:Rat)+16777216)(c1:157≤100*c)(hF:1≤F)
  (k1:(q:Rat)*(p1:Rat)≤(x1:Rat)*(2*F)) (k2:(x1:Rat)*(2*F)≤((q:Rat)+1)*(p1:Rat)) (d1:-4294967296≤d) (d2:d≤4294967296) :
  (-(4294967296*F)≤(q:Rat)∧(q:Rat)+1≤4294967296*F)∧(q:Rat)*c≤d*F+1 / 100∧d*F≤((q:Rat)+1)*c+1 / 100:=by
 have T0:0<T:=by rw [hT]; exact Rat.mul_pos F0 (by decide)
 have TT:18446744073709551616≤T:=by rw [hT]; grind
 have cT:=Rat.mul_le_mul_of_nonneg_right c1 (Rat.le_of_lt T0)
 rw [Rat.mul_assoc] at cT
 have P3:3*T≤(p1:Rat):=by grind
 have dT1:=Rat.mul_le_mul_of_nonneg_right d1 (Rat.le_of_lt T0)
 have dT2:=Rat.mul_le_mul_of_nonneg_right d2 (Rat.le_of_lt T0)
 have xF1:=Rat.mul_le_mul_of_nonneg_right h1 (Rat.le_of_lt F0)
 have xF2:=Rat.mul_le_mul_of_nonneg_right h2 (Rat.le_of_lt F0)
 have dF1:=Rat.mul_le_mul_of_nonneg_right dT1 (Rat.le_of_lt F0)
 have dF2:=Rat.mul_le_mul_of_nonneg_right dT2 (Rat.le_of_lt F0)
 have TF:=Rat.mul_pos T0 F0
 have TF1:=Rat.mul_le_mul_of_nonneg_right TT (Rat.le_of_lt F0)
 have BP:=Rat.mul_le_mul_of_nonneg_right P3 (Rat.le_of_lt F0)
 have B2:(q:Rat)+1≤4294967296*F:=by
  refine Decidable.byContradiction fun hn=>?_
  have hq:4294967296*F-1≤(q:Rat):=by grind
  have m:=Rat.mul_le_mul_of_nonneg_right hq (show 0≤(p1:Rat) by grind)
  have hp:(p1:Rat)≤4*T+(2*(c*T)-4*T):=by grind
  have e:(4294967296*F-1)*(p1:Rat)=4294967296*((p1:Rat)*F)-(p1:Rat):=by grind
  rw [e] at m
  have c5:0≤4294967296*F-1:=by grind
  have m3:=Rat.mul_le_mul_of_nonneg_left P3 c5
  have e3:(4294967296*F-1)*(3*T)=12884901888*(T*F)-3*T:=by grind
  have e4:(4294967296*F-1)*(p1:Rat)=4294967296*((p1:Rat)*F)-(p1:Rat):=e
  rw [e3,e4] at m3
  have m4:=Rat.mul_le_mul_of_nonneg_left hF (Rat.le_of_lt T0)
  clear m4 hp cT g1 g2
  have m5:=Rat.mul_le_mul_of_nonneg_left hF (Rat.le_of_lt T0)
  grind
 have B1:-(4294967296*F)≤(q:Rat):=by
  refine Decidable.byContradiction fun hn=>?_
  have hq:(q:Rat)+1≤-(4294967296*F)+1:=by grind
  have m:=Rat.mul_le_mul_of_nonneg_right hq (show 0≤(p1:Rat) by grind)
  have c5:0≤4294967296*F-1:=by grind
  have m3:=Rat.mul_le_mul_of_nonneg_left P3 c5
  have e3:(4294967296*F-1)*(3*T)=12884901888*(T*F)-3*T:=by grind
  have e4:(-(4294967296*F)+1)*(p1:Rat)=-((4294967296*F-1)*(p1:Rat)):=by grind
  rw [e3] at m3
  rw [e4] at m
  have m5:=Rat.mul_le_mul_of_nonneg_left hF (Rat.le_of_lt T0)
  generalize (4294967296*F-1)*(p1:Rat)=z at *
  clear cT g1 g2 BP
  grind
 refine ⟨⟨B1,B2⟩,?_,?_⟩
 ·have mb:=zrp (p:=(q:Rat)) (P:=4294967296*F) (x:=2*(c*T)-(p1:Rat)) (a:=16777216) B1 (by grind) (by grind) (by grind)
  have e1:(q:Rat)*(2*(c*T)-(p1:Rat))=2*((q:Rat)*c*T)-(q:Rat)*(p1:Rat):=by grind
  rw [e1] at mb
  refine Rat.le_of_mul_le_mul_right (c:=T) ?_ T0
  have e2:(d*F+1 / 100)*T=d*T*F+T*(1 / 100):=by grind
  rw [e2]
  generalize (q:Rat)*c*T=x at *
  generalize (q:Rat)*(p1:Rat)=y at *
  generalize (x1:Rat)=xx at *
  clear e1 dF1 dF2 dT1 dT2 BP TF TF1 h1 h2 cT g1 g2 P3
  generalize d*T*F=DTF at *
  grind
 ·have mb:=zrp (p:=(q:Rat)+1) (P:=4294967296*F) (x:=2*(c*T)-(p1:Rat)) (a:=16777216) (by grind) B2 (by grind) (by grind)
  have e1:((q:Rat)+1)*(2*(c*T)-(p1:Rat))=2*(((q:Rat)+1)*c*T)-((q:Rat)+1)*(p1:Rat):=by grind
  rw [e1] at mb
  refine Rat.le_of_mul_le_mul_right (c:=T) ?_ T0
  have e2:(((q:Rat)+1)*c+1 / 100)*T=((q:Rat)+1)*c*T+T*(1 / 100):=by grind
  have e3:d*F*T=d*T*F:=by grind
  rw [e2,e3]
  generalize ((q:Rat)+1)*c*T=x at *
  generalize ((q:Rat)+1)*(p1:Rat)=y at *
  clear e1 dF1 dF2 dT1 dT2 BP TF TF1 h1 h2 cT g1 g2 P3
  generalize d*T*F=DTF at *
  grind
theorem zuw (m ee f:Int)(hf:8≤f∧f≤300)(hm:L (m).natAbs≤20)(he:-440≤ee∧ee≤130)(d1:-4294967296≤dv m ee)(d2:dv m ee≤4294967296) :
  ∃ q:Int,Impl Tryz.prog Amb 203 [(yV m ee),(.int .i64 f)] (zV q)∧L q.natAbs≤70∧(q:Rat)*cQ≤dv m ee*((2^f.toNat:Int):Rat)+1 / 100∧dv m ee*((2^f.toNat:Int):Rat)≤((q:Rat)+1)*cQ+1 / 100:=by
 obtain ⟨t,ht⟩:∃ t:Nat,(t:Int)=f+64:=⟨(f+64).toNat,by omega⟩
 have hO:=zq9 m ee (f+64) oO oO oO
 have lf:=zow m ee (f+64)
 have sc1:=(zpm (dv m ee) t).1
 have sc2:=(zpm (dv m ee) t).2
 have cl:=ztr (t:=t) oO
 rw [ht] at sc1 sc2 cl
 have b:=zlf (s:=f+64) oO
 have bw:piHi (f+64)-piLo (f+64)<16777216:=by
  have:=zb9 (piHi (f+64)-piLo (f+64)).natAbs
  have p:=Nat.pow_le_pow_right (n:=2) oO b.2.2
  omega
 have hP:Impl Tryz.prog Amb 117 [(.int .i64 (f+64))] (sV (piLo (f+64)) (piHi (f+64))):=zle (f+64) oO
 generalize piLo (f+64)=p1 at *
 generalize piHi (f+64)=p2 at *
 generalize flr (dv m ee) (f+64)=x1 at *
 generalize cei (dv m ee) (f+64)=x2 at *
 have hS:=zdk x1 (f+1) oO oO
 have l1:=zgw x1 (f+1).toNat
 have F0:=zi5 f.toNat
 have F0R:(0:Rat)<((2^f.toNat:Int):Rat):=Rat.intCast_pos.2 F0
 have hTR:((2^t:Int):Rat)=((2^f.toNat:Int):Rat)*18446744073709551616:=by
  rw [show t=f.toNat+64 by omega,Int.pow_add,Rat.intCast_mul]; rfl
 have eF:(2:Int)^(f+1).toNat=2^f.toNat*2:=by rw [show (f+1).toNat=f.toNat+1 by omega,Int.pow_succ]
 have e2T:((2^(t+1):Int):Rat)=2*((2^t:Int):Rat):=by
  rw [Int.pow_succ,Rat.intCast_mul]
  show _*(2:Rat)=_
  rw [Rat.mul_comm]
 rw [e2T] at cl
 have c2:cQ*(2*((2^t:Int):Rat))=2*(cQ*((2^t:Int):Rat)):=by grind
 rw [c2] at cl
 have cb:=cQ_b
 have F1:(1:Rat)≤((2^f.toNat:Int):Rat):=Rat.intCast_le_intCast.2 (show (1:Int)≤2^f.toNat by omega)
 have bwR:(p2:Rat)≤(p1:Rat)+16777216:=by
  have:(p2:Rat)≤((p1+16777216:Int):Rat):=Rat.intCast_le_intCast.2 oO
  rw [Rat.intCast_add] at this; exact this
 have p0:0<p1:=by
  have:(0:Rat)<(p1:Rat):=by
   have m:=Rat.mul_le_mul_of_nonneg_right cb.1 (show (0:Rat)≤((2^t:Int):Rat) by rw [hTR]; exact Rat.le_of_lt (Rat.mul_pos F0R (by decide)))
   have TT:(18446744073709551616:Rat)≤((2^t:Int):Rat):=by rw [hTR]; grind
   grind
  exact Rat.intCast_pos.1 this
 have hD:=zn0 (x1*2^(f+1).toNat) p1 oO oO oO
 have q1:=Int.ediv_mul_le (x1*2^(f+1).toNat) (show p1≠0 by omega)
 have q2:=Int.lt_ediv_add_one_mul_self (x1*2^(f+1).toNat) p0
 rw [Int.fdiv_eq_ediv_of_nonneg _ (Int.le_of_lt p0)] at hD
 have ex:((x1*2^(f+1).toNat:Int):Rat)=(x1:Rat)*(2*((2^f.toNat:Int):Rat)):=by
  rw [eF,Rat.intCast_mul,Rat.intCast_mul]
  show (x1:Rat)*(_*2)=_
  grind
 generalize hq:x1*2^(f+1).toNat / p1=q at *
 have q1:=Rat.intCast_le_intCast.2 q1
 have q2:=Rat.intCast_le_intCast.2 (Int.le_of_lt q2)
 rw [ex,Rat.intCast_mul] at q1 q2
 rw [Rat.intCast_add] at q2
 have r:=zuv (d:=dv m ee) (c:=cQ) (F:=((2^f.toNat:Int):Rat)) F0R hTR sc1 (Rat.le_of_lt sc2) cl.1 (by grind) cb.1 F1 q1 q2 d1 d2
 have Lq:L q.natAbs≤70:=by
  refine zrl (t:=f.toNat+32) (c:=1) ?_ oO oO
  have e:((2^(f.toNat+32):Nat):Int)=4294967296*2^f.toNat:=by rw [← zaj,Int.pow_add,Int.mul_comm]; rfl
  have u1:-(4294967296*2^f.toNat)≤q:=by
   refine Rat.intCast_le_intCast.1 ?_
   rw [Rat.intCast_neg,Rat.intCast_mul]
   exact r.1.1
  have u2:q+1≤4294967296*2^f.toNat:=by
   refine Rat.intCast_le_intCast.1 ?_
   rw [Rat.intCast_add,Rat.intCast_mul]
   exact r.1.2
  omega
 exact ⟨q,zti m ee f x1 x2 _ p1 p2 q _ hO hS hP hD oO,Lq,r.2.1,r.2.2⟩
def Tp (a b:Rat)(w c:Int)(g:Bool):Prop :=
 (g=true→∃ k:Int,(k-c)%4=0∧a*((2^(w+8).toNat:Int):Rat)≤(k:Rat)*cQ*((2^(w+8).toNat:Int):Rat)+5∧(k:Rat)*cQ*((2^(w+8).toNat:Int):Rat)≤b*((2^(w+8).toNat:Int):Rat)+5) ∧
 (g=false→∀ k:Int,(k-c)%4=0→(k:Rat)*cQ*((2^(w+8).toNat:Int):Rat)+3≤a*((2^(w+8).toNat:Int):Rat)∨b*((2^(w+8).toNat:Int):Rat)+3≤(k:Rat)*cQ*((2^(w+8).toNat:Int):Rat))
theorem zux {a b:Rat}{x y w c:Int}(h1:(x:Rat)*cQ≤a*((2^(w+8).toNat:Int):Rat)+1 / 100)(h2:a*((2^(w+8).toNat:Int):Rat)≤((x:Rat)+1)*cQ+1 / 100)(h3:(y:Rat)*cQ≤b*((2^(w+8).toNat:Int):Rat)+1 / 100)(h4:b*((2^(w+8).toNat:Int):Rat)≤((y:Rat)+1)*cQ+1 / 100) :
  Tp a b w c (decide ((-(-(x-2) / 2^((w+8)).toNat))+(c-(-(-(x-2) / 2^((w+8)).toNat)))%4≤((y+2) / 2^((w+8)).toNat))):=by
 have cb:=cQ_b
 have c0:0≤cQ:=by grind
 unfold Tp
 have F0:=zi5 (w+8).toNat
 generalize hF:(2:Int)^(w+8).toNat=F at *
 have a1:=Int.ediv_mul_le (-(x-2)) (show F≠0 by omega)
 have a2:=Int.lt_ediv_add_one_mul_self (-(x-2)) F0
 have b1:=Int.ediv_mul_le (y+2) (show F≠0 by omega)
 have b2:=Int.lt_ediv_add_one_mul_self (y+2) F0
 generalize -(x-2) / F=u at *
 generalize (y+2) / F=v at *
 have cast:∀ (k z:Int),z≤k*F→(z:Rat)*cQ≤(k:Rat)*cQ*(F:Rat):=fun k z h=>by
  have h:=Rat.mul_le_mul_of_nonneg_right (Rat.intCast_le_intCast.2 h) c0
  rw [Rat.intCast_mul] at h
  grind
 have cast2:∀ (k z:Int),k*F≤z→(k:Rat)*cQ*(F:Rat)≤(z:Rat)*cQ:=fun k z h=>by
  have h:=Rat.mul_le_mul_of_nonneg_right (Rat.intCast_le_intCast.2 h) c0
  rw [Rat.intCast_mul] at h
  grind
 constructor
 ·intro g
  have g:=of_decide_eq_true g
  refine ⟨-u+(c - -u)%4,by omega,?_,?_⟩
  ·have k:=cast (-u+(c - -u)%4) (x-2) (by
    have m:=Int.mul_le_mul_of_nonneg_right (show -u≤-u+(c - -u)%4 by omega) (Int.le_of_lt F0)
    rw [Int.neg_mul] at m
    omega)
   rw [Rat.intCast_sub x 2] at k
   have k:((x:Rat)-2)*cQ≤_:=k
   grind
  ·have k:=cast2 (-u+(c - -u)%4) (y+2) (by
    have m:=Int.mul_le_mul_of_nonneg_right g (Int.le_of_lt F0)
    omega)
   rw [Rat.intCast_add y 2] at k
   have k:_≤((y:Rat)+2)*cQ:=k
   grind
 ·intro g k hk
  have g:=of_decide_eq_false g
  by_cases hl:k < -u
  ·left
   have z:=cast2 k (x-3) (by
    have m:=Int.mul_le_mul_of_nonneg_right (show u+1≤-k by omega) (Int.le_of_lt F0)
    rw [Int.neg_mul] at m
    omega)
   rw [Rat.intCast_sub] at z
   have z:_≤((x:Rat)-3)*cQ:=z
   grind
  ·right
   have z:=cast k (y+3) (by
    have m:=Int.mul_le_mul_of_nonneg_right (show v+1≤k by omega) (Int.le_of_lt F0)
    omega)
   rw [Rat.intCast_add] at z
   have z:((y:Rat)+3)*cQ≤_:=z
   grind
theorem zuy (m ee n f more w:Int)(hmo:more=0∨more=1)(hw:0≤w∧w≤200)(hm:L (m).natAbs≤20)(he:-440≤ee∧ee≤130)(hd:-4294967296≤dv m ee∧dv m ee≤4294967296) :
  ∃ x1 x2:Int,Impl Tryz.prog Amb 133 [(.int .i64 w),(.clos 156 [(.pt [(V.bool (decide (m<0))),(N m.natAbs),(V.int .i64 ee),(V.bool (decide (n<0))),(N n.natAbs),(V.int .i64 f)] 0),(.pt [(V.int .i64 more)] 0)])] (sV x1 x2)∧(x1≤x2∧x2-x1≤2)∧EnE (SC more (dv m ee)) w.toNat x1 x2 (sE*((2^w.toNat:Int):Rat))∧L x1.natAbs≤76∧L x2.natAbs≤76:=by
 obtain ⟨u1,u2,hS,u12,uw,hE,l1,l2⟩:=zue m ee more (w+24) hmo oO hm he hd.1 hd.2
 have hC:=zur m ee n f more (w+24) u1 u2 hS
 have hT:=zqs 156 (.pt [(V.bool (decide (m<0))),(N m.natAbs),(V.int .i64 ee),(V.bool (decide (n<0))),(N n.natAbs),(V.int .i64 f)] 0) (.pt [(V.int .i64 more)] 0) u1 u2 w hC oO (zl2 oO) oO
 have hw3:=zq0 (a:=u1) (b:=u2) (W:=1) (n:=24) oO
 have o1:=zgy u1 24
 have o2:=zcx u2
 have o3:=zgy (-u2) 24
 have o4:=zcx (-u2 / 2^24)
 exact ⟨_,_,hT,⟨by have:(2:Int)^24=16777216:=rfl; rw [this]; omega,hw3⟩,hE.half oO,by omega,by omega⟩
theorem zuz (m ee n f more w:Int)(hmo:more=0∨more=1)(hw:0≤w∧w≤200)(hm:L (n).natAbs≤20)(he:-440≤f∧f≤130)(hd:-4294967296≤dv n f∧dv n f≤4294967296) :
  ∃ x1 x2:Int,Impl Tryz.prog Amb 133 [(.int .i64 w),(.clos 158 [(.pt [(V.bool (decide (m<0))),(N m.natAbs),(V.int .i64 ee),(V.bool (decide (n<0))),(N n.natAbs),(V.int .i64 f)] 0),(.pt [(V.int .i64 more)] 0)])] (sV x1 x2)∧(x1≤x2∧x2-x1≤2)∧EnE (SC more (dv n f)) w.toNat x1 x2 (sE*((2^w.toNat:Int):Rat))∧L x1.natAbs≤76∧L x2.natAbs≤76:=by
 obtain ⟨u1,u2,hS,u12,uw,hE,l1,l2⟩:=zue n f more (w+24) hmo oO hm he hd.1 hd.2
 have hC:=zus m ee n f more (w+24) u1 u2 hS
 have hT:=zqs 158 (.pt [(V.bool (decide (m<0))),(N m.natAbs),(V.int .i64 ee),(V.bool (decide (n<0))),(N n.natAbs),(V.int .i64 f)] 0) (.pt [(V.int .i64 more)] 0) u1 u2 w hC oO (zl2 oO) oO
 have hw3:=zq0 (a:=u1) (b:=u2) (W:=1) (n:=24) oO
 have o1:=zgy u1 24
 have o2:=zcx u2
 have o3:=zgy (-u2) 24
 have o4:=zcx (-u2 / 2^24)
 exact ⟨_,_,hT,⟨by have:(2:Int)^24=16777216:=rfl; rw [this]; omega,hw3⟩,hE.half oO,by omega,by omega⟩
theorem dv32:dv 1 32=4294967296:=of_decide_eq_true (by kernel_rfl)
theorem zv0 (m ee:Int)(hm:L (m).natAbs≤20)(he:-440≤ee∧ee≤130)(hd:-4294967296≤dv m ee∧dv m ee≤4294967296):Impl Tryz.prog Amb 93 [(yV m ee)] (.bool true) :=
 zui m ee oO oO (zqg.2 (by rw [dv32]; exact hd.2)) (zqg.2 (by rw [dv32,znd]; have:=hd.1; grind))
theorem zv1 (m ee n f more w:Int)(hmo:more=0∨more=1)(hw:0≤w∧w≤200)(hm:L (m).natAbs≤20)(he:-440≤ee∧ee≤130)(hd:-4294967296≤dv m ee∧dv m ee≤4294967296)(hn:L (n).natAbs≤20)(hf:-440≤f∧f≤130)(hd':-4294967296≤dv n f∧dv n f≤4294967296) :
  ∃ (tp bt:Bool) (x1 x2 y1 y2:Int),Impl Tryz.prog Amb 92 [(wV m ee n f),(.int .i64 more),(.int .i64 w)] (.tup [(wV (mkM (if bt then -(2^w.toNat) else max (-(2^w.toNat)) (min x1 y1)) (-w)) (mkX (if bt then -(2^w.toNat) else max (-(2^w.toNat)) (min x1 y1)) (-w)) (mkM (if tp then 2^w.toNat else min (2^w.toNat) (max x2 y2)) (-w)) (mkX (if tp then 2^w.toNat else min (2^w.toNat) (max x2 y2)) (-w))),(.int .i64 0)]) ∧
   ((x1≤x2∧x2-x1≤2)∧EnE (SC more (dv m ee)) w.toNat x1 x2 (sE*((2^w.toNat:Int):Rat))∧L x1.natAbs≤76∧L x2.natAbs≤76)∧((y1≤y2∧y2-y1≤2)∧EnE (SC more (dv n f)) w.toNat y1 y2 (sE*((2^w.toNat:Int):Rat))∧L y1.natAbs≤76∧L y2.natAbs≤76)∧Tp (dv m ee) (dv n f) w (1-more) tp∧Tp (dv m ee) (dv n f) w (3-more) bt:=by
 obtain ⟨x1,x2,hX,FX⟩:=zuy m ee n f more w hmo hw hm he hd
 obtain ⟨y1,y2,hY,FY⟩:=zuz m ee n f more w hmo hw hn hf hd'
 obtain ⟨x,hQ1,lx,qa,qb⟩:=zuw m ee (w+8) oO hm he hd.1 hd.2
 obtain ⟨y,hQ2,ly,qc,qd⟩:=zuw n f (w+8) oO hn hf hd'.1 hd'.2
 have hI1:=zv0 m ee hm he hd
 have hI2:=zv0 n f hn hf hd'
 have hTu:=zuk m ee n f w x y hQ1 hQ2 oO oO oO
 have z1:=zk7 2 (by decide)
 have z2:=zgr x 2
 have z3:=zcx (x-2)
 have z4:=zgy (-(x-2)) (w+8).toNat
 have z5:=zcx (-(x-2) / 2^(w+8).toNat)
 have z6:=zcv y 2
 have z7:=zgy (y+2) (w+8).toNat
 have z8:L (2:Int).natAbs≤1:=z1
 have hR1:=zuj (-(-(x-2) / 2^((w+8)).toNat)) ((y+2) / 2^((w+8)).toNat) (1-more) oO oO oO
 have hR2:=zuj (-(-(x-2) / 2^((w+8)).toNat)) ((y+2) / 2^((w+8)).toNat) (3-more) oO oO oO
 have RT:=zux (c:=1-more) qa qb qc qd
 have RB:=zux (c:=3-more) qa qb qc qd
 have pw:=zk4 w.toNat
 rw [Int.one_mul] at pw
 have pn:=zcx (2^w.toNat)
 have mn:=zug x1 y1
 have mx:=zuh x2 y2
 have mM:=zuh (-(2^w.toNat)) (min x1 y1)
 have mN:=zug (2^w.toNat) (max x2 y2)
 have f1:=FX.2.2
 have f2:=FY.2.2
 generalize ht:decide ((-(-(x-2) / 2^((w+8)).toNat))+(1-more-(-(-(x-2) / 2^((w+8)).toNat)))%4≤((y+2) / 2^((w+8)).toNat))=gt at *
 generalize hb:decide ((-(-(x-2) / 2^((w+8)).toNat))+(3-more-(-(-(x-2) / 2^((w+8)).toNat)))%4≤((y+2) / 2^((w+8)).toNat))=gb at *
 cases gt with
 | true =>
  cases gb with
  | true =>
  ·have mA:=zix (-(2^w.toNat)) (0-w) oO oO
   have mB:=zix (2^w.toNat) (0-w) oO oO
   rw [Int.zero_sub,zo6 (m:=(-(2^w.toNat))) (e:=-w) oO oO] at mA
   rw [Int.zero_sub,zo6 (m:=(2^w.toNat)) (e:=-w) oO oO] at mB
   refine ⟨true,true,x1,x2,y1,y2,?_,FX,FY,RT,RB⟩
   exact zun m ee n f more w _ _ x1 x2 y1 y2 _ _ _ _ oO oO hI1 hI2 hTu hR1 hR2 (by rw [Int.one_mul,Int.zero_sub]; exact mA) (by rw [Int.one_mul,Int.zero_sub]; exact mB) oO oO oO oO
  | false =>
  ·have mA:=zix (max (-(2^w.toNat)) (min x1 y1)) (0-w) oO oO
   have mB:=zix (2^w.toNat) (0-w) oO oO
   rw [Int.zero_sub,zo6 (m:=(max (-(2^w.toNat)) (min x1 y1))) (e:=-w) oO oO] at mA
   rw [Int.zero_sub,zo6 (m:=(2^w.toNat)) (e:=-w) oO oO] at mB
   refine ⟨true,false,x1,x2,y1,y2,?_,FX,FY,RT,RB⟩
   exact zuo m ee n f more w _ _ x1 x2 y1 y2 _ _ _ _ oO oO hI1 hI2 hTu hR1 hR2 hX hY (by rw [Int.one_mul,Int.zero_sub]; exact mA) (by rw [Int.one_mul,Int.zero_sub]; exact mB) oO oO oO oO
 | false =>
  cases gb with
  | true =>
  ·have mA:=zix (-(2^w.toNat)) (0-w) oO oO
   have mB:=zix (min (2^w.toNat) (max x2 y2)) (0-w) oO oO
   rw [Int.zero_sub,zo6 (m:=(-(2^w.toNat))) (e:=-w) oO oO] at mA
   rw [Int.zero_sub,zo6 (m:=(min (2^w.toNat) (max x2 y2))) (e:=-w) oO oO] at mB
   refine ⟨false,true,x1,x2,y1,y2,?_,FX,FY,RT,RB⟩
   exact zup m ee n f more w _ _ x1 x2 y1 y2 _ _ _ _ oO oO hI1 hI2 hTu hR1 hR2 hX hY (by rw [Int.one_mul,Int.zero_sub]; exact mA) (by rw [Int.one_mul,Int.zero_sub]; exact mB) oO oO oO oO
  | false =>
  ·have mA:=zix (max (-(2^w.toNat)) (min x1 y1)) (0-w) oO oO
   have mB:=zix (min (2^w.toNat) (max x2 y2)) (0-w) oO oO
   rw [Int.zero_sub,zo6 (m:=(max (-(2^w.toNat)) (min x1 y1))) (e:=-w) oO oO] at mA
   rw [Int.zero_sub,zo6 (m:=(min (2^w.toNat) (max x2 y2))) (e:=-w) oO oO] at mB
   refine ⟨false,false,x1,x2,y1,y2,?_,FX,FY,RT,RB⟩
   exact zuq m ee n f more w _ _ x1 x2 y1 y2 _ _ _ _ oO oO hI1 hI2 hTu hR1 hR2 hX hY (by rw [Int.one_mul,Int.zero_sub]; exact mA) (by rw [Int.one_mul,Int.zero_sub]; exact mB) oO oO oO oO
end Go.Proofs.YtcbihoojfakhdaaGreatDoor


namespace Go.Proofs.YtcbihoojfakhdaaGreatDoor
theorem zv2 {a b n:Int}(hn:0<n)(hab:a≤b)(w:b-a≤3):ovHi a b n-ovLo a b n≤3∧ovLo a b n≤ovHi a b n:=by
 unfold ovLo ovHi
 rw [show min a b=a by omega,show max a b=b by omega,Int.fdiv_eq_ediv_of_nonneg _ (Int.le_of_lt hn),Int.fdiv_eq_ediv_of_nonneg _ (Int.le_of_lt hn)]
 have f1:=Int.lt_ediv_add_one_mul_self a hn
 have f2:=Int.lt_ediv_add_one_mul_self (-b) hn
 have g1:=Int.ediv_mul_le a (show n≠0 by omega)
 have g2:=Int.ediv_mul_le (-b) (show n≠0 by omega)
 generalize a / n=q1 at *
 generalize -b / n=q2 at *
 rw [Int.add_mul,Int.one_mul] at f1 f2
 constructor
 ·refine Decidable.byContradiction fun h=>?_
  have m:=Int.mul_le_mul_of_nonneg_right (show 4≤-q2-q1 by omega) (Int.le_of_lt hn)
  rw [Int.sub_mul,Int.neg_mul] at m
  omega
 ·refine Decidable.byContradiction fun h=>?_
  have m:=Int.mul_le_mul_of_nonneg_right (show 1≤q1+q2 by omega) (Int.le_of_lt hn)
  rw [Int.add_mul] at m
  omega
theorem zv3 {a b c d T:Int}(hT:0<T):rm1 a b c d T≤rm2 a b c d T:=by
 have h:mn4 a b c d≤mx4 a b c d:=Int.le_trans (zpp a b c d).1 (zpq a b c d).1
 unfold rm1 rm2
 have g1:=Int.ediv_mul_le (mn4 a b c d) (show T≠0 by omega)
 have g2:=Int.ediv_mul_le (-(mx4 a b c d)) (show T≠0 by omega)
 generalize mn4 a b c d / T=q1 at *
 generalize -(mx4 a b c d) / T=q2 at *
 refine Decidable.byContradiction fun hn=>?_
 have m:=Int.mul_le_mul_of_nonneg_right (show 1≤q1+q2 by omega) (Int.le_of_lt hT)
 rw [Int.add_mul] at m
 omega
end Go.Proofs.YtcbihoojfakhdaaGreatDoor

namespace Go.Proofs.YtcbihoojfakhdaaGreatDoor
open Go.RowKit
set_option maxRecDepth 100000
set_option maxHeartbeats 2000000
def mlo (T y1 y2:Int)(j:Nat):Int:=rm1 (reLo T y1 y2 j) (reHi T y1 y2 j) y1 y2 T
def mhi (T y1 y2:Int)(j:Nat):Int:=rm2 (reLo T y1 y2 j) (reHi T y1 y2 j) y1 y2 T
theorem zv4 {a b c:Rat}(h:a<b)(k:b≤c):a<c:=by grind
end Go.Proofs.YtcbihoojfakhdaaGreatDoor

namespace Go.Proofs.YtcbihoojfakhdaaGreatDoor
open Go.RowKit
set_option maxRecDepth 100000
set_option maxHeartbeats 2000000
theorem zv5 {m e t:Int}(h:topD m e≤t):-(dv 1 t)≤dv m e∧dv m e≤dv 1 t:=by
 by_cases hm:m=0
 ·have:=zqn (m:=1) (e:=t) |>.2 (by decide)
  rw [hm,znb]; constructor<;>grind
 ·have a:=(zqo (e:=e) hm).1
  have u:dv 1 (topD m e)≤dv 1 t:=by
   rw [zn7 (m:=1) (e:=t) (c:=topD m e) oO,zn9,Int.one_mul]
   have:=zi5 (t-topD m e).toNat
   omega
  rcases (show (m.natAbs:Int)=m∨(m.natAbs:Int)=-m by omega) with q | q
  ·have n0:0≤dv m e:=zqn.2 oO
   rw [q] at a
   constructor<;>grind
  ·have n0:0≤dv (-m) e:=zqn.2 oO
   rw [q] at a
   rw [znd] at a n0
   constructor<;>grind
end Go.Proofs.YtcbihoojfakhdaaGreatDoor

namespace Go.Proofs.YtcbihoojfakhdaaGreatDoor
open Go.RowKit
set_option maxRecDepth 100000
set_option maxHeartbeats 2000000
theorem zv6 {m e x y n f t:Int}(t0:0≤t)(h1:topD m e≤t)(h2:topD n f≤t)(o1:dv m e≤dv x y)(o2:dv x y≤dv n f):topD x y≤t:=by
 refine Decidable.byContradiction fun hn=>?_
 have hx:x≠0:=fun q=>by unfold topD at hn; rw [if_pos q] at hn; omega
 have a:=(zqo (e:=y) hx).2
 have u:=zqp (a:=t) (b:=topD x y-1) oO
 have lt:∀ {m e:Int},topD m e≤t→-(dv 1 t)<dv m e∧dv m e<dv 1 t:=by
  intro m e h
  have p1:0<dv 1 t:=znh.2 (by decide)
  by_cases hm:m=0
  ·rw [hm,znb]; constructor<;>grind
  ·have b:=(zqo (e:=e) hm).1
   have c:=zqp h
   rcases (show (m.natAbs:Int)=m∨(m.natAbs:Int)=-m by omega) with q | q
   ·have n0:0≤dv m e:=zqn.2 oO
    rw [q] at b
    clear q
    generalize dv m e=z at *
    generalize dv 1 t=g at *
    generalize dv 1 (topD m e)=i at *
    constructor<;>grind
   ·have n0:0≤dv (-m) e:=zqn.2 oO
    rw [q] at b
    rw [znd] at b n0
    clear q
    generalize dv m e=z at *
    generalize dv 1 t=g at *
    generalize dv 1 (topD m e)=i at *
    constructor<;>grind
 have b1:=(lt h1).1
 have b2:=(lt h2).2
 rcases (show (x.natAbs:Int)=x∨(x.natAbs:Int)=-x by omega) with q | q
 ·rw [q] at a
  grind
 ·rw [q,znd] at a
  grind
end Go.Proofs.YtcbihoojfakhdaaGreatDoor

namespace Go.Proofs.YtcbihoojfakhdaaGreatDoor
open Go.RowKit
set_option maxRecDepth 100000
set_option maxHeartbeats 2000000
def shc (m e:Int)(j:Nat):Int:=if m=0 then 0 else e-15*(j:Int)
theorem zv7 {m e:Int}(he:-40≤e∧e≤104){j:Nat}(hj:j≤12):-220≤shc m e j∧shc m e j≤104:=by
 unfold shc; split<;>omega
theorem zv8 {m e:Int}(hv:vdb m e=true)(hm:L m.natAbs≤2)(he:-40≤e∧e≤104){j:Nat}(hj:j<12):Impl Tryz.prog Amb 38 [(yV m (shc m e j)),(.int .i64 (-15))] (.tup [(yV m (shc m e (j+1))),(.int .i64 0)]):=by
 have f:=zv7 (m:=m) he (j:=j) oO
 have h:=zja m (shc m e j) (-15) oO oO oO
 have key:mkM m (shc m e j+-15)=m∧mkX m (shc m e j+-15)=shc m e (j+1)∧mkE m (shc m e j+-15)=0:=by
  by_cases hz:m=0
  ·subst hz
   have:=zi1 (m:=0) (e:=shc 0 e j+-15) oO rfl
   exact ⟨this.1,this.2.1,this.2.2⟩
  ·have s:shc m e j+-15=shc m e (j+1):=by unfold shc; rw [if_neg hz,if_neg hz]; omega
   rw [s]
   have f':=zv7 (m:=m) he (j:=j+1) oO
   refine znl ?_
   rcases zhs.1 hv with q | q
   ·exact absurd q.1 hz
   ·exact zhs.2 (.inr ⟨hz,q.2.1,by omega,by omega,q.2.2.2.2⟩)
 rw [key.1,key.2.1,key.2.2] at h
 exact h
theorem zv9 {m e:Int}(hv:vdb m e=true):shc m e 0=e:=by
 unfold shc
 split
 ·rename_i h
  rcases zhs.1 hv with q | q
  ·exact q.2.symm
  ·exact absurd h q.1
 ·omega
theorem zva {m e:Int}(hv:vdb m e=true){j:Nat}(hf:-65536≤shc m e j∧shc m e j≤65536):vdb m (shc m e j)=true:=by
 by_cases hm:m=0
 ·subst hm
  exact zhs.2 (.inl ⟨rfl,by unfold shc; rw [if_pos rfl]⟩)
 ·exact zrm hv hm hf
theorem zvb (m e:Int)(j:Nat):dv m (shc m e j)*(2:Rat)^((15*(j:Int):Int))=dv m e:=by
 by_cases hm:m=0
 ·subst hm; rw [znb,znb,Rat.zero_mul]
 ·rw [zqq m e (15*(j:Int))]
  unfold shc; rw [if_neg hm]
theorem zvc {m e n f:Int}{j:Nat}(h:dv m e≤dv n f):dv m (shc m e j)≤dv n (shc n f j):=by
 refine Rat.le_of_mul_le_mul_right (c:=(2:Rat)^((15*(j:Int):Int))) ?_ (zn2 _)
 rw [zvb,zvb]; exact h
theorem zvd {m e:Int}(hm:L m.natAbs≤2)(he:-40≤e∧e≤104):topD m (shc m e 12)≤0:=by
 by_cases hz:m=0
 ·subst hz
  unfold topD
  rw [if_pos rfl]; omega
 ·have s:shc m e 12=e-180:=by unfold shc; rw [if_neg hz]; omega
  rw [s]
  have r:=zi7 m (e-180)
  omega
theorem zve {m ee n f fa:Int}(hm:L m.natAbs≤2)(hn:L n.natAbs≤2)(he:-40≤ee∧ee≤104)(hf:-40≤f∧f≤104)(hfa:0≤fa) :
  ∃ nn,nn≤12∧∀ j,j≤nn→(j=nn↔topD m (shc m ee j)≤fa∧topD n (shc n f j)≤fa):=by
 have t1:=zvd (m:=m) hm he
 have t2:=zvd (m:=n) hn hf
 obtain ⟨nn,h1,h2,h3⟩:=zpi (P:=fun j=>topD m (shc m ee j)≤fa∧topD n (shc n f j)≤fa) (n:=12) ⟨by omega,by omega⟩
 refine ⟨nn,h1,fun j hj=>⟨fun q=>by rw [q]; exact h2,fun q=>?_⟩⟩
 exact Decidable.byContradiction fun hn=>h3 j oO q
theorem zvf (a b:Int)(c0:(-9223372036854775808:Int)≤a∧a≤9223372036854775807)(c1:(-9223372036854775808:Int)≤b∧b≤9223372036854775807):Impl Tryz.prog Amb 63 [(.int .i64 a),(.int .i64 b)] (wV (mkM a 0) (mkX a 0) (mkM b 0) (mkX b 0)):=by
 exact z6e hP hAmb Tryz.func63 (by kernel_rfl) (.lit<|.call (yV (mkM a 0) (mkX a 0))<|.lit<|.call (yV (mkM b 0) (mkX b 0))<|.lits 3<|.ret)
  (z6d (aI True.intro (aI (zjb a oO) (have f14:=(zpa (n:=a) oO).2.2.2.2.1; have f13:=(zpa (n:=a) oO).2.2.2.1; have f12:=(zpa (n:=a) oO).2.2.1; have f11:=(zpa (n:=a) oO).2.1; have f10:=(zpa (n:=a) oO).1; have f9:=(zgo oO:L (a:Int).natAbs≤2); have f8:=zhz a 0; aI (zjb b oO) (have f7:=(zpa (n:=b) oO).2.2.2.2.1; have f6:=(zpa (n:=b) oO).2.2.2.1; have f5:=(zpa (n:=b) oO).2.2.1; have f4:=(zpa (n:=b) oO).2.1; have f3:=(zpa (n:=b) oO).1; have f2:=(zgo oO:L (b:Int).natAbs≤2); have f1:=zhz b 0; (z5w (wV (mkM a 0) (mkX a 0) (mkM b 0) (mkX b 0))))))) (by kernel_rfl))
theorem zvg (a1 a2:Int)(c0:Impl Tryz.prog Amb 63 [(.int .i64 (-1)),(.int .i64 1)] (wV (-1:Int) 0 (1:Int) 0))(c1:Impl Tryz.prog Amb 35 [(wV (-1:Int) 0 (1:Int) 0),(.int .i64 6)] (.tup [(wV a1 a2 (1:Int) 0),(.int .i64 0)]))(c2:Impl Tryz.prog Amb 63 [(.int .i64 0),(.int .i64 7)] (wV (0:Int) 0 (7:Int) 0))(c3:Impl Tryz.prog Amb 34 [(wV (0:Int) 0 (7:Int) 0),(.int .i64 6)] (.tup [(wV (-1:Int) 0 (1:Int) 0),(.int .i64 0)]))(c4:Impl Tryz.prog Amb 17 [(.int .i64 1)] (yV (1:Int) 0))(c5:Impl Tryz.prog Amb 77 [(yV (1:Int) 0),(yV (1:Int) 0)] (.bool true))(c6:Impl Tryz.prog Amb 37 [(wV (-1:Int) 0 (1:Int) 0),(wV (-1:Int) 0 (1:Int) 0)] (.bool true)):Impl Tryz.prog Amb 23 [] (.bool true):=by
 exact z6e hP hAmb Tryz.func23 (by kernel_rfl) (.lit<|.call (wV (-1:Int) 0 (1:Int) 0)<|.lit<|.call (.tup [(wV a1 a2 (1:Int) 0),(.int .i64 0)])<|.lits 2<|.call (wV (0:Int) 0 (7:Int) 0)<|.lit<|.call (.tup [(wV (-1:Int) 0 (1:Int) 0),(.int .i64 0)])<|.lits 11<|.call (yV (1:Int) 0)<|.lits 2<|.call (.bool true)<|.lits 5<|.call (wV (-1:Int) 0 (1:Int) 0)<|.lits 2<|.call (.bool true)<|.lits 2<|.ret)
  (z6d (aI True.intro (aI (c0 ) (aI (c1 ) (aI (c2 ) (aI (c3 ) (aI (c4 ) (aI (c5 ) (aI (c0 ) (aI (c6 ) ((z5w (.bool true)))))))))))) (by kernel_rfl))
theorem zvh (b1:Bool)(l1:List Nat)(e1:Int)(b2:Bool)(l2:List Nat)(e2 fa m ee n f:Int)(c0:Impl Tryz.prog Amb 78 [(.agg [(.bool b1),(.sl 1 (U l1)),(.int .i64 e1),(.bool b2),(.sl 1 (U l2)),(.int .i64 e2)]),(.int .i64 2),(.int .i64 40)] (.tup [(wV m ee n f),(.bool false)])):Impl Tryz.prog Amb 24 [(.agg [(.bool b1),(.sl 1 (U l1)),(.int .i64 e1),(.bool b2),(.sl 1 (U l2)),(.int .i64 e2)]),(.int .i64 fa)] (.tup [(wV m ee n f),(.bool false)]):=by
 exact z6e hP hAmb Tryz.func24 (by kernel_rfl) (.lits 2<|.call (.tup [(wV m ee n f),(.bool false)])<|.lits 6<|.ret)
  (z6d (aI True.intro (aI (c0 ) ((z5w (.tup [(wV m ee n f),(.bool false)]))))) (by kernel_rfl))
def l17_arg_0_mk (b1:Bool)(l1:List Nat)(e1:Int)(b2:Bool)(l2:List Nat)(e2:Int)(fa m ee n f:Int)(_:Nat)(x:Nat):St:=⟨mkS 43 [(1,(.val (.int .i64 fa))),(4,(.own 1 0)),(6,(.own 2 0))],[⟨true,false,[(V.bool b1),(V.sl 1 (U l1)),(V.int .i64 e1),(V.bool b2),(V.sl 1 (U l2)),(V.int .i64 e2)]⟩,⟨true,false,[(V.bool false),V.nil,(V.int .i64 0),(V.bool false),V.nil,(V.int .i64 0)]⟩,⟨true,false,[(V.bool (decide (m<0))),(N m.natAbs),(V.int .i64 (shc m ee x)),(V.bool (decide (n<0))),(N n.natAbs),(V.int .i64 (shc n f x))]⟩]⟩
def l17_arg_0_I (_:Bool)(_:List Nat)(_:Int)(_:Bool)(_:List Nat)(_:Int)(_ _ _ _ _:Int)(nn:Nat)(x:Nat):Prop:=x≤nn
def l17_arg_0_mu (_:Bool)(_:List Nat)(_:Int)(_:Bool)(_:List Nat)(_:Int)(_ _ _ _ _:Int)(nn:Nat)(x:Nat):Nat:=nn-x
def l17_arg_0_ex (b1:Bool)(l1:List Nat)(e1:Int)(b2:Bool)(l2:List Nat)(e2:Int)(_ m ee n f:Int)(_:Nat)(y:Nat):Ex × St:=(.exit 0,⟨mkS 43 [(4,(.own 1 0)),(6,(.own 2 0))],[⟨true,false,[(V.bool b1),(V.sl 1 (U l1)),(V.int .i64 e1),(V.bool b2),(V.sl 1 (U l2)),(V.int .i64 e2)]⟩,⟨true,false,[(V.bool false),V.nil,(V.int .i64 0),(V.bool false),V.nil,(V.int .i64 0)]⟩,⟨true,false,[(V.bool (decide (m<0))),(N m.natAbs),(V.int .i64 (shc m ee y)),(V.bool (decide (n<0))),(N n.natAbs),(V.int .i64 (shc n f y))]⟩]⟩)
def l17_arg_0_J (_:Bool)(_:List Nat)(_:Int)(_:Bool)(_:List Nat)(_:Int)(_ _ _ _ _:Int)(nn:Nat)(y:Nat):Prop:=y=nn
abbrev l17_arg_0_N (b1:Bool)(l1:List Nat)(e1:Int)(b2:Bool)(l2:List Nat)(e2:Int)(fa m ee n f:Int)(nn:Nat):=NX (l17_arg_0_mk b1 l1 e1 b2 l2 e2 fa m ee n f nn) (l17_arg_0_I b1 l1 e1 b2 l2 e2 fa m ee n f nn) (l17_arg_0_mu b1 l1 e1 b2 l2 e2 fa m ee n f nn) (l17_arg_0_ex b1 l1 e1 b2 l2 e2 fa m ee n f nn) (l17_arg_0_J b1 l1 e1 b2 l2 e2 fa m ee n f nn)
theorem zvi (b1:Bool)(l1:List Nat)(e1:Int)(b2:Bool)(l2:List Nat)(e2:Int)(fa m ee n f:Int)(nn:Nat)(c0:nn≤100)(c1:∀ j,j≤nn→(j=nn↔(topD m (shc m ee j))≤fa∧(topD n (shc n f j))≤fa))(c2:∀ j,j≤nn→Impl Tryz.prog Amb 18 [(yV m (shc m ee j))] (.int .i64 (topD m (shc m ee j))))(c3:∀ j,j≤nn→Impl Tryz.prog Amb 18 [(yV n (shc n f j))] (.int .i64 (topD n (shc n f j))))(c4:∀ j,j<nn→Impl Tryz.prog Amb 38 [(yV m (shc m ee j)),(.int .i64 (-15))] (.tup [(yV m (shc m ee (j+1))),(.int .i64 0)]))(c5:∀ j,j<nn→Impl Tryz.prog Amb 38 [(yV n (shc n f j)),(.int .i64 (-15))] (.tup [(yV n (shc n f (j+1))),(.int .i64 0)]))(x0:Nat)(hI:l17_arg_0_I b1 l1 e1 b2 l2 e2 fa m ee n f nn x0):LoopOk Tryz.prog Amb (loopN Tryz.f24 0) (l17_arg_0_mk b1 l1 e1 b2 l2 e2 fa m ee n f nn x0) (fun e st_=>∃ y,l17_arg_0_J b1 l1 e1 b2 l2 e2 fa m ee n f nn y∧l17_arg_0_ex b1 l1 e1 b2 l2 e2 fa m ee n f nn y=(e,st_)) :=
 z6m hP hAmb ⟨[1,4,6],3,[]⟩ (l17_arg_0_mk b1 l1 e1 b2 l2 e2 fa m ee n f nn) (l17_arg_0_I b1 l1 e1 b2 l2 e2 fa m ee n f nn) (l17_arg_0_mu b1 l1 e1 b2 l2 e2 fa m ee n f nn) (l17_arg_0_ex b1 l1 e1 b2 l2 e2 fa m ee n f nn) (l17_arg_0_J b1 l1 e1 b2 l2 e2 fa m ee n f nn) x0 hI (fun j=>.lits 2<|.call (.int .i64 (topD m (shc m ee j)))<|.lit<|.both (.lits 8<|.call (.tup [(yV m (shc m ee (j+1))),(.int .i64 0)])<|.lits 3<|.call (.tup [(yV n (shc n f (j+1))),(.int .i64 0)])<|.lit<|.fin2 ⟨[1,4,6],3,[]⟩) (.lits 4<|.call (.int .i64 (topD n (shc n f j)))<|.lits 4<|.both (.lits 2<|.call (.tup [(yV m (shc m ee (j+1))),(.int .i64 0)])<|.lits 3<|.call (.tup [(yV n (shc n f (j+1))),(.int .i64 0)])<|.lit<|.fin2 ⟨[1,4,6],3,[]⟩) (.fin2 ⟨[4,6],3,[]⟩))) (by
  rintro j hI
  have hI:j≤nn:=hI
  have h1:=hI
  have q:=c1 j h1
  exact z6d (aI True.intro (aI (c2 j h1 ) (aI (fun (h101:(iGt (topD m (shc m ee j)) fa)=true)=>have _gh101:=z77 h101; aI (c4 j oO ) (aI (c5 j oO ) (aI tT ((z6j (j+1) (show (j+1)≤nn from show j+1≤nn by omega) (show nn-(j+1)<nn-j by omega):l17_arg_0_N b1 l1 e1 b2 l2 e2 fa m ee n f nn j .normal (l17_arg_0_mk b1 l1 e1 b2 l2 e2 fa m ee n f nn (j+1))))))) (fun (h102:(iGt (topD m (shc m ee j)) fa)=false)=>have _gh102:=z78 h102; aI (c3 j h1 ) (aI (fun (h103:(iGt (topD n (shc n f j)) fa)=true)=>have _gh103:=z77 h103; aI (c4 j oO ) (aI (c5 j oO ) (aI tT ((z6j (j+1) (show (j+1)≤nn from show j+1≤nn by omega) (show nn-(j+1)<nn-j by omega):l17_arg_0_N b1 l1 e1 b2 l2 e2 fa m ee n f nn j .normal (l17_arg_0_mk b1 l1 e1 b2 l2 e2 fa m ee n f nn (j+1))))))) (fun (h104:(iGt (topD n (shc n f j)) fa)=false)=>have _gh104:=z78 h104; aI tT ((z6k 0 ((l17_arg_0_ex b1 l1 e1 b2 l2 e2 fa m ee n f nn j).2) j (show j=nn from show j=nn by omega) rfl:l17_arg_0_N b1 l1 e1 b2 l2 e2 fa m ee n f nn j (.exit 0) ((l17_arg_0_ex b1 l1 e1 b2 l2 e2 fa m ee n f nn j).2))))))))) (by kernel_rfl))
theorem zvj (b1:Bool)(l1:List Nat)(e1:Int)(b2:Bool)(l2:List Nat)(e2 fa m ee n f:Int)(nn:Nat)(c0:Impl Tryz.prog Amb 78 [(.agg [(.bool b1),(.sl 1 (U l1)),(.int .i64 e1),(.bool b2),(.sl 1 (U l2)),(.int .i64 e2)]),(.int .i64 2),(.int .i64 40)] (.tup [(wV m (shc m ee 0) n (shc n f 0)),(.bool true)]))(c1:nn≤100)(c2:∀ j,j≤nn→(j=nn↔(topD m (shc m ee j))≤fa∧(topD n (shc n f j))≤fa))(c3:∀ j,j≤nn→Impl Tryz.prog Amb 18 [(yV m (shc m ee j))] (.int .i64 (topD m (shc m ee j))))(c4:∀ j,j≤nn→Impl Tryz.prog Amb 18 [(yV n (shc n f j))] (.int .i64 (topD n (shc n f j))))(c5:∀ j,j<nn→Impl Tryz.prog Amb 38 [(yV m (shc m ee j)),(.int .i64 (-15))] (.tup [(yV m (shc m ee (j+1))),(.int .i64 0)]))(c6:∀ j,j<nn→Impl Tryz.prog Amb 38 [(yV n (shc n f j)),(.int .i64 (-15))] (.tup [(yV n (shc n f (j+1))),(.int .i64 0)])):Impl Tryz.prog Amb 24 [(.agg [(.bool b1),(.sl 1 (U l1)),(.int .i64 e1),(.bool b2),(.sl 1 (U l2)),(.int .i64 e2)]),(.int .i64 fa)] (.tup [(wV m (shc m ee nn) n (shc n f nn)),(.bool true)]):=by
 exact z6e hP hAmb Tryz.func24 (by kernel_rfl) (.lits 2<|.call (.tup [(wV m (shc m ee 0) n (shc n f 0)),(.bool true)])<|.lits 3<|.loop ⟨[1,4,6],3,[]⟩ ((l17_arg_0_mk b1 l1 e1 b2 l2 e2 fa m ee n f nn 0)) (Nat) (l17_arg_0_ex b1 l1 e1 b2 l2 e2 fa m ee n f nn) (l17_arg_0_J b1 l1 e1 b2 l2 e2 fa m ee n f nn) (fun y=>.lits 3<|.ret))
  (z6d (aI True.intro (aI (c0 ) (aI tT (aI (rfl:(l17_arg_0_mk b1 l1 e1 b2 l2 e2 fa m ee n f nn 0)=(l17_arg_0_mk b1 l1 e1 b2 l2 e2 fa m ee n f nn 0)) (aI (zvi b1 l1 e1 b2 l2 e2 fa m ee n f nn c1 c2 c3 c4 c5 c6 0 (show 0≤nn from Nat.zero_le _)) (fun y (hJ:l17_arg_0_J b1 l1 e1 b2 l2 e2 fa m ee n f nn y)=>have hJ:y=nn:=hJ; (by rw [show y=nn from hJ]; exact z5w _:vsub (.tup [(wV m (shc m ee y) n (shc n f y)),(.bool true)]) (.tup [(wV m (shc m ee nn) n (shc n f nn)),(.bool true)])))))))) (by kernel_rfl))
theorem zvk (b1:Bool)(l1:List Nat)(e1:Int)(b2:Bool)(l2:List Nat)(e2 fa:Int)(c0:Dig l1)(c1:l1.length≤9223372036854775807)(c2:(-9223372036854775808:Int)≤e1∧e1≤9223372036854775807)(c3:Dig l2)(c4:l2.length≤9223372036854775807)(c5:(-9223372036854775808:Int)≤e2∧e2≤9223372036854775807)(hfa:0≤fa∧fa≤100):∃ (m ee n f:Int) (ok:Bool),Impl Tryz.prog Amb 24 [(.agg [(.bool b1),(.sl 1 (U l1)),(.int .i64 e1),(.bool b2),(.sl 1 (U l2)),(.int .i64 e2)]),(.int .i64 fa)] (.tup [(wV m ee n f),(.bool ok)])∧(L m.natAbs≤2∧L n.natAbs≤2)∧((-220≤ee∧ee≤104)∧(-220≤f∧f≤104))∧(ok=true→(topD m ee≤fa∧topD n f≤fa)∧(vdb m ee=true∧vdb n f=true)∧dv m ee≤dv n f):=by
 have fa':=zrj (b:=b1) (e:=e1) (c:=b2) (f:=e2) (n:=2) (k:=40) c0 c3 oO oO
 have hi:=zrk b1 l1 e1 b2 l2 e2 2 40 c0 c1 c3 c4 c2 c5 oO oO
 generalize (ivM b1 l1 e1 b2 l2 e2 2 40)=m at fa' hi
 generalize (ivX b1 l1 e1 b2 l2 e2 2 40)=ee at fa' hi
 generalize (ivN b1 l1 e1 b2 l2 e2 2 40)=n at fa' hi
 generalize (ivF b1 l1 e1 b2 l2 e2 2 40)=f at fa' hi
 by_cases hok:((l1.length:Int)≤2∧(l2.length:Int)≤2)
 ·rw [decide_eq_true hok] at hi
  obtain ⟨nn,hn,ht⟩:=zve (m:=m) (n:=n) (ee:=ee) (f:=f) (fa:=fa) oO oO oO oO oO
  have s1:=fun j (hj:j≤12)=>zv7 (m:=m) (e:=ee) (j:=j) oO hj
  have s2:=fun j (hj:j≤12)=>zv7 (m:=n) (e:=f) (j:=j) oO hj
  refine ⟨m,shc m ee nn,n,shc n f nn,true,zvj b1 l1 e1 b2 l2 e2 fa m ee n f nn ?_ oO ht ?_ ?_ ?_ ?_,by omega,⟨s1 nn hn,s2 nn hn⟩,fun _=>⟨(ht nn (Nat.le_refl _)).1 rfl,⟨zva fa'.2.1 (by have:=s1 nn hn; omega),zva fa'.2.2.1 (by have:=s2 nn hn; omega)⟩,zvc fa'.2.2.2⟩⟩
  ·rw [zv9 fa'.2.1,zv9 fa'.2.2.1]; exact hi
  ·intro j hj; have:=s1 j oO; exact zj4 m _ oO oO
  ·intro j hj; have:=s2 j oO; exact zj4 n _ oO oO
  ·intro j hj; exact zv8 fa'.2.1 oO oO oO
  ·intro j hj; exact zv8 fa'.2.2.1 oO oO oO
 ·rw [decide_eq_false hok] at hi
  exact ⟨m,ee,n,f,false,zvh b1 l1 e1 b2 l2 e2 fa m ee n f hi,by omega,by omega,fun h=>by cases h⟩
theorem tp_k {a b:Rat}{w c k:Int}{g:Bool}(h:Tp a b w c g)(hk:(k-c)%4=0)(hw:0≤w)(h1:a≤(k:Rat)*cQ)(h2:(k:Rat)*cQ≤b):g=true:=by
 cases g with
 | true=>rfl
 | false =>
  have F0:(0:Rat)<((2^(w+8).toNat:Int):Rat):=Rat.intCast_pos.2 (zi5 _)
  have m1:=Rat.mul_le_mul_of_nonneg_right h1 (Rat.le_of_lt F0)
  have m2:=Rat.mul_le_mul_of_nonneg_right h2 (Rat.le_of_lt F0)
  rcases h.2 rfl k hk with q | q
  ·exfalso; grind
  ·exfalso; grind
theorem dvs:dv (-1) 0=-1∧dv 1 0=1∧dv 0 0=0∧dv 7 0=7:=⟨of_decide_eq_true (by kernel_rfl),of_decide_eq_true (by kernel_rfl),of_decide_eq_true (by kernel_rfl),of_decide_eq_true (by kernel_rfl)⟩
theorem l17_awake:Impl Tryz.prog Amb 23 [] (.bool true):=by
 have cb:=cQ_b
 have dd:=dvs
 have l1:L (1:Int).natAbs≤1:=zk7 1 (by decide)
 have l2:L (-1:Int).natAbs≤1:=zk7 1 (by decide)
 have l3:L (7:Int).natAbs≤1:=zk7 7 (by decide)
 have l4:L (0:Int).natAbs≤1:=zk7 0 (by decide)
 obtain ⟨tp,bt,x1,x2,y1,y2,hC,_,_,t1,_⟩:=zv1 (-1) 0 1 0 1 6 (.inr rfl) oO oO oO (by rw [dd.1]; constructor<;>grind) oO oO (by rw [dd.2.1]; constructor<;>grind)
 rw [dd.1,dd.2.1] at t1
 have t1:=tp_k t1 (k:=0) (by decide) oO (by show -1≤(0:Rat)*cQ; grind) (by show (0:Rat)*cQ≤1; grind)
 subst t1
 obtain ⟨tp',bt',u1,u2,v1,v2,hS,_,_,t2,t3⟩:=zv1 0 0 7 0 0 6 (.inl rfl) oO oO oO (by rw [dd.2.2.1]; constructor<;>grind) oO oO (by rw [dd.2.2.2]; constructor<;>grind)
 rw [dd.2.2.1,dd.2.2.2] at t2 t3
 have t2:=tp_k t2 (k:=1) (by decide) oO (by show 0≤(1:Rat)*cQ; grind) (by show (1:Rat)*cQ≤7; grind)
 have t3:=tp_k t3 (k:=3) (by decide) oO (by show 0≤(3:Rat)*cQ; grind) (by show (3:Rat)*cQ≤7; grind)
 subst t2 t3
 exact zvg _ _ (zp3 (by kernel_rfl) (zvf (-1) 1 oO oO)) (zp3 (congrArg (fun d=>V.tup [.agg [_,_,_,.bool (decide (d.1<0)),N d.1.natAbs,.int .i64 d.2],.int .i64 0]) (show ((mkM (2^(6:Int).toNat) (-6),mkX (2^(6:Int).toNat) (-6)):Int × Int)=(1,0) by kernel_rfl)) (zuu (-1) 0 1 0 6 _ _ _ _ 0 hC))
  (zp3 (by kernel_rfl) (zvf 0 7 oO oO)) (zp3 (by kernel_rfl) (zut 0 0 7 0 6 _ _ _ _ 0 hS)) (zp3 (by kernel_rfl) (zjb 1 oO)) (zp3 (congrArg V.bool (by decide)) (zjn 1 0 1 0 oO oO)) (zp3 (congrArg V.bool (by decide)) (zjo (-1) 0 1 0 (-1) 0 1 0 oO oO oO oO))
end Go.Proofs.YtcbihoojfakhdaaGreatDoor





namespace Go.Proofs.YtcbihoojfakhdaaGreatDoor
open Go.RowKit
set_option maxRecDepth 100000
def eA (w:Int):Int:=(mkM ((eLo (w+24)) / 2^24) (-w))
def eB (w:Int):Int:=(mkX ((eLo (w+24)) / 2^24) (-w))
def eC (w:Int):Int:=(mkM (-(-(eHi (w+24)) / 2^24)) (-w))
end Go.Proofs.YtcbihoojfakhdaaGreatDoor

namespace Go.Proofs.YtcbihoojfakhdaaGreatDoor
open Go.RowKit
set_option maxRecDepth 100000
set_option maxHeartbeats 2000000
theorem zvl (m e n f na nb ha hb:Int)(g:Bool)(c0:Impl Tryz.prog Amb 17 [(.int .i64 (-1))] (yV na nb))(c1:Impl Tryz.prog Amb 17 [(.int .i64 1)] (yV ha hb))(c2:Impl Tryz.prog Amb 95 [(wV m e n f),(wV na nb ha hb)] (.bool g)):Impl Tryz.prog Amb 42 [(wV m e n f)] (.bool g):=by
 exact z6e hP hAmb Tryz.func42 (by kernel_rfl) (.lits 2<|.call (yV na nb)<|.lit<|.call (yV ha hb)<|.lits 2<|.call (.bool g)<|.lit<|.ret)
  (z6d (aI True.intro (aI (c0 ) (aI (c1 ) (aI (c2 ) ((z5w (.bool g))))))) (by kernel_rfl))
def rpLo (v:Int):Int:=((((atanT 5 v).1-2)*16)+(-(((atanT 239 v).2+2)*4)))
def rpHi (v:Int):Int:=((((atanT 5 v).2+2)*16)+(-(((atanT 239 v).1-2)*4)))
theorem rpi_all:(List.range 400).all (fun t=>decide (t<24) || (decide (0≤rpLo (t:Int)) && decide (rpLo (t:Int)*2^(430-t)≤ptPi) && decide (ptPi≤rpHi (t:Int)*2^(430-t)) && decide (rpHi (t:Int)≤8*2^t) && decide (rpHi (t:Int)-rpLo (t:Int)≤16384)))=true:=by kernel_rfl
theorem zvm {t:Nat}(ht:t<400)(h24:24≤t):(((rpLo (t:Int):Int):Rat)≤cQ*2*((2^t:Int):Rat)∧cQ*2*((2^t:Int):Rat)≤((rpHi (t:Int):Int):Rat))∧0≤rpLo (t:Int)∧rpHi (t:Int)≤8*2^t∧rpHi (t:Int)-rpLo (t:Int)≤16384:=by
 have h:=List.all_eq_true.1 rpi_all t (List.mem_range.2 ht)
 simp only [Bool.or_eq_true,Bool.and_eq_true,decide_eq_true_eq] at h
 have h:=h.resolve_left oO
 rw [← cQ2]
 exact ⟨⟨(zq2 oO).1 h.1.1.1.2,(zq2 oO).2 h.1.1.2⟩,h.1.1.1.1,h.1.2,h.2⟩
theorem zvn (A B w:Int)(hw:0≤w∧w≤300)(hA:A≤2^w.toNat∧-(2^w.toNat)≤A)(hB:B≤2^w.toNat∧-(2^w.toNat)≤B):Impl Tryz.prog Amb 42 [(wV (mkM A (-w)) (mkX A (-w)) (mkM B (-w)) (mkX B (-w)))] (.bool true):=by
 have pv2:((2^w.toNat:Nat):Int)=(2:Int)^w.toNat:=(zaj _).symm
 have lA:L A.natAbs≤70:=zrl (t:=w.toNat) (c:=1) oO oO oO
 have lB:L B.natAbs≤70:=zrl (t:=w.toNat) (c:=1) oO oO oO
 have fA:=zp9 (m:=A) (e:=-w) oO oO
 have fB:=zp9 (m:=B) (e:=-w) oO oO
 have i1:=zht (-w) 0
 have i2:iMax (-w) 0≤0:=by unfold iMax; split<;>omega
 have hh:dv 1 0=dv (2^w.toNat) (-w):=by
  rw [zn7 (m:=1) (e:=0) (c:=-w) oO,show (0 - -w).toNat=w.toNat by omega,Int.one_mul]
 have b1:dv A (-w)≤dv 1 0:=by rw [hh,zn9]; omega
 have b2:dv B (-w)≤dv 1 0:=by rw [hh,zn9]; omega
 have b3:-dv 1 0≤dv A (-w):=by rw [hh,← znd,zn9]; omega
 have b4:-dv 1 0≤dv B (-w):=by rw [hh,← znd,zn9]; omega
 rw [← fA.2.2.2.2.2] at b1 b3
 rw [← fB.2.2.2.2.2] at b2 b4
 have l1:L (1:Int).natAbs≤1:=zk7 1 (by decide)
 have l2:L (-1:Int).natAbs≤1:=zk7 1 (by decide)
 refine zvl _ _ _ _ (-1) 0 1 0 true (zp3 (by kernel_rfl) (zjb (-1) oO)) (zp3 (by kernel_rfl) (zjb 1 oO)) ?_
 exact zp3 (congrArg V.bool (decide_eq_true ⟨zqg.2 (by rw [znd]; exact b3),zqg.2 b2⟩)) (zjm (mkM A (-w)) (mkX A (-w)) (mkM B (-w)) (mkX B (-w)) (-1) 0 1 0 oO oO oO oO oO oO oO oO)
theorem zvo {v:Int}(hv:24≤v∧v<400):∃ p1 p2 n1 n2:Int,Impl Tryz.prog Amb 30 [(.int .i64 v)] (sV p1 p2)∧Impl Tryz.prog Amb 29 [(sV p1 p2),(.int .i64 2)] (sV n1 n2)∧((n1:Rat)≤cQ*((2^v.toNat:Int):Rat)∧cQ*((2^v.toNat:Int):Rat)≤(n2:Rat))∧(0≤n1∧n2≤8*2^v.toNat∧n2-n1≤8194)∧L n1.natAbs≤70∧L n2.natAbs≤70:=by
 have hP:=zkq v oO
 have rl:=zvm (t:=v.toNat) oO oO
 rw [Int.toNat_of_nonneg (show 0≤v by omega)] at rl
 have hP:Impl Tryz.prog Amb 30 [(.int .i64 v)] (sV (rpLo v) (rpHi v)):=hP
 generalize rpLo v=p1 at *
 generalize rpHi v=p2 at *
 obtain ⟨rc,r0,r8,rw_⟩:=rl
 have p12:p1≤p2:=Rat.intCast_le_intCast.1 (Rat.le_trans rc.1 rc.2)
 have pv2:((2^v.toNat:Nat):Int)=(2:Int)^v.toNat:=(zaj _).symm
 have l1:L p1.natAbs≤70:=zrl (t:=v.toNat) (c:=8) oO oO oO
 have l2:L p2.natAbs≤70:=zrl (t:=v.toNat) (c:=8) oO oO oO
 have hO:=zkl p1 p2 2 oO oO oO
 have oi:=zpw (a:=p1) (b:=p2) (n:=2) oO rc.1 rc.2
 have e2:cQ*2*((2^v.toNat:Int):Rat) / ((2:Int):Rat)=cQ*((2^v.toNat:Int):Rat):=by
  rw [show ((2:Int):Rat)=2 from rfl,show cQ*2*((2^v.toNat:Int):Rat)=cQ*((2^v.toNat:Int):Rat)*2 by grind,Rat.mul_div_cancel (by decide)]
 rw [e2] at oi
 have oo:ovLo p1 p2 2=p1 / 2∧ovHi p1 p2 2=-(-p2 / 2):=by
  unfold ovLo ovHi
  rw [show min p1 p2=p1 by omega,show max p1 p2=p2 by omega,Int.fdiv_eq_ediv_of_nonneg _ oO,Int.fdiv_eq_ediv_of_nonneg _ oO]
  exact ⟨rfl,rfl⟩
 have q1:0≤ovLo p1 p2 2:=by rw [oo.1]; omega
 have q2:ovHi p1 p2 2≤8*2^v.toNat:=by rw [oo.2]; omega
 have q3:ovHi p1 p2 2-ovLo p1 p2 2≤8194:=by rw [oo.1,oo.2]; omega
 have q4:ovLo p1 p2 2≤ovHi p1 p2 2:=by rw [oo.1,oo.2]; omega
 exact ⟨p1,p2,ovLo p1 p2 2,ovHi p1 p2 2,hP,hO,oi,⟨q1,q2,q3⟩,zrl (t:=v.toNat) (c:=8) oO oO oO,zrl (t:=v.toNat) (c:=8) oO oO oO⟩
end Go.Proofs.YtcbihoojfakhdaaGreatDoor

namespace Go.Proofs.YtcbihoojfakhdaaGreatDoor
theorem zvp {v:Nat}{y1 y2:Int}(h1:2*y1.natAbs≤2^v)(h2:2*y2.natAbs≤2^v):∀ j,j≤v→(rE (2^v) y1 y2 j).1.natAbs≤2^(v-j)∧(rE (2^v) y1 y2 j).2.natAbs≤2^(v-j):=by
 intro j
 induction j with
 | zero =>
  intro _
  show ((2:Int)^v).natAbs≤2^(v-0)∧((2:Int)^v).natAbs≤2^(v-0)
  rw [zaj,Int.natAbs_natCast]; exact ⟨Nat.le_refl _,Nat.le_refl _⟩
 | succ j ih =>
  intro hj
  have a:=ih (by omega)
  have p:2^(v-j)=2*2^(v-(j+1)):=by rw [show v-j=(v-(j+1))+1 by omega,Nat.pow_succ,Nat.mul_comm]
  have r:=zpu (c:=y1) (d:=y2) (C:=2^(v-(j+1))) (S:=2^v / 2) (zi5 v) a.1 a.2 (by omega) (by omega) (by
   rw [zpv,p]
   have:=Nat.mul_le_mul_left (2^(v-(j+1))) (show 2*(2^v / 2)≤2^v by omega)
   rw [Nat.mul_comm 2,Nat.mul_assoc]; exact this)
  exact zs1 (by omega) r.1 r.2
theorem zvq {v:Nat}{y1 y2:Int}(h1:2*y1.natAbs≤2^v)(h2:2*y2.natAbs≤2^v):∃ N,N≤v∧((rE (2^v) y1 y2 N).1.natAbs≤1∧(rE (2^v) y1 y2 N).2.natAbs≤1)∧∀ j,j<N→¬ ((rE (2^v) y1 y2 j).1.natAbs≤1∧(rE (2^v) y1 y2 j).2.natAbs≤1):=by
 have a:=zvp h1 h2 v (Nat.le_refl _)
 rw [Nat.sub_self,Nat.pow_zero] at a
 exact zpi (P:=fun j=>(rE (2^v) y1 y2 j).1.natAbs≤1∧(rE (2^v) y1 y2 j).2.natAbs≤1) a
theorem zvr {a b c d T X Y W1 W2 D:Int}(hT:0<T)(ha:-X≤a∧a≤X)(hb:-X≤b∧b≤X)(hc:-Y≤c∧c≤Y)(hd:-Y≤d∧d≤Y)(w1:b-a≤W1)(w2:d-c≤W2)(hab:a≤b)(hcd:c≤d)(hD:X*W2+W1*Y≤D*T):rm2 a b c d T-rm1 a b c d T≤D+1:=by
 have X0:0≤X:=by omega
 have Y0:0≤Y:=by omega
 have key:∀ {x x' y y':Int},(-X≤x∧x≤X)→(-Y≤y'∧y'≤Y)→(-W1≤x-x'∧x-x'≤W1)→(-W2≤y-y'∧y-y'≤W2)→x*y-x'*y'≤D*T:=by
  intro x x' y y' hx hy h3 h1
  have e:x*y-x'*y'=x*(y-y')+(x-x')*y':=by rw [Int.mul_sub,Int.sub_mul]; omega
  have bd:∀ {p q P Q:Int},(-P≤p∧p≤P)→(-Q≤q∧q≤Q)→p*q≤P*Q:=by
   intro p q P Q hp hq
   have m1:=Int.mul_nonneg (show 0≤P-p by omega) (show 0≤Q+q by omega)
   have m2:=Int.mul_nonneg (show 0≤P+p by omega) (show 0≤Q-q by omega)
   have e1:(P-p)*(Q+q)=P*Q+P*q-p*Q-p*q:=by rw [Int.sub_mul,Int.mul_add,Int.mul_add]; omega
   have e2:(P+p)*(Q-q)=P*Q-P*q+p*Q-p*q:=by rw [Int.add_mul,Int.mul_sub,Int.mul_sub]; omega
   omega
  have m1:=bd hx h1
  have m2:=bd h3 hy
  rw [e]; omega
 have pick1:mx4 a b c d=a*c∨mx4 a b c d=a*d∨mx4 a b c d=b*c∨mx4 a b c d=b*d:=by unfold mx4; omega
 have pick2:mn4 a b c d=a*c∨mn4 a b c d=a*d∨mn4 a b c d=b*c∨mn4 a b c d=b*d:=by unfold mn4; omega
 have D':mx4 a b c d-mn4 a b c d≤D*T:=by
  rcases pick1 with h | h | h | h<;>rcases pick2 with k | k | k | k<;>rw [h,k]<;>exact key (by omega) (by omega) (by omega) (by omega)
 unfold rm1 rm2
 have f1:=Int.lt_ediv_add_one_mul_self (mn4 a b c d) hT
 have f2:=Int.lt_ediv_add_one_mul_self (-(mx4 a b c d)) hT
 generalize mn4 a b c d / T=q1 at *
 generalize -(mx4 a b c d) / T=q2 at *
 refine Decidable.byContradiction fun hn=>?_
 have m:=Int.mul_le_mul_of_nonneg_right (show D≤-q2-q1-2 by omega) (Int.le_of_lt hT)
 rw [Int.sub_mul,Int.sub_mul,Int.neg_mul] at m
 rw [Int.add_mul,Int.one_mul] at f1 f2
 omega
theorem zvs {v:Nat}{y1 y2:Int}(h1:4*y1.natAbs≤2^v)(h2:4*y2.natAbs≤2^v)(hy:y1≤y2)(hw:y2-y1≤1):∀ j,j≤v→(rE (2^v) y1 y2 j).2-(rE (2^v) y1 y2 j).1≤3∧(rE (2^v) y1 y2 j).1≤(rE (2^v) y1 y2 j).2
 | 0,_=>by
  show (2:Int)^v-2^v≤3∧(2:Int)^v≤2^v
  omega
 | j+1,hj=>by
  have i:=zvs h1 h2 hy hw j (by omega)
  have a:=zvp (by omega) (by omega) j (by omega) (v:=v) (y1:=y1) (y2:=y2)
  have p:2^(v-j)≤2^v:=Nat.pow_le_pow_right (by omega) (by omega)
  have pc:((2^v:Nat):Int)=(2:Int)^v:=(zaj _).symm
  have r:=zvr (X:=2^v) (Y:=2^v / 4) (W1:=3) (W2:=1) (D:=2) (zi5 v) (a:=(rE (2^v) y1 y2 j).1) (b:=(rE (2^v) y1 y2 j).2) (c:=y1) (d:=y2) (by omega) (by omega) (by omega) (by omega) i.1 hw i.2 hy (by omega)
  exact zv2 (by omega) (zv3 (zi5 v)) r
def csL (p1 p2:Nat→Int):Nat→Int
 | 0=>0
 | i+1=>if i%2=0 then csL p1 p2 i+p1 (2*i) else csL p1 p2 i+-(p2 (2*i))
def csH (p1 p2:Nat→Int):Nat→Int
 | 0=>0
 | i+1=>if i%2=0 then csH p1 p2 i+p2 (2*i) else csH p1 p2 i+-(p1 (2*i))
def snL (p1 p2:Nat→Int):Nat→Int
 | 0=>0
 | i+1=>if i%2=0 then snL p1 p2 i+p1 (2*i+1) else snL p1 p2 i+-(p2 (2*i+1))
def snH (p1 p2:Nat→Int):Nat→Int
 | 0=>0
 | i+1=>if i%2=0 then snH p1 p2 i+p2 (2*i+1) else snH p1 p2 i+-(p1 (2*i+1))
theorem CS_2 (x:Rat)(i:Nat):CS x (2*(i+1))=CS x (2*i)+sg i*tE x (2*i)∧SN x (2*(i+1))=SN x (2*i)+sg i*tE x (2*i+1):=by
 have e1:CS x (2*(i+1))=CS x (2*i)+(iP (2*i)).1*tE x (2*i)+(iP (2*i+1)).1*tE x (2*i+1):=rfl
 have e2:SN x (2*(i+1))=SN x (2*i)+(iP (2*i)).2*tE x (2*i)+(iP (2*i+1)).2*tE x (2*i+1):=rfl
 rw [e1,e2,(iP_even i).1,(iP_even i).2,(zt9 i).1,(zt9 i).2]
 constructor<;>grind
theorem zvt {p1 p2:Nat→Int}{x T:Rat}(h:∀ j,(p1 j:Rat)≤tE x j*T∧tE x j*T≤(p2 j:Rat)):∀ i,(((csL p1 p2 i:Int):Rat)≤CS x (2*i)*T∧CS x (2*i)*T≤((csH p1 p2 i:Int):Rat))∧(((snL p1 p2 i:Int):Rat)≤SN x (2*i)*T∧SN x (2*i)*T≤((snH p1 p2 i:Int):Rat))
 | 0=>by
  have e1:CS x (2*0)=0:=rfl
  have e2:SN x (2*0)=0:=rfl
  rw [e1,e2,Rat.zero_mul]
  exact ⟨⟨Rat.le_refl,Rat.le_refl⟩,Rat.le_refl,Rat.le_refl⟩
 | i+1=>by
  have a:=zvt h i
  have b:=h (2*i)
  have c:=h (2*i+1)
  rw [(CS_2 x i).1,(CS_2 x i).2]
  unfold csL csH snL snH sg
  by_cases q:i%2=0
  ·rw [if_pos q,if_pos q,if_pos q,if_pos q,if_pos q]
   simp only [Rat.intCast_add]
   refine ⟨⟨?_,?_⟩,⟨?_,?_⟩⟩<;>grind
  ·rw [if_neg q,if_neg q,if_neg q,if_neg q,if_neg q]
   simp only [Rat.intCast_add,Rat.intCast_neg]
   refine ⟨⟨?_,?_⟩,⟨?_,?_⟩⟩<;>grind
theorem zvu {p1 p2:Nat→Int}{n:Nat}(h:∀ j,j≤n→p1 j≤p2 j∧p2 j-p1 j≤3):∀ i,2*i≤n+1→(csL p1 p2 i≤csH p1 p2 i∧csH p1 p2 i-csL p1 p2 i≤3*(i:Int))∧(2*i≤n→snL p1 p2 i≤snH p1 p2 i∧snH p1 p2 i-snL p1 p2 i≤3*(i:Int))
 | 0,_=>by show ((0:Int)≤0∧(0:Int)-0≤3*((0:Nat):Int))∧(_→(0:Int)≤0∧(0:Int)-0≤3*((0:Nat):Int)); omega
 | i+1,hi=>by
  have a:=zvu h i (by omega)
  have b:=h (2*i) (by omega)
  have c:=fun q:2*(i+1)≤n=>h (2*i+1) (by omega)
  have e:((i+1:Nat):Int)=(i:Int)+1:=rfl
  unfold csL csH snL snH
  rw [e]
  by_cases q:i%2=0
  ·rw [if_pos q,if_pos q,if_pos q,if_pos q]
   refine ⟨by omega,fun z=>?_⟩
   have c:=c z
   have a:=a.2 (by omega)
   omega
  ·rw [if_neg q,if_neg q,if_neg q,if_neg q]
   refine ⟨by omega,fun z=>?_⟩
   have c:=c z
   have a:=a.2 (by omega)
   omega
theorem zvv {p1 p2:Nat→Int}{x T:Rat}(T0:0<T)(h:∀ j,(p1 j:Rat)≤tE x j*T∧tE x j*T≤(p2 j:Rat))(x1:-1≤2*x)(x2:2*x≤1){n:Nat}(n1:(p1 n).natAbs≤1)(n2:(p2 n).natAbs≤1){K:Nat}(hK:n+1≤K) :
  (((csL p1 p2 ((n+1) / 2)-3:Int):Rat)≤CS x K*T∧CS x K*T≤((csH p1 p2 ((n+1) / 2)+3:Int):Rat))∧(((snL p1 p2 (n / 2)-3:Int):Rat)≤SN x K*T∧SN x K*T≤((snH p1 p2 (n / 2)+3:Int):Rat)):=by
 obtain ⟨a,⟨a0,a1,a2⟩,ha⟩:=zs4 x
 have l:=h n
 have h1:((-1:Int):Rat)≤((p1 n:Int):Rat):=Rat.intCast_le_intCast.2 (by omega)
 have h2:((p2 n:Int):Rat)≤((1:Int):Rat):=Rat.intCast_le_intCast.2 (by omega)
 rw [show ((-1:Int):Rat)=-1 from rfl] at h1
 rw [show ((1:Int):Rat)=1 from rfl] at h2
 have ta:tE a n*T≤1:=by
  rcases ha with e | e
  ·rw [e]; grind
  ·rw [e]
   rcases zs3 x n with q | q
   ·rw [q]; grind
   ·rw [q]; grind
 have a12:2*a≤1:=by
  rcases ha with e | e
  ·rw [e]; exact x2
  ·rw [e]; grind
 have et:=zrg a0 (n:=n) (Rat.le_trans a12 (show (1:Rat)≤(nx n:Rat) from zrf (a:=0) (by omega))) K
 have es:EP a (n+1)=EP a n+tE a n:=rfl
 rw [es] at et
 have g1:=zs9 (zs7 a1 a2) n (K-n)
 have g2:=zs9 (zs8 a1 a2) n (K-n)
 rw [show n+(K-n)=K by omega] at g1 g2
 have c:=(zvt h ((n+1) / 2)).1
 have s:=(zvt h (n / 2)).2
 have ec:CS x (2*((n+1) / 2))=CS x n:=by
  by_cases q:n%2=0
  ·rw [show 2*((n+1) / 2)=n by omega]
  ·obtain ⟨m,hm⟩:∃ m,n=2*m+1:=⟨n / 2,by omega⟩
   rw [show 2*((n+1) / 2)=2*m+1+1 by omega,hm]
   show CS x (2*m+1)+(iP (2*m+1)).1*tE x (2*m+1)=_
   rw [(zt9 m).1]; grind
 have esn:SN x (2*(n / 2))=SN x n:=by
  by_cases q:n%2=0
  ·rw [show 2*(n / 2)=n by omega]
  ·obtain ⟨m,hm⟩:∃ m,n=2*m+1:=⟨n / 2,by omega⟩
   rw [show 2*(n / 2)=2*m by omega,hm]
   show _=SN x (2*m)+(iP (2*m)).2*tE x (2*m)
   rw [(iP_even m).2]; grind
 rw [ec] at c
 rw [esn] at s
 have g1:-(EP a K-EP a n)≤CS x K-CS x n∧CS x K-CS x n≤EP a K-EP a n:=g1
 have g2:-(EP a K-EP a n)≤SN x K-SN x n∧SN x K-SN x n≤EP a K-EP a n:=g2
 have m1:=Rat.mul_le_mul_of_nonneg_right (show -(2*tE a n)≤CS x K-CS x n by grind) (Rat.le_of_lt T0)
 have m2:=Rat.mul_le_mul_of_nonneg_right (show CS x K-CS x n≤2*tE a n by grind) (Rat.le_of_lt T0)
 have m3:=Rat.mul_le_mul_of_nonneg_right (show -(2*tE a n)≤SN x K-SN x n by grind) (Rat.le_of_lt T0)
 have m4:=Rat.mul_le_mul_of_nonneg_right (show SN x K-SN x n≤2*tE a n by grind) (Rat.le_of_lt T0)
 simp only [Rat.intCast_sub,Rat.intCast_add,show ((3:Int):Rat)=3 from rfl]
 clear g1 g2 et es h
 refine ⟨⟨?_,?_⟩,⟨?_,?_⟩⟩<;>grind
structure Sq where
 s1:Int
 s2:Int
 c1:Int
 c2:Int
def rD (T:Int)(z:Sq):Nat→Sq
 | 0=>z
 | i+1=>⟨rm1 (rD T z i).s1 (rD T z i).s2 (rD T z i).c1 (rD T z i).c2 T*2,rm2 (rD T z i).s1 (rD T z i).s2 (rD T z i).c1 (rD T z i).c2 T*2,
   T+-(rm2 (rD T z i).s1 (rD T z i).s2 (rD T z i).s1 (rD T z i).s2 T*2),T+-(rm1 (rD T z i).s1 (rD T z i).s2 (rD T z i).s1 (rD T z i).s2 T*2)⟩
def uD (x:Rat):Nat→Nat→Rat × Rat
 | 0,K=>(SN x K,CS x K)
 | i+1,K=>(2*((uD x i K).1*(uD x i K).2),1-2*((uD x i K).1*(uD x i K).1))
theorem zvw {T:Int}{z:Sq}{x:Rat}{K:Nat}(hT:0<T)(h1:(z.s1:Rat)≤SN x K*T∧SN x K*T≤(z.s2:Rat))(h2:(z.c1:Rat)≤CS x K*T∧CS x K*T≤(z.c2:Rat)):∀ i,(((rD T z i).s1:Rat)≤(uD x i K).1*T∧(uD x i K).1*T≤((rD T z i).s2:Rat))∧(((rD T z i).c1:Rat)≤(uD x i K).2*T∧(uD x i K).2*T≤((rD T z i).c2:Rat))
 | 0=>⟨h1,h2⟩
 | i+1=>by
  have a:=zvw hT h1 h2 i
  have p:=zpt hT a.1.1 a.1.2 a.2.1 a.2.2
  have q:=zpt hT a.1.1 a.1.2 a.1.1 a.1.2
  show (((rm1 _ _ _ _ T*2:Int):Rat)≤2*((uD x i K).1*(uD x i K).2)*T∧2*((uD x i K).1*(uD x i K).2)*T≤((rm2 _ _ _ _ T*2:Int):Rat))∧(((T+-(rm2 _ _ _ _ T*2):Int):Rat)≤(1-2*((uD x i K).1*(uD x i K).1))*T∧(1-2*((uD x i K).1*(uD x i K).1))*T≤((T+-(rm1 _ _ _ _ T*2):Int):Rat))
  simp only [Rat.intCast_add,Rat.intCast_neg,Rat.intCast_mul,show ((2:Int):Rat)=2 from rfl]
  refine ⟨⟨?_,?_⟩,⟨?_,?_⟩⟩<;>grind
theorem zvx (x:Rat):∀ i,Lm (fun K=>(uD x i K).1) (SN (dbl x i))∧Lm (fun K=>(uD x i K).2) (CS (dbl x i))
 | 0=>⟨Lm.refl _,Lm.refl _⟩
 | i+1=>by
  have a:=zvx x i
  obtain ⟨B,_,hC,hS⟩:=zsp (dbl x i)
  have p:=Lm.mul a.1.symm a.2.symm hS hC
  have q:=Lm.mul a.1.symm a.1.symm hS hS
  have e:dbl x (i+1)=dbl x i+dbl x i:=rfl
  rw [e]
  constructor
  ·refine Lm.of_near fun e he=>?_
   have e4:0<e*(1 / 8):=Rat.mul_pos he r8.1
   obtain ⟨N1,h1⟩:=zsk (dbl x i) (dbl x i) e4
   obtain ⟨N2,h2⟩:=p.1 _ e4
   obtain ⟨N3,h3⟩:=p.2 _ e4
   refine ⟨N1+N2+N3,fun K hK=>?_⟩
   have h1:=(h1 K (by omega)).2
   have h2:SN (dbl x i) K*CS (dbl x i) K≤(uD x i K).1*(uD x i K).2+e*(1 / 8):=h2 K (by omega)
   have h3:(uD x i K).1*(uD x i K).2≤SN (dbl x i) K*CS (dbl x i) K+e*(1 / 8):=h3 K (by omega)
   show 2*((uD x i K).1*(uD x i K).2)≤SN (dbl x i+dbl x i) K+e∧SN (dbl x i+dbl x i) K≤2*((uD x i K).1*(uD x i K).2)+e
   generalize (uD x i K).1*(uD x i K).2=z1 at *
   constructor<;>grind
  ·refine Lm.of_near fun e he=>?_
   have e4:0<e*(1 / 8):=Rat.mul_pos he r8.1
   obtain ⟨N1,h1⟩:=zsk (dbl x i) (dbl x i) e4
   obtain ⟨N2,h2⟩:=q.1 _ e4
   obtain ⟨N3,h3⟩:=q.2 _ e4
   obtain ⟨N4,h4⟩:=(zsq (dbl x i)).1 _ e4
   obtain ⟨N5,h5⟩:=(zsq (dbl x i)).2 _ e4
   refine ⟨N1+N2+N3+N4+N5,fun K hK=>?_⟩
   have h1:=(h1 K (by omega)).1
   have h2:SN (dbl x i) K*SN (dbl x i) K≤(uD x i K).1*(uD x i K).1+e*(1 / 8):=h2 K (by omega)
   have h3:(uD x i K).1*(uD x i K).1≤SN (dbl x i) K*SN (dbl x i) K+e*(1 / 8):=h3 K (by omega)
   have h4:CS (dbl x i) K*CS (dbl x i) K+SN (dbl x i) K*SN (dbl x i) K≤1+e*(1 / 8):=h4 K (by omega)
   have h5:1≤CS (dbl x i) K*CS (dbl x i) K+SN (dbl x i) K*SN (dbl x i) K+e*(1 / 8):=h5 K (by omega)
   show 1-2*((uD x i K).1*(uD x i K).1)≤CS (dbl x i+dbl x i) K+e∧CS (dbl x i+dbl x i) K≤1-2*((uD x i K).1*(uD x i K).1)+e
   generalize (uD x i K).1*(uD x i K).1=z1 at *
   constructor<;>grind
theorem zvy {T:Int}{z:Sq}{x:Rat}{N0 h:Nat}{W:Int}(hT:0<T)(W1:1≤W)(hW:16^h*W*4≤T)(henc:∀ K,N0≤K→((z.s1:Rat)≤SN x K*T∧SN x K*T≤(z.s2:Rat))∧((z.c1:Rat)≤CS x K*T∧CS x K*T≤(z.c2:Rat)))
  (hs:z.s1≤z.s2∧z.s2-z.s1≤W) (hc:z.c1≤z.c2∧z.c2-z.c1≤W):∀ i,i≤h→((rD T z i).s1≤(rD T z i).s2∧(rD T z i).s2-(rD T z i).s1≤16^i*W)∧((rD T z i).c1≤(rD T z i).c2∧(rD T z i).c2-(rD T z i).c1≤16^i*W) ∧
   ((-(2*T)≤(rD T z i).s1∧(rD T z i).s2≤2*T)∧(-(2*T)≤(rD T z i).c1∧(rD T z i).c2≤2*T)):=by
 have size:∀ i,i≤h→(((rD T z i).s1≤(rD T z i).s2∧(rD T z i).s2-(rD T z i).s1≤16^i*W)∧((rD T z i).c1≤(rD T z i).c2∧(rD T z i).c2-(rD T z i).c1≤16^i*W))→((-(2*T)≤(rD T z i).s1∧(rD T z i).s2≤2*T)∧(-(2*T)≤(rD T z i).c1∧(rD T z i).c2≤2*T)):=by
  intro i hi hw
  have hw2:=hw
  have T0:(0:Rat)<(T:Rat):=Rat.intCast_pos.2 hT
  have i0:=Rat.inv_pos.2 T0
  have ie:=zrq T0
  have e2:=Rat.mul_pos i0 r8.2.1
  obtain ⟨N1,a1⟩:=zst (dbl x i) e2
  obtain ⟨l1,l2⟩:=zvx x i
  obtain ⟨N2,b1⟩:=l1.1 _ e2
  obtain ⟨N3,b2⟩:=l1.2 _ e2
  obtain ⟨N4,b3⟩:=l2.1 _ e2
  obtain ⟨N5,b4⟩:=l2.2 _ e2
  obtain ⟨K,hK⟩:∃ K,K=N0+N1+N2+N3+N4+N5:=⟨_,rfl⟩
  have a1:=a1 K (by omega)
  have b1:(uD x i K).1≤SN (dbl x i) K+(T:Rat)⁻¹*(1 / 2):=b1 K (by omega)
  have b2:SN (dbl x i) K≤(uD x i K).1+(T:Rat)⁻¹*(1 / 2):=b2 K (by omega)
  have b3:(uD x i K).2≤CS (dbl x i) K+(T:Rat)⁻¹*(1 / 2):=b3 K (by omega)
  have b4:CS (dbl x i) K≤(uD x i K).2+(T:Rat)⁻¹*(1 / 2):=b4 K (by omega)
  have en:=henc K (by omega)
  have d:=zvw hT en.1 en.2 i
  clear henc hw l1 l2 en hK
  generalize (uD x i K).1=u at *
  generalize (uD x i K).2=w at *
  generalize SN (dbl x i) K=S at *
  generalize CS (dbl x i) K=Cc at *
  have hT2:(T:Rat)⁻¹*(1 / 2)*2=(T:Rat)⁻¹:=by grind
  have m1:=Rat.mul_le_mul_of_nonneg_right (show u≤1+(T:Rat)⁻¹ by grind) (Rat.le_of_lt T0)
  have m2:=Rat.mul_le_mul_of_nonneg_right (show -(1+(T:Rat)⁻¹)≤u by grind) (Rat.le_of_lt T0)
  have m3:=Rat.mul_le_mul_of_nonneg_right (show w≤1+(T:Rat)⁻¹ by grind) (Rat.le_of_lt T0)
  have m4:=Rat.mul_le_mul_of_nonneg_right (show -(1+(T:Rat)⁻¹)≤w by grind) (Rat.le_of_lt T0)
  have ee:(1+(T:Rat)⁻¹)*(T:Rat)=(T:Rat)+1:=by rw [Rat.add_mul,ie,Rat.one_mul]
  rw [ee] at m1 m3
  rw [Rat.neg_mul,ee] at m2 m4
  have q1:(rD T z i).s1≤T+1:=by
   refine Rat.intCast_le_intCast.1 ?_
   rw [Rat.intCast_add]; exact Rat.le_trans d.1.1 m1
  have q2:-(T+1)≤(rD T z i).s2:=by
   refine Rat.intCast_le_intCast.1 ?_
   rw [Rat.intCast_neg,Rat.intCast_add]; exact Rat.le_trans m2 d.1.2
  have q3:(rD T z i).c1≤T+1:=by
   refine Rat.intCast_le_intCast.1 ?_
   rw [Rat.intCast_add]; exact Rat.le_trans d.2.1 m3
  have q4:-(T+1)≤(rD T z i).c2:=by
   refine Rat.intCast_le_intCast.1 ?_
   rw [Rat.intCast_neg,Rat.intCast_add]; exact Rat.le_trans m4 d.2.2
  have pi_:(1:Int)≤16^i:=Int.pow_pos (by decide)
  have ph:(16:Int)^i≤16^h:=by
   obtain ⟨k,rfl⟩:∃ k,h=i+k:=⟨h-i,by omega⟩
   rw [Int.pow_add]
   have pk:(1:Int)≤16^k:=Int.pow_pos (by decide)
   have:=Int.mul_le_mul_of_nonneg_left pk (show (0:Int)≤16^i by omega)
   omega
  have mW:=Int.mul_le_mul_of_nonneg_right ph (show 0≤W by omega)
  have mI:=Int.mul_le_mul_of_nonneg_right pi_ (show 0≤W by omega)
  omega
 intro i
 induction i with
 | zero =>
  intro hi
  have e:(16:Int)^0*W=W:=by rw [Int.pow_zero,Int.one_mul]
  have b:((rD T z 0).s1≤(rD T z 0).s2∧(rD T z 0).s2-(rD T z 0).s1≤16^0*W)∧((rD T z 0).c1≤(rD T z 0).c2∧(rD T z 0).c2-(rD T z 0).c1≤16^0*W):=by rw [e]; exact ⟨hs,hc⟩
  exact ⟨b.1,b.2,size 0 hi b⟩
 | succ i ih =>
  intro hi
  obtain ⟨⟨a1,a2⟩,⟨b1,b2⟩,⟨s1,s2⟩,c1,c2⟩:=ih (by omega)
  have mI:W≤16^i*W:=by
   have pi_:(1:Int)≤16^i:=Int.pow_pos (by decide)
   have:=Int.mul_le_mul_of_nonneg_right pi_ (show 0≤W by omega)
   omega
  have e:(16:Int)^(i+1)*W=16*(16^i*W):=by rw [Int.pow_succ,Int.mul_comm (16^i) 16,Int.mul_assoc]
  have p:=zvr (X:=2*T) (Y:=2*T) (W1:=16^i*W) (W2:=16^i*W) (D:=4*(16^i*W)) hT (a:=(rD T z i).s1) (b:=(rD T z i).s2) (c:=(rD T z i).c1) (d:=(rD T z i).c2) (by omega) (by omega) (by omega) (by omega) a2 b2 a1 b1 (by
   have:16^i*W*(2*T)=2*T*(16^i*W):=Int.mul_comm _ _
   have e3:4*(16^i*W)*T=2*T*(16^i*W)+2*T*(16^i*W):=by grind
   omega)
  have q:=zvr (X:=2*T) (Y:=2*T) (W1:=16^i*W) (W2:=16^i*W) (D:=4*(16^i*W)) hT (a:=(rD T z i).s1) (b:=(rD T z i).s2) (c:=(rD T z i).s1) (d:=(rD T z i).s2) (by omega) (by omega) (by omega) (by omega) a2 a2 a1 a1 (by
   have:16^i*W*(2*T)=2*T*(16^i*W):=Int.mul_comm _ _
   have e3:4*(16^i*W)*T=2*T*(16^i*W)+2*T*(16^i*W):=by grind
   omega)
  have pl:=zv3 (a:=(rD T z i).s1) (b:=(rD T z i).s2) (c:=(rD T z i).c1) (d:=(rD T z i).c2) hT
  have ql:=zv3 (a:=(rD T z i).s1) (b:=(rD T z i).s2) (c:=(rD T z i).s1) (d:=(rD T z i).s2) hT
  have b:((rD T z (i+1)).s1≤(rD T z (i+1)).s2∧(rD T z (i+1)).s2-(rD T z (i+1)).s1≤16^(i+1)*W)∧((rD T z (i+1)).c1≤(rD T z (i+1)).c2∧(rD T z (i+1)).c2-(rD T z (i+1)).c1≤16^(i+1)*W):=by
   rw [e]
   show (rm1 _ _ _ _ T*2≤rm2 _ _ _ _ T*2∧rm2 _ _ _ _ T*2-rm1 _ _ _ _ T*2≤_)∧(T+-(rm2 _ _ _ _ T*2)≤T+-(rm1 _ _ _ _ T*2)∧T+-(rm1 _ _ _ _ T*2)-(T+-(rm2 _ _ _ _ T*2))≤_)
   omega
  exact ⟨b.1,b.2,size (i+1) hi b⟩
end Go.Proofs.YtcbihoojfakhdaaGreatDoor

namespace Go.Proofs.YtcbihoojfakhdaaGreatDoor
open Go.RowKit
set_option maxRecDepth 100000
set_option maxHeartbeats 2000000
theorem zvz (k:Int)(h:0≤k):wRem k 4=k%4:=Int.tmod_eq_emod_of_nonneg h
theorem zw0 (k:Int)(h:0≤k):wRem k 2=k%2:=Int.tmod_eq_emod_of_nonneg h
def r17_0_mk (_:Nat)(m ee hv v ma mb y1 y2:Int)(pp1 pp2 _ _:Nat→Int)(x:(Nat × Int)⊕((Nat × Int)⊕((Nat × Int)⊕(Nat × Int)))):St:=Sum.elim (fun (x:Nat × Int)=>⟨mkS 82 [(1,(.val (.int .i64 v))),(2,(.val (.int .i64 hv))),(6,(.own 1 0)),(7,(.own 2 0)),(10,(.own 4 0)),(11,(.own 5 0)),(12,(.own 6 0)),(13,(.own 7 0)),(14,(.val (.int .i64 x.2)))],[⟨true,false,[(V.bool (decide (m<0))),(N m.natAbs),(V.int .i64 ee)]⟩,⟨true,false,[(V.bool false),V.nil,(V.bool false),V.nil]⟩,⟨true,false,[(V.bool false),V.nil,(V.bool false),V.nil]⟩,⟨true,false,[(V.bool (decide (ma<0))),(N ma.natAbs),(V.int .i64 mb)]⟩,⟨true,false,[(V.bool (decide (y1<0))),(N y1.natAbs),(V.bool (decide (y2<0))),(N y2.natAbs)]⟩,⟨true,false,[(V.bool (decide ((snL pp1 pp2 (2*x.1))<0))),(N ((snL pp1 pp2 (2*x.1)).natAbs)),(V.bool (decide ((snH pp1 pp2 (2*x.1))<0))),(N ((snH pp1 pp2 (2*x.1)).natAbs))]⟩,⟨true,false,[(V.bool (decide ((csL pp1 pp2 (2*x.1))<0))),(N ((csL pp1 pp2 (2*x.1)).natAbs)),(V.bool (decide ((csH pp1 pp2 (2*x.1))<0))),(N ((csH pp1 pp2 (2*x.1)).natAbs))]⟩,⟨true,false,[(V.bool (decide ((pp1 (4*x.1))<0))),(N ((pp1 (4*x.1)).natAbs)),(V.bool (decide ((pp2 (4*x.1))<0))),(N ((pp2 (4*x.1)).natAbs))]⟩]⟩) (fun (x:(Nat × Int)⊕((Nat × Int)⊕(Nat × Int)))=>Sum.elim (fun (x:Nat × Int)=>⟨mkS 82 [(1,(.val (.int .i64 v))),(2,(.val (.int .i64 hv))),(6,(.own 1 0)),(7,(.own 2 0)),(10,(.own 4 0)),(11,(.own 5 0)),(12,(.own 6 0)),(13,(.own 7 0)),(14,(.val (.int .i64 x.2)))],[⟨true,false,[(V.bool (decide (m<0))),(N m.natAbs),(V.int .i64 ee)]⟩,⟨true,false,[(V.bool false),V.nil,(V.bool false),V.nil]⟩,⟨true,false,[(V.bool false),V.nil,(V.bool false),V.nil]⟩,⟨true,false,[(V.bool (decide (ma<0))),(N ma.natAbs),(V.int .i64 mb)]⟩,⟨true,false,[(V.bool (decide (y1<0))),(N y1.natAbs),(V.bool (decide (y2<0))),(N y2.natAbs)]⟩,⟨true,false,[(V.bool (decide ((snL pp1 pp2 (2*x.1))<0))),(N ((snL pp1 pp2 (2*x.1)).natAbs)),(V.bool (decide ((snH pp1 pp2 (2*x.1))<0))),(N ((snH pp1 pp2 (2*x.1)).natAbs))]⟩,⟨true,false,[(V.bool (decide ((csL pp1 pp2 (2*x.1+1))<0))),(N ((csL pp1 pp2 (2*x.1+1)).natAbs)),(V.bool (decide ((csH pp1 pp2 (2*x.1+1))<0))),(N ((csH pp1 pp2 (2*x.1+1)).natAbs))]⟩,⟨true,false,[(V.bool (decide ((pp1 (4*x.1+1))<0))),(N ((pp1 (4*x.1+1)).natAbs)),(V.bool (decide ((pp2 (4*x.1+1))<0))),(N ((pp2 (4*x.1+1)).natAbs))]⟩]⟩) (fun (x:(Nat × Int)⊕(Nat × Int))=>Sum.elim (fun (x:Nat × Int)=>⟨mkS 82 [(1,(.val (.int .i64 v))),(2,(.val (.int .i64 hv))),(6,(.own 1 0)),(7,(.own 2 0)),(10,(.own 4 0)),(11,(.own 5 0)),(12,(.own 6 0)),(13,(.own 7 0)),(14,(.val (.int .i64 x.2)))],[⟨true,false,[(V.bool (decide (m<0))),(N m.natAbs),(V.int .i64 ee)]⟩,⟨true,false,[(V.bool false),V.nil,(V.bool false),V.nil]⟩,⟨true,false,[(V.bool false),V.nil,(V.bool false),V.nil]⟩,⟨true,false,[(V.bool (decide (ma<0))),(N ma.natAbs),(V.int .i64 mb)]⟩,⟨true,false,[(V.bool (decide (y1<0))),(N y1.natAbs),(V.bool (decide (y2<0))),(N y2.natAbs)]⟩,⟨true,false,[(V.bool (decide ((snL pp1 pp2 (2*x.1+1))<0))),(N ((snL pp1 pp2 (2*x.1+1)).natAbs)),(V.bool (decide ((snH pp1 pp2 (2*x.1+1))<0))),(N ((snH pp1 pp2 (2*x.1+1)).natAbs))]⟩,⟨true,false,[(V.bool (decide ((csL pp1 pp2 (2*x.1+1))<0))),(N ((csL pp1 pp2 (2*x.1+1)).natAbs)),(V.bool (decide ((csH pp1 pp2 (2*x.1+1))<0))),(N ((csH pp1 pp2 (2*x.1+1)).natAbs))]⟩,⟨true,false,[(V.bool (decide ((pp1 (4*x.1+2))<0))),(N ((pp1 (4*x.1+2)).natAbs)),(V.bool (decide ((pp2 (4*x.1+2))<0))),(N ((pp2 (4*x.1+2)).natAbs))]⟩]⟩) (fun (x:Nat × Int)=>⟨mkS 82 [(1,(.val (.int .i64 v))),(2,(.val (.int .i64 hv))),(6,(.own 1 0)),(7,(.own 2 0)),(10,(.own 4 0)),(11,(.own 5 0)),(12,(.own 6 0)),(13,(.own 7 0)),(14,(.val (.int .i64 x.2)))],[⟨true,false,[(V.bool (decide (m<0))),(N m.natAbs),(V.int .i64 ee)]⟩,⟨true,false,[(V.bool false),V.nil,(V.bool false),V.nil]⟩,⟨true,false,[(V.bool false),V.nil,(V.bool false),V.nil]⟩,⟨true,false,[(V.bool (decide (ma<0))),(N ma.natAbs),(V.int .i64 mb)]⟩,⟨true,false,[(V.bool (decide (y1<0))),(N y1.natAbs),(V.bool (decide (y2<0))),(N y2.natAbs)]⟩,⟨true,false,[(V.bool (decide ((snL pp1 pp2 (2*x.1+1))<0))),(N ((snL pp1 pp2 (2*x.1+1)).natAbs)),(V.bool (decide ((snH pp1 pp2 (2*x.1+1))<0))),(N ((snH pp1 pp2 (2*x.1+1)).natAbs))]⟩,⟨true,false,[(V.bool (decide ((csL pp1 pp2 (2*x.1+2))<0))),(N ((csL pp1 pp2 (2*x.1+2)).natAbs)),(V.bool (decide ((csH pp1 pp2 (2*x.1+2))<0))),(N ((csH pp1 pp2 (2*x.1+2)).natAbs))]⟩,⟨true,false,[(V.bool (decide ((pp1 (4*x.1+3))<0))),(N ((pp1 (4*x.1+3)).natAbs)),(V.bool (decide ((pp2 (4*x.1+3))<0))),(N ((pp2 (4*x.1+3)).natAbs))]⟩]⟩) x) x) x
def r17_0_I (nn:Nat)(_ _ _ _ _ _ _ _:Int)(_ _ _ _:Nat→Int)(x:(Nat × Int)⊕((Nat × Int)⊕((Nat × Int)⊕(Nat × Int)))):Prop:=Sum.elim (fun (x:Nat × Int)=>4*x.1+0≤nn∧x.2=4*(x.1:Int)+0) (fun (x:(Nat × Int)⊕((Nat × Int)⊕(Nat × Int)))=>Sum.elim (fun (x:Nat × Int)=>4*x.1+1≤nn∧x.2=4*(x.1:Int)+1) (fun (x:(Nat × Int)⊕(Nat × Int))=>Sum.elim (fun (x:Nat × Int)=>4*x.1+2≤nn∧x.2=4*(x.1:Int)+2) (fun (x:Nat × Int)=>4*x.1+3≤nn∧x.2=4*(x.1:Int)+3) x) x) x
def r17_0_mu (nn:Nat)(_ _ _ _ _ _ _ _:Int)(_ _ _ _:Nat→Int)(x:(Nat × Int)⊕((Nat × Int)⊕((Nat × Int)⊕(Nat × Int)))):Nat:=Sum.elim (fun (x:Nat × Int)=>nn-(4*x.1+0)) (fun (x:(Nat × Int)⊕((Nat × Int)⊕(Nat × Int)))=>Sum.elim (fun (x:Nat × Int)=>nn-(4*x.1+1)) (fun (x:(Nat × Int)⊕(Nat × Int))=>Sum.elim (fun (x:Nat × Int)=>nn-(4*x.1+2)) (fun (x:Nat × Int)=>nn-(4*x.1+3)) x) x) x
def r17_0_ex (_:Nat)(m ee hv v ma mb y1 y2:Int)(pp1 pp2 _ _:Nat→Int)(y:Nat × Nat × Nat):Ex × St:=(.exit 0,⟨mkS 82 [(1,(.val (.int .i64 v))),(2,(.val (.int .i64 hv))),(6,(.own 1 0)),(7,(.own 2 0)),(11,(.own 5 0)),(12,(.own 6 0))],[⟨true,false,[(V.bool (decide (m<0))),(N m.natAbs),(V.int .i64 ee)]⟩,⟨true,false,[(V.bool false),V.nil,(V.bool false),V.nil]⟩,⟨true,false,[(V.bool false),V.nil,(V.bool false),V.nil]⟩,⟨true,false,[(V.bool (decide (ma<0))),(N ma.natAbs),(V.int .i64 mb)]⟩,⟨true,false,[(V.bool (decide (y1<0))),(N y1.natAbs),(V.bool (decide (y2<0))),(N y2.natAbs)]⟩,⟨true,false,[(V.bool (decide ((snL pp1 pp2 y.2.2)<0))),(N ((snL pp1 pp2 y.2.2).natAbs)),(V.bool (decide ((snH pp1 pp2 y.2.2)<0))),(N ((snH pp1 pp2 y.2.2).natAbs))]⟩,⟨true,false,[(V.bool (decide ((csL pp1 pp2 y.2.1)<0))),(N ((csL pp1 pp2 y.2.1).natAbs)),(V.bool (decide ((csH pp1 pp2 y.2.1)<0))),(N ((csH pp1 pp2 y.2.1).natAbs))]⟩,⟨true,false,[(V.bool (decide ((pp1 y.1)<0))),(N ((pp1 y.1).natAbs)),(V.bool (decide ((pp2 y.1)<0))),(N ((pp2 y.1).natAbs))]⟩]⟩)
def r17_0_J (nn:Nat)(_ _ _ _ _ _ _ _:Int)(_ _ _ _:Nat→Int)(y:Nat × Nat × Nat):Prop:=y.1=nn∧y.2.1=(nn+1) / 2∧y.2.2=nn / 2
abbrev r17_0_N (nn:Nat)(m ee hv v ma mb y1 y2:Int)(pp1 pp2 mm1 mm2:Nat→Int):=NX (r17_0_mk nn m ee hv v ma mb y1 y2 pp1 pp2 mm1 mm2) (r17_0_I nn m ee hv v ma mb y1 y2 pp1 pp2 mm1 mm2) (r17_0_mu nn m ee hv v ma mb y1 y2 pp1 pp2 mm1 mm2) (r17_0_ex nn m ee hv v ma mb y1 y2 pp1 pp2 mm1 mm2) (r17_0_J nn m ee hv v ma mb y1 y2 pp1 pp2 mm1 mm2)
theorem zw1 (nn:Nat)(m ee hv v ma mb y1 y2:Int)(pp1 pp2 mm1 mm2:Nat→Int)(c0:∀ j,j≤nn→Impl Tryz.prog Amb 74 [(sV (pp1 j) (pp2 j))] (.bool (decide (nn≤j))))(c1:∀ j,j<nn→Impl Tryz.prog Amb 99 [(sV (pp1 j) (pp2 j))] (sV (-(pp2 j)) (-(pp1 j))))(c2:∀ i,i%2=0→2*i<nn→Impl Tryz.prog Amb 47 [(sV (csL pp1 pp2 i) (csH pp1 pp2 i)),(sV (pp1 (2*i)) (pp2 (2*i)))] (sV (csL pp1 pp2 (i+1)) (csH pp1 pp2 (i+1))))(c3:∀ i,i%2=1→2*i<nn→Impl Tryz.prog Amb 47 [(sV (csL pp1 pp2 i) (csH pp1 pp2 i)),(sV (-(pp2 (2*i))) (-(pp1 (2*i))))] (sV (csL pp1 pp2 (i+1)) (csH pp1 pp2 (i+1))))(c4:∀ i,i%2=0→2*i+1<nn→Impl Tryz.prog Amb 47 [(sV (snL pp1 pp2 i) (snH pp1 pp2 i)),(sV (pp1 (2*i+1)) (pp2 (2*i+1)))] (sV (snL pp1 pp2 (i+1)) (snH pp1 pp2 (i+1))))(c5:∀ i,i%2=1→2*i+1<nn→Impl Tryz.prog Amb 47 [(sV (snL pp1 pp2 i) (snH pp1 pp2 i)),(sV (-(pp2 (2*i+1))) (-(pp1 (2*i+1))))] (sV (snL pp1 pp2 (i+1)) (snH pp1 pp2 (i+1))))(c6:∀ j,j<nn→Impl Tryz.prog Amb 75 [(sV (pp1 j) (pp2 j)),(sV y1 y2),(.int .i64 v)] (sV (mm1 j) (mm2 j)))(c7:∀ (j:Nat) (kk:Int),j<nn→kk=(j:Int)+1→Impl Tryz.prog Amb 29 [(sV (mm1 j) (mm2 j)),(.int .i64 kk)] (sV (pp1 (j+1)) (pp2 (j+1))))(c8:nn≤10000)(c9:(-1000:Int)≤v∧v≤10000)(x0:(Nat × Int)⊕((Nat × Int)⊕((Nat × Int)⊕(Nat × Int))))(hI:r17_0_I nn m ee hv v ma mb y1 y2 pp1 pp2 mm1 mm2 x0):LoopOk Tryz.prog Amb (loopN Tryz.f198 0) (r17_0_mk nn m ee hv v ma mb y1 y2 pp1 pp2 mm1 mm2 x0) (fun e st_=>∃ y,r17_0_J nn m ee hv v ma mb y1 y2 pp1 pp2 mm1 mm2 y∧r17_0_ex nn m ee hv v ma mb y1 y2 pp1 pp2 mm1 mm2 y=(e,st_)) :=
 z6m hP hAmb ⟨[1,2,6,7,10,11,12,13,14],8,[]⟩ (r17_0_mk nn m ee hv v ma mb y1 y2 pp1 pp2 mm1 mm2) (r17_0_I nn m ee hv v ma mb y1 y2 pp1 pp2 mm1 mm2) (r17_0_mu nn m ee hv v ma mb y1 y2 pp1 pp2 mm1 mm2) (r17_0_ex nn m ee hv v ma mb y1 y2 pp1 pp2 mm1 mm2) (r17_0_J nn m ee hv v ma mb y1 y2 pp1 pp2 mm1 mm2) x0 hI (Sum.elim (fun (h,k)=>.lits 2<|.call (.bool (decide (nn≤(4*h))))<|.lit<|.both (.lits 4<|.no<|.lits 2<|.no<|.lits 3<|.call (sV (csL pp1 pp2 (2*h+1)) (csH pp1 pp2 (2*h+1)))<|.lits 4<|.call (sV (mm1 (4*h)) (mm2 (4*h)))<|.lit<|.yes<|.lit<|.call (sV (pp1 (4*h+1)) (pp2 (4*h+1)))<|.lits 2<|.yes<|.fin2 ⟨[1,2,6,7,10,11,12,13,14],8,[]⟩) (.fin2 ⟨[1,2,6,7,11,12],8,[]⟩)) (Sum.elim (fun (h,k)=>.lits 2<|.call (.bool (decide (nn≤(4*h+1))))<|.lit<|.both (.lits 4<|.no<|.lits 2<|.yes<|.lits 3<|.call (sV (snL pp1 pp2 (2*h+1)) (snH pp1 pp2 (2*h+1)))<|.lits 4<|.call (sV (mm1 (4*h+1)) (mm2 (4*h+1)))<|.lit<|.yes<|.lit<|.call (sV (pp1 (4*h+2)) (pp2 (4*h+2)))<|.lits 2<|.yes<|.fin2 ⟨[1,2,6,7,10,11,12,13,14],8,[]⟩) (.fin2 ⟨[1,2,6,7,11,12],8,[]⟩)) (Sum.elim (fun (h,k)=>.lits 2<|.call (.bool (decide (nn≤(4*h+2))))<|.lit<|.both (.lits 4<|.yes<|.lits 2<|.call (sV (-(pp2 (4*h+2))) (-(pp1 (4*h+2))))<|.lits 3<|.no<|.lits 3<|.call (sV (csL pp1 pp2 (2*h+2)) (csH pp1 pp2 (2*h+2)))<|.lits 4<|.call (sV (mm1 (4*h+2)) (mm2 (4*h+2)))<|.lit<|.yes<|.lit<|.call (sV (pp1 (4*h+3)) (pp2 (4*h+3)))<|.lits 2<|.yes<|.fin2 ⟨[1,2,6,7,10,11,12,13,14],8,[]⟩) (.fin2 ⟨[1,2,6,7,11,12],8,[]⟩)) (fun (h,k)=>.lits 2<|.call (.bool (decide (nn≤(4*h+3))))<|.lit<|.both (.lits 4<|.yes<|.lits 2<|.call (sV (-(pp2 (4*h+3))) (-(pp1 (4*h+3))))<|.lits 3<|.yes<|.lits 3<|.call (sV (snL pp1 pp2 (2*(h+1))) (snH pp1 pp2 (2*(h+1))))<|.lits 4<|.call (sV (mm1 (4*h+3)) (mm2 (4*h+3)))<|.lit<|.yes<|.lit<|.call (sV (pp1 (4*(h+1))) (pp2 (4*(h+1))))<|.lits 2<|.yes<|.fin2 ⟨[1,2,6,7,10,11,12,13,14],8,[]⟩) (.fin2 ⟨[1,2,6,7,11,12],8,[]⟩))))) (by
  rintro (⟨h,k⟩ | ⟨h,k⟩ | ⟨h,k⟩ | ⟨h,k⟩) hI
  ·skip
   have hI:4*h+0≤nn∧k=4*(h:Int)+0:=hI
   obtain ⟨h1,h2⟩:=hI
   have r4:=zvz k oO
   have r2:=zw0 k oO
   exact z6d (aI True.intro (aI (c0 (4*h) h1 ) (aI (fun (h101:(!(decide (nn≤(4*h))))=true)=>have _gh101:=of_decide_eq_false (z7p h101); aI (z7m oO:(iGt (wRem k (4:Int)) 1)=false) (aI (z7n oO:(iEq (wRem k (2:Int)) 1)=false) (aI ((show _ from (by have q:=c2 (2*h) oO oO; rw [show 2*(2*h)=4*h by omega] at q; exact q)) ) (aI (c6 (4*h) oO ) (aI (z7s oO:(fits .i64 (k+1))=true) (aI (c7 (4*h) (k+1) oO oO ) (aI (z7s oO:(fits .i64 (k+1))=true) (aI tT ((z6j (Sum.inr (Sum.inl (h,(k+1)))) (show 4*h+1≤nn∧(k+1)=4*(h:Int)+1 from ⟨by omega,by omega⟩) (show nn-(4*h+1)<nn-(4*h+0) by omega):r17_0_N nn m ee hv v ma mb y1 y2 pp1 pp2 mm1 mm2 (Sum.inl (h,k)) .normal (r17_0_mk nn m ee hv v ma mb y1 y2 pp1 pp2 mm1 mm2 (Sum.inr (Sum.inl (h,(k+1))))))))))))))) (fun (h102:(!(decide (nn≤(4*h))))=false)=>have _gh102:=of_decide_eq_true (z7q h102); aI tT ((z6k 0 ((r17_0_ex nn m ee hv v ma mb y1 y2 pp1 pp2 mm1 mm2 ((4*h),(2*h),(2*h))).2) ((4*h),(2*h),(2*h)) (show (4*h)=nn∧(2*h)=(nn+1) / 2∧(2*h)=nn / 2 from show (4*h)=nn∧(2*h)=(nn+1) / 2∧(2*h)=nn / 2 from ⟨by omega,by omega,by omega⟩) rfl:r17_0_N nn m ee hv v ma mb y1 y2 pp1 pp2 mm1 mm2 (Sum.inl (h,k)) (.exit 0) ((r17_0_ex nn m ee hv v ma mb y1 y2 pp1 pp2 mm1 mm2 ((4*h),(2*h),(2*h))).2))))))) (by kernel_rfl)
  ·skip
   have hI:4*h+1≤nn∧k=4*(h:Int)+1:=hI
   obtain ⟨h1,h2⟩:=hI
   have r4:=zvz k oO
   have r2:=zw0 k oO
   exact z6d (aI True.intro (aI (c0 (4*h+1) h1 ) (aI (fun (h101:(!(decide (nn≤(4*h+1))))=true)=>have _gh101:=of_decide_eq_false (z7p h101); aI (z7m oO:(iGt (wRem k (4:Int)) 1)=false) (aI (z7i oO:(iEq (wRem k (2:Int)) 1)=true) (aI ((show _ from (by have q:=c4 (2*h) oO oO; rw [show 2*(2*h)=4*h by omega] at q; exact q)) ) (aI (c6 (4*h+1) oO ) (aI (z7s oO:(fits .i64 (k+1))=true) (aI (c7 (4*h+1) (k+1) oO oO ) (aI (z7s oO:(fits .i64 (k+1))=true) (aI tT ((z6j (Sum.inr (Sum.inr (Sum.inl (h,(k+1))))) (show 4*h+2≤nn∧(k+1)=4*(h:Int)+2 from ⟨by omega,by omega⟩) (show nn-(4*h+2)<nn-(4*h+1) by omega):r17_0_N nn m ee hv v ma mb y1 y2 pp1 pp2 mm1 mm2 (Sum.inr (Sum.inl (h,k))) .normal (r17_0_mk nn m ee hv v ma mb y1 y2 pp1 pp2 mm1 mm2 (Sum.inr (Sum.inr (Sum.inl (h,(k+1)))))))))))))))) (fun (h102:(!(decide (nn≤(4*h+1))))=false)=>have _gh102:=of_decide_eq_true (z7q h102); aI tT ((z6k 0 ((r17_0_ex nn m ee hv v ma mb y1 y2 pp1 pp2 mm1 mm2 ((4*h+1),(2*h+1),(2*h))).2) ((4*h+1),(2*h+1),(2*h)) (show (4*h+1)=nn∧(2*h+1)=(nn+1) / 2∧(2*h)=nn / 2 from show (4*h+1)=nn∧(2*h+1)=(nn+1) / 2∧(2*h)=nn / 2 from ⟨by omega,by omega,by omega⟩) rfl:r17_0_N nn m ee hv v ma mb y1 y2 pp1 pp2 mm1 mm2 (Sum.inr (Sum.inl (h,k))) (.exit 0) ((r17_0_ex nn m ee hv v ma mb y1 y2 pp1 pp2 mm1 mm2 ((4*h+1),(2*h+1),(2*h))).2))))))) (by kernel_rfl)
  ·skip
   have hI:4*h+2≤nn∧k=4*(h:Int)+2:=hI
   obtain ⟨h1,h2⟩:=hI
   have r4:=zvz k oO
   have r2:=zw0 k oO
   exact z6d (aI True.intro (aI (c0 (4*h+2) h1 ) (aI (fun (h101:(!(decide (nn≤(4*h+2))))=true)=>have _gh101:=of_decide_eq_false (z7p h101); aI (z7h oO:(iGt (wRem k (4:Int)) 1)=true) (aI (c1 (4*h+2) oO ) (aI (z7n oO:(iEq (wRem k (2:Int)) 1)=false) (aI ((show _ from (by have q:=c3 (2*h+1) oO oO; rw [show 2*(2*h+1)=4*h+2 by omega] at q; exact q)) ) (aI (c6 (4*h+2) oO ) (aI (z7s oO:(fits .i64 (k+1))=true) (aI (c7 (4*h+2) (k+1) oO oO ) (aI (z7s oO:(fits .i64 (k+1))=true) (aI tT ((z6j (Sum.inr (Sum.inr (Sum.inr (h,(k+1))))) (show 4*h+3≤nn∧(k+1)=4*(h:Int)+3 from ⟨by omega,by omega⟩) (show nn-(4*h+3)<nn-(4*h+2) by omega):r17_0_N nn m ee hv v ma mb y1 y2 pp1 pp2 mm1 mm2 (Sum.inr (Sum.inr (Sum.inl (h,k)))) .normal (r17_0_mk nn m ee hv v ma mb y1 y2 pp1 pp2 mm1 mm2 (Sum.inr (Sum.inr (Sum.inr (h,(k+1))))))))))))))))) (fun (h102:(!(decide (nn≤(4*h+2))))=false)=>have _gh102:=of_decide_eq_true (z7q h102); aI tT ((z6k 0 ((r17_0_ex nn m ee hv v ma mb y1 y2 pp1 pp2 mm1 mm2 ((4*h+2),(2*h+1),(2*h+1))).2) ((4*h+2),(2*h+1),(2*h+1)) (show (4*h+2)=nn∧(2*h+1)=(nn+1) / 2∧(2*h+1)=nn / 2 from show (4*h+2)=nn∧(2*h+1)=(nn+1) / 2∧(2*h+1)=nn / 2 from ⟨by omega,by omega,by omega⟩) rfl:r17_0_N nn m ee hv v ma mb y1 y2 pp1 pp2 mm1 mm2 (Sum.inr (Sum.inr (Sum.inl (h,k)))) (.exit 0) ((r17_0_ex nn m ee hv v ma mb y1 y2 pp1 pp2 mm1 mm2 ((4*h+2),(2*h+1),(2*h+1))).2))))))) (by kernel_rfl)
  ·skip
   have hI:4*h+3≤nn∧k=4*(h:Int)+3:=hI
   obtain ⟨h1,h2⟩:=hI
   have r4:=zvz k oO
   have r2:=zw0 k oO
   exact z6d (aI True.intro (aI (c0 (4*h+3) h1 ) (aI (fun (h101:(!(decide (nn≤(4*h+3))))=true)=>have _gh101:=of_decide_eq_false (z7p h101); aI (z7h oO:(iGt (wRem k (4:Int)) 1)=true) (aI (c1 (4*h+3) oO ) (aI (z7i oO:(iEq (wRem k (2:Int)) 1)=true) (aI ((show _ from (by have q:=c5 (2*h+1) oO oO; rw [show 2*(2*h+1)=4*h+2 by omega] at q; exact q)) ) (aI (c6 (4*h+3) oO ) (aI (z7s oO:(fits .i64 (k+1))=true) (aI (c7 (4*h+3) (k+1) oO oO ) (aI (z7s oO:(fits .i64 (k+1))=true) (aI tT ((z6j (Sum.inl ((h+1),(k+1))) (show 4*(h+1)+0≤nn∧(k+1)=4*((h+1):Int)+0 from ⟨by omega,by omega⟩) (show nn-(4*(h+1)+0)<nn-(4*h+3) by omega):r17_0_N nn m ee hv v ma mb y1 y2 pp1 pp2 mm1 mm2 (Sum.inr (Sum.inr (Sum.inr (h,k)))) .normal (r17_0_mk nn m ee hv v ma mb y1 y2 pp1 pp2 mm1 mm2 (Sum.inl ((h+1),(k+1))))))))))))))) (fun (h102:(!(decide (nn≤(4*h+3))))=false)=>have _gh102:=of_decide_eq_true (z7q h102); aI tT ((z6k 0 ((r17_0_ex nn m ee hv v ma mb y1 y2 pp1 pp2 mm1 mm2 ((4*h+3),(2*h+2),(2*h+1))).2) ((4*h+3),(2*h+2),(2*h+1)) (show (4*h+3)=nn∧(2*h+2)=(nn+1) / 2∧(2*h+1)=nn / 2 from show (4*h+3)=nn∧(2*h+2)=(nn+1) / 2∧(2*h+1)=nn / 2 from ⟨by omega,by omega,by omega⟩) rfl:r17_0_N nn m ee hv v ma mb y1 y2 pp1 pp2 mm1 mm2 (Sum.inr (Sum.inr (Sum.inr (h,k)))) (.exit 0) ((r17_0_ex nn m ee hv v ma mb y1 y2 pp1 pp2 mm1 mm2 ((4*h+3),(2*h+2),(2*h+1))).2))))))) (by kernel_rfl))
def r17_1_mk (m ee hv v ma mb y1 y2 t1 t2 _ _:Int)(sa sb ca cb _ _ _ _ _ _:Nat→Int)(x:Nat × Int):St:=⟨mkS 82 [(1,(.val (.int .i64 v))),(6,(.own 1 0)),(7,(.own 2 0)),(11,(.own 5 0)),(12,(.own 6 0)),(63,(.val (.int .i64 hv))),(64,(.val (.int .i64 x.2)))],[⟨true,false,[(V.bool (decide (m<0))),(N m.natAbs),(V.int .i64 ee)]⟩,⟨true,false,[(V.bool false),V.nil,(V.bool false),V.nil]⟩,⟨true,false,[(V.bool false),V.nil,(V.bool false),V.nil]⟩,⟨true,false,[(V.bool (decide (ma<0))),(N ma.natAbs),(V.int .i64 mb)]⟩,⟨true,false,[(V.bool (decide (y1<0))),(N y1.natAbs),(V.bool (decide (y2<0))),(N y2.natAbs)]⟩,⟨true,false,[(V.bool (decide ((sa x.1)<0))),(N ((sa x.1).natAbs)),(V.bool (decide ((sb x.1)<0))),(N ((sb x.1).natAbs))]⟩,⟨true,false,[(V.bool (decide ((ca x.1)<0))),(N ((ca x.1).natAbs)),(V.bool (decide ((cb x.1)<0))),(N ((cb x.1).natAbs))]⟩,⟨true,false,[(V.bool (decide (t1<0))),(N t1.natAbs),(V.bool (decide (t2<0))),(N t2.natAbs)]⟩]⟩
def r17_1_I (_ _ hv _ _ _ _ _ _ _ _ _:Int)(_ _ _ _ _ _ _ _ _ _:Nat→Int)(x:Nat × Int):Prop:=x.2=(x.1:Int)∧(x.1:Int)≤hv
def r17_1_mu (_ _ hv _ _ _ _ _ _ _ _ _:Int)(_ _ _ _ _ _ _ _ _ _:Nat→Int)(x:Nat × Int):Nat:=(hv-x.1).toNat
def r17_1_ex (m ee _ _ ma mb y1 y2 t1 t2 _ _:Int)(sa sb ca cb _ _ _ _ _ _:Nat→Int)(y:Nat):Ex × St:=(.exit 2,⟨mkS 82 [(6,(.own 1 0)),(7,(.own 2 0)),(11,(.own 5 0)),(12,(.own 6 0))],[⟨true,false,[(V.bool (decide (m<0))),(N m.natAbs),(V.int .i64 ee)]⟩,⟨true,false,[(V.bool false),V.nil,(V.bool false),V.nil]⟩,⟨true,false,[(V.bool false),V.nil,(V.bool false),V.nil]⟩,⟨true,false,[(V.bool (decide (ma<0))),(N ma.natAbs),(V.int .i64 mb)]⟩,⟨true,false,[(V.bool (decide (y1<0))),(N y1.natAbs),(V.bool (decide (y2<0))),(N y2.natAbs)]⟩,⟨true,false,[(V.bool (decide ((sa y)<0))),(N ((sa y).natAbs)),(V.bool (decide ((sb y)<0))),(N ((sb y).natAbs))]⟩,⟨true,false,[(V.bool (decide ((ca y)<0))),(N ((ca y).natAbs)),(V.bool (decide ((cb y)<0))),(N ((cb y).natAbs))]⟩,⟨true,false,[(V.bool (decide (t1<0))),(N t1.natAbs),(V.bool (decide (t2<0))),(N t2.natAbs)]⟩]⟩)
def r17_1_J (_ _ hv _ _ _ _ _ _ _ _ _:Int)(_ _ _ _ _ _ _ _ _ _:Nat→Int)(y:Nat):Prop:=(y:Int)=hv
abbrev r17_1_N (m ee hv v ma mb y1 y2 t1 t2 o1 o2:Int)(sa sb ca cb pa pb qa qb ra rb:Nat→Int):=NX (r17_1_mk m ee hv v ma mb y1 y2 t1 t2 o1 o2 sa sb ca cb pa pb qa qb ra rb) (r17_1_I m ee hv v ma mb y1 y2 t1 t2 o1 o2 sa sb ca cb pa pb qa qb ra rb) (r17_1_mu m ee hv v ma mb y1 y2 t1 t2 o1 o2 sa sb ca cb pa pb qa qb ra rb) (r17_1_ex m ee hv v ma mb y1 y2 t1 t2 o1 o2 sa sb ca cb pa pb qa qb ra rb) (r17_1_J m ee hv v ma mb y1 y2 t1 t2 o1 o2 sa sb ca cb pa pb qa qb ra rb)
theorem zw2 (m ee hv v ma mb y1 y2 t1 t2 o1 o2:Int)(sa sb ca cb pa pb qa qb ra rb:Nat→Int)(c0:∀ i:Nat,(i:Int)<hv→Impl Tryz.prog Amb 75 [(sV (sa i) (sb i)),(sV (ca i) (cb i)),(.int .i64 v)] (sV (pa i) (pb i)))(c1:∀ i:Nat,(i:Int)<hv→Impl Tryz.prog Amb 28 [(sV (pa i) (pb i)),(.int .i64 2)] (sV (sa (i+1)) (sb (i+1))))(c2:Impl Tryz.prog Amb 73 [(.int .i64 1),(.int .i64 v)] (sV o1 o2))(c3:∀ i:Nat,(i:Int)<hv→Impl Tryz.prog Amb 75 [(sV (sa i) (sb i)),(sV (sa i) (sb i)),(.int .i64 v)] (sV (qa i) (qb i)))(c4:∀ i:Nat,(i:Int)<hv→Impl Tryz.prog Amb 28 [(sV (qa i) (qb i)),(.int .i64 2)] (sV (ra i) (rb i)))(c5:∀ i:Nat,(i:Int)<hv→Impl Tryz.prog Amb 46 [(sV o1 o2),(sV (ra i) (rb i))] (sV (ca (i+1)) (cb (i+1))))(c6:0≤hv∧hv≤1000)(x0:Nat × Int)(hI:r17_1_I m ee hv v ma mb y1 y2 t1 t2 o1 o2 sa sb ca cb pa pb qa qb ra rb x0):LoopOk Tryz.prog Amb (loopN Tryz.f198 1) (r17_1_mk m ee hv v ma mb y1 y2 t1 t2 o1 o2 sa sb ca cb pa pb qa qb ra rb x0) (fun e st_=>∃ y,r17_1_J m ee hv v ma mb y1 y2 t1 t2 o1 o2 sa sb ca cb pa pb qa qb ra rb y∧r17_1_ex m ee hv v ma mb y1 y2 t1 t2 o1 o2 sa sb ca cb pa pb qa qb ra rb y=(e,st_)) :=
 z6m hP hAmb ⟨[1,6,7,11,12,63,64],8,[]⟩ (r17_1_mk m ee hv v ma mb y1 y2 t1 t2 o1 o2 sa sb ca cb pa pb qa qb ra rb) (r17_1_I m ee hv v ma mb y1 y2 t1 t2 o1 o2 sa sb ca cb pa pb qa qb ra rb) (r17_1_mu m ee hv v ma mb y1 y2 t1 t2 o1 o2 sa sb ca cb pa pb qa qb ra rb) (r17_1_ex m ee hv v ma mb y1 y2 t1 t2 o1 o2 sa sb ca cb pa pb qa qb ra rb) (r17_1_J m ee hv v ma mb y1 y2 t1 t2 o1 o2 sa sb ca cb pa pb qa qb ra rb) x0 hI (fun (i,ii)=>.lit<|.both (.lits 3<|.call (sV (pa i) (pb i))<|.lit<|.call (sV (sa (i+1)) (sb (i+1)))<|.lit<|.call (sV o1 o2)<|.lits 3<|.call (sV (qa i) (qb i))<|.lit<|.call (sV (ra i) (rb i))<|.lit<|.call (sV (ca (i+1)) (cb (i+1)))<|.lits 3<|.yes<|.fin2 ⟨[1,6,7,11,12,63,64],8,[]⟩) (.fin2 ⟨[6,7,11,12],8,[]⟩)) (by
  rintro ⟨i,ii⟩ hI
  have hI:ii=(i:Int)∧(i:Int)≤hv:=hI
  obtain ⟨h1,h2⟩:=hI
  exact z6d (aI True.intro (aI (fun (h101:(iLt ii hv)=true)=>have _gh101:=z73 h101; aI (c0 i oO ) (aI (c1 i oO ) (aI (c2 ) (aI (c3 i oO ) (aI (c4 i oO ) (aI (c5 i oO ) (aI (z7s oO:(fits .i64 (ii+1))=true) (aI tT ((z6j ((i+1),(ii+1)) (show (ii+1)=((i+1):Int)∧((i+1):Int)≤hv from ⟨by omega,by omega⟩) (show (hv-((i+1:Nat):Int)).toNat<(hv-i).toNat by omega):r17_1_N m ee hv v ma mb y1 y2 t1 t2 o1 o2 sa sb ca cb pa pb qa qb ra rb (i,ii) .normal (r17_1_mk m ee hv v ma mb y1 y2 t1 t2 o1 o2 sa sb ca cb pa pb qa qb ra rb ((i+1),(ii+1))))))))))))) (fun (h102:(iLt ii hv)=false)=>have _gh102:=z74 h102; aI tT ((z6k 2 ((r17_1_ex m ee hv v ma mb y1 y2 t1 t2 o1 o2 sa sb ca cb pa pb qa qb ra rb i).2) i (show (i:Int)=hv from show (i:Int)=hv by omega) rfl:r17_1_N m ee hv v ma mb y1 y2 t1 t2 o1 o2 sa sb ca cb pa pb qa qb ra rb (i,ii) (.exit 2) ((r17_1_ex m ee hv v ma mb y1 y2 t1 t2 o1 o2 sa sb ca cb pa pb qa qb ra rb i).2)))))) (by kernel_rfl))
theorem zw3 (nn:Nat)(hn:Nat)(m ee hv v ma mb y1 y2 o1 o2:Int)(pp1:Nat→Int)(pp2:Nat→Int)(mm1:Nat→Int)(mm2:Nat→Int)(sa:Nat→Int)(sb:Nat→Int)(ca:Nat→Int)(cb:Nat→Int)(pa:Nat→Int)(pb:Nat→Int)(qa:Nat→Int)(qb:Nat→Int)(ra:Nat→Int)(rb:Nat→Int)(c0:Impl Tryz.prog Amb 38 [(yV m ee),(.int .i64 ((0:Int)-hv))] (.tup [(yV ma mb),(.int .i64 0)]))(c1:Impl Tryz.prog Amb 45 [(yV ma mb),(.int .i64 v)] (sV y1 y2))(c2:Impl Tryz.prog Amb 73 [(.int .i64 0),(.int .i64 v)] (sV (0:Int) (0:Int)))(c3:Impl Tryz.prog Amb 73 [(.int .i64 1),(.int .i64 v)] (sV (pp1 0) (pp2 0)))(c4:∀ j,j≤nn→Impl Tryz.prog Amb 74 [(sV (pp1 j) (pp2 j))] (.bool (decide (nn≤j))))(c5:∀ j,j<nn→Impl Tryz.prog Amb 99 [(sV (pp1 j) (pp2 j))] (sV (-(pp2 j)) (-(pp1 j))))(c6:∀ i,i%2=0→2*i<nn→Impl Tryz.prog Amb 47 [(sV (csL pp1 pp2 i) (csH pp1 pp2 i)),(sV (pp1 (2*i)) (pp2 (2*i)))] (sV (csL pp1 pp2 (i+1)) (csH pp1 pp2 (i+1))))(c7:∀ i,i%2=1→2*i<nn→Impl Tryz.prog Amb 47 [(sV (csL pp1 pp2 i) (csH pp1 pp2 i)),(sV (-(pp2 (2*i))) (-(pp1 (2*i))))] (sV (csL pp1 pp2 (i+1)) (csH pp1 pp2 (i+1))))(c8:∀ i,i%2=0→2*i+1<nn→Impl Tryz.prog Amb 47 [(sV (snL pp1 pp2 i) (snH pp1 pp2 i)),(sV (pp1 (2*i+1)) (pp2 (2*i+1)))] (sV (snL pp1 pp2 (i+1)) (snH pp1 pp2 (i+1))))(c9:∀ i,i%2=1→2*i+1<nn→Impl Tryz.prog Amb 47 [(sV (snL pp1 pp2 i) (snH pp1 pp2 i)),(sV (-(pp2 (2*i+1))) (-(pp1 (2*i+1))))] (sV (snL pp1 pp2 (i+1)) (snH pp1 pp2 (i+1))))(c10:∀ j,j<nn→Impl Tryz.prog Amb 75 [(sV (pp1 j) (pp2 j)),(sV y1 y2),(.int .i64 v)] (sV (mm1 j) (mm2 j)))(c11:∀ (j:Nat) (kk:Int),j<nn→kk=(j:Int)+1→Impl Tryz.prog Amb 29 [(sV (mm1 j) (mm2 j)),(.int .i64 kk)] (sV (pp1 (j+1)) (pp2 (j+1))))(c12:nn≤10000)(c13:Impl Tryz.prog Amb 76 [(sV (snL pp1 pp2 (nn / 2)) (snH pp1 pp2 (nn / 2))),(.int .i64 3)] (sV (sa 0) (sb 0)))(c14:Impl Tryz.prog Amb 76 [(sV (csL pp1 pp2 ((nn+1) / 2)) (csH pp1 pp2 ((nn+1) / 2))),(.int .i64 3)] (sV (ca 0) (cb 0)))(c15:∀ i:Nat,(i:Int)<hv→Impl Tryz.prog Amb 75 [(sV (sa i) (sb i)),(sV (ca i) (cb i)),(.int .i64 v)] (sV (pa i) (pb i)))(c16:∀ i:Nat,(i:Int)<hv→Impl Tryz.prog Amb 28 [(sV (pa i) (pb i)),(.int .i64 2)] (sV (sa (i+1)) (sb (i+1))))(c17:Impl Tryz.prog Amb 73 [(.int .i64 1),(.int .i64 v)] (sV o1 o2))(c18:∀ i:Nat,(i:Int)<hv→Impl Tryz.prog Amb 75 [(sV (sa i) (sb i)),(sV (sa i) (sb i)),(.int .i64 v)] (sV (qa i) (qb i)))(c19:∀ i:Nat,(i:Int)<hv→Impl Tryz.prog Amb 28 [(sV (qa i) (qb i)),(.int .i64 2)] (sV (ra i) (rb i)))(c20:∀ i:Nat,(i:Int)<hv→Impl Tryz.prog Amb 46 [(sV o1 o2),(sV (ra i) (rb i))] (sV (ca (i+1)) (cb (i+1))))(c21:0≤hv∧hv≤1000)(c22:(-1000:Int)≤v∧v≤10000)(c23:(hn:Int)=hv):Impl Tryz.prog Amb 198 [(yV m ee),(.int .i64 v),(.int .i64 hv)] (.tup [(sV (sa hn) (sb hn)),(sV (ca hn) (cb hn))]):=by
 exact z6e hP hAmb Tryz.func198 (by kernel_rfl) (.lits 2<|.yes<|.lit<|.call (.tup [(yV ma mb),(.int .i64 0)])<|.lits 3<|.call (sV y1 y2)<|.lits 2<|.call (sV (0:Int) (0:Int))<|.lit<|.call (sV (0:Int) (0:Int))<|.lits 3<|.call (sV (pp1 0) (pp2 0))<|.lit<|.loop ⟨[1,2,6,7,10,11,12,13,14],8,[]⟩ ((r17_0_mk nn m ee hv v ma mb y1 y2 pp1 pp2 mm1 mm2 (Sum.inl (0,0)))) (Nat × Nat × Nat) (r17_0_ex nn m ee hv v ma mb y1 y2 pp1 pp2 mm1 mm2) (r17_0_J nn m ee hv v ma mb y1 y2 pp1 pp2 mm1 mm2) (fun y=>.lits 2<|.call (sV (sa 0) (sb 0))<|.lits 2<|.call (sV (ca 0) (cb 0))<|.lits 2<|.loop ⟨[1,6,7,11,12,63,64],8,[]⟩ ((r17_1_mk m ee hv v ma mb y1 y2 (pp1 y.1) (pp2 y.1) o1 o2 sa sb ca cb pa pb qa qb ra rb (0,0))) (Nat) (r17_1_ex m ee hv v ma mb y1 y2 (pp1 y.1) (pp2 y.1) o1 o2 sa sb ca cb pa pb qa qb ra rb) (r17_1_J m ee hv v ma mb y1 y2 (pp1 y.1) (pp2 y.1) o1 o2 sa sb ca cb pa pb qa qb ra rb) (fun u=>.lits 5<|.ret)))
  (z6d (aI True.intro (aI (z7s oS:(fits .i64 ((0:Int)-hv))=true) (aI (c0 ) (aI (c1 ) (aI (c2 ) (aI (c2 ) (aI (c3 ) (aI tT (aI (rfl:(r17_0_mk nn m ee hv v ma mb y1 y2 pp1 pp2 mm1 mm2 (Sum.inl (0,0)))=(r17_0_mk nn m ee hv v ma mb y1 y2 pp1 pp2 mm1 mm2 (Sum.inl (0,0)))) (aI (zw1 nn m ee hv v ma mb y1 y2 pp1 pp2 mm1 mm2 c4 c5 c6 c7 c8 c9 c10 c11 c12 oO (Sum.inl (0,0)) (show 4*0+0≤nn∧0=4*(0:Int)+0 from ⟨by omega,by omega⟩)) (fun y (hJ:r17_0_J nn m ee hv v ma mb y1 y2 pp1 pp2 mm1 mm2 y)=>have hJ:y.1=nn∧y.2.1=(nn+1) / 2∧y.2.2=nn / 2:=hJ; have hY:=hJ; aI ((hY.2.2 ▸ c13) ) (aI ((hY.2.1 ▸ c14) ) (aI tT (aI (rfl:(r17_1_mk m ee hv v ma mb y1 y2 (pp1 y.1) (pp2 y.1) o1 o2 sa sb ca cb pa pb qa qb ra rb (0,0))=(r17_1_mk m ee hv v ma mb y1 y2 (pp1 y.1) (pp2 y.1) o1 o2 sa sb ca cb pa pb qa qb ra rb (0,0))) (aI (zw2 m ee hv v ma mb y1 y2 (pp1 y.1) (pp2 y.1) o1 o2 sa sb ca cb pa pb qa qb ra rb c15 c16 c17 c18 c19 c20 c21 (0,0) (show 0=(0:Int)∧(0:Int)≤hv from ⟨by omega,by omega⟩)) (fun u (hJ:r17_1_J m ee hv v ma mb y1 y2 (pp1 y.1) (pp2 y.1) o1 o2 sa sb ca cb pa pb qa qb ra rb u)=>have hJ:(u:Int)=hv:=hJ; have hV:=hJ; (by rw [show u=hn by omega]; exact z5w _:vsub (.tup [(sV (sa u) (sb u)),(sV (ca u) (cb u))]) (.tup [(sV (sa hn) (sb hn)),(sV (ca hn) (cb hn))])))))))))))))))))) (by kernel_rfl))
theorem zw4 (m ee w tp s1 s2 k1 k2 a1 a2 b1 b2 g1 g2 h1 h2:Int)(c0:0≤w∧w≤4000)(c1:-2000≤tp∧tp≤2000)(c2:Impl Tryz.prog Amb 18 [(yV m ee)] (.int .i64 tp))(c3:Impl Tryz.prog Amb 198 [(yV m ee),(.int .i64 ((w+60)+((4:Int)*((iMax (0:Int) tp)+2)))),(.int .i64 ((iMax (0:Int) tp)+2))] (.tup [(sV s1 s2),(sV k1 k2)]))(c4:Impl Tryz.prog Amb 31 [(sV s1 s2),(.int .i64 ((w+60)+((4:Int)*((iMax (0:Int) tp)+2)))),(.int .i64 (w+16))] (wV a1 a2 b1 b2))(c5:Impl Tryz.prog Amb 31 [(sV k1 k2),(.int .i64 ((w+60)+((4:Int)*((iMax (0:Int) tp)+2)))),(.int .i64 (w+16))] (wV g1 g2 h1 h2)):Impl Tryz.prog Amb 140 [(yV m ee),(.int .i64 w)] (.tup [(wV a1 a2 b1 b2),(wV g1 g2 h1 h2)]):=by
 have im1:=zeh 0 tp
 exact z6e hP hAmb Tryz.func140 (by kernel_rfl) (.lits 2<|.call (.int .i64 tp)<|.lits 2<|.yes<|.lit<|.yes<|.lit<|.yes<|.lit<|.yes<|.lits 2<|.call (.tup [(sV s1 s2),(sV k1 k2)])<|.lits 4<|.yes<|.lit<|.call (wV a1 a2 b1 b2)<|.lits 2<|.yes<|.lit<|.call (wV g1 g2 h1 h2)<|.lits 3<|.ret)
  (z6d (aI True.intro (aI (c2 ) (aI (z7s oS:(fits .i64 ((iMax (0:Int) tp)+2))=true) (aI (z7s oS:(fits .i64 (w+60))=true) (aI (z7s oS:(fits .i64 ((4:Int)*((iMax (0:Int) tp)+2)))=true) (aI (z7s oS:(fits .i64 ((w+60)+((4:Int)*((iMax (0:Int) tp)+2))))=true) (aI (c3 ) (aI (z7s oS:(fits .i64 (w+16))=true) (aI (c4 ) (aI (z7s oS:(fits .i64 (w+16))=true) (aI (c5 ) ((z5w (.tup [(wV a1 a2 b1 b2),(wV g1 g2 h1 h2)])))))))))))))) (by kernel_rfl))
end Go.Proofs.YtcbihoojfakhdaaGreatDoor
