/-
  Lower layers: what functions of the program compute, and plain facts. Conditions: as the theorems say.
-/
import Derived.Test.YtkkbddkpggjgpaaGreatDoorChecked
import Derived.Test.YtkkbddkpggjgpaaGreatDoorRows
import Derived.WalkKit
import Derived.ProofKit
import Derived.OpenShut
import Derived.Deep.DeepHandedRow
import Derived.Lib.LaidTab
import Derived.Lib.SmallJoins
import Derived.ChangeSlices
import Derived.Carry
import Derived.Test.YtkkbddkpggjgpaaGreatDoorCards
import Derived.Test.YtkkbddkpggjgpaaGreatDoorTie
import Derived.Test.YtkkbddkpggjgpaaGreatDoorPjR
set_option linter.unusedVariables false
set_option linter.unusedSimpArgs false
namespace Go.Proofs.YtkkbddkpggjgpaaGreatDoor
open Go.RowKit
set_option maxRecDepth 100000
theorem lg_clo (m ek k ss lo hi:Int)(c0:Impl Tryz.prog Amb 137 [(yV m ek),(.int .i64 k),(.int .i64 ss)] (sV lo hi)):Impl Tryz.prog Amb 136 [(.int .i64 ss),(.pt [(V.bool (decide (m<0))),(N m.natAbs),(V.int .i64 ek)] 0),(.pt [(V.int .i64 k)] 0)] (sV lo hi):=by
 exact impl_ob hP hAmb Tryz.func136 (by kernel_rfl) (.lits 3<|.call (sV lo hi)<|.lits 2<|.ret)
  (cast_ob (aI True.intro (aI (c0 ) ((vsub_refl (sV lo hi))))) (by kernel_rfl))
theorem lg_value0 (m e w k ek lo hi er:Int)(c0:Impl Tryz.prog Amb 69 [(yV m e)] (.tup [(.int .i64 k),(yV m ek),(.int .i64 er)]))(c1:Impl Tryz.prog Amb 78 [(.int .i64 w),(.clos 136 [(.pt [(V.bool (decide (m<0))),(N m.natAbs),(V.int .i64 ek)] 0),(.pt [(V.int .i64 k)] 0)])] (sV lo hi)):Impl Tryz.prog Amb 75 [(yV m e),(.int .i64 w)] (sV lo hi):=by
 exact impl_ob hP hAmb Tryz.func75 (by kernel_rfl) (.lits 2<|.call (.tup [(.int .i64 k),(yV m ek),(.int .i64 er)])<|.lits 3<|.call (sV lo hi)<|.lits 2<|.ret)
  (cast_ob (aI True.intro (aI (c0 ) (aI (c1 ) ((vsub_refl (sV lo hi)))))) (by kernel_rfl))
theorem lg_Ln0 (m e n f w l1 h1 l2 h2 a1 a2 b1 b2:Int)(c0:0≤w∧w≤4096)(c1:0<m∧0<n)(c2:L (m).natAbs≤1000∧L (n).natAbs≤1000)(c3:Impl Tryz.prog Amb 75 [(yV m e),(.int .i64 w)] (sV l1 h1))(c4:Impl Tryz.prog Amb 75 [(yV n f),(.int .i64 w)] (sV l2 h2))(c5:Impl Tryz.prog Amb 74 [(zV l1),(.int .i64 ((0:Int)-w))] (.tup [(yV a1 a2),(.int .i64 0)]))(c6:Impl Tryz.prog Amb 74 [(zV h2),(.int .i64 ((0:Int)-w))] (.tup [(yV b1 b2),(.int .i64 0)])):Impl Tryz.prog Amb 24 [(wV m e n f),(.int .i64 w)] (.tup [(wV a1 a2 b1 b2),(.int .i64 0)]):=by
 have sm:=sign_range m
 have sn:=sign_range n
 exact impl_ob hP hAmb Tryz.func24 (by kernel_rfl) (.lit<|.no<|.lits 3<|.no<|.lits 2<|.call (.int .i64 ((n).sign))<|.lit<|.no<|.lits 2<|.call (.int .i64 ((m).sign))<|.lit<|.no<|.lits 2<|.call (sV l1 h1)<|.lits 2<|.yes<|.lit<|.call (.tup [(yV a1 a2),(.int .i64 0)])<|.lits 3<|.call (sV l2 h2)<|.lits 2<|.yes<|.lit<|.call (.tup [(yV b1 b2),(.int .i64 0)])<|.lits 12<|.ret)
  (cast_ob (aI True.intro (aI (iLt_mkF oS:(iLt w 0)=false) (aI (iGt_mkF oS:(iGt w 4096)=false) (aI (dy_Sign n f oS) (have f2:=sign_range n;aI (iLe_mkF oS:(iLe ((n).sign) 0)=false) (aI (dy_Sign m e oS) (have f1:=sign_range m;aI (iLe_mkF oS:(iLe ((m).sign) 0)=false) (aI (c3 ) (aI (fits_i64 oS:(fits .i64 ((0:Int)-w))=true) (aI (c5 ) (aI (c4 ) (aI (fits_i64 oS:(fits .i64 ((0:Int)-w))=true) (aI (c6 ) ((vsub_refl (.tup [(wV a1 a2 b1 b2),(.int .i64 0)])))))))))))))))) (by kernel_rfl))
theorem lg_LnD (m e n f w:Int)(c0:L (m).natAbs≤1000)(c1:L (n).natAbs≤1000)(c2:(-9223372036854775808:Int)≤w∧w≤9223372036854775807)(c3:0≤w∧w≤4096)(c4:n≤0):Impl Tryz.prog Amb 24 [(wV m e n f),(.int .i64 w)] (e0T 4):=by
 have sn:=sign_range n
 exact impl_ob hP hAmb Tryz.func24 (by kernel_rfl) (.lit<|.no<|.lits 3<|.no<|.lits 2<|.call (.int .i64 ((n).sign))<|.lit<|.yes<|.lits 3<|.ret)
  (cast_ob (aI True.intro (aI (iLt_mkF oO:(iLt w 0)=false) (aI (iGt_mkF oO:(iGt w 4096)=false) (aI (dy_Sign n f oO) (have f1:=sign_range n;aI (iLe_mk oO:(iLe ((n).sign) 0)=true) ((vsub_refl (e0T 4)))))))) (by kernel_rfl))
theorem lg_LnU (m e n f w:Int)(c0:L (m).natAbs≤1000)(c1:L (n).natAbs≤1000)(c2:(-9223372036854775808:Int)≤w∧w≤9223372036854775807)(c3:0≤w∧w≤4096)(c4:0<n)(c5:m≤0):Impl Tryz.prog Amb 24 [(wV m e n f),(.int .i64 w)] (e0T 5):=by
 have sm:=sign_range m
 have sn:=sign_range n
 exact impl_ob hP hAmb Tryz.func24 (by kernel_rfl) (.lit<|.no<|.lits 3<|.no<|.lits 2<|.call (.int .i64 ((n).sign))<|.lit<|.no<|.lits 2<|.call (.int .i64 ((m).sign))<|.lit<|.yes<|.lits 3<|.ret)
  (cast_ob (aI True.intro (aI (iLt_mkF oO:(iLt w 0)=false) (aI (iGt_mkF oO:(iGt w 4096)=false) (aI (dy_Sign n f oO) (have f2:=sign_range n;aI (iLe_mkF oO:(iLe ((n).sign) 0)=false) (aI (dy_Sign m e oO) (have f1:=sign_range m;aI (iLe_mk oO:(iLe ((m).sign) 0)=true) ((vsub_refl (e0T 5)))))))))) (by kernel_rfl))
theorem l15_of (a b:Int)(c0:(-9223372036854775808:Int)≤a∧a≤9223372036854775807)(c1:(-9223372036854775808:Int)≤b∧b≤9223372036854775807):Impl Tryz.prog Amb 39 [(.int .i64 a),(.int .i64 b)] (wV (mkM a 0) (mkX a 0) (mkM b 0) (mkX b 0)):=by
 exact impl_ob hP hAmb Tryz.func39 (by kernel_rfl) (.lit<|.call (yV (mkM a 0) (mkX a 0))<|.lit<|.call (yV (mkM b 0) (mkX b 0))<|.lits 3<|.ret)
  (cast_ob (aI True.intro (aI (r08_Of a oO) (have f14:=(of_fit (n:=a) oO).2.2.2.2.1;have f13:=(of_fit (n:=a) oO).2.2.2.1;have f12:=(of_fit (n:=a) oO).2.2.1;have f11:=(of_fit (n:=a) oO).2.1;have f10:=(of_fit (n:=a) oO).1;have f9:=(L_i64 oO:L (a:Int).natAbs≤2);have f8:=mk_facts a 0;aI (r08_Of b oO) (have f7:=(of_fit (n:=b) oO).2.2.2.2.1;have f6:=(of_fit (n:=b) oO).2.2.2.1;have f5:=(of_fit (n:=b) oO).2.2.1;have f4:=(of_fit (n:=b) oO).2.1;have f3:=(of_fit (n:=b) oO).1;have f2:=(L_i64 oO:L (b:Int).natAbs≤2);have f1:=mk_facts b 0;(vsub_refl (wV (mkM a 0) (mkX a 0) (mkM b 0) (mkX b 0))))))) (by kernel_rfl))
theorem l15_awake:Impl Tryz.prog Amb 22 [] (.bool true):=by
 have z0:mkM 0 0=0:=by kernel_rfl
 have z1:mkM 1 0=1:=by kernel_rfl
 have z2:mkM (-1) 0=-1:=by kernel_rfl
 have z4:mkM 4 0=1:=by kernel_rfl
 have z5:mkX 4 0=2:=by kernel_rfl
 have z6:spl (mkM 4 0) (mkX 4 0)=2:=by kernel_rfl
 have l1:=L_lit 1 (by decide)
 have y1:=of_fit (n:=1) oO
 have y4:=of_fit (n:=4) oO
 exact impl_ob hP hAmb Tryz.func22 (by kernel_rfl) (.lit<|.call (wV (mkM 0 0) (mkX 0 0) (mkM 1 0) (mkX 1 0))<|.lit<|.call (e0T 5)<|.lits 2<|.call (wV (mkM (-1) 0) (mkX (-1) 0) (mkM 0 0) (mkX 0 0))<|.lit<|.call (e0T 4)<|.lits 2<|.call (yV (mkM 4 0) (mkX 4 0))<|.lit<|.call (.tup [(.int .i64 (spl (mkM 4 0) (mkX 4 0))),(yV (mkM 4 0) ((mkX 4 0)-(spl (mkM 4 0) (mkX 4 0)))),(.int .i64 0)])<|.lits 10<|.yes<|.lits 7<|.call (yV (mkM 1 0) (mkX 1 0))<|.lits 2<|.call (.bool (decide (((mkX 4 0)-(spl (mkM 4 0) (mkX 4 0)))=(mkX 1 0)∧(mkM 4 0)=(mkM 1 0))))<|.lits 2<|.ret)
  (cast_ob (aI True.intro (aI (l15_of 0 1 oO oO) (have f18:=(of_fit (n:=1) oO).2.1;have f17:=(of_fit (n:=0) oO).2.1;aI (lg_LnU (mkM 0 0) (mkX 0 0) (mkM 1 0) (mkX 1 0) 5 oO oO oO oO oO oO) (aI (l15_of (-1) 0 oO oO) (have f16:=(of_fit (n:=0) oO).2.1;have f15:=(of_fit (n:=-1) oO).2.1;aI (lg_LnD (mkM (-1) 0) (mkX (-1) 0) (mkM 0 0) (mkX 0 0) 5 oO oO oO oO oO) (aI (r08_Of 4 oO) (have f14:=(of_fit (n:=4) oO).2.2.2.2.1;have f13:=(of_fit (n:=4) oO).2.2.2.1;have f12:=(of_fit (n:=4) oO).2.2.1;have f11:=(of_fit (n:=4) oO).2.1;have f10:=(of_fit (n:=4) oO).1;have f9:=(L_i64 oO:L (4:Int).natAbs≤2);have f8:=mk_facts 4 0;aI (lg_Split (mkM 4 0) (mkX 4 0) oO oO oO) (aI (iEq_mk oO:(iEq (spl (mkM 4 0) (mkX 4 0)) 2)=true) (aI (r08_Of 1 oO) (have f7:=(of_fit (n:=1) oO).2.2.2.2.1;have f6:=(of_fit (n:=1) oO).2.2.2.1;have f5:=(of_fit (n:=1) oO).2.2.1;have f4:=(of_fit (n:=1) oO).2.1;have f3:=(of_fit (n:=1) oO).1;have f2:=(L_i64 oO:L (1:Int).natAbs≤2);have f1:=mk_facts 1 0;aI (r08_Same (mkM 4 0) ((mkX 4 0)-(spl (mkM 4 0) (mkX 4 0))) (mkM 1 0) (mkX 1 0) oO oO) ((vsub_of (congrArg V.bool (by kernel_rfl)):vsub (.bool (decide (((mkX 4 0)-(spl (mkM 4 0) (mkX 4 0)))=(mkX 1 0)∧(mkM 4 0)=(mkM 1 0)))) (.bool true))))))))))))) (by kernel_rfl))
end Go.Proofs.YtkkbddkpggjgpaaGreatDoor

namespace Go.Proofs.YtkkbddkpggjgpaaGreatDoor
open Go.RowKit
set_option maxRecDepth 100000
set_option maxHeartbeats 2000000
theorem PL_one:(PL (1 / 5) 100+(1 / 5)^199≤1∧PL (1 / 7) 100+(1 / 7)^199≤1)∧(0≤cLn∧cLn≤1):=⟨⟨of_decide_eq_true (by kernel_rfl),of_decide_eq_true (by kernel_rfl)⟩,⟨of_decide_eq_true (by kernel_rfl),of_decide_eq_true (by kernel_rfl)⟩⟩
theorem LnF_abs {M:Rat}{k:Int}(hM:3≤4*M)(hM2:2*M<3)(hk:-4096≤k∧k≤4096)(K:Nat):-8192≤LnF M k K∧LnF M k K≤8192:=by
 have z1:=z_mono (M:=M) (N:=3 / 2) (by grind) (by grind)
 have z2:=z_mono (M:=3 / 4) (N:=M) (by grind) (by grind)
 rw[show ((3:Rat) / 2-1) / (3 / 2+1)=1 / 5 by grind] at z1
 rw[show ((3:Rat) / 4-1) / (3 / 4+1)=-(1 / 7) by grind] at z2
 have q1:=PL_odd z1 K
 have q2:=PL_odd z2 K
 rw[PL_neg] at q2
 have c1:=PL_cap (z:=1 / 5) (by grind) (by grind) PL_one.1.1 K
 have c2:=PL_cap (z:=1 / 7) (by grind) (by grind) PL_one.1.2 K
 have c0:=PL_one.2
 have k1:((-4096:Int):Rat)≤(k:Rat):=Rat.intCast_le_intCast.2 hk.1
 have k2:(k:Rat)≤((4096:Int):Rat):=Rat.intCast_le_intCast.2 hk.2
 rw[show ((-4096:Int):Rat)=-4096 from rfl] at k1
 rw[show ((4096:Int):Rat)=4096 from rfl] at k2
 have m1:=Rat.mul_le_mul_of_nonneg_right k1 c0.1
 have m2:=Rat.mul_le_mul_of_nonneg_right k2 c0.1
 unfold LnF
 constructor<;>grind
theorem ln_size {M:Rat}{k a b:Int}{s:Nat}(hM:3≤4*M)(hM2:2*M<3)(hk:-4096≤k∧k≤4096)(h:Encl (LnF M k) s a b)(hw:b-a≤2)(hs:s≤400):L a.natAbs≤70∧L b.natAbs≤70:=by
 obtain⟨A,h⟩:=h
 have h:=h A (Nat.le_refl _)
 have B:=LnF_abs hM hM2 hk A
 have T0:(0:Rat)<((2^s:Int):Rat):=Rat.intCast_pos.2 (two_pos s)
 have m1:=Rat.mul_le_mul_of_nonneg_right B.1 (Rat.le_of_lt T0)
 have m2:=Rat.mul_le_mul_of_nonneg_right B.2 (Rat.le_of_lt T0)
 have a1:a≤8192*2^s:=by
  refine Rat.intCast_le_intCast.1 ?_
  rw[Rat.intCast_mul]
  exact Rat.le_trans h.1 m2
 have b1:-8192*2^s≤b:=by
  refine Rat.intCast_le_intCast.1 ?_
  rw[Rat.intCast_mul]
  exact Rat.le_trans m1 h.2
 have ab:a≤b:=Rat.intCast_le_intCast.1 (Rat.le_trans h.1 h.2)
 have pv2:((2^s:Nat):Int)=(2:Int)^s:=(pow_cast _).symm
 have:=Nat.pow_pos (n:=s) (show 0<2 by omega)
 exact⟨abs_big (t:=s) (c:=8194) oO oO oO,abs_big (t:=s) (c:=8194) oO oO oO⟩
theorem lg_valueE (m e w:Int)(h:(0<m)∧L m.natAbs≤300∧(-5000≤e∧e≤5000)∧vdb m e=true∧-4096≤spl m e∧spl m e≤4096)(hw:0≤w∧w≤4096) :
  ∃ lo hi:Int,Impl Tryz.prog Amb 75 [(yV m e),(.int .i64 w)] (sV lo hi)∧hi-lo≤2∧L lo.natAbs≤6310∧L hi.natAbs≤6310∧(w≤340→Encl (LnF (dv m (e-spl m e)) (spl m e)) w.toNat lo hi):=by
 obtain⟨hm,hL,he,hv,hk⟩:=h
 obtain⟨s1,s2,_,s4,s5⟩:=sp_facts (e:=e) hm
 have hS:=lg_Split m e oO oO hm
 generalize spl m e=k at *
 obtain⟨lo,hi,hI,h1,h2,h3,h4,h5⟩:=fx_LnE m (e-k) k (w+24) oO hk hL oO s1 s2
 have hC:=lg_clo m (e-k) k (w+24) lo hi hI
 have hT:=fx_Settle2 136 _ _ lo hi w hC oO (nbits_of_lt oO) oO
 have o8:=L_abs_shr lo 24
 have o9:=L_abs_neg hi
 have o10:=L_abs_shr (-hi) 24
 have o11:=L_abs_neg (-hi / 2^24)
 have hw2:=half_w (a:=lo) (b:=hi) (W:=1) (n:=24) oO
 refine⟨_,_,lg_value0 m e w k (e-k) _ _ 0 hS hT,hw2,by omega,by omega,fun h6=>?_⟩
 exact (h5 oO).half oO
theorem lg_LnE (m e n f w:Int)(h:(0<m)∧L m.natAbs≤300∧(-5000≤e∧e≤5000)∧vdb m e=true∧-4096≤spl m e∧spl m e≤4096)(h':(0<n)∧L n.natAbs≤300∧(-5000≤f∧f≤5000)∧vdb n f=true∧-4096≤spl n f∧spl n f≤4096)(hw:0≤w∧w≤330) :
  ∃ l1 h1 l2 h2:Int,Impl Tryz.prog Amb 24 [(wV m e n f),(.int .i64 w)] (.tup [(wV (mkM l1 (-w)) (mkX l1 (-w)) (mkM h2 (-w)) (mkX h2 (-w))),(.int .i64 0)])∧h1-l1≤2∧h2-l2≤2∧(L l1.natAbs≤70∧L h2.natAbs≤70)∧Encl (LnF (dv m (e-spl m e)) (spl m e)) w.toNat l1 h1∧Encl (LnF (dv n (f-spl n f)) (spl n f)) w.toNat l2 h2:=by
 obtain⟨l1,h1,hA,wA,_,_,eA⟩:=lg_valueE m e w h oO
 obtain⟨l2,h2,hB,wB,_,_,eB⟩:=lg_valueE n f w h' oO
 have sA:=sp_facts (e:=e) h.1
 have sB:=sp_facts (e:=f) h'.1
 have eA:=eA oO
 have eB:=eB oO
 have zA:=(ln_size sA.1 sA.2.1 oO eA wA oO).1
 have zB:=(ln_size sB.1 sB.2.1 oO eB wB oO).2
 have mA:=dy_Make l1 (0-w) oO oO
 have mB:=dy_Make h2 (0-w) oO oO
 rw[Int.zero_sub,mk_fine2 (m:=l1) (e:=-w) oO oO] at mA
 rw[Int.zero_sub,mk_fine2 (m:=h2) (e:=-w) oO oO] at mB
 exact⟨l1,h1,l2,h2,lg_Ln0 m e n f w l1 h1 l2 h2 _ _ _ _ oO ⟨h.1,h'.1⟩ ⟨by omega,by omega⟩ hA hB (by rw[Int.zero_sub];exact mA) (by rw[Int.zero_sub];exact mB),wA,wB,⟨zA,zB⟩,eA,eB⟩
end Go.Proofs.YtkkbddkpggjgpaaGreatDoor

namespace Go.Proofs.YtkkbddkpggjgpaaGreatDoor
open Go.RowKit
set_option maxRecDepth 100000
set_option maxHeartbeats 2000000
theorem l15_argF (b1:Bool)(l1:List Nat)(e1:Int)(b2:Bool)(l2:List Nat)(e2 m ee n f:Int)(c0:Impl Tryz.prog Amb 12 [(.agg [(.bool b1),(.sl 1 (U l1)),(.int .i64 e1),(.bool b2),(.sl 1 (U l2)),(.int .i64 e2)]),(.int .i64 2),(.int .i64 60)] (.tup [(wV m ee n f),(.bool false)])):Impl Tryz.prog Amb 23 [(.agg [(.bool b1),(.sl 1 (U l1)),(.int .i64 e1),(.bool b2),(.sl 1 (U l2)),(.int .i64 e2)])] (.tup [(wV m ee n f),(.bool false)]):=by
 exact impl_ob hP hAmb Tryz.func23 (by kernel_rfl) (.lits 2<|.call (.tup [(wV m ee n f),(.bool false)])<|.lits 6<|.ret)
  (cast_ob (aI True.intro (aI (c0 ) ((vsub_refl (.tup [(wV m ee n f),(.bool false)]))))) (by kernel_rfl))
theorem l15_argT (b1:Bool)(l1:List Nat)(e1:Int)(b2:Bool)(l2:List Nat)(e2 m ee n f:Int)(c0:Impl Tryz.prog Amb 12 [(.agg [(.bool b1),(.sl 1 (U l1)),(.int .i64 e1),(.bool b2),(.sl 1 (U l2)),(.int .i64 e2)]),(.int .i64 2),(.int .i64 60)] (.tup [(wV m ee n f),(.bool true)]))(c1:L (m).natAbs≤1000∧L (n).natAbs≤1000)(c2:-60000≤ee∧ee≤60000)(c3:-60000≤f∧f≤60000):Impl Tryz.prog Amb 23 [(.agg [(.bool b1),(.sl 1 (U l1)),(.int .i64 e1),(.bool b2),(.sl 1 (U l2)),(.int .i64 e2)])] (.tup [(wV (swM (m.natAbs:Int) ee (n.natAbs:Int) f) (swX (m.natAbs:Int) ee (n.natAbs:Int) f) (swN (m.natAbs:Int) ee (n.natAbs:Int) f) (swF (m.natAbs:Int) ee (n.natAbs:Int) f)),(.bool (decide (0<(swM (m.natAbs:Int) ee (n.natAbs:Int) f))))]):=by
 have lm:=L_abs_neg m
 have ln:=L_abs_neg n
 exact impl_ob hP hAmb Tryz.func23 (by kernel_rfl) (.lits 2<|.call (.tup [(wV m ee n f),(.bool true)])<|.lits 4<|.both (.lits 2<|.call (yV (-m) ee)<|.lits 2<|.both (.lits 2<|.call (yV (-n) f)<|.lits 4<|.call (.int .i64 (cmpD (-m) ee (-n) f))<|.lit<|.both (.lits 7<|.call (.int .i64 (((-n)).sign))<|.lits 3<|.ret) (.lits 3<|.call (.int .i64 (((-m)).sign))<|.lits 3<|.ret)) (.lits 3<|.call (.int .i64 (cmpD (-m) ee n f))<|.lit<|.both (.lits 7<|.call (.int .i64 ((n).sign))<|.lits 3<|.ret) (.lits 3<|.call (.int .i64 (((-m)).sign))<|.lits 3<|.ret))) (.lit<|.both (.lits 2<|.call (yV (-n) f)<|.lits 4<|.call (.int .i64 (cmpD m ee (-n) f))<|.lit<|.both (.lits 7<|.call (.int .i64 (((-n)).sign))<|.lits 3<|.ret) (.lits 3<|.call (.int .i64 ((m).sign))<|.lits 3<|.ret)) (.lits 3<|.call (.int .i64 (cmpD m ee n f))<|.lit<|.both (.lits 7<|.call (.int .i64 ((n).sign))<|.lits 3<|.ret) (.lits 3<|.call (.int .i64 ((m).sign))<|.lits 3<|.ret))))
  (cast_ob (aI True.intro (aI (c0 ) (aI (fun (h1:(decide (m<0))=true)=>have _gh1:=of_decide_eq_true h1;aI (r08_Neg m ee oO) (have f15:=L_abs_neg m;aI (fun (h2:(decide (n<0))=true)=>have _gh2:=of_decide_eq_true h2;aI (r08_Neg n f oO) (have f8:=L_abs_neg n;aI (r08_Cmp (-m) ee (-n) f oO oO oO oO) (have f7:=cmpD_range (-m) ee (-n) f;aI (fun (h3:(iGt (cmpD (-m) ee (-n) f) 0)=true)=>have _gh3:=iGt_t h3;aI (r08_Sign (-n) f oO) (have f4:=sign_range (-n);(argS oO oO oO:vsub (.tup [(wV (-n) f (-m) ee),(.bool (iGt (((-n)).sign) 0))]) (.tup [(wV (swM (m.natAbs:Int) ee (n.natAbs:Int) f) (swX (m.natAbs:Int) ee (n.natAbs:Int) f) (swN (m.natAbs:Int) ee (n.natAbs:Int) f) (swF (m.natAbs:Int) ee (n.natAbs:Int) f)),(.bool (decide (0<(swM (m.natAbs:Int) ee (n.natAbs:Int) f))))])))) (fun (h5:(iGt (cmpD (-m) ee (-n) f) 0)=false)=>have _gh5:=iGt_f h5;aI (r08_Sign (-m) ee oO) (have f6:=sign_range (-m);(argN oO oO oO:vsub (.tup [(wV (-m) ee (-n) f),(.bool (iGt (((-m)).sign) 0))]) (.tup [(wV (swM (m.natAbs:Int) ee (n.natAbs:Int) f) (swX (m.natAbs:Int) ee (n.natAbs:Int) f) (swN (m.natAbs:Int) ee (n.natAbs:Int) f) (swF (m.natAbs:Int) ee (n.natAbs:Int) f)),(.bool (decide (0<(swM (m.natAbs:Int) ee (n.natAbs:Int) f))))]))))))) (fun (h9:(decide (n<0))=false)=>have _gh9:=of_decide_eq_false h9;aI (r08_Cmp (-m) ee n f oO oO oO oO) (have f14:=cmpD_range (-m) ee n f;aI (fun (h10:(iGt (cmpD (-m) ee n f) 0)=true)=>have _gh10:=iGt_t h10;aI (r08_Sign n f oO) (have f11:=sign_range n;(argS oO oO oO:vsub (.tup [(wV n f (-m) ee),(.bool (iGt ((n).sign) 0))]) (.tup [(wV (swM (m.natAbs:Int) ee (n.natAbs:Int) f) (swX (m.natAbs:Int) ee (n.natAbs:Int) f) (swN (m.natAbs:Int) ee (n.natAbs:Int) f) (swF (m.natAbs:Int) ee (n.natAbs:Int) f)),(.bool (decide (0<(swM (m.natAbs:Int) ee (n.natAbs:Int) f))))])))) (fun (h12:(iGt (cmpD (-m) ee n f) 0)=false)=>have _gh12:=iGt_f h12;aI (r08_Sign (-m) ee oO) (have f13:=sign_range (-m);(argN oO oO oO:vsub (.tup [(wV (-m) ee n f),(.bool (iGt (((-m)).sign) 0))]) (.tup [(wV (swM (m.natAbs:Int) ee (n.natAbs:Int) f) (swX (m.natAbs:Int) ee (n.natAbs:Int) f) (swN (m.natAbs:Int) ee (n.natAbs:Int) f) (swF (m.natAbs:Int) ee (n.natAbs:Int) f)),(.bool (decide (0<(swM (m.natAbs:Int) ee (n.natAbs:Int) f))))])))))))) (fun (h16:(decide (m<0))=false)=>have _gh16:=of_decide_eq_false h16;aI (fun (h17:(decide (n<0))=true)=>have _gh17:=of_decide_eq_true h17;aI (r08_Neg n f oO) (have f23:=L_abs_neg n;aI (r08_Cmp m ee (-n) f oO oO oO oO) (have f22:=cmpD_range m ee (-n) f;aI (fun (h18:(iGt (cmpD m ee (-n) f) 0)=true)=>have _gh18:=iGt_t h18;aI (r08_Sign (-n) f oO) (have f19:=sign_range (-n);(argS oO oO oO:vsub (.tup [(wV (-n) f m ee),(.bool (iGt (((-n)).sign) 0))]) (.tup [(wV (swM (m.natAbs:Int) ee (n.natAbs:Int) f) (swX (m.natAbs:Int) ee (n.natAbs:Int) f) (swN (m.natAbs:Int) ee (n.natAbs:Int) f) (swF (m.natAbs:Int) ee (n.natAbs:Int) f)),(.bool (decide (0<(swM (m.natAbs:Int) ee (n.natAbs:Int) f))))])))) (fun (h20:(iGt (cmpD m ee (-n) f) 0)=false)=>have _gh20:=iGt_f h20;aI (r08_Sign m ee oO) (have f21:=sign_range m;(argN oO oO oO:vsub (.tup [(wV m ee (-n) f),(.bool (iGt ((m).sign) 0))]) (.tup [(wV (swM (m.natAbs:Int) ee (n.natAbs:Int) f) (swX (m.natAbs:Int) ee (n.natAbs:Int) f) (swN (m.natAbs:Int) ee (n.natAbs:Int) f) (swF (m.natAbs:Int) ee (n.natAbs:Int) f)),(.bool (decide (0<(swM (m.natAbs:Int) ee (n.natAbs:Int) f))))]))))))) (fun (h24:(decide (n<0))=false)=>have _gh24:=of_decide_eq_false h24;aI (r08_Cmp m ee n f oO oO oO oO) (have f29:=cmpD_range m ee n f;aI (fun (h25:(iGt (cmpD m ee n f) 0)=true)=>have _gh25:=iGt_t h25;aI (r08_Sign n f oO) (have f26:=sign_range n;(argS oO oO oO:vsub (.tup [(wV n f m ee),(.bool (iGt ((n).sign) 0))]) (.tup [(wV (swM (m.natAbs:Int) ee (n.natAbs:Int) f) (swX (m.natAbs:Int) ee (n.natAbs:Int) f) (swN (m.natAbs:Int) ee (n.natAbs:Int) f) (swF (m.natAbs:Int) ee (n.natAbs:Int) f)),(.bool (decide (0<(swM (m.natAbs:Int) ee (n.natAbs:Int) f))))])))) (fun (h27:(iGt (cmpD m ee n f) 0)=false)=>have _gh27:=iGt_f h27;aI (r08_Sign m ee oO) (have f28:=sign_range m;(argN oO oO oO:vsub (.tup [(wV m ee n f),(.bool (iGt ((m).sign) 0))]) (.tup [(wV (swM (m.natAbs:Int) ee (n.natAbs:Int) f) (swX (m.natAbs:Int) ee (n.natAbs:Int) f) (swN (m.natAbs:Int) ee (n.natAbs:Int) f) (swF (m.natAbs:Int) ee (n.natAbs:Int) f)),(.bool (decide (0<(swM (m.natAbs:Int) ee (n.natAbs:Int) f))))])))))))))) (by kernel_rfl))
end Go.Proofs.YtkkbddkpggjgpaaGreatDoor

namespace Go.Proofs.YtkkbddkpggjgpaaGreatDoor
theorem Sm_sub (f g:Nat→Rat):∀ n,Sm (fun i=>f i-g i) n=Sm f n-Sm g n
 | 0=>by show (0:Rat)=0-0;grind
 | n+1=>by
  show Sm (fun i=>f i-g i) n+(f n-g n)=Sm f n+f n-(Sm g n+g n)
  rw[Sm_sub f g n];grind
theorem sq_nn (x:Rat):0≤x*x:=by
 rcases (Rat.le_total:0≤x∨x≤0) with h | h
 ·exact Rat.mul_nonneg h h
 ·have:=Rat.mul_nonneg (show 0≤-x by grind) (show 0≤-x by grind);grind
end Go.Proofs.YtkkbddkpggjgpaaGreatDoor

namespace Go.Proofs.YtkkbddkpggjgpaaGreatDoor
theorem tele {f:Nat→Rat}{c:Rat}:∀ n:Nat,(∀ i,i<n→-c≤f (i+1)-f i∧f (i+1)-f i≤c)→-((n:Rat)*c)≤f n-f 0∧f n-f 0≤(n:Rat)*c
 | 0,_=>by
  have e:((0:Nat):Rat)=0:=rfl
  rw[e];constructor<;>grind
 | n+1,h=>by
  have i:=tele n fun i hi=>h i (by omega)
  have s:=h n (by omega)
  have e:((n+1:Nat):Rat)=(n:Rat)+1:=by exact_mod_cast rfl
  rw[e,Rat.add_mul];constructor<;>grind
def pe:Nat→Rat
 | 0=>0
 | m+1=>(3 / 5)*pe m+(m:Rat)*(3 / 5)^(m-1)
theorem pw_abs {u:Rat}(h1:-(3 / 5)≤u)(h2:u≤3 / 5):∀ m:Nat,-((3 / 5)^m:Rat)≤u^m∧u^m≤(3 / 5)^m
 | 0=>by rw[Rat.pow_zero,Rat.pow_zero];constructor<;>grind
 | m+1=>by
  have i:=pw_abs h1 h2 m
  rw[Rat.pow_succ,Rat.pow_succ]
  exact mul_bd i.1 i.2 h1 h2
theorem nn_cast (m:Nat):(0:Rat)≤(m:Rat):=by exact_mod_cast Nat.zero_le m
theorem tan_pow {u v:Rat}(u1:-(3 / 5)≤u)(u2:u≤3 / 5)(v1:-(3 / 5)≤v)(v2:v≤3 / 5):∀ m:Nat,
  -(pe m*((v-u)*(v-u)))≤v^m-u^m-(m:Rat)*u^(m-1)*(v-u)∧v^m-u^m-(m:Rat)*u^(m-1)*(v-u)≤pe m*((v-u)*(v-u))
 | 0=>by
  have e:((0:Nat):Rat)=0:=rfl
  have p:pe 0=0:=rfl
  rw[Rat.pow_zero,Rat.pow_zero,e,p];constructor<;>grind
 | m+1=>by
  have i:=tan_pow u1 u2 v1 v2 m
  have dd:=sq_nn (v-u)
  have e1:((m+1:Nat):Rat)=(m:Rat)+1:=by exact_mod_cast rfl
  have um:(m:Rat)*u^m=(m:Rat)*(u^(m-1)*u):=by
   rcases m with _ | m
   ·have e:((0:Nat):Rat)=0:=rfl
    rw[e,Rat.zero_mul,Rat.zero_mul]
   ·rw[Nat.add_sub_cancel,← Rat.pow_succ]
  have p:pe (m+1)=(3 / 5)*pe m+(m:Rat)*(3 / 5)^(m-1):=rfl
  have key:v^(m+1)-u^(m+1)-((m+1:Nat):Rat)*u^(m+1-1)*(v-u)=v*(v^m-u^m-(m:Rat)*u^(m-1)*(v-u))+(m:Rat)*u^(m-1)*((v-u)*(v-u)):=by
   rw[Rat.pow_succ,Rat.pow_succ,Nat.add_sub_cancel,e1]
   have:((m:Rat)+1)*u^m*(v-u)=(m:Rat)*u^m*(v-u)+u^m*(v-u):=by grind
   rw[this,um]
   grind
  rw[key,p]
  have a:=mul_bd v1 v2 i.1 i.2
  have b:=pw_abs u1 u2 (m-1)
  have c:=mul_bd (p:=(m:Rat)*((v-u)*(v-u))) (P:=(m:Rat)*((v-u)*(v-u))) (by have:=Rat.mul_nonneg (nn_cast m) dd;grind) Rat.le_refl b.1 b.2
  have f1:((3 / 5)*pe m+(m:Rat)*(3 / 5)^(m-1))*((v-u)*(v-u))=(3 / 5)*(pe m*((v-u)*(v-u)))+(m:Rat)*((v-u)*(v-u))*(3 / 5)^(m-1):=by grind
  have f2:(m:Rat)*u^(m-1)*((v-u)*(v-u))=(m:Rat)*((v-u)*(v-u))*u^(m-1):=by grind
  rw[f1,f2]
  constructor<;>grind
theorem pe_bd:∀ m:Nat,(m:Rat)*(3 / 5)^(m-1)≤5*(4 / 5)^m∧pe m≤25*(4 / 5)^m∧(3 / 5:Rat)^m≤(4 / 5)^m∧(0:Rat)<(3 / 5)^m
 | 0=>by
  have e:((0:Nat):Rat)=0:=rfl
  have p:pe 0=0:=rfl
  rw[Rat.pow_zero,Rat.pow_zero,e,p];refine⟨?_,?_,?_,?_⟩<;>grind
 | m+1=>by
  obtain⟨a,b,c,d⟩:=pe_bd m
  have e1:((m+1:Nat):Rat)=(m:Rat)+1:=by exact_mod_cast rfl
  have um:(m:Rat)*(3 / 5:Rat)^m=(m:Rat)*((3 / 5)^(m-1)*(3 / 5)):=by
   rcases m with _ | m
   ·have e:((0:Nat):Rat)=0:=rfl
    rw[e,Rat.zero_mul,Rat.zero_mul]
   ·rw[Nat.add_sub_cancel,← Rat.pow_succ]
  have p:pe (m+1)=(3 / 5)*pe m+(m:Rat)*(3 / 5)^(m-1):=rfl
  rw[Rat.pow_succ,Rat.pow_succ,Nat.add_sub_cancel,e1,p]
  refine⟨?_,?_,?_,?_⟩
  ·rw[Rat.add_mul,um];grind
  ·grind
  ·grind
  ·grind
theorem two_pow_sq (x:Rat)(i:Nat):x^(2*i+1)=(x*x)^i*x:=by
 induction i with
 | zero=>rw[Rat.pow_zero];show x^1=_;rw[Rat.pow_succ,Rat.pow_zero]
 | succ i ih =>
  rw[show 2*(i+1)+1=2*i+1+1+1 by omega,Rat.pow_succ,Rat.pow_succ,ih,Rat.pow_succ];grind
theorem two_pow_ev (x:Rat)(i:Nat):x^(2*i)=(x*x)^i:=by
 induction i with
 | zero=>rw[Rat.pow_zero];exact (Rat.pow_zero _).symm
 | succ i ih =>
  rw[show 2*(i+1)=2*i+1+1 by omega,Rat.pow_succ,Rat.pow_succ,ih,Rat.pow_succ];grind
theorem PL_Sm (z:Rat):∀ K,PL z K=Sm (fun i=>z^(2*i+1) / (odn i:Rat)) K
 | 0=>rfl
 | K+1=>by
  have i:=PL_Sm z K
  show PL z K+z^(2*K+1) / (odn K:Rat)=Sm _ K+_
  rw[i]
def DS (u:Rat)(K:Nat):Rat:=Sm (fun i=>u^(2*i)) K
theorem DS_eq (u:Rat):∀ K,DS u K*(1-u*u)=1-(u*u)^K
 | 0=>by
  show (0:Rat)*_=_
  rw[Rat.pow_zero];grind
 | K+1=>by
  have i:=DS_eq u K
  have e:DS u (K+1)=DS u K+u^(2*K):=rfl
  rw[e,two_pow_ev,Rat.add_mul,i,Rat.pow_succ];grind
def GS:Nat→Rat:=Sm (fun i=>25*(4 / 5)^(2*i+1))
theorem GS_le (K:Nat):GS K≤56:=by
 have key:∀ K,GS K+56*(4 / 5*(4 / 5):Rat)^K≤56∧(0:Rat)<(4 / 5*(4 / 5))^K:=by
  intro K
  induction K with
  | zero =>
   have e:GS 0=0:=rfl
   rw[e,Rat.pow_zero];constructor<;>grind
  | succ K ih =>
   have e:GS (K+1)=GS K+25*(4 / 5)^(2*K+1):=rfl
   rw[e,two_pow_sq,Rat.pow_succ]
   constructor<;>grind
 have:=key K
 grind
theorem PL_tan {u v:Rat}(u1:-(3 / 5)≤u)(u2:u≤3 / 5)(v1:-(3 / 5)≤v)(v2:v≤3 / 5)(K:Nat) :
  -(56*((v-u)*(v-u)))≤PL v K-PL u K-DS u K*(v-u)∧PL v K-PL u K-DS u K*(v-u)≤56*((v-u)*(v-u)):=by
 have dd:=sq_nn (v-u)
 have e:PL v K-PL u K-DS u K*(v-u)=Sm (fun i=>v^(2*i+1) / (odn i:Rat)-u^(2*i+1) / (odn i:Rat)-u^(2*i)*(v-u)) K:=by
  have a:=Sm_sub (fun i=>v^(2*i+1) / (odn i:Rat)-u^(2*i+1) / (odn i:Rat)) (fun i=>u^(2*i)*(v-u)) K
  have b:=Sm_sub (fun i=>v^(2*i+1) / (odn i:Rat)) (fun i=>u^(2*i+1) / (odn i:Rat)) K
  have c:=Sm_mul (fun i=>u^(2*i)) (v-u) K
  rw[a,b,← c,PL_Sm,PL_Sm];rfl
 have bd:=Sm_bd (n:=K) (f:=fun i=>v^(2*i+1) / (odn i:Rat)-u^(2*i+1) / (odn i:Rat)-u^(2*i)*(v-u)) (g:=fun i=>25*(4 / 5)^(2*i+1)*((v-u)*(v-u))) (fun i _=>by
  have t:=tan_pow u1 u2 v1 v2 (2*i+1)
  have p:=(pe_bd (2*i+1)).2.1
  have n0:(0:Rat)<(odn i:Rat):=Rat.intCast_pos.2 (odn_pos i)
  have n1:(1:Rat)≤(odn i:Rat):=Rat.intCast_le_intCast.2 (show (1:Int)≤odn i from odn_pos i)
  have c:((2*i+1:Nat):Rat)=(odn i:Rat):=by unfold odn;exact_mod_cast rfl
  have q:=Rat.mul_le_mul_of_nonneg_right p dd
  rw[c,Nat.add_sub_cancel] at t
  have i0:=Rat.inv_pos.2 n0
  have ie:=inv_one n0
  have i1:(odn i:Rat)⁻¹≤1:=by
   have:=Rat.mul_le_mul_of_nonneg_right n1 (Rat.le_of_lt i0)
   rw[Rat.one_mul,Rat.mul_comm,ie] at this
   exact this
  have f:v^(2*i+1) / (odn i:Rat)-u^(2*i+1) / (odn i:Rat)-u^(2*i)*(v-u)=(v^(2*i+1)-u^(2*i+1)-(odn i:Rat)*u^(2*i)*(v-u))*(odn i:Rat)⁻¹:=by
   rw[Rat.div_def,Rat.div_def]
   generalize (odn i:Rat)⁻¹=w at *
   generalize (odn i:Rat)=o at *
   generalize u^(2*i)=x at *
   have:o*x*(v-u)*w=x*(v-u)*(w*o):=by grind
   have:(v^(2*i+1)-u^(2*i+1)-o*x*(v-u))*w=v^(2*i+1)*w-u^(2*i+1)*w-x*(v-u)*(w*o):=by grind
   rw[this,ie,Rat.mul_one]
  rw[f]
  generalize v^(2*i+1)-u^(2*i+1)-(odn i:Rat)*u^(2*i)*(v-u)=x at *
  generalize 25*(4 / 5)^(2*i+1)*((v-u)*(v-u))=y at *
  have h1:-y≤x:=by grind
  have h2:x≤y:=by grind
  have m:=mul_bd (p:=(odn i:Rat)⁻¹) (P:=1) (by grind) i1 h1 h2
  rw[Rat.mul_comm x]
  constructor<;>grind)
 rw[← e] at bd
 have g:=GS_le K
 have gm:=Rat.mul_le_mul_of_nonneg_right g dd
 have ge:GS K*((v-u)*(v-u))=Sm (fun i=>25*(4 / 5)^(2*i+1)*((v-u)*(v-u))) K:=Sm_mul _ _ K
 rw[← ge] at bd
 constructor<;>grind
end Go.Proofs.YtkkbddkpggjgpaaGreatDoor

namespace Go.Proofs.YtkkbddkpggjgpaaGreatDoor
theorem EP_lin {d a:Rat}(h1:-a≤d)(h2:d≤a)(a1:2*a≤3){K:Nat}(hK:2≤K):-(a*a)≤EP d K-1-d∧EP d K-1-d≤a*a:=by
 obtain⟨k,rfl⟩:∃ k,K=2+k:=⟨K-2,by omega⟩
 have a0:0≤a:=by grind
 have g:=EP_gap h1 h2 2 k
 have t:=EP_tail a0 (n:=2) (by show 2*a≤((3:Int):Rat);exact a1) (2+k)
 have z:∀ x:Rat,EP x 2=1+x:=fun x=>by
  have t':=tE_mul x 0
  have z:tE x 0=1:=rfl
  have e2:EP x 2=0+tE x 0+tE x 1:=rfl
  have t':tE x 0*x=1*tE x 1:=t'
  rw[z] at t' e2
  rw[e2]
  clear z e2 g t
  grind
 have e3:EP a (2+1)=EP a 2+tE a 2:=rfl
 have t2:=tE_mul a 1
 have t1:=tE_mul a 0
 have t2:tE a 1*a=2*tE a 2:=t2
 have t1:tE a 0*a=1*tE a 1:=t1
 have z0:tE a 0=1:=rfl
 rw[z0,Rat.one_mul,Rat.one_mul] at t1
 rw[← t1] at t2
 rw[e3] at t
 rw[z a] at t g
 rw[z d] at g
 generalize EP a (2+k)=ea at *
 generalize EP d (2+k)=ed at *
 generalize tE a 2=w at *
 generalize a*a=aa at *
 constructor<;>grind
theorem PLu_one {u:Rat}(u1:-(3 / 5)≤u)(u2:u≤3 / 5)(K:Nat):-1≤PL u K∧PL u K≤1:=by
 have key:∀ K,(-(1-(3 / 5*(3 / 5):Rat)^K)≤PL u K∧PL u K≤1-(3 / 5*(3 / 5):Rat)^K)∧(0:Rat)<(3 / 5*(3 / 5))^K:=by
  intro K
  induction K with
  | zero =>
   have e:PL u 0=0:=rfl
   rw[e,Rat.pow_zero];refine⟨⟨?_,?_⟩,?_⟩<;>grind
  | succ K ih =>
   have e:PL u (K+1)=PL u K+u^(2*K+1) / (odn K:Rat):=rfl
   have n0:(0:Rat)<(odn K:Rat):=Rat.intCast_pos.2 (odn_pos K)
   have n1:(1:Rat)≤(odn K:Rat):=Rat.intCast_le_intCast.2 (show (1:Int)≤odn K from odn_pos K)
   have i0:=Rat.inv_pos.2 n0
   have ie:=inv_one n0
   have i1:(odn K:Rat)⁻¹≤1:=by
    have:=Rat.mul_le_mul_of_nonneg_right n1 (Rat.le_of_lt i0)
    rw[Rat.one_mul,Rat.mul_comm,ie] at this
    exact this
   have p:=pw_abs u1 u2 (2*K+1)
   rw[two_pow_sq (3 / 5)] at p
   have m:=mul_bd (p:=(odn K:Rat)⁻¹) (P:=1) (by grind) i1 p.1 p.2
   rw[e,Rat.div_def (u^(2*K+1)),Rat.mul_comm (u^(2*K+1)),Rat.pow_succ]
   refine⟨⟨?_,?_⟩,?_⟩<;>grind
 have:=key K
 constructor<;>grind
theorem step_core {W D t h e r p θ a X d2:Rat}(hW:W=1-t*t)(W0:16 / 25≤W)(W1:W≤1)(hD:D*W=1-p)(p0:0≤p)(p1:p≤θ)(ha:0≤a)(a1:200*a≤1)(h1:-a≤h)(h2:h≤a)(t1:-(3 / 5)≤t)(t2:t≤3 / 5)
  (e1:-(56*(a*a))≤e) (e2:e≤56*(a*a)) (hd:d2=2*(D*h+e)) (r1:-(16*(a*a))≤r) (r2:r≤16*(a*a)) (d1:-(4*a)≤d2) (d3:d2≤4*a) (hX:X=1+d2+r) :
  -(200*(a*a)+2*(θ*a))≤X*((1-(t+h))*(1+t))-(1+(t+h))*(1-t)∧X*((1-(t+h))*(1+t))-(1+(t+h))*(1-t)≤200*(a*a)+2*(θ*a):=by
 have key:X*((1-(t+h))*(1+t))-(1+(t+h))*(1-t)=-(2*(p*h))+2*(W*e)+W*r-d2*(h*(1+t))-r*(h*(1+t)):=by
  have s1:D*h*W=(1-p)*h:=by rw[← hD];grind
  have s2:X*((1-(t+h))*(1+t))-(1+(t+h))*(1-t)=d2*W-2*h+W*r-d2*(h*(1+t))-r*(h*(1+t)):=by
   rw[hX,hW];grind
  have s3:d2*W=2*(D*h*W)+2*(W*e):=by rw[hd];grind
  rw[s2,s3,s1];grind
 have aa:0≤a*a:=Rat.mul_nonneg ha ha
 have m1:=mul_bd (p:=p) (P:=θ) (by grind) p1 h1 h2
 have m2:=mul_bd (p:=W) (P:=1) (by grind) W1 e1 e2
 have m3:=mul_bd (p:=W) (P:=1) (by grind) W1 r1 r2
 have n:=mul_bd h1 h2 (show -(8 / 5:Rat)≤1+t by grind) (show 1+t≤8 / 5 by grind)
 have m4:=mul_bd d1 d3 n.1 n.2
 have m5:=mul_bd r1 r2 n.1 n.2
 have q:=Rat.mul_le_mul_of_nonneg_left a1 aa
 have f4:4*a*(a*(8 / 5))=32 / 5*(a*a):=by grind
 have f5:16*(a*a)*(a*(8 / 5))=128 / 5 / 200*(a*a*(200*a)):=by grind
 rw[f4] at m4
 rw[f5] at m5
 rw[key]
 generalize a*a=A at *
 generalize A*(200*a)=B at *
 generalize d2*(h*(1+t))=x1 at *
 generalize r*(h*(1+t))=x2 at *
 generalize p*h=x3 at *
 generalize W*e=x4 at *
 generalize W*r=x5 at *
 generalize θ*a=x6 at *
 clear key f4 f5 n hX hd hD hW e1 e2 d1 d3
 constructor<;>grind
theorem xp_step {t h X a:Rat}{K0:Nat}(t1:-(3 / 5)≤t)(t2:t≤3 / 5)(v1:-(3 / 5)≤t+h)(v2:t+h≤3 / 5)(ha:0≤a)(h1:-a≤h)(h2:h≤a)(a1:200*a≤1)
  {K:Nat} (hK:2≤K) (hX:X=EP (2*(PL (t+h) K0-PL t K0)) K) :
  -(200*(a*a)+2*((9 / 25)^K0*a))≤X*((1-(t+h))*(1+t))-(1+(t+h))*(1-t)∧X*((1-(t+h))*(1+t))-(1+(t+h))*(1-t)≤200*(a*a)+2*((9 / 25)^K0*a):=by
 have tan:=PL_tan t1 t2 v1 v2 K0
 have e0:t+h-t=h:=by grind
 rw[e0] at tan
 have hb:=mul_bd h1 h2 h1 h2
 have ds:=DS_eq t K0
 have tt:=mul_bd t1 t2 t1 t2
 have tp:=sq_nn t
 have pw:(0:Rat)≤(t*t)^K0∧(t*t)^K0≤(9 / 25)^K0:=⟨Rat.pow_nonneg tp,pow_monox tp (by grind) K0⟩
 have D0:0≤DS t K0:=Sm_nonneg (fun i=>by rw[two_pow_ev];exact Rat.pow_nonneg tp) K0
 have W0:16 / 25≤1-t*t:=by grind
 have D1:DS t K0≤25 / 16:=by
  have m:=Rat.mul_le_mul_of_nonneg_left W0 D0
  grind
 have aa:=Rat.mul_le_mul_of_nonneg_left a1 ha
 have Dh:=mul_bd (p:=DS t K0) (P:=25 / 16) (by grind) D1 h1 h2
 have x1:-(4*a)≤2*(PL (t+h) K0-PL t K0):=by grind
 have x2:2*(PL (t+h) K0-PL t K0)≤4*a:=by grind
 have lin:=EP_lin x1 x2 (by grind) hK
 rw[← hX] at lin
 refine step_core (W:=1-t*t) (D:=DS t K0) (e:=PL (t+h) K0-PL t K0-DS t K0*h) (r:=X-1-2*(PL (t+h) K0-PL t K0)) (d2:=2*(PL (t+h) K0-PL t K0)) rfl W0 (by grind) ds pw.1 pw.2 ha a1 h1 h2 t1 t2 ?_ ?_ (by grind) ?_ ?_ x1 x2 (by grind)
 ·grind
 ·grind
 ·grind
 ·grind
theorem pw_inv:∀ K:Nat,((K:Rat)+1)*(9 / 25)^K≤1∧(0:Rat)<(9 / 25)^K∧(9 / 25:Rat)^K≤1
 | 0=>by
  have e:((0:Nat):Rat)=0:=rfl
  rw[e,Rat.pow_zero];refine⟨?_,?_,?_⟩<;>grind
 | K+1=>by
  obtain⟨a,b,c⟩:=pw_inv K
  have e1:((K+1:Nat):Rat)=(K:Rat)+1:=by exact_mod_cast rfl
  rw[e1,Rat.pow_succ]
  refine⟨?_,?_,?_⟩<;>grind
theorem pw_small {e:Rat}(he:0<e):∃ N,∀ K:Nat,N≤K→(9 / 25:Rat)^K≤e:=by
 obtain⟨n,hn⟩:=rat_nat e⁻¹
 have i0:=Rat.inv_pos.2 he
 have ie:=inv_one he
 refine⟨n,fun K hK=>?_⟩
 have h:=pw_inv K
 have c:(n:Rat)≤(K:Rat):=by exact_mod_cast hK
 have m:=Rat.mul_le_mul_of_nonneg_right (show e⁻¹≤(K:Rat)+1 by grind) (Rat.le_of_lt h.2.1)
 have m2:=Rat.mul_le_mul_of_nonneg_left (show e⁻¹*(9 / 25)^K≤1 by grind) (Rat.le_of_lt he)
 have:e*(e⁻¹*(9 / 25)^K)=e⁻¹*e*(9 / 25)^K:=by grind
 rw[this,ie] at m2
 grind
theorem PL_zero (K:Nat):PL 0 K=0:=by
 have:=PL_neg 0 K
 have z:-(0:Rat)=0:=by grind
 rw[z] at this
 grind
theorem EP8 {x:Rat}(h1:-2≤x)(h2:x≤2)(K:Nat):-8≤EP x K∧EP x K≤8:=by
 have b:=EP_bd h1 h2 K
 have t:=EP_tail (x:=2) (by decide) (n:=8) (of_decide_eq_true (by kernel_rfl)) K
 have n:EP 2 (8+1)+tE 2 8≤8:=of_decide_eq_true (by kernel_rfl)
 constructor<;>grind
theorem quo_step {E E' X R R' v v' p p' b η g:Rat}(hv:v*p=1)(hv':v'*p'=1)(v0:0≤v)(v2:v≤2)(w0:0≤v')(w2:v'≤2)(E1:-8≤E)(E2:E≤8)(n1:-η≤E'-E*X)(n2:E'-E*X≤η)
  (b0:0≤b) (b1:b≤3 / 2) (hg1:-g≤X*(b*p)-p'*R) (hg2:X*(b*p)-p'*R≤g) (hR:R'=b):-(3*η+32*g)≤E'*(R'*v')-E*(R*v)∧E'*(R'*v')-E*(R*v)≤3*η+32*g:=by
 have key:E'*(R'*v')-E*(R*v)=(E'-E*X)*(b*v')+E*(v*v')*(X*(b*p)-p'*R):=by
  rw[hR]
  have a:E*(v*v')*(X*(b*p))=E*X*b*v'*(v*p):=by grind
  have c:E*(v*v')*(p'*R)=E*R*v*(v'*p'):=by grind
  have d:E*(v*v')*(X*(b*p)-p'*R)=E*(v*v')*(X*(b*p))-E*(v*v')*(p'*R):=by grind
  rw[d,a,c,hv,hv'];grind
 have m1:=mul_bd (p:=b) (P:=3 / 2) (by grind) b1 (x:=v') (a:=2) (by grind) w2
 have m2:=mul_bd n1 n2 m1.1 m1.2
 have m3:=mul_bd (p:=v) (P:=2) (by grind) v2 (x:=v') (a:=2) (by grind) w2
 have m4:=mul_bd E1 E2 m3.1 m3.2
 have m5:=mul_bd m4.1 m4.2 hg1 hg2
 rw[key]
 have f1:η*(3 / 2*2)=3*η:=by grind
 have f2:8*(2*2)*g=32*g:=by grind
 rw[f1] at m2
 rw[f2] at m5
 generalize (E'-E*X)*(b*v')=x at *
 generalize E*(v*v')*(X*(b*p)-p'*R)=y at *
 constructor<;>grind
theorem ln_exp {z:Rat}(z1:-(1 / 2)≤z)(z2:z≤1 / 2){e:Rat}(he:0<e):∃ N,∀ K0,N≤K0→∃ M,∀ K,M≤K→-e≤EP (2*PL z K0) K*(1-z)-(1+z)∧EP (2*PL z K0) K*(1-z)-(1+z)≤e:=by
 obtain⟨n0,hn0⟩:=rat_nat (30000*e⁻¹)
 have ie0:=Rat.inv_pos.2 he
 have iee:=inv_one he
 -- the steps
 obtain⟨n,hn,hn2⟩:∃ n:Nat,200≤n∧n0≤n:=⟨200+n0,by omega,by omega⟩
 have cn:(n0:Rat)≤(n:Rat):=by exact_mod_cast hn2
 have c200:(200:Rat)≤(n:Rat):=by exact_mod_cast hn
 have np:(0:Rat)<(n:Rat):=by grind
 have w0:=Rat.inv_pos.2 np
 have wn:=inv_one np
 obtain⟨w,hw⟩:∃ w,w=(n:Rat)⁻¹:=⟨_,rfl⟩
 rw[← hw] at w0 wn
 have a1:200*w≤1:=by
  have:=Rat.mul_le_mul_of_nonneg_left c200 (Rat.le_of_lt w0)
  rw[wn] at this;grind
 have we:30000*w≤e:=by
  have m:=Rat.mul_le_mul_of_nonneg_left (show 30000*e⁻¹≤(n:Rat) by grind) (Rat.le_of_lt w0)
  rw[wn] at m
  have m2:=Rat.mul_le_mul_of_nonneg_right m (Rat.le_of_lt he)
  have:w*(30000*e⁻¹)*e=30000*w*(e⁻¹*e):=by grind
  rw[this,iee] at m2
  grind
 obtain⟨N,hN⟩:=pw_small (e:=e*(1 / 400)) (by grind)
 refine⟨N,fun K0 hK0=>?_⟩
 have hθ:=hN K0 hK0
 have th0:=(pw_inv K0).2.1
 generalize hth:(9 / 25:Rat)^K0=θ at *
 -- the points
 have pt:∀ i:Nat,i≤n→-(1 / 2)≤z*((i:Rat)*w)∧z*((i:Rat)*w)≤1 / 2:=fun i hi=>by
  have c:(i:Rat)≤(n:Rat):=by exact_mod_cast hi
  have c0:=nn_cast i
  have m:=Rat.mul_le_mul_of_nonneg_right c (Rat.le_of_lt w0)
  have m0:=Rat.mul_nonneg c0 (Rat.le_of_lt w0)
  have q:=mul_bd z1 z2 (show -1≤(i:Rat)*w by grind) (show (i:Rat)*w≤1 by grind)
  constructor<;>grind
 have near:∃ M,∀ K,M≤K→∀ i,i<n→-(w*w)≤EP (2*PL (z*(((i+1:Nat):Rat)*w)) K0) K-EP (2*PL (z*((i:Rat)*w)) K0) K*EP (2*(PL (z*(((i+1:Nat):Rat)*w)) K0-PL (z*((i:Rat)*w)) K0)) K ∧
   EP (2*PL (z*(((i+1:Nat):Rat)*w)) K0) K-EP (2*PL (z*((i:Rat)*w)) K0) K*EP (2*(PL (z*(((i+1:Nat):Rat)*w)) K0-PL (z*((i:Rat)*w)) K0)) K≤w*w:=by
  have ww:=Rat.mul_pos w0 w0
  have one:∀ i:Nat,∃ M,∀ K,M≤K→-(w*w)≤EP (2*PL (z*(((i+1:Nat):Rat)*w)) K0) K-EP (2*PL (z*((i:Rat)*w)) K0) K*EP (2*(PL (z*(((i+1:Nat):Rat)*w)) K0-PL (z*((i:Rat)*w)) K0)) K ∧
   EP (2*PL (z*(((i+1:Nat):Rat)*w)) K0) K-EP (2*PL (z*((i:Rat)*w)) K0) K*EP (2*(PL (z*(((i+1:Nat):Rat)*w)) K0-PL (z*((i:Rat)*w)) K0)) K≤w*w:=fun i=>by
   generalize PL (z*(((i+1:Nat):Rat)*w)) K0=y
   generalize PL (z*((i:Rat)*w)) K0=x
   obtain⟨M1,h1⟩:=(EP_add (2*x) (2*(y-x))).1 (w*w) ww
   obtain⟨M2,h2⟩:=(EP_add (2*x) (2*(y-x))).2 (w*w) ww
   have ey:2*x+2*(y-x)=2*y:=by grind
   rw[ey] at h1 h2
   refine⟨M1+M2,fun K hK=>?_⟩
   have h1:=h1 K (by omega)
   have h2:EP (2*x) K*EP (2*(y-x)) K≤EP (2*y) K+w*w:=h2 K (by omega)
   have h1:EP (2*y) K≤EP (2*x) K*EP (2*(y-x)) K+w*w:=h1
   constructor<;>grind
  have all:∀ m:Nat,∃ M,∀ K,M≤K→∀ i,i<m→-(w*w)≤EP (2*PL (z*(((i+1:Nat):Rat)*w)) K0) K-EP (2*PL (z*((i:Rat)*w)) K0) K*EP (2*(PL (z*(((i+1:Nat):Rat)*w)) K0-PL (z*((i:Rat)*w)) K0)) K ∧
   EP (2*PL (z*(((i+1:Nat):Rat)*w)) K0) K-EP (2*PL (z*((i:Rat)*w)) K0) K*EP (2*(PL (z*(((i+1:Nat):Rat)*w)) K0-PL (z*((i:Rat)*w)) K0)) K≤w*w:=fun m=>by
   induction m with
   | zero=>exact⟨0,fun K _ i hi=>absurd hi (by omega)⟩
   | succ m ih =>
    obtain⟨M,h⟩:=ih
    obtain⟨M',h'⟩:=one m
    refine⟨M+M',fun K hK i hi=>?_⟩
    by_cases q:i=m
    ·rw[q];exact h' K (by omega)
    ·exact h K (by omega) i (by omega)
  exact all n
 obtain⟨M,near⟩:=near
 refine⟨M+2,fun K hK=>?_⟩
 have near:=near K (by omega)
 have te:=tele (f:=fun i=>EP (2*PL (z*((i:Rat)*w)) K0) K*((1-z*((i:Rat)*w))*(1+z*((i:Rat)*w))⁻¹)) (c:=3*(w*w)+32*(200*(w*w)+2*(θ*w))) n fun i hi=>by
  have p1:=pt i (by omega)
  have p2:=pt (i+1) (by omega)
  have e1:((i+1:Nat):Rat)=(i:Rat)+1:=by exact_mod_cast rfl
  have et:z*(((i+1:Nat):Rat)*w)=z*((i:Rat)*w)+z*w:=by rw[e1];grind
  have nr:=near i hi
  show -(3*(w*w)+32*(200*(w*w)+2*(θ*w)))≤EP (2*PL (z*(((i+1:Nat):Rat)*w)) K0) K*((1-z*(((i+1:Nat):Rat)*w))*(1+z*(((i+1:Nat):Rat)*w))⁻¹)-EP (2*PL (z*((i:Rat)*w)) K0) K*((1-z*((i:Rat)*w))*(1+z*((i:Rat)*w))⁻¹)∧_≤_
  rw[et] at p2 nr ⊢
  have hz:=mul_bd z1 z2 (show -w≤w by grind) (Rat.le_refl (a:=w))
  generalize z*((i:Rat)*w)=t at *
  generalize hh:z*w=h at *
  have st:=xp_step (t:=t) (h:=h) (a:=w) (K0:=K0) (by grind) (by grind) (by grind) (by grind) (Rat.le_of_lt w0) (by grind) (by grind) a1 (K:=K) (by omega) rfl
  rw[hth] at st
  have i1:=inv_one (show 0<1+t by grind)
  have i2:=inv_one (show 0<1+(t+h) by grind)
  have j1:=Rat.inv_pos.2 (show 0<1+t by grind)
  have j2:=Rat.inv_pos.2 (show 0<1+(t+h) by grind)
  have le2:∀ x y:Rat,x*y=1→1 / 2≤y→0<x→x≤2:=fun x y a b c=>by
   have:=Rat.mul_le_mul_of_nonneg_left b (Rat.le_of_lt c)
   grind
  have o1:=PLu_one (u:=t) (by grind) (by grind) K0
  have b8:=EP8 (x:=2*PL t K0) (by grind) (by grind) K
  exact quo_step (v:=(1+t)⁻¹) (p:=1+t) (v':=(1+(t+h))⁻¹) (p':=1+(t+h)) (b:=1-(t+h)) (R:=1-t) i1 i2 (Rat.le_of_lt j1) (le2 _ _ i1 (by grind) j1) (Rat.le_of_lt j2) (le2 _ _ i2 (by grind) j2) b8.1 b8.2 nr.1 nr.2 (by grind) (by grind) st.1 st.2 rfl
 have z0:((0:Nat):Rat)=0:=rfl
 have q0:EP (2*PL (z*(((0:Nat):Rat)*w)) K0) K*((1-z*(((0:Nat):Rat)*w))*(1+z*(((0:Nat):Rat)*w))⁻¹)=1:=by
  have e:z*(((0:Nat):Rat)*w)=0:=by rw[z0,Rat.zero_mul,Rat.mul_zero]
  rw[e,PL_zero,Rat.mul_zero,EP_zero' K (by omega)]
  exact of_decide_eq_true (by kernel_rfl)
 have qn:z*((n:Rat)*w)=z:=by
  have:(n:Rat)*w=1:=by rw[Rat.mul_comm];exact wn
  rw[this,Rat.mul_one]
 have te:-((n:Rat)*(3*(w*w)+32*(200*(w*w)+2*(θ*w))))≤EP (2*PL (z*((n:Rat)*w)) K0) K*((1-z*((n:Rat)*w))*(1+z*((n:Rat)*w))⁻¹)-EP (2*PL (z*(((0:Nat):Rat)*w)) K0) K*((1-z*(((0:Nat):Rat)*w))*(1+z*(((0:Nat):Rat)*w))⁻¹)∧EP (2*PL (z*((n:Rat)*w)) K0) K*((1-z*((n:Rat)*w))*(1+z*((n:Rat)*w))⁻¹)-EP (2*PL (z*(((0:Nat):Rat)*w)) K0) K*((1-z*(((0:Nat):Rat)*w))*(1+z*(((0:Nat):Rat)*w))⁻¹)≤(n:Rat)*(3*(w*w)+32*(200*(w*w)+2*(θ*w))):=te
 rw[q0,qn] at te
 have i1:=inv_one (show 0<1+z by grind)
 have nw:(n:Rat)*w=1:=by rw[Rat.mul_comm];exact wn
 have nc:(n:Rat)*(3*(w*w)+32*(200*(w*w)+2*(θ*w)))=6403*w+64*θ:=by
  have:(n:Rat)*(3*(w*w)+32*(200*(w*w)+2*(θ*w)))=(n:Rat)*w*(6403*w+64*θ):=by grind
  rw[this,nw,Rat.one_mul]
 rw[nc] at te
 have f:(EP (2*PL z K0) K*((1-z)*(1+z)⁻¹)-1)*(1+z)=EP (2*PL z K0) K*(1-z)-(1+z):=by
  generalize EP (2*PL z K0) K=E
  generalize (1+z)⁻¹=v at *
  have:(E*((1-z)*v)-1)*(1+z)=E*(1-z)*(v*(1+z))-(1+z):=by grind
  rw[this,i1,Rat.mul_one]
 have m:=mul_bd te.1 te.2 (show -(3 / 2:Rat)≤1+z by grind) (show 1+z≤3 / 2 by grind)
 rw[f] at m
 clear f te near i1 q0 qn nc pt
 generalize EP (2*PL z K0) K*(1-z)-(1+z)=x at *
 constructor<;>grind
end Go.Proofs.YtkkbddkpggjgpaaGreatDoor

namespace Go.Proofs.YtkkbddkpggjgpaaGreatDoor
theorem ln_expM {M:Rat}(h1:3≤4*M)(h2:2*M<3){e:Rat}(he:0<e):∃ N,∀ K0,N≤K0→∃ P,∀ K,P≤K→-e≤EP (2*PL ((M-1) / (M+1)) K0) K-M∧EP (2*PL ((M-1) / (M+1)) K0) K-M≤e:=by
 have hp:(0:Rat)<M+1:=by grind
 have dz:=Rat.div_mul_cancel (a:=M-1) (b:=M+1) (by grind)
 generalize hz:(M-1) / (M+1)=z at *
 have z1:-(1 / 2)≤z:=by
  refine Rat.le_of_mul_le_mul_right (c:=M+1) ?_ hp
  rw[dz];grind
 have z2:z≤1 / 2:=by
  refine Rat.le_of_mul_le_mul_right (c:=M+1) ?_ hp
  rw[dz];grind
 obtain⟨N,h⟩:=ln_exp z1 z2 (e:=e*(1 / 2)) (by grind)
 refine⟨N,fun K0 hK0=>?_⟩
 obtain⟨P,h⟩:=h K0 hK0
 refine⟨P,fun K hK=>?_⟩
 have h:=h K hK
 generalize EP (2*PL z K0) K=E at *
 have m:=mul_bd h.1 h.2 (show -(5 / 2:Rat)≤M+1 by grind) (show M+1≤5 / 2 by grind)
 have f:(E*(1-z)-(1+z))*(M+1)=2*(E-M):=by
  have:(E*(1-z)-(1+z))*(M+1)=E*(M+1-z*(M+1))-(M+1+z*(M+1)):=by grind
  rw[this,dz];grind
 rw[f] at m
 clear f h
 constructor<;>grind
end Go.Proofs.YtkkbddkpggjgpaaGreatDoor

namespace Go.Proofs.YtkkbddkpggjgpaaGreatDoor
def rl:Rat:=dv 1 (-380)
theorem rl_bd:0<rl∧1000000*rl≤1∧16000*eps≤rl:=⟨of_decide_eq_true (by kernel_rfl),of_decide_eq_true (by kernel_rfl),of_decide_eq_true (by kernel_rfl)⟩
theorem eps_b6:1000000*eps≤1:=of_decide_eq_true (by kernel_rfl)
theorem EPk_pos (n:Nat)(hn:n≤1000):∃ N,∀ K,N≤K→(2:Rat)^n*(1-2000*eps)≤EP ((n:Rat)*cLn) K∧EP ((n:Rat)*cLn) K≤(2:Rat)^n*(1+2000*eps):=by
 have h:=EP_npow cLn n
 obtain⟨N1,h1⟩:=h.1 eps eps_pos
 obtain⟨N2,h2⟩:=h.2 eps eps_pos
 refine⟨N1+N2+91,fun K hK=>?_⟩
 have h1:EP ((n:Rat)*cLn) K≤EP cLn K^n+eps:=h1 K (by omega)
 have h2:EP cLn K^n≤EP ((n:Rat)*cLn) K+eps:=h2 K (by omega)
 have p:=pow_near ((EPc (K:=K)).1 (by omega)) (EPc (K:=K)).2 (n:=n) (by omega)
 rw[two_half (EP cLn K) n] at h1 h2
 have t1:=two_one n
 have e:=eps_bd
 have n1:(n:Rat)≤1000:=Rat.natCast_le_natCast.2 hn
 have ne:=Rat.mul_le_mul_of_nonneg_right n1 e.1
 generalize (2:Rat)^n=T at *
 generalize (EP cLn K / 2)^n=q at *
 generalize EP ((n:Rat)*cLn) K=u at *
 generalize (n:Rat)*eps=w at *
 have m1:=Rat.mul_le_mul_of_nonneg_left (show q≤1+1000*eps by grind) (show 0≤T by grind)
 have m2:=Rat.mul_le_mul_of_nonneg_left (show 1-1000*eps≤q by grind) (show 0≤T by grind)
 have m3:=Rat.mul_le_mul_of_nonneg_right t1 e.1
 constructor<;>grind
theorem EPk (k:Int)(hk:-1000≤k∧k≤1000):∃ N,∀ K,N≤K→(2:Rat)^k*(1-4000*eps)≤EP ((k:Rat)*cLn) K∧EP ((k:Rat)*cLn) K≤(2:Rat)^k*(1+4000*eps):=by
 rcases (show 0≤k∨k≤0 by omega) with h | h
 ·obtain⟨n,rfl⟩:∃ n:Nat,k=(n:Int):=⟨k.toNat,by omega⟩
  obtain⟨N,h⟩:=EPk_pos n (by omega)
  refine⟨N,fun K hK=>?_⟩
  have h:=h K hK
  rw[Rat.zpow_natCast]
  have t1:=two_one n
  have e:=eps_bd
  have m:=Rat.mul_nonneg (show 0≤(2:Rat)^n by grind) e.1
  show _≤EP ((n:Rat)*cLn) K∧EP ((n:Rat)*cLn) K≤_
  constructor<;>grind
 ·obtain⟨n,rfl⟩:∃ n:Nat,k=-(n:Int):=⟨(-k).toNat,by omega⟩
  obtain⟨N1,h1⟩:=EPk_pos n (by omega)
  have e0:((-(n:Int):Int):Rat)*cLn=-((n:Rat)*cLn):=by
   rw[Rat.intCast_neg]
   show -(n:Rat)*cLn=_
   grind
  rw[e0,Rat.zpow_neg,Rat.zpow_natCast]
  have o:=EP_opp ((n:Rat)*cLn)
  obtain⟨N2,h2⟩:=o.1 eps eps_pos
  obtain⟨N3,h3⟩:=o.2 eps eps_pos
  obtain⟨p,p0,N4,h4⟩:=EP_pos (-((n:Rat)*cLn))
  refine⟨N1+N2+N3+N4,fun K hK=>?_⟩
  have h1:=h1 K (by omega)
  have h2:EP ((n:Rat)*cLn) K*EP (-((n:Rat)*cLn)) K≤1+eps:=h2 K (by omega)
  have h3:1≤EP ((n:Rat)*cLn) K*EP (-((n:Rat)*cLn)) K+eps:=h3 K (by omega)
  have h4:=h4 K (by omega)
  have t1:=two_one n
  have e:=eps_bd
  have it:=inv_one (B:=(2:Rat)^n) (by grind)
  have i0:=Rat.inv_pos.2 (show 0<(2:Rat)^n by grind)
  generalize (2:Rat)^n=T at *
  generalize T⁻¹=i at *
  generalize EP ((n:Rat)*cLn) K=v at *
  generalize EP (-((n:Rat)*cLn)) K=u at *
  have u0:0≤u:=by grind
  have m1:=Rat.mul_le_mul_of_nonneg_right h1.1 u0
  have m2:=Rat.mul_le_mul_of_nonneg_right h1.2 u0
  have uy:u=i*(u*T):=by
   have:i*(u*T)=u*(i*T):=by grind
   rw[this,it];grind
  have y0:=Rat.mul_nonneg u0 (show 0≤T by grind)
  have k1:T*(1-2000*eps)*u=(u*T)*(1-2000*eps):=by grind
  have k2:T*(1+2000*eps)*u=(u*T)*(1+2000*eps):=by grind
  rw[k1] at m1
  rw[k2] at m2
  rw[uy]
  generalize u*T=y at *
  have e2:=Rat.mul_le_mul_of_nonneg_left eps_b6 e.1
  have e3:=Rat.mul_nonneg e.1 e.1
  have a1:y≤1+4000*eps:=by
   refine Decidable.byContradiction fun hn=>?_
   have hn:=Rat.le_of_lt (Rat.not_le.1 hn)
   have m:=Rat.mul_le_mul_of_nonneg_right hn (show 0≤1-2000*eps by grind)
   have ep:=eps_pos
   have:(1+4000*eps)*(1-2000*eps)=1+2000*eps-8000000*(eps*eps):=by grind
   rw[this] at m
   grind
  have a2:1-4000*eps≤y:=by
   refine Decidable.byContradiction fun hn=>?_
   have hn:=Rat.le_of_lt (Rat.not_le.1 hn)
   have m:=Rat.mul_le_mul_of_nonneg_right hn (show 0≤1+2000*eps by grind)
   have ep:=eps_pos
   have:(1-4000*eps)*(1+2000*eps)=1-2000*eps-8000000*(eps*eps):=by grind
   rw[this] at m
   grind
  exact⟨Rat.mul_le_mul_of_nonneg_left a2 (Rat.le_of_lt i0),Rat.mul_le_mul_of_nonneg_left a1 (Rat.le_of_lt i0)⟩
def Isl (f:Nat→Rat)(X r:Rat):Prop:=∃ N,∀ K0,N≤K0→∃ P,∀ K,P≤K→X*(1-r)≤EP (f K0) K∧EP (f K0) K≤X*(1+r)
theorem LnF_isl {M:Rat}{k:Int}(h1:3≤4*M)(h2:2*M<3)(hk:-1000≤k∧k≤1000):Isl (LnF M k) (M*2^k) rl:=by
 obtain⟨N,h⟩:=ln_expM h1 h2 (e:=eps) eps_pos
 obtain⟨Q,hq⟩:=EPk k hk
 refine⟨N,fun K0 hK0=>?_⟩
 obtain⟨P,h⟩:=h K0 hK0
 have p0:=zp_pos k
 have a:=EP_add (2*PL ((M-1) / (M+1)) K0) ((k:Rat)*cLn)
 have t0:=Rat.mul_pos p0 eps_pos
 obtain⟨N1,a1⟩:=a.1 _ t0
 obtain⟨N2,a2⟩:=a.2 _ t0
 refine⟨P+Q+N1+N2,fun K hK=>?_⟩
 have h:=h K (by omega)
 have hq:=hq K (by omega)
 have a1:EP (2*PL ((M-1) / (M+1)) K0+(k:Rat)*cLn) K≤EP (2*PL ((M-1) / (M+1)) K0) K*EP ((k:Rat)*cLn) K+(2:Rat)^k*eps:=a1 K (by omega)
 have a2:EP (2*PL ((M-1) / (M+1)) K0) K*EP ((k:Rat)*cLn) K≤EP (2*PL ((M-1) / (M+1)) K0+(k:Rat)*cLn) K+(2:Rat)^k*eps:=a2 K (by omega)
 have e:=eps_bd
 have r:=rl_bd
 unfold LnF
 generalize EP (2*PL ((M-1) / (M+1)) K0+(k:Rat)*cLn) K=F at *
 generalize EP (2*PL ((M-1) / (M+1)) K0) K=U at *
 generalize EP ((k:Rat)*cLn) K=V at *
 generalize (2:Rat)^k=T at *
 have e2:=Rat.mul_le_mul_of_nonneg_left e.2 e.1
 have e3:=Rat.mul_nonneg e.1 e.1
 clear a t0
 have m1:=Rat.mul_le_mul_of_nonneg_left hq.2 (show 0≤U by grind)
 have m2:=Rat.mul_le_mul_of_nonneg_left hq.1 (show 0≤U by grind)
 have c1:U*(1+4000*eps)≤M+8000*eps:=by
  have:=Rat.mul_le_mul_of_nonneg_right (show U≤M+eps by grind) (show 0≤1+4000*eps by grind)
  have m:=Rat.mul_le_mul_of_nonneg_right (show M≤3 / 2 by grind) e.1
  grind
 have c2:M-8000*eps≤U*(1-4000*eps):=by
  have:=Rat.mul_le_mul_of_nonneg_right (show M-eps≤U by grind) (show 0≤1-4000*eps by grind)
  have m:=Rat.mul_le_mul_of_nonneg_right (show M≤3 / 2 by grind) e.1
  grind
 have d1:=Rat.mul_le_mul_of_nonneg_left c1 (Rat.le_of_lt p0)
 have d2:=Rat.mul_le_mul_of_nonneg_left c2 (Rat.le_of_lt p0)
 have mr:=Rat.mul_le_mul_of_nonneg_right h1 (show 0≤rl by grind)
 have g1:=Rat.mul_le_mul_of_nonneg_left (show M+8001*eps≤M*(1+rl) by grind) (Rat.le_of_lt p0)
 have g2:=Rat.mul_le_mul_of_nonneg_left (show M*(1-rl)≤M-8001*eps by grind) (Rat.le_of_lt p0)
 constructor<;>grind
theorem EP_two (x:Rat):EP x 2=1+x:=by
 have t':=tE_mul x 0
 have e:EP x 2=0+tE x 0+tE x 1:=rfl
 have e0:tE x 0=1:=rfl
 have n0:(nx 0:Rat)=1:=rfl
 rw[n0,e0] at t'
 rw[e,e0]
 grind
theorem EP_inj {a b r:Rat}(hr:0<r)(h:∃ N,∀ K,N≤K→EP a K≤EP b K*(1+r)):a≤b+2*r:=by
 rcases (Rat.le_total:a≤b∨b≤a) with q | q
 ·grind
 obtain⟨N,h⟩:=h
 obtain⟨p,p0,N1,hp⟩:=EP_pos b
 have s:=EP_add b (a-b)
 rw[show b+(a-b)=a by grind] at s
 obtain⟨N2,s⟩:=s.2 (p*r) (Rat.mul_pos p0 hr)
 have h:=h (N+N1+N2+2) (by omega)
 have hp:=hp (N+N1+N2+2) (by omega)
 have s:EP b (N+N1+N2+2)*EP (a-b) (N+N1+N2+2)≤EP a (N+N1+N2+2)+p*r:=s (N+N1+N2+2) (by omega)
 have l:=EP_mono (x:=a-b) (by grind) (show 2≤N+N1+N2+2 by omega)
 rw[EP_two] at l
 generalize EP a (N+N1+N2+2)=A at *
 generalize EP b (N+N1+N2+2)=B at *
 generalize EP (a-b) (N+N1+N2+2)=D at *
 have m1:=Rat.mul_le_mul_of_nonneg_left l (show 0≤B by grind)
 have m2:=Rat.mul_le_mul_of_nonneg_right hp (Rat.le_of_lt hr)
 refine Decidable.byContradiction fun hn=>?_
 have hn:=Rat.not_le.1 hn
 have m3:=Rat.mul_lt_mul_of_pos_left (show 1+2*r<1+(a-b) by grind) (show 0<B by grind)
 grind
theorem Isl.le {f g:Nat→Rat}{X Y r s:Rat}(hf:Isl f X r)(hg:Isl g Y s)(h:X≤Y)(X0:0<X)(r0:0<r)(s0:0<s)(r1:4*r≤1)(s1:4*s≤1):∃ N,∀ K,N≤K→f K≤g K+4*(r+s):=by
 obtain⟨N,hf⟩:=hf
 obtain⟨M,hg⟩:=hg
 refine⟨N+M,fun K hK=>?_⟩
 obtain⟨P,hf⟩:=hf K (by omega)
 obtain⟨Q,hg⟩:=hg K (by omega)
 have:=EP_inj (a:=f K) (b:=g K) (r:=2*(r+s)) (by grind) ⟨P+Q,fun J hJ=>by
  have a:=(hf J (by omega)).2
  have b:=(hg J (by omega)).1
  have m1:=Rat.mul_le_mul_of_nonneg_right b (show 0≤1+2*(r+s) by grind)
  have rs:=Rat.mul_nonneg (Rat.le_of_lt r0) (Rat.le_of_lt s0)
  have m2:=Rat.mul_le_mul_of_nonneg_left s1 (Rat.le_of_lt s0)
  have m3:=Rat.mul_le_mul_of_nonneg_left s1 (Rat.le_of_lt r0)
  have k:1+r≤(1-s)*(1+2*(r+s)):=by grind
  have m4:=Rat.mul_le_mul_of_nonneg_left k (Rat.le_of_lt X0)
  have m5:=Rat.mul_le_mul_of_nonneg_right h (show 0≤(1-s)*(1+2*(r+s)) by grind)
  grind⟩
 grind
theorem Isl.add {f g:Nat→Rat}{X Y r s:Rat}(hf:Isl f X r)(hg:Isl g Y s)(X0:0<X)(Y0:0<Y)(r0:0<r)(s0:0<s)(r1:r≤1)(s1:s≤1):Isl (fun K=>f K+g K) (X*Y) (2*(r+s)):=by
 obtain⟨N,hf⟩:=hf
 obtain⟨M,hg⟩:=hg
 refine⟨N+M,fun K hK=>?_⟩
 obtain⟨P,hf⟩:=hf K (by omega)
 obtain⟨Q,hg⟩:=hg K (by omega)
 have a:=EP_add (f K) (g K)
 have t0:=Rat.mul_pos (Rat.mul_pos X0 Y0) (Rat.mul_pos r0 s0)
 obtain⟨N1,a1⟩:=a.1 _ t0
 obtain⟨N2,a2⟩:=a.2 _ t0
 refine⟨P+Q+N1+N2,fun J hJ=>?_⟩
 have hf:=hf J (by omega)
 have hg:=hg J (by omega)
 have a1:EP (f K+g K) J≤EP (f K) J*EP (g K) J+X*Y*(r*s):=a1 J (by omega)
 have a2:EP (f K) J*EP (g K) J≤EP (f K+g K) J+X*Y*(r*s):=a2 J (by omega)
 show _≤EP (f K+g K) J∧EP (f K+g K) J≤_
 generalize EP (f K+g K) J=F at *
 generalize EP (f K) J=U at *
 generalize EP (g K) J=V at *
 have u1:=Rat.mul_nonneg (Rat.le_of_lt X0) (show 0≤1-r by grind)
 have v1:=Rat.mul_nonneg (Rat.le_of_lt Y0) (show 0≤1-s by grind)
 have m1:=Rat.mul_le_mul_of_nonneg_left hg.1 (show 0≤U by grind)
 have m2:=Rat.mul_le_mul_of_nonneg_right hf.1 v1
 have m3:=Rat.mul_le_mul_of_nonneg_left hg.2 (show 0≤U by grind)
 have m4:=Rat.mul_le_mul_of_nonneg_right hf.2 (Rat.mul_nonneg (Rat.le_of_lt Y0) (show 0≤1+s by grind))
 have xy:=Rat.mul_nonneg (Rat.le_of_lt X0) (Rat.le_of_lt Y0)
 have rs:=Rat.mul_nonneg (Rat.le_of_lt r0) (Rat.le_of_lt s0)
 have q1:=Rat.mul_le_mul_of_nonneg_left s1 (Rat.le_of_lt r0)
 have q2:=Rat.mul_le_mul_of_nonneg_left r1 (Rat.le_of_lt s0)
 have g1:=Rat.mul_le_mul_of_nonneg_left (show (1+r)*(1+s)+r*s≤1+2*(r+s) by grind) xy
 have g2:=Rat.mul_le_mul_of_nonneg_left (show 1-2*(r+s)≤(1-r)*(1-s)-r*s by grind) xy
 have z1:X*(1+r)*(Y*(1+s))=X*Y*((1+r)*(1+s)):=by grind
 have z2:X*(1-r)*(Y*(1-s))=X*Y*((1-r)*(1-s)):=by grind
 rw[z1] at m4
 rw[z2] at m2
 have z3:X*Y*((1+r)*(1+s)+r*s)=X*Y*((1+r)*(1+s))+X*Y*(r*s):=by grind
 have z4:X*Y*((1-r)*(1-s)-r*s)=X*Y*((1-r)*(1-s))-X*Y*(r*s):=by grind
 rw[z3] at g1
 rw[z4] at g2
 generalize X*Y*((1+r)*(1+s))=w1 at *
 generalize X*Y*((1-r)*(1-s))=w2 at *
 generalize X*Y*(r*s)=w3 at *
 constructor<;>grind
end Go.Proofs.YtkkbddkpggjgpaaGreatDoor

namespace Go.Proofs.YtkkbddkpggjgpaaGreatDoor
open Go.RowKit
set_option maxRecDepth 100000
set_option maxHeartbeats 4000000
theorem l15_SumsF (b1:Bool)(l1:List Nat)(e1:Int)(b2:Bool)(l2:List Nat)(e2:Int)(b3:Bool)(l3:List Nat)(e3:Int)(b4:Bool)(l4:List Nat)(e4 w m ee n f p q r t wpa wpb wpc wpd wla wlb wlc wld wma wmb wmc wmd wna wnb wnc wnd wsa wsb wsc wsd wta wtb wtc wtd wua wub wuc wud wca wcb wcc wcd woa wob woc wod wqa wqb wqc wqd:Int)(ok:Bool)(qa:Rat)(c0:(-9223372036854775808:Int)≤w∧w≤9223372036854775807)(c1:Impl Tryz.prog Amb 23 [(.agg [(.bool b1),(.sl 1 (U l1)),(.int .i64 e1),(.bool b2),(.sl 1 (U l2)),(.int .i64 e2)])] (.tup [(wV m ee n f),(.bool false)]))(c2:Impl Tryz.prog Amb 23 [(.agg [(.bool b3),(.sl 1 (U l3)),(.int .i64 e3),(.bool b4),(.sl 1 (U l4)),(.int .i64 e4)])] (.tup [(wV p q r t),(.bool ok)])):Impl Tryz.prog Amb 9 [(.agg [(.bool b1),(.sl 1 (U l1)),(.int .i64 e1),(.bool b2),(.sl 1 (U l2)),(.int .i64 e2)]),(.agg [(.bool b3),(.sl 1 (U l3)),(.int .i64 e3),(.bool b4),(.sl 1 (U l4)),(.int .i64 e4)]),(.int .i64 w)] (.bool true):=by
 exact impl_ob hP hAmb Tryz.func9 (by kernel_rfl) (.lit<|.call (.bool true)<|.lits 4<|.call (.tup [(wV m ee n f),(.bool false)])<|.lits 3<|.call (.tup [(wV p q r t),(.bool ok)])<|.lits 7<|.ret)
  (cast_ob (aI True.intro (aI (l15_awake ) (aI (c1 ) (aI (c2 ) ((vsub_refl (.bool true))))))) (by kernel_rfl))
theorem l15_SumsG (b1:Bool)(l1:List Nat)(e1:Int)(b2:Bool)(l2:List Nat)(e2:Int)(b3:Bool)(l3:List Nat)(e3:Int)(b4:Bool)(l4:List Nat)(e4 w m ee n f p q r t wpa wpb wpc wpd wla wlb wlc wld wma wmb wmc wmd wna wnb wnc wnd wsa wsb wsc wsd wta wtb wtc wtd wua wub wuc wud wca wcb wcc wcd woa wob woc wod wqa wqb wqc wqd:Int)(ok:Bool)(qa:Rat)(c0:(-9223372036854775808:Int)≤w∧w≤9223372036854775807)(c1:Impl Tryz.prog Amb 23 [(.agg [(.bool b1),(.sl 1 (U l1)),(.int .i64 e1),(.bool b2),(.sl 1 (U l2)),(.int .i64 e2)])] (.tup [(wV m ee n f),(.bool true)]))(c2:Impl Tryz.prog Amb 23 [(.agg [(.bool b3),(.sl 1 (U l3)),(.int .i64 e3),(.bool b4),(.sl 1 (U l4)),(.int .i64 e4)])] (.tup [(wV p q r t),(.bool false)])):Impl Tryz.prog Amb 9 [(.agg [(.bool b1),(.sl 1 (U l1)),(.int .i64 e1),(.bool b2),(.sl 1 (U l2)),(.int .i64 e2)]),(.agg [(.bool b3),(.sl 1 (U l3)),(.int .i64 e3),(.bool b4),(.sl 1 (U l4)),(.int .i64 e4)]),(.int .i64 w)] (.bool true):=by
 exact impl_ob hP hAmb Tryz.func9 (by kernel_rfl) (.lit<|.call (.bool true)<|.lits 4<|.call (.tup [(wV m ee n f),(.bool true)])<|.lits 3<|.call (.tup [(wV p q r t),(.bool false)])<|.lits 8<|.ret)
  (cast_ob (aI True.intro (aI (l15_awake ) (aI (c1 ) (aI (c2 ) ((vsub_refl (.bool true))))))) (by kernel_rfl))
theorem l15_SumsT (b1:Bool)(l1:List Nat)(e1:Int)(b2:Bool)(l2:List Nat)(e2:Int)(b3:Bool)(l3:List Nat)(e3:Int)(b4:Bool)(l4:List Nat)(e4 w m ee n f p q r t wpa wpb wpc wpd wla wlb wlc wld wma wmb wmc wmd wna wnb wnc wnd wsa wsb wsc wsd wta wtb wtc wtd wua wub wuc wud wca wcb wcc wcd woa wob woc wod wqa wqb wqc wqd:Int)(ok:Bool)(qa:Rat)(c0:(-9223372036854775808:Int)≤w∧w≤9223372036854775807)(c1:Impl Tryz.prog Amb 23 [(.agg [(.bool b1),(.sl 1 (U l1)),(.int .i64 e1),(.bool b2),(.sl 1 (U l2)),(.int .i64 e2)])] (.tup [(wV m ee n f),(.bool true)]))(c2:Impl Tryz.prog Amb 23 [(.agg [(.bool b3),(.sl 1 (U l3)),(.int .i64 e3),(.bool b4),(.sl 1 (U l4)),(.int .i64 e4)])] (.tup [(wV p q r t),(.bool true)]))(c3:Impl Tryz.prog Amb 37 [(wV m ee n f),(wV p q r t),(.int .i64 ((w%80)+250))] (.tup [(wV wpa wpb wpc wpd),(.int .i64 0)]))(c4:Impl Tryz.prog Amb 24 [(wV m ee n f),(.int .i64 (w%80))] (.tup [(wV wla wlb wlc wld),(.int .i64 0)]))(c5:Impl Tryz.prog Amb 24 [(wV p q r t),(.int .i64 (w%80))] (.tup [(wV wma wmb wmc wmd),(.int .i64 0)]))(c6:Impl Tryz.prog Amb 24 [(wV wpa wpb wpc wpd),(.int .i64 (w%80))] (.tup [(wV wna wnb wnc wnd),(.int .i64 0)]))(c7:Impl Tryz.prog Amb 38 [(wV wla wlb wlc wld),(wV wma wmb wmc wmd),(.int .i64 (w%80))] (.tup [(wV wsa wsb wsc wsd),(.int .i64 0)]))(c8:Impl Tryz.prog Amb 39 [(.int .i64 2),(.int .i64 2)] (wV wta wtb wtc wtd))(c9:Impl Tryz.prog Amb 24 [(wV wta wtb wtc wtd),(.int .i64 (w%80))] (.tup [(wV wua wub wuc wud),(.int .i64 0)]))(c10:Impl Tryz.prog Amb 40 [(.int .i64 (w%80))] (.tup [(wV wca wcb wcc wcd),(.int .i64 0)]))(c11:Impl Tryz.prog Amb 39 [(.int .i64 1),(.int .i64 1)] (wV woa wob woc wod))(c12:Impl Tryz.prog Amb 24 [(wV woa wob woc wod),(.int .i64 (w%80))] (.tup [(wV wqa wqb wqc wqd),(.int .i64 0)]))(c13:Impl Tryz.prog Amb 21 [(wV wna wnb wnc wnd),(wV wsa wsb wsc wsd)] (.int .i64 0))(c14:Impl Tryz.prog Amb 21 [(wV wua wub wuc wud),(wV wca wcb wcc wcd)] (.int .i64 0))(c15:Impl Tryz.prog Amb 29 [(.int .i64 0)] (.agg [(.bool (decide (qa.num<0))),(N qa.num.natAbs),(N qa.den)]))(c16:Impl Tryz.prog Amb 41 [(wV wqa wqb wqc wqd),(.agg [(.bool (decide (qa.num<0))),(N qa.num.natAbs),(N qa.den)])] (.bool true)):Impl Tryz.prog Amb 9 [(.agg [(.bool b1),(.sl 1 (U l1)),(.int .i64 e1),(.bool b2),(.sl 1 (U l2)),(.int .i64 e2)]),(.agg [(.bool b3),(.sl 1 (U l3)),(.int .i64 e3),(.bool b4),(.sl 1 (U l4)),(.int .i64 e4)]),(.int .i64 w)] (.bool true):=by
 exact impl_ob hP hAmb Tryz.func9 (by kernel_rfl) (.lit<|.call (.bool true)<|.lits 4<|.call (.tup [(wV m ee n f),(.bool true)])<|.lits 3<|.call (.tup [(wV p q r t),(.bool true)])<|.lits 8<|.call (.int .i64 (w%80))<|.lits 3<|.yes<|.lit<|.call (.tup [(wV wpa wpb wpc wpd),(.int .i64 0)])<|.lits 3<|.call (.tup [(wV wla wlb wlc wld),(.int .i64 0)])<|.lits 3<|.call (.tup [(wV wma wmb wmc wmd),(.int .i64 0)])<|.lits 3<|.call (.tup [(wV wna wnb wnc wnd),(.int .i64 0)])<|.lits 4<|.call (.tup [(wV wsa wsb wsc wsd),(.int .i64 0)])<|.lits 2<|.call (wV wta wtb wtc wtd)<|.lit<|.call (.tup [(wV wua wub wuc wud),(.int .i64 0)])<|.lits 2<|.call (.tup [(wV wca wcb wcc wcd),(.int .i64 0)])<|.lits 2<|.call (wV woa wob woc wod)<|.lit<|.call (.tup [(wV wqa wqb wqc wqd),(.int .i64 0)])<|.lits 34<|.call (.int .i64 0)<|.lits 7<|.call (.int .i64 0)<|.lits 7<|.call (.agg [(.bool (decide (qa.num<0))),(N qa.num.natAbs),(N qa.den)])<|.lits 2<|.call (.bool true)<|.lits 2<|.ret)
  (cast_ob (aI True.intro (aI (l15_awake ) (aI (c1 ) (aI (c2 ) (aI (mill_Mod w 80 oS oS) (have f2:=Int.emod_lt_of_pos w (show (0:Int)<80 by first | omega | assumption);have f1:=Int.emod_nonneg w (show (80:Int)≠0 by first | omega | assumption);aI (fits_i64 oS:(fits .i64 ((w%80)+250))=true) (aI (c3 ) (aI (c4 ) (aI (c5 ) (aI (c6 ) (aI (c7 ) (aI (c8 ) (aI (c9 ) (aI (c10 ) (aI (c11 ) (aI (c12 ) (aI (c13 ) (aI (c14 ) (aI (c15 ) (aI (c16 ) ((vsub_refl (.bool true))))))))))))))))))))))) (by kernel_rfl))
end Go.Proofs.YtkkbddkpggjgpaaGreatDoor

namespace Go.Proofs.YtkkbddkpggjgpaaGreatDoor
open Go.RowKit
set_option maxRecDepth 100000
set_option maxHeartbeats 2000000
theorem hln_of {m e:Int}{c:Nat}(hc:c≤20)(hm:0<m)(hL:L m.natAbs≤c)(he:-3000≤e∧e≤3000)(hv:vdb m e=true):(0<m)∧L m.natAbs≤300∧(-5000≤e∧e≤5000)∧vdb m e=true∧-4096≤spl m e∧spl m e≤4096:=by
 have f:=sp_facts (e:=e) hm
 exact⟨hm,by omega,by omega,hv,by omega,by omega⟩
end Go.Proofs.YtkkbddkpggjgpaaGreatDoor

namespace Go.Proofs.YtkkbddkpggjgpaaGreatDoor
open Go.RowKit
set_option maxRecDepth 100000
set_option maxHeartbeats 1000000
theorem spl_le {m e c:Int}(hm:0<m)(h:dv m e≤dv 1 c):spl m e≤c:=by
 have s:=sp_facts (e:=e) hm
 refine Decidable.byContradiction fun hn=>?_
 have z:=zp_step (k1:=c) (k2:=spl m e) oO
 have p:=zp_pos c
 have q:=zp_pos (spl m e)
 have d:dv 1 c=(2:Rat)^c:=by unfold dv;rw[show ((1:Int):Rat)=1 from rfl,Rat.one_mul]
 rw[d,s.2.2.1] at h
 have m1:=Rat.mul_le_mul_of_nonneg_right s.1 (Rat.le_of_lt q)
 generalize (2:Rat)^c=u at *
 generalize (2:Rat)^spl m e=x at *
 grind
theorem ln_L {M:Rat}{k a b w:Int}(hM:3≤4*M)(hM2:2*M<3)(hk:-4096≤k∧k≤4096)(h:Encl (LnF M k) w.toNat a b)(hab:b-a≤2)(hw:0≤w∧w≤80):L a.natAbs≤4∧L b.natAbs≤4:=by
 obtain⟨A,h⟩:=h
 have h:=h A (Nat.le_refl _)
 have B:=LnF_abs hM hM2 hk A
 have T0:(0:Rat)<((2^w.toNat:Int):Rat):=Rat.intCast_pos.2 (two_pos w.toNat)
 have m1:=Rat.mul_le_mul_of_nonneg_right B.1 (Rat.le_of_lt T0)
 have m2:=Rat.mul_le_mul_of_nonneg_right B.2 (Rat.le_of_lt T0)
 have a1:a≤8192*2^w.toNat:=by
  refine Rat.intCast_le_intCast.1 ?_
  rw[Rat.intCast_mul]
  exact Rat.le_trans h.1 m2
 have b1:-8192*2^w.toNat≤b:=by
  refine Rat.intCast_le_intCast.1 ?_
  rw[Rat.intCast_mul]
  exact Rat.le_trans m1 h.2
 have e:((2^(w.toNat+14):Nat):Int)=2^w.toNat*16384:=by rw[← pow_cast,Int.pow_add];rfl
 have ab:a≤b:=Rat.intCast_le_intCast.1 (Rat.le_trans h.1 h.2)
 have:=two_pos w.toNat
 exact⟨L_pow2 (n:=w.toNat+14) oO oO,L_pow2 (n:=w.toNat+14) oO oO⟩
def gI:Rat:=dv 1 (-99)
theorem T80 {w:Int}(hw:0≤w∧w≤80):(1:Rat)≤((2^w.toNat:Int):Rat)∧((2^w.toNat:Int):Rat)≤((2^80:Int):Rat) :=
 ⟨Rat.intCast_le_intCast.2 (show (1:Int)≤2^w.toNat from two_pos _),pow_up oO⟩
theorem unit_num:4*(rl+gI)*((2^80:Int):Rat)<1∧4*gI≤1∧20*rl*((2^80:Int):Rat)<1∧16*rl≤1:=⟨of_decide_eq_true (by kernel_rfl),of_decide_eq_true (by kernel_rfl),of_decide_eq_true (by kernel_rfl),of_decide_eq_true (by kernel_rfl)⟩
theorem sum_lo {f g h:Nat→Rat}{X Y P:Rat}{a a' b b' c c' w:Int}(hw:0≤w∧w≤80)(hf:Isl f X rl)(hg:Isl g Y rl)(hh:Isl h P rl)(X0:0<X)(Y0:0<Y)(P0:0<P)(hP:P≤X*Y)(ef:Encl f w.toNat b b')(eg:Encl g w.toNat c c')(eh:Encl h w.toNat a a'):a≤b'+c':=by
 have t:=T80 hw
 have r:=rl_bd
 have n:=unit_num
 have s:=hf.add hg X0 Y0 r.1 r.1 (by grind) (by grind)
 obtain⟨N,q⟩:=hh.le s hP P0 r.1 (by grind) (by grind) (by grind)
 obtain⟨N1,ef⟩:=ef
 obtain⟨N2,eg⟩:=eg
 obtain⟨N3,eh⟩:=eh
 have ef:=(ef (N+N1+N2+N3) oO).2
 have eg:=(eg (N+N1+N2+N3) oO).2
 have eh:=(eh (N+N1+N2+N3) oO).1
 have q:h (N+N1+N2+N3)≤f (N+N1+N2+N3)+g (N+N1+N2+N3)+4*(rl+2*(rl+rl)):=q (N+N1+N2+N3) oO
 have m:=Rat.mul_le_mul_of_nonneg_right q (show 0≤((2^w.toNat:Int):Rat) by grind)
 have k:=Rat.mul_le_mul_of_nonneg_left t.2 (show 0≤20*rl by grind)
 refine Decidable.byContradiction fun hn=>?_
 have:((b'+c'+1:Int):Rat)≤(a:Rat):=Rat.intCast_le_intCast.2 oO
 rw[Rat.intCast_add,Rat.intCast_add,show ((1:Int):Rat)=1 from rfl] at this
 grind
theorem sum_hi {f g h:Nat→Rat}{X Y P:Rat}{a a' b b' c c' w:Int}(hw:0≤w∧w≤80)(hf:Isl f X rl)(hg:Isl g Y rl)(hh:Isl h P rl)(X0:0<X)(Y0:0<Y)(P0:0<P)(hP:X*Y≤P)(ef:Encl f w.toNat b b')(eg:Encl g w.toNat c c')(eh:Encl h w.toNat a a'):b+c≤a':=by
 have t:=T80 hw
 have r:=rl_bd
 have n:=unit_num
 have s:=hf.add hg X0 Y0 r.1 r.1 (by grind) (by grind)
 obtain⟨N,q⟩:=s.le hh hP (Rat.mul_pos X0 Y0) (by grind) r.1 (by grind) (by grind)
 obtain⟨N1,ef⟩:=ef
 obtain⟨N2,eg⟩:=eg
 obtain⟨N3,eh⟩:=eh
 have ef:=(ef (N+N1+N2+N3) oO).1
 have eg:=(eg (N+N1+N2+N3) oO).1
 have eh:=(eh (N+N1+N2+N3) oO).2
 have q:f (N+N1+N2+N3)+g (N+N1+N2+N3)≤h (N+N1+N2+N3)+4*(2*(rl+rl)+rl):=q (N+N1+N2+N3) oO
 have m:=Rat.mul_le_mul_of_nonneg_right q (show 0≤((2^w.toNat:Int):Rat) by grind)
 have k:=Rat.mul_le_mul_of_nonneg_left t.2 (show 0≤20*rl by grind)
 refine Decidable.byContradiction fun hn=>?_
 have:((a'+1:Int):Rat)≤((b+c:Int):Rat):=Rat.intCast_le_intCast.2 oO
 rw[Rat.intCast_add,Rat.intCast_add,show ((1:Int):Rat)=1 from rfl] at this
 grind
theorem mkM_pos {a w:Int}(h:L a.natAbs≤300)(hw:0≤w∧w≤400):(0<mkM a (-w)↔0<a):=by
 have g:=(dv_g (k:=300) h oO hw).1
 constructor
 ·intro q;exact dv_pos.1 (by rw[← g];exact dv_pos.2 q)
 ·intro q;exact dv_pos.1 (by rw[g];exact dv_pos.2 q)
theorem hln_g {a w:Int}{k:Nat}(h:L a.natAbs≤k)(hk:k≤60)(hw:0≤w∧w≤400)(a0:0<a):(0<(mkM a (-w)))∧L (mkM a (-w)).natAbs≤300∧(-5000≤(mkX a (-w))∧(mkX a (-w))≤5000)∧vdb (mkM a (-w)) (mkX a (-w))=true∧-4096≤spl (mkM a (-w)) (mkX a (-w))∧spl (mkM a (-w)) (mkX a (-w))≤4096:=by
 have g:=dv_g (k:=k) h oO hw
 have p:=(mkM_pos oO hw).2 a0
 have s:=sp_facts (e:=mkX a (-w)) p
 exact⟨p,by omega,by omega,g.2.2.2.1,by omega,by omega⟩
end Go.Proofs.YtkkbddkpggjgpaaGreatDoor

namespace Go.Proofs.YtkkbddkpggjgpaaGreatDoor
open Go.RowKit
set_option maxRecDepth 100000
set_option maxHeartbeats 4000000
theorem l15_argE (b1:Bool)(l1:List Nat)(e1:Int)(b2:Bool)(l2:List Nat)(e2:Int)(c0:Dig l1)(c1:l1.length≤9223372036854775807)(c2:(-9223372036854775808:Int)≤e1∧e1≤9223372036854775807)(c3:Dig l2)(c4:l2.length≤9223372036854775807)(c5:(-9223372036854775808:Int)≤e2∧e2≤9223372036854775807):∃ (p q r t:Int) (ok:Bool),Impl Tryz.prog Amb 23 [(.agg [(.bool b1),(.sl 1 (U l1)),(.int .i64 e1),(.bool b2),(.sl 1 (U l2)),(.int .i64 e2)])] (.tup [(wV p q r t),(.bool ok)])∧(ok=true→(0<p∧L p.natAbs≤2∧(-60≤q∧q≤124)∧((0<p)∧L p.natAbs≤300∧(-5000≤q∧q≤5000)∧vdb p q=true∧-4096≤spl p q∧spl p q≤4096))∧(0<r∧L r.natAbs≤2∧(-60≤t∧t≤124)∧((0<r)∧L r.natAbs≤300∧(-5000≤t∧t≤5000)∧vdb r t=true∧-4096≤spl r t∧spl r t≤4096))∧dv p q≤dv r t):=by
 have fa:=iv_fit (b:=b1) (e:=e1) (c:=b2) (f:=e2) (n:=2) (k:=60) c0 c3 oO oO
 have hi:=mill_Iv b1 l1 e1 b2 l2 e2 2 60 c0 c1 c3 c4 c2 c5 oO oO
 generalize hm':(ivM b1 l1 e1 b2 l2 e2 2 60)=m at fa hi
 generalize he':(ivX b1 l1 e1 b2 l2 e2 2 60)=ee at fa hi
 generalize hn':(ivN b1 l1 e1 b2 l2 e2 2 60)=n at fa hi
 generalize hf':(ivF b1 l1 e1 b2 l2 e2 2 60)=f at fa hi
 clear hm' he' hn' hf'
 have sw:=sw_all (vdb_nabs fa.2.1) (vdb_nabs fa.2.2.1) 2 (by rw[Int.natAbs_natCast];omega) (by rw[Int.natAbs_natCast];omega) (-60) 124 (a:=(m.natAbs:Int)) (b:=(n.natAbs:Int)) oO oO oO oO
 have hT:=fun hi=>l15_argT b1 l1 e1 b2 l2 e2 m ee n f hi oO oO oO
 have hF:=fun hi=>l15_argF b1 l1 e1 b2 l2 e2 m ee n f hi
 generalize (swM (m.natAbs:Int) ee (n.natAbs:Int) f)=p at *
 generalize (swX (m.natAbs:Int) ee (n.natAbs:Int) f)=q at *
 generalize (swN (m.natAbs:Int) ee (n.natAbs:Int) f)=r at *
 generalize (swF (m.natAbs:Int) ee (n.natAbs:Int) f)=t at *
 by_cases hok:((l1.length:Int)≤2∧(l2.length:Int)≤2)
 ·rw[decide_eq_true hok] at hi
  refine⟨p,q,r,t,_,hT hi,fun h=>?_⟩
  have hp:=of_decide_eq_true h
  have rp:=hi_pos sw.2.1 hp
  exact⟨⟨hp,sw.2.2.1.1,by omega,hln_of (c:=2) oO hp sw.2.2.1.1 oO sw.1.1⟩,⟨rp,sw.2.2.1.2,by omega,hln_of (c:=2) oO rp sw.2.2.1.2 oO sw.1.2⟩,sw.2.1⟩
 ·rw[decide_eq_false hok] at hi
  exact⟨m,ee,n,f,false,hF hi,fun h=>by cases h⟩
theorem hx_up {m e:Int}(h:(0<m∧L m.natAbs≤2∧(-60≤e∧e≤124)∧((0<m)∧L m.natAbs≤300∧(-5000≤e∧e≤5000)∧vdb m e=true∧-4096≤spl m e∧spl m e≤4096))):0<dv m e∧dv m e≤dv 1 189∧spl m e≤189∧-60≤spl m e:=by
 have r:=topD_range m e
 have t:=dv_tople (m:=m) (e:=e) (t:=188) oO
 have u:=dv1_le (a:=188) (b:=189) oO
 have d:dv m e≤dv 1 189:=by grind
 have s:=sp_facts (e:=e) h.1
 exact⟨dv_pos.2 h.1,d,spl_le h.1 d,by omega⟩
theorem dv_Lk {x c:Int}{k:Nat}(h:L x.natAbs≤k):dv x c≤dv 1 (c+32*(k:Int)):=by
 have a:=L_lt x.natAbs
 have b:=Nat.pow_le_pow_right (n:=4294967296) oO h
 rw[B_pow k] at b
 have d:((2^(32*k):Nat):Int)=2^(32*k):=(pow_cast _).symm
 have e:x≤1*2^(32*k):=by omega
 have f:=(dv_le (c:=c)).2 e
 rw[dv_shl] at f
 rw[show c+32*(k:Int)=c+((32*k:Nat):Int) by omega]
 exact f
theorem isl_at {m e:Int}(hm:0<m)(h1:-1000≤spl m e)(h2:spl m e≤1000):Isl (LnF (dv m (e-spl m e)) (spl m e)) (dv m e) rl:=by
 have s:=sp_facts (e:=e) hm
 rw[s.2.2.1]
 exact LnF_isl s.1 s.2.1 ⟨h1,h2⟩
theorem ml_L3 {m e n f p g q h w:Int}(a:L m.natAbs≤2∧L n.natAbs≤2)(b:L p.natAbs≤2∧L q.natAbs≤2)(c:(-60≤e∧e≤124)∧(-60≤f∧f≤124))(d:(-60≤g∧g≤124)∧(-60≤h∧h≤124))(hw:0≤w∧w≤330) :
  L (flr (mlLo m e n f p g q h) w).natAbs≤30∧L (cei (mlHi m e n f p g q h) w).natAbs≤30:=by
 have key:∀ {m e n f:Int},L m.natAbs≤2→L n.natAbs≤2→(-60≤e∧e≤124)→(-60≤f∧f≤124)→L (flr (dv m e*dv n f) w).natAbs≤30∧L (cei (dv m e*dv n f) w).natAbs≤30:=by
  intro m e n f hm hn he hf
  have h1:=L_abs_mul m n
  have h2:=flr_LD (m*n) (e+f) w
  rw[dv_mul] at h2
  omega
 have k1:=key a.1 b.1 c.1 d.1
 have k2:=key a.1 b.2 c.1 d.2
 have k3:=key a.2 b.1 c.2 d.1
 have k4:=key a.2 b.2 c.2 d.2
 exact⟨flr_qmin_L (flr_qmin_L (flr_qmin_L k1.1 k2.1) k3.1) k4.1,cei_qmax_L (cei_qmax_L (cei_qmax_L k1.2 k2.2) k3.2) k4.2⟩
theorem dv_60 {m e:Int}(hm:0<m)(he:-60≤e):dv 1 (-60)≤dv m e:=by
 refine Rat.le_trans (dv1_le he) (dv_le.2 oO)
theorem mul_60 {x y:Rat}(hx:dv 1 (-60)≤x)(hy:dv 1 (-60)≤y):dv 1 (-120)≤x*y:=by
 have p:0≤dv 1 (-60):=of_decide_eq_true (by kernel_rfl)
 have m1:=Rat.mul_le_mul_of_nonneg_right hx p
 have m2:=Rat.mul_le_mul_of_nonneg_left hy (Rat.le_trans p hx)
 have e:dv 1 (-120)=dv 1 (-60)*dv 1 (-60):=of_decide_eq_true (by kernel_rfl)
 rw[e];exact Rat.le_trans m1 m2
theorem spl_11:spl 1 1=1∧spl 1 0=0∧mkM 2 0=1∧mkX 2 0=1∧mkM 1 0=1∧mkX 1 0=0∧vdb 1 1=true∧vdb 1 0=true∧dv 1 0=1:=⟨by kernel_rfl,by kernel_rfl,by kernel_rfl,by kernel_rfl,by kernel_rfl,by kernel_rfl,by kernel_rfl,by kernel_rfl,of_decide_eq_true (by kernel_rfl)⟩
theorem LnF_one (k:Int)(K:Nat):LnF 1 k K=(k:Rat)*cLn:=by
 unfold LnF
 rw[show ((1:Rat)-1) / (1+1)=0 by grind,PL_zero,Rat.mul_zero,Rat.zero_add]
theorem l15_LogarithmSums (b1:Bool)(l1:List Nat)(e1:Int)(b2:Bool)(l2:List Nat)(e2:Int)(b3:Bool)(l3:List Nat)(e3:Int)(b4:Bool)(l4:List Nat)(e4 w:Int)(c0:Dig l1)(c1:l1.length≤9223372036854775807)(c2:(-9223372036854775808:Int)≤e1∧e1≤9223372036854775807)(c3:Dig l2)(c4:l2.length≤9223372036854775807)(c5:(-9223372036854775808:Int)≤e2∧e2≤9223372036854775807)(d0:Dig l3)(d1:l3.length≤9223372036854775807)(d2:(-9223372036854775808:Int)≤e3∧e3≤9223372036854775807)(d3:Dig l4)(d4:l4.length≤9223372036854775807)(d5:(-9223372036854775808:Int)≤e4∧e4≤9223372036854775807)(c6:(-9223372036854775808:Int)≤w∧w≤9223372036854775807):Impl Tryz.prog Amb 9 [(.agg [(.bool b1),(.sl 1 (U l1)),(.int .i64 e1),(.bool b2),(.sl 1 (U l2)),(.int .i64 e2)]),(.agg [(.bool b3),(.sl 1 (U l3)),(.int .i64 e3),(.bool b4),(.sl 1 (U l4)),(.int .i64 e4)]),.int .i64 w] (.bool true):=by
 have w180:=Int.emod_nonneg w (show (80:Int)≠0 by omega)
 have w280:=Int.emod_lt_of_pos w (show (0:Int)<80 by omega)
 obtain⟨m,ee,n,f,ok1,hA,hok1⟩:=l15_argE b1 l1 e1 b2 l2 e2 c0 c1 c2 c3 c4 c5
 obtain⟨p,q,r,t,ok2,hB,hok2⟩:=l15_argE b3 l3 e3 b4 l4 e4 d0 d1 d2 d3 d4 d5
 cases ok1 with
 | false=>exact l15_SumsF b1 l1 e1 b2 l2 e2 b3 l3 e3 b4 l4 e4 w m ee n f p q r t 0 0 0 0 0 0 0 0 0 0 0 0 0 0 0 0 0 0 0 0 0 0 0 0 0 0 0 0 0 0 0 0 0 0 0 0 0 0 0 0 ok2 0 c6 hA hB
 | true =>
  cases ok2 with
  | false=>exact l15_SumsG b1 l1 e1 b2 l2 e2 b3 l3 e3 b4 l4 e4 w m ee n f p q r t 0 0 0 0 0 0 0 0 0 0 0 0 0 0 0 0 0 0 0 0 0 0 0 0 0 0 0 0 0 0 0 0 0 0 0 0 0 0 0 0 false 0 c6 hA hB
  | true =>
   obtain⟨h1,h2,ho⟩:=hok1 rfl
   obtain⟨h3,h4,ho'⟩:=hok2 rfl
   have u1:=hx_up h1
   have u2:=hx_up h2
   have u3:=hx_up h3
   have u4:=hx_up h4
   have s1:=sp_facts (e:=ee) h1.1
   have s2:=sp_facts (e:=f) h2.1
   have s3:=sp_facts (e:=q) h3.1
   have s4:=sp_facts (e:=t) h4.1
   generalize hv:w%80=v at *
   -- the product
   have F1:FitI m ee n f:=⟨⟨by omega,by omega,by omega⟩,⟨by omega,by omega,by omega⟩,ho⟩
   have F2:FitI p q r t:=⟨⟨by omega,by omega,by omega⟩,⟨by omega,by omega,by omega⟩,ho'⟩
   have lpq:=ml_L3 (w:=v+250) ⟨h1.2.1,h2.2.1⟩ ⟨h3.2.1,h4.2.1⟩ ⟨h1.2.2.1,h2.2.2.1⟩ ⟨h3.2.2.1,h4.2.2.1⟩ oO
   have kq:=en_ok (w:=v+250) oO (ml_le ho ho') oO oO
   have hP:=impl_eq (enV_ok kq) (ar_Mul m ee n f p q r t (v+250) oO oO oO oO oO oO oO oO (ml_fine oO oO oO oO) (ml_fine oO oO oO oO) (ml_fine oO oO oO oO) (ml_fine oO oO oO oO) oO)
   have lo:=ml_in (m:=m) (e:=ee) (n:=n) (f:=f) (p:=p) (g:=q) (q:=r) (h:=t) (a:=dv m ee) (b:=dv p q) Rat.le_refl ho Rat.le_refl ho'
   have hi:=ml_in (m:=m) (e:=ee) (n:=n) (f:=f) (p:=p) (g:=q) (q:=r) (h:=t) (a:=dv n f) (b:=dv r t) ho Rat.le_refl ho' Rat.le_refl
   have lo1:=Rat.le_trans (flr_le (mlLo m ee n f p q r t) (v+250)) lo.1
   have hi1:=Rat.le_trans hi.2 (cei_ge (mlHi m ee n f p q r t) (v+250))
   have x1:=dv_60 h1.1 h1.2.2.1.1
   have x2:=dv_60 h2.1 h2.2.2.1.1
   have x3:=dv_60 h3.1 h3.2.2.1.1
   have x4:=dv_60 h4.1 h4.2.2.1.1
   have pos:0<flr (mlLo m ee n f p q r t) (v+250):=by
    have a:1≤flr (mlLo m ee n f p q r t) (v+250):=le_flr.2 (by
     refine Rat.le_trans (dv1_le (a:=-(v+250)) (b:=-120) oO) ?_
     unfold mlLo
     exact le_qmin (le_qmin (le_qmin (mul_60 x1 x3) (mul_60 x1 x4)) (mul_60 x2 x3)) (mul_60 x2 x4))
    omega
   have pos2:0<cei (mlHi m ee n f p q r t) (v+250):=by
    have a:=Rat.mul_pos u2.1 u4.1
    exact dv_pos.1 (show 0<dv (cei (mlHi m ee n f p q r t) (v+250)) (-(v+250)) by grind)
   generalize flr (mlLo m ee n f p q r t) (v+250)=pa at *
   generalize cei (mlHi m ee n f p q r t) (v+250)=pb at *
   have G1:=dv_g (a:=pa) (w:=v+250) (k:=30) oO oO oO
   have G2:=dv_g (a:=pb) (w:=v+250) (k:=30) oO oO oO
   have H1:=hln_g (a:=pa) (w:=v+250) (k:=30) oO oO oO pos
   have H2:=hln_g (a:=pb) (w:=v+250) (k:=30) oO oO oO pos2
   obtain⟨la,lb,lc,ld,hL,wl1,wl2,_,eA,eB⟩:=lg_LnE m ee n f v h1.2.2.2 h2.2.2.2 oO
   obtain⟨ma,mb,mc,md,hM,wm1,wm2,_,eC,eD⟩:=lg_LnE p q r t v h3.2.2.2 h4.2.2.2 oO
   obtain⟨na,nb,nc,nd,hN,wn1,wn2,_,eE,eF⟩:=lg_LnE (mkM pa (-(v+250))) (mkX pa (-(v+250))) (mkM pb (-(v+250))) (mkX pb (-(v+250))) v H1 H2 oO
   have t1:=sp_facts (e:=mkX pa (-(v+250))) H1.1
   have t2:=sp_facts (e:=mkX pb (-(v+250))) H2.1
   have LA:=ln_L s1.1 s1.2.1 oO eA wl1 oO
   have LB:=ln_L s2.1 s2.2.1 oO eB wl2 oO
   have LC:=ln_L s3.1 s3.2.1 oO eC wm1 oO
   have LD:=ln_L s4.1 s4.2.1 oO eD wm2 oO
   have LE:=ln_L t1.1 t1.2.1 oO eE wn1 oO
   have LF:=ln_L t2.1 t2.2.1 oO eF wn2 oO
   have big:∀ {x:Int},L x.natAbs≤30→dv x (-(v+250))≤dv 1 710:=by
    intro x hx
    exact Rat.le_trans (dv_Lk hx) (dv1_le oO)
   have q1:=spl_le (e:=mkX pa (-(v+250))) (c:=710) H1.1 (by rw[G1.1];exact big lpq.1)
   have q2:=spl_le (e:=mkX pb (-(v+250))) (c:=710) H2.1 (by rw[G2.1];exact big lpq.2)
   have iA:=isl_at (e:=ee) h1.1 oO oO
   have iB:=isl_at (e:=f) h2.1 oO oO
   have iC:=isl_at (e:=q) h3.1 oO oO
   have iD:=isl_at (e:=t) h4.1 oO oO
   have iE:=isl_at (e:=mkX pa (-(v+250))) H1.1 oO oO
   have iF:=isl_at (e:=mkX pb (-(v+250))) H2.1 oO oO
   rw[G1.1] at iE
   rw[G2.1] at iF
   have o1:la≤ld:=ln_grid oO s1.1 s1.2.1 s2.1 s2.2.1 (by rw[← s1.2.2.1,← s2.2.2.1];exact ho) eA eB
   have o2:ma≤md:=ln_grid oO s3.1 s3.2.1 s4.1 s4.2.1 (by rw[← s3.2.2.1,← s4.2.2.1];exact ho') eC eD
   have hS:=g_add la ld ma md v oO o1 o2 oO oO oO oO
   have m24:dv m ee*dv p q≤dv n f*dv r t:=Rat.le_trans (Rat.mul_le_mul_of_nonneg_right ho (Rat.le_of_lt u3.1)) (Rat.mul_le_mul_of_nonneg_left ho' (Rat.le_of_lt u2.1))
   have k1:=sum_lo oO iB iD iE u2.1 u4.1 (dv_pos.2 pos) (Rat.le_trans lo1 m24) eB eD eE
   have k2:=sum_hi oO iA iC iF u1.1 u3.1 (dv_pos.2 pos2) (Rat.le_trans m24 hi1) eA eC eF
   have z1:=L_abs_add la ma
   have z2:=L_abs_add ld md
   have hC:=g_cmp na nd (la+ma) (ld+md) v oO oO oO oO oO oO oO
   -- two and one
   have sp:=spl_11
   have y2:=l15_of 2 2 oO oO
   have y1:=l15_of 1 1 oO oO
   rw[sp.2.2.1,sp.2.2.2.1] at y2
   rw[sp.2.2.2.2.1,sp.2.2.2.2.2.1] at y1
   have l1':=L_lit 1 (by decide)
   have hl2:(0<(1:Int))∧L (1:Int).natAbs≤300∧(-5000≤(1:Int)∧(1:Int)≤5000)∧vdb (1:Int) (1:Int)=true∧-4096≤spl (1:Int) (1:Int)∧spl (1:Int) (1:Int)≤4096:=⟨by omega,by show L 1≤300;omega,by omega,sp.2.2.2.2.2.2.1,by rw[sp.1];omega,by rw[sp.1];omega⟩
   have hl1:(0<(1:Int))∧L (1:Int).natAbs≤300∧(-5000≤(0:Int)∧(0:Int)≤5000)∧vdb (1:Int) (0:Int)=true∧-4096≤spl (1:Int) (0:Int)∧spl (1:Int) (0:Int)≤4096:=⟨by omega,by show L 1≤300;omega,by omega,sp.2.2.2.2.2.2.2.1,by rw[sp.2.1];omega,by rw[sp.2.1];omega⟩
   obtain⟨ta,tb,tc,td,hT,wt1,wt2,_,eG,eH⟩:=lg_LnE 1 1 1 1 v hl2 hl2 oO
   obtain⟨oa,ob,oc,od,hO,wo1,wo2,_,eI,eJ⟩:=lg_LnE 1 0 1 0 v hl1 hl1 oO
   rw[sp.1,show (1:Int)-1=0 by omega,sp.2.2.2.2.2.2.2.2] at eG eH
   rw[sp.2.1,show (0:Int)-0=0 by omega,sp.2.2.2.2.2.2.2.2] at eI eJ
   have LG:=ln_L (k:=1) (by grind) (by grind) oO eG wt1 oO
   have LH:=ln_L (k:=1) (by grind) (by grind) oO eH wt2 oO
   have LI:=ln_L (k:=0) (by grind) (by grind) oO eI wo1 oO
   have LJ:=ln_L (k:=0) (by grind) (by grind) oO eJ wo2 oO
   have hK:=ct_Ln2 v oO
   have cl:=cln_at (t:=(v+24).toNat) oO
   rw[show (((v+24).toNat:Nat):Int)=v+24 by omega] at cl
   have hc:=half_enc (t:=(v+24).toNat) (s:=v.toNat) (n:=24) oO cl.1 cl.2
   have lok:=(ln_ok (s:=v+24) oO).2.2
   have lol:=nbits_lt (lnHi (v+24)-lnLo (v+24)).natAbs
   have lon:=Nat.pow_le_pow_right (n:=2) oO lok
   have low:=half_w (a:=lnLo (v+24)) (b:=lnHi (v+24)) (W:=1) (n:=24) oO
   generalize lnLo (v+24) / 2^24=ka at *
   generalize -(-lnHi (v+24) / 2^24)=kb at *
   have eK:Encl (LnF 1 1) v.toNat ka kb:=⟨0,fun K _=>by
    rw[LnF_one,show ((1:Int):Rat)=1 from rfl,Rat.one_mul];exact hc⟩
   have LK:=ln_L (k:=1) (by grind) (by grind) oO eK oO oO
   have n1:=(eG.meet (n:=0) eK)
   have n2:=(eH.meet (n:=0) eK)
   rw[Int.pow_zero,Int.mul_one,Int.mul_one] at n1 n2
   have hD:=g_cmp ta td ka kb v oO oO oO oO oO oO oO
   have zI:oa≤0:=by
    obtain⟨N,h⟩:=eI
    have h:=(h N (Nat.le_refl _)).1
    rw[LnF_one,show ((0:Int):Rat)=0 from rfl,Rat.zero_mul,Rat.zero_mul] at h
    exact Rat.intCast_le_intCast.1 h
   have zJ:0≤od:=by
    obtain⟨N,h⟩:=eJ
    have h:=(h N (Nat.le_refl _)).2
    rw[LnF_one,show ((0:Int):Rat)=0 from rfl,Rat.zero_mul,Rat.zero_mul] at h
    exact Rat.intCast_le_intCast.1 h
   have hH:=g_has oa od 0 v oO oO oO oO oO oO
   subst hv
   exact l15_SumsT b1 l1 e1 b2 l2 e2 b3 l3 e3 b4 l4 e4 w m ee n f p q r t _ _ _ _ _ _ _ _ _ _ _ _ _ _ _ _ _ _ _ _ _ _ _ _ _ _ _ _ _ _ _ _ _ _ _ _ _ _ _ _ true _ c6 hA hB hP hL hM hN hS y2 hT hK y1 hO hC hD (r07_Of 0 oO) hH
end Go.Proofs.YtkkbddkpggjgpaaGreatDoor

namespace Go.Proofs.YtkkbddkpggjgpaaGreatDoor
open Go.ChangeShapes Go.WideShapes Go.ChangeAt Go.RowKit
theorem ownNone:ownKnob Tryz.prog.godebug=none:=by kernel_rfl
theorem gTab:Tryz.prog.globalNamed "math/bits.deBruijn32tab"=some 0:=by kernel_rfl
theorem gTabType:(Tryz.prog.globals[0]?).map (·.type)=some 162:=by kernel_rfl
theorem cellsTab:Tryz.prog.cellsOf 162=32:=by kernel_rfl
theorem cellsU8:Tryz.prog.cellsOf 5=1:=by kernel_rfl
theorem amb_of {W:World}(h:laidMetH Tryz.prog [("math/bits.deBruijn32tab",Rows.laid_math_bits_deBruijn32tab)] W):Amb W:=by
 have t:Lib.TabIs Tryz.prog W "math/bits.deBruijn32tab" .u8 tab32:=Lib.tabIs_of_head (rest:=[]) gTab gTabType Tryz.underlying162 Tryz.underlying5 cellsU8 cellsTab h
 intro i v hi
 have hlt:i<tab32.length:=by
  rcases Nat.lt_or_ge i tab32.length with q | q
  ·exact q
  ·rw[List.getElem?_eq_none q] at hi;cases hi
 have h1:=t.cell gTab i hlt
 rw[List.getD_eq_getElem?_getD,hi] at h1
 exact h1
theorem int_wf {n:Int}(h:(Lit.int .i64 n).wf=true):(-9223372036854775808:Int)≤n∧n≤9223372036854775807:=by
 simp only [Lit.wf,Bool.and_eq_true,decide_eq_true_eq] at h
 simp [IntKind.min,IntKind.max,IntKind.signed,IntKind.bits] at h
 omega
noncomputable def laidWorld (os : Os) : World :=
  { World.holding Tryz.prog os ⟨#[], #[], []⟩ with heap := (World.holding Tryz.prog os ⟨#[], #[], []⟩).heap.modify 0 fun
      | .cells _ t frozen => .cells (tab32.map (Value.int .u8)).toArray t frozen
      | o => o }
theorem post_of_below {H:Type}{enc:TypeId × Value→H}{P:Program}{f:Func}{s:ChangeSpec}{apart fresh handsOn again:Bool}{W W':World}{args:Array Value}{v:Value}{ds gs:List (DataW H)}{before pa pv:List MemPlace}
  (hW:DataW.Whole enc P f.params.toList s.vars apart W args.toList ds gs before)
  (hres:∀ (b:Nat) (sp:Nat→Bool) (hd:Bool),DataW.TrodAll enc P W' b sp hd f.resultTypes.toList (v.resultList f.resultTypes.size) (s.fn H (ds ++ gs)).results [])
  (hargs:∀ sp:Nat→Bool,(∀ p∈before,sp p.block=true)→DataW.TrodAll enc P W' 0 sp true f.params.toList args.toList (s.fn H (ds ++ gs)).args pa)
  (hvars:∀ sp:Nat→Bool,(∀ p∈before,sp p.block=true)→DataW.TrodVars enc P W' sp s.vars (s.fn H (ds ++ gs)).vars pv)
  (hps:before=pa ++ pv) (hb:Below W.heap.size W W')
  (hok:∀ (j:Nat) (t:TypeId) (r:Value),f.resultTypes[j]?=some t→(v.resultList f.resultTypes.size)[j]?=some r→Value.okWide P W' .any 0 t r):s.post enc P f apart fresh handsOn again W args v W':=by
 have lt:=hW.lt
 have old:∀ p∈before,(fun b=>decide (b<W.heap.size)) p.block=true:=fun p hp=>decide_eq_true (lt p hp)
 subst hps
 refine⟨ds,gs,pa ++ pv,[],pa,pv,hW,hres _ _ _,hargs _ old,hvars _ old,hb.frame _,fun _=>?_⟩
 obtain⟨_,_,_,_,_,hz,hn⟩:=hW
 have h1:=trodAll_append (hargs (fun _=>true) fun _ _=>rfl) (hres 0 (fun _=>true) true)
 refine⟨hok,_,_,_,⟨_,pv,h1,hvars _ fun _ _=>rfl,rfl,fun b off hp=>?_,fun ha=>?_⟩,fun p hp _=>?_⟩
 ·have hp':MemPlace.cell b off∈pa ++ pv:=by simpa using hp
  rw[hb.frozen (lt _ hp')]
  exact hz b off hp'
 ·simpa using hn ha
 ·simpa using hp
end Go.Proofs.YtkkbddkpggjgpaaGreatDoor

namespace Go.Proofs.YtkkbddkpggjgpaaGreatDoor
open Go.ChangeShapes Go.WideShapes Go.ChangeAt Go.RowKit
set_option maxRecDepth 100000
variable {H:Type} {enc:TypeId × Value→H} {W:World} {sp:Nat→Bool} {held:Bool}
theorem laidOut:laidOutB Tryz.prog=true:=by kernel_rfl
theorem cellsU32:Tryz.prog.cellsOf 97=1:=by kernel_rfl
theorem cellsSl:Tryz.prog.cellsOf 22=1:=by kernel_rfl
theorem cellsBool:Tryz.prog.cellsOf 4=1:=by kernel_rfl
theorem cellsInt:Tryz.prog.cellsOf 3=1:=by kernel_rfl
theorem cellsZ:Tryz.prog.cellsOf 24=2:=by kernel_rfl
theorem cellsY:Tryz.prog.cellsOf 26=3:=by kernel_rfl
theorem cellsW:Tryz.prog.cellsOf 28=6:=by kernel_rfl
theorem rdl_U (S:Nat→Prop):∀ l:List Nat,RdL W S (l.map fun (d:Nat)=>Value.int .u32 (d:Int)) (U l)
 | []=>.nil
 | _::l=>.cons .int (rdl_U S l)
theorem wf_u32 {n:Int}(h:(Lit.int .u32 n).wf=true):0≤n∧n<4294967296:=by
 simp only [Lit.wf,Bool.and_eq_true,decide_eq_true_eq] at h
 simp [IntKind.min,IntKind.max,IntKind.signed,IntKind.bits] at h
 omega
theorem open_slice32 {n:Nat}{c:Value}{x:DataW H × List MemPlace}{b0:Nat}(h:DataW.trod enc Tryz.prog W 0 sp held n 22 [c]=some x)(hok:Cell.okWide Tryz.prog W .any b0 22 c) :
  ∃ l:List Nat,Dig l∧l.length≤maxLen∧Rd W (fun _=>True) c (.sl 1 (U l)):=by
 rcases open_ints Tryz.underlying22 Tryz.underlying97 cellsU32 h with ⟨hc,_⟩ | ⟨a,len,cap,zs,hc,_,hl,hm,hz,_,hcell,hwf⟩
 ·obtain rfl:c=.slice none 0 0:=by simpa using hc
  exact⟨[],(fun d hd=>by cases hd),Nat.zero_le _,.nilsl⟩
 ·obtain rfl:c=.slice (some a) len cap:=by simpa using hc
  have hlen:len≤zs.length:=by rw[hz];split<;>omega
  simp only [Cell.okWide,Cell.ok,Tryz.underlying22,World.has] at hok
  obtain⟨_,_,_,hs,row,cells,hsh,_⟩:=hok
  obtain⟨ab,ao,spot⟩:=a
  simp only at hs hsh
  subst hs
  have hb:ab<W.heap.size:=by
   unfold World.shape? at hsh
   split at hsh
   ·rename_i q;exact (Array.getElem?_eq_some_iff.1 q).1
   ·cases hsh
  refine⟨(zs.take len).map Int.toNat,?_,?_,?_⟩
  ·intro d hd
   obtain⟨z,hz',rfl⟩:=List.mem_map.1 hd
   have:=wf_u32 (hwf z (List.mem_of_mem_take hz'))
   show z.toNat<4294967296
   omega
  ·simp;omega
  ·refine .sl (vals:=((zs.take len).map Int.toNat).map fun (d:Nat)=>Value.int .u32 (d:Int)) trivial hb hl (by simp [U];omega) (rdl_U _ _) ?_
   intro i v hv
   simp only [List.getElem?_map,Option.map_eq_some_iff] at hv
   obtain⟨d,⟨z,hz',rfl⟩,rfl⟩:=hv
   have hi:i<len:=by
    rcases Nat.lt_or_ge i len with q | q
    ·exact q
    ·rw[List.getElem?_eq_none (by simp;omega)] at hz';cases hz'
   rw[List.getElem?_take,if_pos hi] at hz'
   have h1:=hcell i (by omega)
   rw[List.getD_eq_getElem?_getD,hz'] at h1
   have h2:=wf_u32 (hwf z (List.mem_of_getElem? hz'))
   have h3:((z.toNat:Nat):Int)=z:=Int.toNat_of_nonneg h2.1
   simp only [Option.getD_some] at h1
   rw[h3]
   have h4:(Addr.mk ab ao none).add i=⟨ab,ao+i,none⟩:=by
    unfold Addr.add;split
    ·rename_i q;subst q;rfl
    ·rfl
   rw[h4] at h1
   exact h1
theorem open_Z {n:Nat}{c0 c1:Value}{x:DataW H × List MemPlace}{b0:Nat}(h:DataW.trod enc Tryz.prog W 0 sp held n 24 [c0,c1]=some x)(hok:Cell.okWide Tryz.prog W .any b0 22 c1) :
  ∃ (b:Bool) (l:List Nat),Dig l∧l.length≤maxLen∧RdL W (fun _=>True) [c0,c1] [.bool b,.sl 1 (U l)]:=by
 obtain⟨y0,y1,m,_,_,h0,h1⟩:=trod_struct2 Tryz.underlying24 h
 have k0:DataW.trod enc Tryz.prog W 0 sp held m 4 [c0]=some y0:=by simpa [cellsBool] using h0
 have k1:DataW.trod enc Tryz.prog W 0 sp held m 22 [c1]=some y1:=by simpa [cellsSl] using h1
 obtain⟨b,hb,_⟩:=DataW.trod_bool Tryz.underlying4 k0
 obtain rfl:c0=.bool b:=by simpa using hb
 obtain⟨l,d,e,r⟩:=open_slice32 k1 hok
 exact⟨b,l,d,e,.cons .bool (.cons r .nil)⟩
theorem open_Y {n:Nat}{c0 c1 c2:Value}{x:DataW H × List MemPlace}{b0:Nat}(h:DataW.trod enc Tryz.prog W 0 sp held n 26 [c0,c1,c2]=some x)(hok:Cell.okWide Tryz.prog W .any b0 22 c1) :
  ∃ (b:Bool) (l:List Nat) (e:Int),Dig l∧l.length≤maxLen∧((-9223372036854775808:Int)≤e∧e≤9223372036854775807)∧RdL W (fun _=>True) [c0,c1,c2] [.bool b,.sl 1 (U l),.int .i64 e]:=by
 obtain⟨y0,y1,m,_,_,h0,h1⟩:=trod_struct2 Tryz.underlying26 h
 have k0:DataW.trod enc Tryz.prog W 0 sp held m 24 [c0,c1]=some y0:=by simpa [cellsZ] using h0
 have k1:DataW.trod enc Tryz.prog W 0 sp held m 3 [c2]=some y1:=by simpa [cellsInt] using h1
 obtain⟨b,l,d,e,r⟩:=open_Z k0 hok
 obtain⟨z,hz,_,hw⟩:=DataW.trod_int Tryz.underlying3 k1
 obtain rfl:c2=.int .i64 z:=by simpa using hz
 cases r with | cons r0 r=>cases r with | cons r1 r=>cases r with | nil =>
  exact⟨b,l,z,d,e,int_wf hw,.cons r0 (.cons r1 (.cons .int .nil))⟩
theorem array6 {α:Type}{cs:Array α}(h:cs.size=6):∃ c0 c1 c2 c3 c4 c5,cs=#[c0,c1,c2,c3,c4,c5]:=by
 obtain⟨l⟩:=cs
 match l,h with
 | [c0,c1,c2,c3,c4,c5],_=>exact⟨c0,c1,c2,c3,c4,c5,rfl⟩
theorem open_W {v:Value}{d:DataW H}{p:List MemPlace}{b0:Nat}(hv:Value.okWide Tryz.prog W .any b0 28 v)(h:DataW.Trod enc Tryz.prog W 0 sp held 28 v d p) :
  ∃ (b:Bool) (l:List Nat) (e:Int) (c:Bool) (r:List Nat) (f:Int),(Dig l∧l.length≤maxLen∧((-9223372036854775808:Int)≤e∧e≤9223372036854775807))∧(Dig r∧r.length≤maxLen∧((-9223372036854775808:Int)≤f∧f≤9223372036854775807)) ∧
   Rd W (fun _=>True) v (.agg [.bool b,.sl 1 (U l),.int .i64 e,.bool c,.sl 1 (U r),.int .i64 f]):=by
 simp only [Value.okWide,Tryz.underlying28] at hv
 obtain⟨cs,rfl,hsz,ts,hts,_,hrow⟩:=hv
 have e0:Tryz.prog.cellTypes Tryz.prog.depth 28=some [4,22,3,4,22,3]:=by kernel_rfl
 rw[e0] at hts
 obtain rfl:=Option.some.inj hts
 obtain⟨c0,c1,c2,c3,c4,c5,rfl⟩:=array6 (hsz.trans cellsW)
 obtain⟨u1,q1,ok1⟩:=hrow 1 c1 rfl
 obtain rfl:22=u1:=by simpa using q1
 obtain⟨u4,q4,ok4⟩:=hrow 4 c4 rfl
 obtain rfl:22=u4:=by simpa using q4
 obtain⟨n,hn⟩:=h
 obtain⟨y0,y1,m,_,_,h0,h1⟩:=trod_struct2 Tryz.underlying28 hn
 have k0:DataW.trod enc Tryz.prog W 0 sp held m 26 [c0,c1,c2]=some y0:=by simpa [cellsY,Value.cells] using h0
 have k1:DataW.trod enc Tryz.prog W 0 sp held m 26 [c3,c4,c5]=some y1:=by simpa [cellsY,Value.cells] using h1
 obtain⟨b,l,e,d1,d2,d3,r1⟩:=open_Y k0 ok1
 obtain⟨c,r,f,f1,f2,f3,r2⟩:=open_Y k1 ok4
 refine⟨b,l,e,c,r,f,⟨d1,d2,d3⟩,⟨f1,f2,f3⟩,?_⟩
 cases r1 with | cons a0 r1=>cases r1 with | cons a1 r1=>cases r1 with | cons a2 r1=>cases r1 with | nil =>
 cases r2 with | cons b0 r2=>cases r2 with | cons b1 r2=>cases r2 with | cons b2 r2=>cases r2 with | nil =>
  exact .agg (.cons a0 (.cons a1 (.cons a2 (.cons b0 (.cons b1 (.cons b2 .nil))))))
end Go.Proofs.YtkkbddkpggjgpaaGreatDoor

namespace Go.Proofs.YtkkbddkpggjgpaaGreatDoor.logarithmSums
open Go.ChangeShapes Go.WideShapes Go.ChangeAt Go.RowKit
set_option maxRecDepth 100000 in
theorem contract (H:Type)(enc:TypeId × Value→H)(W:World)(base:Nat)(args:Array Value)(ds gs:List (DataW H))(before:List MemPlace)
  (hval:∀ (j:Nat) t v,Tryz.f9.params[j]?=some t→args[j]?=some v→Value.okWide Tryz.prog W .any base t v)
  (hW:DataW.Whole enc Tryz.prog Tryz.f9.params.toList Rows.logarithmSumsSpec.vars false W args.toList ds gs before) (hL:laidMetH Tryz.prog Rows.logarithmSumsRow.laid W) :
  Calls Tryz.prog 9 args W fun e W'=>∃ v,e=.returned v∧Rows.logarithmSumsSpec.post enc Tryz.prog Tryz.f9 false true false false W args v W':=by
 have hW':=hW
 obtain⟨p,q,hA0,hV,rfl,hfz,hnd⟩:=hW
 have hA:DataW.TrodAll enc Tryz.prog W 0 (fun _=>true) true Tryz.f9.params.toList args.toList ds p:=hA0
 rw[Tryz.params9] at hA hval
 obtain⟨v0,vs0,d0,ds0,p0,q0,hargs0,rfl,rfl,h0,r0⟩:=trodAll_cons hA
 obtain⟨v1,vs1,d1,ds1,p1,q1,hargs1,rfl,rfl,h1,r1⟩:=trodAll_cons r0
 obtain⟨v2,vs2,d2,ds2,p2,q2,hargs2,rfl,rfl,h2,r2⟩:=trodAll_cons r1
 obtain⟨rfl,rfl,rfl⟩:=trodAll_nil r2
 obtain rfl:args=#[v0,v1,v2]:=by cases args;simp_all
 obtain⟨rfl,rfl⟩:=trodVars_none hV
 obtain⟨b0,l0,e0,c0,s0,f0,⟨a0,a0',a0''⟩,⟨z0,z0',z0''⟩,t0⟩:=open_W (hval 0 28 v0 rfl rfl) h0
 have m0:l0.length≤9223372036854775807:=a0'
 have n0:s0.length≤9223372036854775807:=z0'
 obtain⟨b1,l1,e1,c1,s1,f1,⟨a1,a1',a1''⟩,⟨z1,z1',z1''⟩,t1⟩:=open_W (hval 1 28 v1 rfl rfl) h1
 have m1:l1.length≤9223372036854775807:=a1'
 have n1:s1.length≤9223372036854775807:=z1'
 have k2:=h2
 obtain⟨x2,rfl,rfl,rfl,w2⟩:=open_int Tryz.underlying3 (hval 2 3 v2 rfl rfl) h2
 have b2:=int_wf w2
 clear hA0
 have hlt:=hW'.lt
 have hI:=l15_LogarithmSums b0 l0 e0 c0 s0 f0 b1 l1 e1 c1 s1 f1 x2 a0 m0 a0'' z0 n0 z0'' a1 m1 a1'' z1 n1 z1'' b2
 have hC:=hI.2 W (fun _=>True) [v0,v1,.int .i64 x2] (amb_of hL) (fun _ _=>trivial) (.cons t0 (.cons t1 (.cons .int (.nil))))
 refine hC.mono fun e W' hh=>?_
 obtain⟨v,rfl,hv,hb⟩:=hh
 have hv:=hv.bool_inv
 subst hv
 exact⟨_,rfl,post_of_below (pa:=(p0 ++ (p1 ++ ([] ++ [])))) (pv:=[]) hW' (fun _ _ _=>trodAll_cons_mk (shut_bool Tryz.underlying4 _) trodAll_mk0) (fun sp hsp=>(trodAll_cons_mk (WideElems.Trod_stays laidOut (by kernel_rfl) (of_decide_eq_true (by kernel_rfl)) h0 (fun x hx=>hb.same (hlt x (by simp [hx]))) (fun x hx=>hsp x (by simp [hx]))) (trodAll_cons_mk (WideElems.Trod_stays laidOut (by kernel_rfl) (of_decide_eq_true (by kernel_rfl)) h1 (fun x hx=>hb.same (hlt x (by simp [hx]))) (fun x hx=>hsp x (by simp [hx]))) (trodAll_cons_mk (shut_int Tryz.underlying3 w2) trodAll_mk0)))) (fun _ _=>rfl) rfl
  hb (ok_one (by kernel_rfl) rfl (okWide_bool_mk Tryz.underlying4 _))⟩
theorem laid_met (os:Os):laidMet Tryz.prog Rows.logarithmSumsRow.laid ((laidWorld os).forCall (fun _ _=>0) ⟨#[],#[.agg #[.bool false,.slice none 0 0,.int .i64 0,.bool false,.slice none 0 0,.int .i64 0],.agg #[.bool false,.slice none 0 0,.int .i64 0,.bool false,.slice none 0 0,.int .i64 0],.int .i64 0],[]⟩).memory :=
 laidMet_of_run' 64 (by kernel_rfl) (by kernel_rfl)
theorem reads (os:Os){H:Type}(enc:TypeId × Value→H):∃ places,DataW.whole enc Tryz.prog ((laidWorld os).forCall (fun _ _=>0) ⟨#[],#[.agg #[.bool false,.slice none 0 0,.int .i64 0,.bool false,.slice none 0 0,.int .i64 0],.agg #[.bool false,.slice none 0 0,.int .i64 0,.bool false,.slice none 0 0,.int .i64 0],.int .i64 0],[]⟩).memory Tryz.f9.params.toList Rows.logarithmSumsSpec.vars false #[Value.agg #[.bool false,.slice none 0 0,.int .i64 0,.bool false,.slice none 0 0,.int .i64 0],Value.agg #[.bool false,.slice none 0 0,.int .i64 0,.bool false,.slice none 0 0,.int .i64 0],Value.int .i64 0].toList 64=some ([.agg [.agg [.agg [.lit (.bool false),.nil],.lit (.int .i64 0)],.agg [.agg [.lit (.bool false),.nil],.lit (.int .i64 0)]],.agg [.agg [.agg [.lit (.bool false),.nil],.lit (.int .i64 0)],.agg [.agg [.lit (.bool false),.nil],.lit (.int .i64 0)]],.lit (.int .i64 0)],[],places) :=
 ⟨[],by kernel_rfl⟩
set_option maxRecDepth 100000 in
theorem lifted (os:Os)(started:os.Started)(H:Type)(enc:TypeId × Value→H)(F:Stop.Interp) :
  ReturnsInHanded {} Tryz.checked os 9 .any ((OpenSpec.ofChange Rows.logarithmSumsSpec).preRow enc Tryz.prog Tryz.f9 Rows.logarithmSumsRow.domain false Rows.logarithmSumsRow.laid) (((OpenSpec.ofChange Rows.logarithmSumsSpec).at F).post enc Tryz.prog Tryz.f9 false true false false):=by
 obtain⟨places,hx⟩:=reads os enc
 refine returnsInHanded_of_row (C:=Tryz.checked) (s:=OpenSpec.ofChange Rows.logarithmSumsSpec) ownNone started (by kernel_rfl) Tryz.func9
  (witness_row_at (enc:=enc) (C:=Tryz.checked) false (laidWorld os) #[.agg #[.bool false,.slice none 0 0,.int .i64 0,.bool false,.slice none 0 0,.int .i64 0],.agg #[.bool false,.slice none 0 0,.int .i64 0,.bool false,.slice none 0 0,.int .i64 0],.int .i64 0] rfl (by kernel_rfl) (by kernel_rfl) (by kernel_rfl)
   (OpenSpec.preRow_of_cond 64 hx (by kernel_rfl) (fun k hk=>by cases hk) (by kernel_rfl) (laid_met os))) ?_
 intro W base args ds gs before hval hW _ _ _ hL _ _
 exact contract H enc W base args ds gs before hval hW hL
end Go.Proofs.YtkkbddkpggjgpaaGreatDoor.logarithmSums
