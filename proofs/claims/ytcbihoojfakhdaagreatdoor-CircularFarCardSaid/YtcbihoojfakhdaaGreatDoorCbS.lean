/-
  Lower layers: what functions of the program compute, and zyt facts. Conditions: as the theorems say.
-/
import Derived.Test.YtcbihoojfakhdaaGreatDoorCbR
set_option linter.unusedVariables false
set_option linter.unusedSimpArgs false
namespace Go.Proofs.YtcbihoojfakhdaaGreatDoor
open Go.RowKit
set_option maxRecDepth 100000
set_option maxHeartbeats 2000000
def fx_tay_0_mk (_ _:Nat)(q1 q2 sc:Int)(pp1 pp2 _ _:Nat→Int)(x:(Nat × Int)⊕(Nat × Int)):St:=Sum.elim (fun (x:Nat × Int)=>⟨mkS 40 [(2,(.val (.int .u32 x.2))),(3,(.val (.int .i64 sc))),(4,(.own 0 0)),(5,(.own 1 0)),(8,(.own 2 0)),(9,(.own 3 0)),(10,(.val (.bool true)))],[⟨true,false,[(V.bool (decide ((pp1 (2*x.1))<0))),(N ((pp1 (2*x.1)).natAbs)),(V.bool (decide ((pp2 (2*x.1))<0))),(N ((pp2 (2*x.1)).natAbs))]⟩,⟨true,false,[(V.bool (decide (q1<0))),(N q1.natAbs),(V.bool (decide (q2<0))),(N q2.natAbs)]⟩,⟨true,false,[(V.bool false),V.nil,(V.bool false),V.nil]⟩,⟨true,false,[(V.bool (decide ((tyA pp1 pp2 (2*x.1))<0))),(N ((tyA pp1 pp2 (2*x.1)).natAbs)),(V.bool (decide ((tyB pp1 pp2 (2*x.1))<0))),(N ((tyB pp1 pp2 (2*x.1)).natAbs))]⟩]⟩) (fun (x:Nat × Int)=>⟨mkS 40 [(2,(.val (.int .u32 x.2))),(3,(.val (.int .i64 sc))),(4,(.own 0 0)),(5,(.own 1 0)),(8,(.own 2 0)),(9,(.own 3 0)),(10,(.val (.bool false)))],[⟨true,false,[(V.bool (decide ((pp1 (2*x.1+1))<0))),(N ((pp1 (2*x.1+1)).natAbs)),(V.bool (decide ((pp2 (2*x.1+1))<0))),(N ((pp2 (2*x.1+1)).natAbs))]⟩,⟨true,false,[(V.bool (decide (q1<0))),(N q1.natAbs),(V.bool (decide (q2<0))),(N q2.natAbs)]⟩,⟨true,false,[(V.bool false),V.nil,(V.bool false),V.nil]⟩,⟨true,false,[(V.bool (decide ((tyA pp1 pp2 (2*x.1+1))<0))),(N ((tyA pp1 pp2 (2*x.1+1)).natAbs)),(V.bool (decide ((tyB pp1 pp2 (2*x.1+1))<0))),(N ((tyB pp1 pp2 (2*x.1+1)).natAbs))]⟩]⟩) x
def fx_tay_0_I (nn i0:Nat)(_ _ _:Int)(_ _ _ _:Nat→Int)(x:(Nat × Int)⊕(Nat × Int)):Prop:=Sum.elim (fun (x:Nat × Int)=>2*x.1≤nn∧x.2=(i0:Int)+4*(x.1:Int)) (fun (x:Nat × Int)=>2*x.1+1≤nn∧x.2=(i0:Int)+4*(x.1:Int)+2) x
def fx_tay_0_mu (nn _:Nat)(_ _ _:Int)(_ _ _ _:Nat→Int)(x:(Nat × Int)⊕(Nat × Int)):Nat:=Sum.elim (fun (x:Nat × Int)=>nn-2*x.1) (fun (x:Nat × Int)=>nn-(2*x.1+1)) x
def fx_tay_0_ex (_ _:Nat)(q1 q2 _:Int)(pp1 pp2 _ _:Nat→Int)(y:Nat):Ex × St:=(.exit 0,⟨mkS 40 [(4,(.own 0 0)),(8,(.own 2 0)),(9,(.own 3 0))],[⟨true,false,[(V.bool (decide ((pp1 y)<0))),(N ((pp1 y).natAbs)),(V.bool (decide ((pp2 y)<0))),(N ((pp2 y).natAbs))]⟩,⟨true,false,[(V.bool (decide (q1<0))),(N q1.natAbs),(V.bool (decide (q2<0))),(N q2.natAbs)]⟩,⟨true,false,[(V.bool false),V.nil,(V.bool false),V.nil]⟩,⟨true,false,[(V.bool (decide ((tyA pp1 pp2 y)<0))),(N ((tyA pp1 pp2 y).natAbs)),(V.bool (decide ((tyB pp1 pp2 y)<0))),(N ((tyB pp1 pp2 y).natAbs))]⟩]⟩)
def fx_tay_0_J (nn _:Nat)(_ _ _:Int)(_ _ _ _:Nat→Int)(y:Nat):Prop:=y=nn
abbrev fx_tay_0_N (nn i0:Nat)(q1 q2 sc:Int)(pp1 pp2 mm1 mm2:Nat→Int):=NX (fx_tay_0_mk nn i0 q1 q2 sc pp1 pp2 mm1 mm2) (fx_tay_0_I nn i0 q1 q2 sc pp1 pp2 mm1 mm2) (fx_tay_0_mu nn i0 q1 q2 sc pp1 pp2 mm1 mm2) (fx_tay_0_ex nn i0 q1 q2 sc pp1 pp2 mm1 mm2) (fx_tay_0_J nn i0 q1 q2 sc pp1 pp2 mm1 mm2)
theorem zte (nn i0:Nat)(q1 q2 sc:Int)(pp1 pp2 mm1 mm2:Nat→Int)(c0:∀ j,j≤nn→Impl Tryz.prog Amb 241 [(sV (pp1 j) (pp2 j))] (.bool (decide (nn≤j))))(c1:∀ j,j<nn→Impl Tryz.prog Amb 236 [(sV (pp1 j) (pp2 j)),(sV q1 q2),(.int .i64 sc)] (sV (mm1 j) (mm2 j)))(c2:∀ (j:Nat) (k:Int),j<nn→k=mT i0 j→Impl Tryz.prog Amb 242 [(sV (mm1 j) (mm2 j)),(.int .u32 k)] (sV (pp1 (j+1)) (pp2 (j+1))))(c3:∀ j,j<nn→j%2=0→Impl Tryz.prog Amb 164 [(sV (tyA pp1 pp2 j) (tyB pp1 pp2 j)),(sV (pp1 (j+1)) (pp2 (j+1)))] (sV (tyA pp1 pp2 (j+1)) (tyB pp1 pp2 (j+1))))(c4:∀ j,j<nn→j%2=1→Impl Tryz.prog Amb 179 [(sV (tyA pp1 pp2 j) (tyB pp1 pp2 j)),(sV (pp1 (j+1)) (pp2 (j+1)))] (sV (tyA pp1 pp2 (j+1)) (tyB pp1 pp2 (j+1))))(c5:nn≤10000∧i0≤1)(x0:(Nat × Int)⊕(Nat × Int))(hI:fx_tay_0_I nn i0 q1 q2 sc pp1 pp2 mm1 mm2 x0):LoopOk Tryz.prog Amb (loopN Tryz.f237 0) (fx_tay_0_mk nn i0 q1 q2 sc pp1 pp2 mm1 mm2 x0) (fun e st_=>∃ y,fx_tay_0_J nn i0 q1 q2 sc pp1 pp2 mm1 mm2 y∧fx_tay_0_ex nn i0 q1 q2 sc pp1 pp2 mm1 mm2 y=(e,st_)) :=
 z6m hP hAmb ⟨[2,3,4,5,8,9,10],4,[]⟩ (fx_tay_0_mk nn i0 q1 q2 sc pp1 pp2 mm1 mm2) (fx_tay_0_I nn i0 q1 q2 sc pp1 pp2 mm1 mm2) (fx_tay_0_mu nn i0 q1 q2 sc pp1 pp2 mm1 mm2) (fx_tay_0_ex nn i0 q1 q2 sc pp1 pp2 mm1 mm2) (fx_tay_0_J nn i0 q1 q2 sc pp1 pp2 mm1 mm2) x0 hI (Sum.elim (fun (h,k)=>.lits 2<|.call (.bool (decide (nn≤(2*h))))<|.lit<|.both (.lits 3<|.call (sV (mm1 (2*h)) (mm2 (2*h)))<|.lit<|.yes<|.lit<|.yes<|.lit<|.yes<|.lit<|.call (sV (pp1 ((2*h)+1)) (pp2 ((2*h)+1)))<|.lits 2<|.yes<|.lits 4<|.call (sV (tyA pp1 pp2 ((2*h)+1)) (tyB pp1 pp2 ((2*h)+1)))<|.lits 2<|.fin2 ⟨[2,3,4,5,8,9,10],4,[]⟩) (.fin2 ⟨[4,8,9],4,[]⟩)) (fun (h,k)=>.lits 2<|.call (.bool (decide (nn≤(2*h+1))))<|.lit<|.both (.lits 3<|.call (sV (mm1 (2*h+1)) (mm2 (2*h+1)))<|.lit<|.yes<|.lit<|.yes<|.lit<|.yes<|.lit<|.call (sV (pp1 ((2*h+1)+1)) (pp2 ((2*h+1)+1)))<|.lits 2<|.yes<|.lits 4<|.call (sV (tyA pp1 pp2 ((2*h+1)+1)) (tyB pp1 pp2 ((2*h+1)+1)))<|.lits 2<|.fin2 ⟨[2,3,4,5,8,9,10],4,[]⟩) (.fin2 ⟨[4,8,9],4,[]⟩))) (by
  rintro (⟨h,k⟩ | ⟨h,k⟩) hI
  ·skip
   have hI:2*h≤nn∧k=(i0:Int)+4*(h:Int):=hI
   obtain ⟨h1,h2⟩:=hI
   have hk:(k+1)*(k+2)=mT i0 (2*h):=by unfold mT; rw [show ((i0+2*(2*h):Nat):Int)=k by omega]
   have hk1:=zsz i0 (2*h)
   have hk2:=zt0 (i:=i0) (j:=(2*h)) c5.2 oO
   exact z6d (aI True.intro (aI (c0 (2*h) h1 ) (aI (fun (h101:(!(decide (nn≤(2*h))))=true)=>have _gh101:=of_decide_eq_false (z7p h101); aI (c1 (2*h) oO ) (aI (z7u oO:(fits .u32 (k+1))=true) (aI (z7u oO:(fits .u32 (k+2))=true) (aI (z7u oO:(fits .u32 ((k+1)*(k+2)))=true) (aI (c2 (2*h) _ oO hk ) (aI (z7u oO:(fits .u32 (k+2))=true) (aI (c3 (2*h) oO oO ) (aI tT ((z6j (Sum.inr (h,(k+2))) (show 2*h+1≤nn∧(k+2)=(i0:Int)+4*(h:Int)+2 from ⟨by omega,by omega⟩) (show nn-(2*h+1)<nn-2*h by omega):fx_tay_0_N nn i0 q1 q2 sc pp1 pp2 mm1 mm2 (Sum.inl (h,k)) .normal (fx_tay_0_mk nn i0 q1 q2 sc pp1 pp2 mm1 mm2 (Sum.inr (h,(k+2)))))))))))))) (fun (h102:(!(decide (nn≤(2*h))))=false)=>have _gh102:=of_decide_eq_true (z7q h102); aI tT ((z6k 0 ((fx_tay_0_ex nn i0 q1 q2 sc pp1 pp2 mm1 mm2 (2*h)).2) (2*h) (show (2*h)=nn from show (2*h)=nn by omega) rfl:fx_tay_0_N nn i0 q1 q2 sc pp1 pp2 mm1 mm2 (Sum.inl (h,k)) (.exit 0) ((fx_tay_0_ex nn i0 q1 q2 sc pp1 pp2 mm1 mm2 (2*h)).2))))))) (by kernel_rfl)
  ·skip
   have hI:2*h+1≤nn∧k=(i0:Int)+4*(h:Int)+2:=hI
   obtain ⟨h1,h2⟩:=hI
   have hk:(k+1)*(k+2)=mT i0 (2*h+1):=by unfold mT; rw [show ((i0+2*(2*h+1):Nat):Int)=k by omega]
   have hk1:=zsz i0 (2*h+1)
   have hk2:=zt0 (i:=i0) (j:=(2*h+1)) c5.2 oO
   exact z6d (aI True.intro (aI (c0 (2*h+1) h1 ) (aI (fun (h101:(!(decide (nn≤(2*h+1))))=true)=>have _gh101:=of_decide_eq_false (z7p h101); aI (c1 (2*h+1) oO ) (aI (z7u oO:(fits .u32 (k+1))=true) (aI (z7u oO:(fits .u32 (k+2))=true) (aI (z7u oO:(fits .u32 ((k+1)*(k+2)))=true) (aI (c2 (2*h+1) _ oO hk ) (aI (z7u oO:(fits .u32 (k+2))=true) (aI (c4 (2*h+1) oO oO ) (aI tT ((z6j (Sum.inl ((h+1),(k+2))) (show 2*(h+1)≤nn∧(k+2)=(i0:Int)+4*((h+1):Int) from ⟨by omega,by omega⟩) (show nn-2*(h+1)<nn-(2*h+1) by omega):fx_tay_0_N nn i0 q1 q2 sc pp1 pp2 mm1 mm2 (Sum.inr (h,k)) .normal (fx_tay_0_mk nn i0 q1 q2 sc pp1 pp2 mm1 mm2 (Sum.inl ((h+1),(k+2)))))))))))))) (fun (h102:(!(decide (nn≤(2*h+1))))=false)=>have _gh102:=of_decide_eq_true (z7q h102); aI tT ((z6k 0 ((fx_tay_0_ex nn i0 q1 q2 sc pp1 pp2 mm1 mm2 (2*h+1)).2) (2*h+1) (show (2*h+1)=nn from show (2*h+1)=nn by omega) rfl:fx_tay_0_N nn i0 q1 q2 sc pp1 pp2 mm1 mm2 (Sum.inr (h,k)) (.exit 0) ((fx_tay_0_ex nn i0 q1 q2 sc pp1 pp2 mm1 mm2 (2*h+1)).2))))))) (by kernel_rfl))
theorem ztf (nn:Nat)(i0:Nat)(q1 q2 sc:Int)(pp1:Nat→Int)(pp2:Nat→Int)(mm1:Nat→Int)(mm2:Nat→Int)(c0:∀ j,j≤nn→Impl Tryz.prog Amb 241 [(sV (pp1 j) (pp2 j))] (.bool (decide (nn≤j))))(c1:∀ j,j<nn→Impl Tryz.prog Amb 236 [(sV (pp1 j) (pp2 j)),(sV q1 q2),(.int .i64 sc)] (sV (mm1 j) (mm2 j)))(c2:∀ (j:Nat) (k:Int),j<nn→k=mT i0 j→Impl Tryz.prog Amb 242 [(sV (mm1 j) (mm2 j)),(.int .u32 k)] (sV (pp1 (j+1)) (pp2 (j+1))))(c3:∀ j,j<nn→j%2=0→Impl Tryz.prog Amb 164 [(sV (tyA pp1 pp2 j) (tyB pp1 pp2 j)),(sV (pp1 (j+1)) (pp2 (j+1)))] (sV (tyA pp1 pp2 (j+1)) (tyB pp1 pp2 (j+1))))(c4:∀ j,j<nn→j%2=1→Impl Tryz.prog Amb 179 [(sV (tyA pp1 pp2 j) (tyB pp1 pp2 j)),(sV (pp1 (j+1)) (pp2 (j+1)))] (sV (tyA pp1 pp2 (j+1)) (tyB pp1 pp2 (j+1))))(c5:nn≤10000∧i0≤1)(c6:∀ j,j≤nn→L (tyA pp1 pp2 j).natAbs≤8192∧L (tyB pp1 pp2 j).natAbs≤8192∧L (pp2 j).natAbs≤8192):Impl Tryz.prog Amb 237 [(sV (pp1 0) (pp2 0)),(sV q1 q2),(.int .u32 (i0:Int)),(.int .i64 sc)] (sV (tyA pp1 pp2 nn-pp2 nn) (tyB pp1 pp2 nn+pp2 nn)):=by
 exact z6e hP hAmb Tryz.func237 (by kernel_rfl) (.lits 2<|.loop ⟨[2,3,4,5,8,9,10],4,[]⟩ ((fx_tay_0_mk nn i0 q1 q2 sc pp1 pp2 mm1 mm2 (Sum.inl (0,(i0:Int))))) (Nat) (fx_tay_0_ex nn i0 q1 q2 sc pp1 pp2 mm1 mm2) (fx_tay_0_J nn i0 q1 q2 sc pp1 pp2 mm1 mm2) (fun y=>.lits 3<|.call (sV ((tyA pp1 pp2 y)-(pp2 y)) ((tyB pp1 pp2 y)+(pp2 y)))<|.lits 2<|.ret))
  (z6d (aI True.intro (aI tT (aI (rfl:(fx_tay_0_mk nn i0 q1 q2 sc pp1 pp2 mm1 mm2 (Sum.inl (0,(i0:Int))))=(fx_tay_0_mk nn i0 q1 q2 sc pp1 pp2 mm1 mm2 (Sum.inl (0,(i0:Int))))) (aI (zte nn i0 q1 q2 sc pp1 pp2 mm1 mm2 c0 c1 c2 c3 c4 c5 (Sum.inl (0,(i0:Int))) (show 2*0≤nn∧(i0:Int)=(i0:Int)+4*(0:Int) from ⟨by omega,by omega⟩)) (fun y (hJ:fx_tay_0_J nn i0 q1 q2 sc pp1 pp2 mm1 mm2 y)=>have hJ:y=nn:=hJ; have hY:=hJ; have cl:=c6 y oO; aI (zl9 (tyA pp1 pp2 y) (tyB pp1 pp2 y) (pp2 y) oS oS oS) (have f2:=zcv (tyB pp1 pp2 y) (pp2 y); have f1:=zgr (tyA pp1 pp2 y) (pp2 y); (by rw [show y=nn from hY]; exact z5w _:vsub (sV ((tyA pp1 pp2 y)-(pp2 y)) ((tyB pp1 pp2 y)+(pp2 y))) (sV (tyA pp1 pp2 nn-pp2 nn) (tyB pp1 pp2 nn+pp2 nn))))))))) (by kernel_rfl))
theorem ztg (x q1 q2 s1 s2 o1 o2 k1 k2 sc:Int)(c0:Impl Tryz.prog Amb 236 [(sV x x),(sV x x),(.int .i64 sc)] (sV q1 q2))(c1:Impl Tryz.prog Amb 237 [(sV x x),(sV q1 q2),(.int .u32 1),(.int .i64 sc)] (sV s1 s2))(c2:Impl Tryz.prog Amb 213 [(.int .i64 sc)] (sV o1 o2))(c3:Impl Tryz.prog Amb 237 [(sV o1 o2),(sV q1 q2),(.int .u32 0),(.int .i64 sc)] (sV k1 k2))(c4:L (x).natAbs≤8192):Impl Tryz.prog Amb 206 [(zV x),(.int .i64 sc)] (.tup [(sV s1 s2),(sV k1 k2)]):=by
 exact z6e hP hAmb Tryz.func206 (by kernel_rfl) (.lits 2<|.call (sV x x)<|.lits 4<|.call (sV q1 q2)<|.lits 4<|.call (sV s1 s2)<|.lit<|.call (sV o1 o2)<|.lits 2<|.call (sV k1 k2)<|.lits 3<|.ret)
  (z6d (aI True.intro (aI (zl3 x oS) (aI (c0 ) (aI (c1 ) (aI (c2 ) (aI (c3 ) ((z5w (.tup [(sV s1 s2),(sV k1 k2)]))))))))) (by kernel_rfl))
theorem zth (m ee sc x1 x2 p1 p2 h1_ h2_ q t1 t2 z1 z2 r1 r2:Int)(c0:Impl Tryz.prog Amb 161 [(yV m ee),(.int .i64 (sc+48))] (sV x1 x2))(c1:Impl Tryz.prog Amb 117 [(.int .i64 ((sc+48)+1))] (sV p1 p2))(c2:Impl Tryz.prog Amb 162 [(sV p1 p2),(.int .i64 2)] (sV h1_ h2_))(c3:Impl Tryz.prog Amb 163 [(sV x1 x2),(sV h1_ h2_)] (.int .i64 q))(c4:Impl Tryz.prog Amb 165 [(sV h1_ h2_),(.int .i64 q)] (sV t1 t2))(c5:Impl Tryz.prog Amb 164 [(sV x1 x2),(sV t1 t2)] (sV z1 z2))(c6:Impl Tryz.prog Amb 162 [(sV z1 z2),(.int .i64 ((sc+48)-sc))] (sV r1 r2))(c7:(0:Int)≤sc∧sc≤5000):Impl Tryz.prog Amb 94 [(yV m ee),(.int .i64 sc)] (.tup [(.int .i64 q),(sV r1 r2)]):=by
 exact z6e hP hAmb Tryz.func94 (by kernel_rfl) (.lit<|.yes<|.lits 2<|.call (sV x1 x2)<|.lit<|.yes<|.lit<|.call (sV p1 p2)<|.lit<|.call (sV h1_ h2_)<|.lits 5<|.call (.int .i64 q)<|.lits 3<|.call (sV t1 t2)<|.lit<|.call (sV z1 z2)<|.lit<|.yes<|.lit<|.call (sV r1 r2)<|.lits 2<|.ret)
  (z6d (aI True.intro (aI (z7s oS:(fits .i64 (sc+48))=true) (aI (c0 ) (aI (z7s oS:(fits .i64 ((sc+48)+1))=true) (aI (c1 ) (aI (c2 ) (aI (c3 ) (aI (c4 ) (aI (c5 ) (aI (z7s oS:(fits .i64 ((sc+48)-sc))=true) (aI (c6 ) ((z5w (.tup [(.int .i64 q),(sV r1 r2)])))))))))))))) (by kernel_rfl))
theorem zti (m ee f x1 x2 y p1 p2 q r:Int)(c0:Impl Tryz.prog Amb 161 [(yV m ee),(.int .i64 (f+64))] (sV x1 x2))(c1:Impl Tryz.prog Amb 155 [(zV x1),(.int .i64 (f+1))] (zV y))(c2:Impl Tryz.prog Amb 117 [(.int .i64 (f+64))] (sV p1 p2))(c3:Impl Tryz.prog Amb 182 [(zV y),(zV p1)] (.tup [(zV q),(zV r),(.bool true)]))(c4:(0:Int)≤f∧f≤5000):Impl Tryz.prog Amb 203 [(yV m ee),(.int .i64 f)] (zV q):=by
 exact z6e hP hAmb Tryz.func203 (by kernel_rfl) (.lit<|.yes<|.lits 2<|.call (sV x1 x2)<|.lits 2<|.yes<|.lit<|.call (zV y)<|.lit<|.call (sV p1 p2)<|.lits 2<|.call (.tup [(zV q),(zV r),(.bool true)])<|.lits 5<|.ret)
  (z6d (aI True.intro (aI (z7s oS:(fits .i64 (f+64))=true) (aI (c0 ) (aI (z7s oS:(fits .i64 (f+1))=true) (aI (c1 ) (aI (c2 ) (aI (c3 ) ((z5w (zV q)))))))))) (by kernel_rfl))
theorem ztj (m ee more sc q r1 r2 x s1 s2 k1 k2 u1 u2:Int)(c0:(0:Int)≤sc∧sc≤5000)(c1:(wRem ((wRem q 4+4)+more) 4)=0)(c2:0≤r1)(c3:(0:Int)≤more∧more≤1)(c4:Impl Tryz.prog Amb 94 [(yV m ee),(.int .i64 (sc+24))] (.tup [(.int .i64 q),(sV r1 r2)]))(c5:Impl Tryz.prog Amb 129 [(.bool false),(N r1.natAbs)] (zV x))(c6:Impl Tryz.prog Amb 206 [(zV x),(.int .i64 (sc+24))] (.tup [(sV s1 s2),(sV k1 k2)]))(c7:Impl Tryz.prog Amb 162 [(sV (s1-(r2-r1)) (s2+(r2-r1))),(.int .i64 ((sc+24)-sc))] (sV u1 u2))(c8:L (r1).natAbs≤8192)(c9:L (r2).natAbs≤8192)(c10:L (s1).natAbs≤8192)(c11:L (s2).natAbs≤8192)(c12:L (k1).natAbs≤8192)(c13:L (k2).natAbs≤8192):Impl Tryz.prog Amb 157 [(yV m ee),(.int .i64 more),(.int .i64 sc)] (sV u1 u2):=by
 have w1:=zo3 (v:=q) (n:=4) oO
 exact z6e hP hAmb Tryz.func157 (by kernel_rfl) (.lit<|.yes<|.lits 2<|.call (.tup [(.int .i64 q),(sV r1 r2)])<|.lits 5<|.call (zV x)<|.lit<|.call (.tup [(sV s1 s2),(sV k1 k2)])<|.lits 3<|.no<|.lits 4<|.call (sV (-s2) (-s1))<|.lits 2<|.call (sV (-k2) (-k1))<|.lits 3<|.yes<|.lit<|.yes<|.lit<|.no<|.no<|.no<|.no<|.yes<|.lits 4<|.call (zV (r2-r1))<|.lit<|.call (sV (s1-(r2-r1)) (s2+(r2-r1)))<|.lit<|.yes<|.lit<|.call (sV u1 u2)<|.lits 2<|.ret)
  (z6d (aI True.intro (aI (z7s oS:(fits .i64 (sc+24))=true) (aI (c4 ) (aI (c5 ) (aI (c6 ) (aI (decide_eq_false oO:(decide (r1<0))=false) (aI (zl6 s1 s2 oS oS) (have f7:=zcx s2; have f6:=zcx s1; aI (zl6 k1 k2 oS oS) (have f5:=zcx k2; have f4:=zcx k1; aI (z7s oS:(fits .i64 ((wRem q (4:Int))+4))=true) (aI (z7s oS:(fits .i64 (((wRem q (4:Int))+4)+more))=true) (aI (z7i c1:(iEq (wRem (((wRem q (4:Int))+4)+more) (4:Int)) (0:Int))=true) (aI (zlb r1 r2 oS oS) (have f3:=zgr r2 r1; aI (zl9 s1 s2 (r2-r1) oS oS oS) (have f2:=zcv s2 (r2-r1); have f1:=zgr s1 (r2-r1); aI (z7s oS:(fits .i64 ((sc+24)-sc))=true) (aI (c7 ) ((z5w (sV u1 u2)))))))))))))))))) (by kernel_rfl))
theorem ztk (m ee more sc q r1 r2 x s1 s2 k1 k2 u1 u2:Int)(c0:(0:Int)≤sc∧sc≤5000)(c1:(wRem ((wRem q 4+4)+more) 4)=0)(c2:r1<0)(c3:(0:Int)≤more∧more≤1)(c4:Impl Tryz.prog Amb 94 [(yV m ee),(.int .i64 (sc+24))] (.tup [(.int .i64 q),(sV r1 r2)]))(c5:Impl Tryz.prog Amb 129 [(.bool false),(N r1.natAbs)] (zV x))(c6:Impl Tryz.prog Amb 206 [(zV x),(.int .i64 (sc+24))] (.tup [(sV s1 s2),(sV k1 k2)]))(c7:Impl Tryz.prog Amb 162 [(sV ((-s2)-(r2-r1)) ((-s1)+(r2-r1))),(.int .i64 ((sc+24)-sc))] (sV u1 u2))(c8:L (r1).natAbs≤8192)(c9:L (r2).natAbs≤8192)(c10:L (s1).natAbs≤8192)(c11:L (s2).natAbs≤8192)(c12:L (k1).natAbs≤8192)(c13:L (k2).natAbs≤8192):Impl Tryz.prog Amb 157 [(yV m ee),(.int .i64 more),(.int .i64 sc)] (sV u1 u2):=by
 have w1:=zo3 (v:=q) (n:=4) oO
 exact z6e hP hAmb Tryz.func157 (by kernel_rfl) (.lit<|.yes<|.lits 2<|.call (.tup [(.int .i64 q),(sV r1 r2)])<|.lits 5<|.call (zV x)<|.lit<|.call (.tup [(sV s1 s2),(sV k1 k2)])<|.lits 3<|.yes<|.lits 2<|.call (sV (-s2) (-s1))<|.lits 5<|.call (sV (-(-s1)) (-(-s2)))<|.lits 2<|.call (sV (-k2) (-k1))<|.lits 3<|.yes<|.lit<|.yes<|.lit<|.no<|.no<|.no<|.no<|.yes<|.lits 4<|.call (zV (r2-r1))<|.lit<|.call (sV ((-s2)-(r2-r1)) ((-s1)+(r2-r1)))<|.lit<|.yes<|.lit<|.call (sV u1 u2)<|.lits 2<|.ret)
  (z6d (aI True.intro (aI (z7s oS:(fits .i64 (sc+24))=true) (aI (c4 ) (aI (c5 ) (aI (c6 ) (aI (decide_eq_true oO:(decide (r1<0))=true) (aI (zl6 s1 s2 oS oS) (have f9:=zcx s2; have f8:=zcx s1; aI (zl6 (-s2) (-s1) oS oS) (have f7:=zcx (-s1); have f6:=zcx (-s2); aI (zl6 k1 k2 oS oS) (have f5:=zcx k2; have f4:=zcx k1; aI (z7s oS:(fits .i64 ((wRem q (4:Int))+4))=true) (aI (z7s oS:(fits .i64 (((wRem q (4:Int))+4)+more))=true) (aI (z7i c1:(iEq (wRem (((wRem q (4:Int))+4)+more) (4:Int)) (0:Int))=true) (aI (zlb r1 r2 oS oS) (have f3:=zgr r2 r1; aI (zl9 (-s2) (-s1) (r2-r1) oS oS oS) (have f2:=zcv (-s1) (r2-r1); have f1:=zgr (-s2) (r2-r1); aI (z7s oS:(fits .i64 ((sc+24)-sc))=true) (aI (c7 ) ((z5w (sV u1 u2))))))))))))))))))) (by kernel_rfl))
theorem ztl (m ee more sc q r1 r2 x s1 s2 k1 k2 u1 u2:Int)(c0:(0:Int)≤sc∧sc≤5000)(c1:(wRem ((wRem q 4+4)+more) 4)=1)(c2:0≤r1)(c3:(0:Int)≤more∧more≤1)(c4:Impl Tryz.prog Amb 94 [(yV m ee),(.int .i64 (sc+24))] (.tup [(.int .i64 q),(sV r1 r2)]))(c5:Impl Tryz.prog Amb 129 [(.bool false),(N r1.natAbs)] (zV x))(c6:Impl Tryz.prog Amb 206 [(zV x),(.int .i64 (sc+24))] (.tup [(sV s1 s2),(sV k1 k2)]))(c7:Impl Tryz.prog Amb 162 [(sV (k1-(r2-r1)) (k2+(r2-r1))),(.int .i64 ((sc+24)-sc))] (sV u1 u2))(c8:L (r1).natAbs≤8192)(c9:L (r2).natAbs≤8192)(c10:L (s1).natAbs≤8192)(c11:L (s2).natAbs≤8192)(c12:L (k1).natAbs≤8192)(c13:L (k2).natAbs≤8192):Impl Tryz.prog Amb 157 [(yV m ee),(.int .i64 more),(.int .i64 sc)] (sV u1 u2):=by
 have w1:=zo3 (v:=q) (n:=4) oO
 exact z6e hP hAmb Tryz.func157 (by kernel_rfl) (.lit<|.yes<|.lits 2<|.call (.tup [(.int .i64 q),(sV r1 r2)])<|.lits 5<|.call (zV x)<|.lit<|.call (.tup [(sV s1 s2),(sV k1 k2)])<|.lits 3<|.no<|.lits 4<|.call (sV (-s2) (-s1))<|.lits 2<|.call (sV (-k2) (-k1))<|.lits 3<|.yes<|.lit<|.yes<|.lit<|.no<|.no<|.no<|.yes<|.lits 4<|.call (zV (r2-r1))<|.lit<|.call (sV (k1-(r2-r1)) (k2+(r2-r1)))<|.lit<|.yes<|.lit<|.call (sV u1 u2)<|.lits 2<|.ret)
  (z6d (aI True.intro (aI (z7s oS:(fits .i64 (sc+24))=true) (aI (c4 ) (aI (c5 ) (aI (c6 ) (aI (decide_eq_false oO:(decide (r1<0))=false) (aI (zl6 s1 s2 oS oS) (have f7:=zcx s2; have f6:=zcx s1; aI (zl6 k1 k2 oS oS) (have f5:=zcx k2; have f4:=zcx k1; aI (z7s oS:(fits .i64 ((wRem q (4:Int))+4))=true) (aI (z7s oS:(fits .i64 (((wRem q (4:Int))+4)+more))=true) (aI (z7i c1:(iEq (wRem (((wRem q (4:Int))+4)+more) (4:Int)) (1:Int))=true) (aI (zlb r1 r2 oS oS) (have f3:=zgr r2 r1; aI (zl9 k1 k2 (r2-r1) oS oS oS) (have f2:=zcv k2 (r2-r1); have f1:=zgr k1 (r2-r1); aI (z7s oS:(fits .i64 ((sc+24)-sc))=true) (aI (c7 ) ((z5w (sV u1 u2)))))))))))))))))) (by kernel_rfl))
theorem ztm (m ee more sc q r1 r2 x s1 s2 k1 k2 u1 u2:Int)(c0:(0:Int)≤sc∧sc≤5000)(c1:(wRem ((wRem q 4+4)+more) 4)=1)(c2:r1<0)(c3:(0:Int)≤more∧more≤1)(c4:Impl Tryz.prog Amb 94 [(yV m ee),(.int .i64 (sc+24))] (.tup [(.int .i64 q),(sV r1 r2)]))(c5:Impl Tryz.prog Amb 129 [(.bool false),(N r1.natAbs)] (zV x))(c6:Impl Tryz.prog Amb 206 [(zV x),(.int .i64 (sc+24))] (.tup [(sV s1 s2),(sV k1 k2)]))(c7:Impl Tryz.prog Amb 162 [(sV (k1-(r2-r1)) (k2+(r2-r1))),(.int .i64 ((sc+24)-sc))] (sV u1 u2))(c8:L (r1).natAbs≤8192)(c9:L (r2).natAbs≤8192)(c10:L (s1).natAbs≤8192)(c11:L (s2).natAbs≤8192)(c12:L (k1).natAbs≤8192)(c13:L (k2).natAbs≤8192):Impl Tryz.prog Amb 157 [(yV m ee),(.int .i64 more),(.int .i64 sc)] (sV u1 u2):=by
 have w1:=zo3 (v:=q) (n:=4) oO
 exact z6e hP hAmb Tryz.func157 (by kernel_rfl) (.lit<|.yes<|.lits 2<|.call (.tup [(.int .i64 q),(sV r1 r2)])<|.lits 5<|.call (zV x)<|.lit<|.call (.tup [(sV s1 s2),(sV k1 k2)])<|.lits 3<|.yes<|.lits 2<|.call (sV (-s2) (-s1))<|.lits 5<|.call (sV (-(-s1)) (-(-s2)))<|.lits 2<|.call (sV (-k2) (-k1))<|.lits 3<|.yes<|.lit<|.yes<|.lit<|.no<|.no<|.no<|.yes<|.lits 4<|.call (zV (r2-r1))<|.lit<|.call (sV (k1-(r2-r1)) (k2+(r2-r1)))<|.lit<|.yes<|.lit<|.call (sV u1 u2)<|.lits 2<|.ret)
  (z6d (aI True.intro (aI (z7s oS:(fits .i64 (sc+24))=true) (aI (c4 ) (aI (c5 ) (aI (c6 ) (aI (decide_eq_true oO:(decide (r1<0))=true) (aI (zl6 s1 s2 oS oS) (have f9:=zcx s2; have f8:=zcx s1; aI (zl6 (-s2) (-s1) oS oS) (have f7:=zcx (-s1); have f6:=zcx (-s2); aI (zl6 k1 k2 oS oS) (have f5:=zcx k2; have f4:=zcx k1; aI (z7s oS:(fits .i64 ((wRem q (4:Int))+4))=true) (aI (z7s oS:(fits .i64 (((wRem q (4:Int))+4)+more))=true) (aI (z7i c1:(iEq (wRem (((wRem q (4:Int))+4)+more) (4:Int)) (1:Int))=true) (aI (zlb r1 r2 oS oS) (have f3:=zgr r2 r1; aI (zl9 k1 k2 (r2-r1) oS oS oS) (have f2:=zcv k2 (r2-r1); have f1:=zgr k1 (r2-r1); aI (z7s oS:(fits .i64 ((sc+24)-sc))=true) (aI (c7 ) ((z5w (sV u1 u2))))))))))))))))))) (by kernel_rfl))
theorem ztn (m ee more sc q r1 r2 x s1 s2 k1 k2 u1 u2:Int)(c0:(0:Int)≤sc∧sc≤5000)(c1:(wRem ((wRem q 4+4)+more) 4)=2)(c2:0≤r1)(c3:(0:Int)≤more∧more≤1)(c4:Impl Tryz.prog Amb 94 [(yV m ee),(.int .i64 (sc+24))] (.tup [(.int .i64 q),(sV r1 r2)]))(c5:Impl Tryz.prog Amb 129 [(.bool false),(N r1.natAbs)] (zV x))(c6:Impl Tryz.prog Amb 206 [(zV x),(.int .i64 (sc+24))] (.tup [(sV s1 s2),(sV k1 k2)]))(c7:Impl Tryz.prog Amb 162 [(sV ((-s2)-(r2-r1)) ((-s1)+(r2-r1))),(.int .i64 ((sc+24)-sc))] (sV u1 u2))(c8:L (r1).natAbs≤8192)(c9:L (r2).natAbs≤8192)(c10:L (s1).natAbs≤8192)(c11:L (s2).natAbs≤8192)(c12:L (k1).natAbs≤8192)(c13:L (k2).natAbs≤8192):Impl Tryz.prog Amb 157 [(yV m ee),(.int .i64 more),(.int .i64 sc)] (sV u1 u2):=by
 have w1:=zo3 (v:=q) (n:=4) oO
 exact z6e hP hAmb Tryz.func157 (by kernel_rfl) (.lit<|.yes<|.lits 2<|.call (.tup [(.int .i64 q),(sV r1 r2)])<|.lits 5<|.call (zV x)<|.lit<|.call (.tup [(sV s1 s2),(sV k1 k2)])<|.lits 3<|.no<|.lits 4<|.call (sV (-s2) (-s1))<|.lits 2<|.call (sV (-k2) (-k1))<|.lits 3<|.yes<|.lit<|.yes<|.lit<|.no<|.no<|.yes<|.lits 4<|.call (zV (r2-r1))<|.lit<|.call (sV ((-s2)-(r2-r1)) ((-s1)+(r2-r1)))<|.lit<|.yes<|.lit<|.call (sV u1 u2)<|.lits 2<|.ret)
  (z6d (aI True.intro (aI (z7s oS:(fits .i64 (sc+24))=true) (aI (c4 ) (aI (c5 ) (aI (c6 ) (aI (decide_eq_false oO:(decide (r1<0))=false) (aI (zl6 s1 s2 oS oS) (have f7:=zcx s2; have f6:=zcx s1; aI (zl6 k1 k2 oS oS) (have f5:=zcx k2; have f4:=zcx k1; aI (z7s oS:(fits .i64 ((wRem q (4:Int))+4))=true) (aI (z7s oS:(fits .i64 (((wRem q (4:Int))+4)+more))=true) (aI (z7i c1:(iEq (wRem (((wRem q (4:Int))+4)+more) (4:Int)) (2:Int))=true) (aI (zlb r1 r2 oS oS) (have f3:=zgr r2 r1; aI (zl9 (-s2) (-s1) (r2-r1) oS oS oS) (have f2:=zcv (-s1) (r2-r1); have f1:=zgr (-s2) (r2-r1); aI (z7s oS:(fits .i64 ((sc+24)-sc))=true) (aI (c7 ) ((z5w (sV u1 u2)))))))))))))))))) (by kernel_rfl))
theorem zto (m ee more sc q r1 r2 x s1 s2 k1 k2 u1 u2:Int)(c0:(0:Int)≤sc∧sc≤5000)(c1:(wRem ((wRem q 4+4)+more) 4)=2)(c2:r1<0)(c3:(0:Int)≤more∧more≤1)(c4:Impl Tryz.prog Amb 94 [(yV m ee),(.int .i64 (sc+24))] (.tup [(.int .i64 q),(sV r1 r2)]))(c5:Impl Tryz.prog Amb 129 [(.bool false),(N r1.natAbs)] (zV x))(c6:Impl Tryz.prog Amb 206 [(zV x),(.int .i64 (sc+24))] (.tup [(sV s1 s2),(sV k1 k2)]))(c7:Impl Tryz.prog Amb 162 [(sV ((-(-s1))-(r2-r1)) ((-(-s2))+(r2-r1))),(.int .i64 ((sc+24)-sc))] (sV u1 u2))(c8:L (r1).natAbs≤8192)(c9:L (r2).natAbs≤8192)(c10:L (s1).natAbs≤8192)(c11:L (s2).natAbs≤8192)(c12:L (k1).natAbs≤8192)(c13:L (k2).natAbs≤8192):Impl Tryz.prog Amb 157 [(yV m ee),(.int .i64 more),(.int .i64 sc)] (sV u1 u2):=by
 have w1:=zo3 (v:=q) (n:=4) oO
 exact z6e hP hAmb Tryz.func157 (by kernel_rfl) (.lit<|.yes<|.lits 2<|.call (.tup [(.int .i64 q),(sV r1 r2)])<|.lits 5<|.call (zV x)<|.lit<|.call (.tup [(sV s1 s2),(sV k1 k2)])<|.lits 3<|.yes<|.lits 2<|.call (sV (-s2) (-s1))<|.lits 5<|.call (sV (-(-s1)) (-(-s2)))<|.lits 2<|.call (sV (-k2) (-k1))<|.lits 3<|.yes<|.lit<|.yes<|.lit<|.no<|.no<|.yes<|.lits 4<|.call (zV (r2-r1))<|.lit<|.call (sV ((-(-s1))-(r2-r1)) ((-(-s2))+(r2-r1)))<|.lit<|.yes<|.lit<|.call (sV u1 u2)<|.lits 2<|.ret)
  (z6d (aI True.intro (aI (z7s oS:(fits .i64 (sc+24))=true) (aI (c4 ) (aI (c5 ) (aI (c6 ) (aI (decide_eq_true oO:(decide (r1<0))=true) (aI (zl6 s1 s2 oS oS) (have f9:=zcx s2; have f8:=zcx s1; aI (zl6 (-s2) (-s1) oS oS) (have f7:=zcx (-s1); have f6:=zcx (-s2); aI (zl6 k1 k2 oS oS) (have f5:=zcx k2; have f4:=zcx k1; aI (z7s oS:(fits .i64 ((wRem q (4:Int))+4))=true) (aI (z7s oS:(fits .i64 (((wRem q (4:Int))+4)+more))=true) (aI (z7i c1:(iEq (wRem (((wRem q (4:Int))+4)+more) (4:Int)) (2:Int))=true) (aI (zlb r1 r2 oS oS) (have f3:=zgr r2 r1; aI (zl9 (-(-s1)) (-(-s2)) (r2-r1) oS oS oS) (have f2:=zcv (-(-s2)) (r2-r1); have f1:=zgr (-(-s1)) (r2-r1); aI (z7s oS:(fits .i64 ((sc+24)-sc))=true) (aI (c7 ) ((z5w (sV u1 u2))))))))))))))))))) (by kernel_rfl))
theorem ztp (m ee more sc q r1 r2 x s1 s2 k1 k2 u1 u2:Int)(c0:(0:Int)≤sc∧sc≤5000)(c1:(wRem ((wRem q 4+4)+more) 4)=3)(c2:0≤r1)(c3:(0:Int)≤more∧more≤1)(c4:Impl Tryz.prog Amb 94 [(yV m ee),(.int .i64 (sc+24))] (.tup [(.int .i64 q),(sV r1 r2)]))(c5:Impl Tryz.prog Amb 129 [(.bool false),(N r1.natAbs)] (zV x))(c6:Impl Tryz.prog Amb 206 [(zV x),(.int .i64 (sc+24))] (.tup [(sV s1 s2),(sV k1 k2)]))(c7:Impl Tryz.prog Amb 162 [(sV ((-k2)-(r2-r1)) ((-k1)+(r2-r1))),(.int .i64 ((sc+24)-sc))] (sV u1 u2))(c8:L (r1).natAbs≤8192)(c9:L (r2).natAbs≤8192)(c10:L (s1).natAbs≤8192)(c11:L (s2).natAbs≤8192)(c12:L (k1).natAbs≤8192)(c13:L (k2).natAbs≤8192):Impl Tryz.prog Amb 157 [(yV m ee),(.int .i64 more),(.int .i64 sc)] (sV u1 u2):=by
 have w1:=zo3 (v:=q) (n:=4) oO
 exact z6e hP hAmb Tryz.func157 (by kernel_rfl) (.lit<|.yes<|.lits 2<|.call (.tup [(.int .i64 q),(sV r1 r2)])<|.lits 5<|.call (zV x)<|.lit<|.call (.tup [(sV s1 s2),(sV k1 k2)])<|.lits 3<|.no<|.lits 4<|.call (sV (-s2) (-s1))<|.lits 2<|.call (sV (-k2) (-k1))<|.lits 3<|.yes<|.lit<|.yes<|.lit<|.no<|.yes<|.lits 4<|.call (zV (r2-r1))<|.lit<|.call (sV ((-k2)-(r2-r1)) ((-k1)+(r2-r1)))<|.lit<|.yes<|.lit<|.call (sV u1 u2)<|.lits 2<|.ret)
  (z6d (aI True.intro (aI (z7s oS:(fits .i64 (sc+24))=true) (aI (c4 ) (aI (c5 ) (aI (c6 ) (aI (decide_eq_false oO:(decide (r1<0))=false) (aI (zl6 s1 s2 oS oS) (have f7:=zcx s2; have f6:=zcx s1; aI (zl6 k1 k2 oS oS) (have f5:=zcx k2; have f4:=zcx k1; aI (z7s oS:(fits .i64 ((wRem q (4:Int))+4))=true) (aI (z7s oS:(fits .i64 (((wRem q (4:Int))+4)+more))=true) (aI (z7i c1:(iEq (wRem (((wRem q (4:Int))+4)+more) (4:Int)) (3:Int))=true) (aI (zlb r1 r2 oS oS) (have f3:=zgr r2 r1; aI (zl9 (-k2) (-k1) (r2-r1) oS oS oS) (have f2:=zcv (-k1) (r2-r1); have f1:=zgr (-k2) (r2-r1); aI (z7s oS:(fits .i64 ((sc+24)-sc))=true) (aI (c7 ) ((z5w (sV u1 u2)))))))))))))))))) (by kernel_rfl))
theorem ztq (m ee more sc q r1 r2 x s1 s2 k1 k2 u1 u2:Int)(c0:(0:Int)≤sc∧sc≤5000)(c1:(wRem ((wRem q 4+4)+more) 4)=3)(c2:r1<0)(c3:(0:Int)≤more∧more≤1)(c4:Impl Tryz.prog Amb 94 [(yV m ee),(.int .i64 (sc+24))] (.tup [(.int .i64 q),(sV r1 r2)]))(c5:Impl Tryz.prog Amb 129 [(.bool false),(N r1.natAbs)] (zV x))(c6:Impl Tryz.prog Amb 206 [(zV x),(.int .i64 (sc+24))] (.tup [(sV s1 s2),(sV k1 k2)]))(c7:Impl Tryz.prog Amb 162 [(sV ((-k2)-(r2-r1)) ((-k1)+(r2-r1))),(.int .i64 ((sc+24)-sc))] (sV u1 u2))(c8:L (r1).natAbs≤8192)(c9:L (r2).natAbs≤8192)(c10:L (s1).natAbs≤8192)(c11:L (s2).natAbs≤8192)(c12:L (k1).natAbs≤8192)(c13:L (k2).natAbs≤8192):Impl Tryz.prog Amb 157 [(yV m ee),(.int .i64 more),(.int .i64 sc)] (sV u1 u2):=by
 have w1:=zo3 (v:=q) (n:=4) oO
 exact z6e hP hAmb Tryz.func157 (by kernel_rfl) (.lit<|.yes<|.lits 2<|.call (.tup [(.int .i64 q),(sV r1 r2)])<|.lits 5<|.call (zV x)<|.lit<|.call (.tup [(sV s1 s2),(sV k1 k2)])<|.lits 3<|.yes<|.lits 2<|.call (sV (-s2) (-s1))<|.lits 5<|.call (sV (-(-s1)) (-(-s2)))<|.lits 2<|.call (sV (-k2) (-k1))<|.lits 3<|.yes<|.lit<|.yes<|.lit<|.no<|.yes<|.lits 4<|.call (zV (r2-r1))<|.lit<|.call (sV ((-k2)-(r2-r1)) ((-k1)+(r2-r1)))<|.lit<|.yes<|.lit<|.call (sV u1 u2)<|.lits 2<|.ret)
  (z6d (aI True.intro (aI (z7s oS:(fits .i64 (sc+24))=true) (aI (c4 ) (aI (c5 ) (aI (c6 ) (aI (decide_eq_true oO:(decide (r1<0))=true) (aI (zl6 s1 s2 oS oS) (have f9:=zcx s2; have f8:=zcx s1; aI (zl6 (-s2) (-s1) oS oS) (have f7:=zcx (-s1); have f6:=zcx (-s2); aI (zl6 k1 k2 oS oS) (have f5:=zcx k2; have f4:=zcx k1; aI (z7s oS:(fits .i64 ((wRem q (4:Int))+4))=true) (aI (z7s oS:(fits .i64 (((wRem q (4:Int))+4)+more))=true) (aI (z7i c1:(iEq (wRem (((wRem q (4:Int))+4)+more) (4:Int)) (3:Int))=true) (aI (zlb r1 r2 oS oS) (have f3:=zgr r2 r1; aI (zl9 (-k2) (-k1) (r2-r1) oS oS oS) (have f2:=zcv (-k1) (r2-r1); have f1:=zgr (-k2) (r2-r1); aI (z7s oS:(fits .i64 ((sc+24)-sc))=true) (aI (c7 ) ((z5w (sV u1 u2))))))))))))))))))) (by kernel_rfl))
end Go.Proofs.YtcbihoojfakhdaaGreatDoor

namespace Go.Proofs.YtcbihoojfakhdaaGreatDoor
open Go.RowKit
set_option maxRecDepth 100000
set_option maxHeartbeats 2000000
theorem pi_all:(List.range 400).all (fun t=>decide (piLo (t:Int)*2^(430-t)≤ptPi) && decide (ptPi≤piHi (t:Int)*2^(430-t)))=true:=by kernel_rfl
theorem cQ2:dv ptPi (-430)=cQ*2:=of_decide_eq_true (by kernel_rfl)
theorem ztr {t:Nat}(ht:t<400):((piLo (t:Int):Int):Rat)≤cQ*((2^(t+1):Int):Rat)∧cQ*((2^(t+1):Int):Rat)≤((piHi (t:Int):Int):Rat):=by
 have h:=List.all_eq_true.1 pi_all t (List.mem_range.2 ht)
 simp only [Bool.and_eq_true,decide_eq_true_eq] at h
 have a:=(zq2 (t:=t) oO).1 h.1
 have b:=(zq2 (t:=t) oO).2 h.2
 have e:cQ*((2^(t+1):Int):Rat)=dv ptPi (-430)*((2^t:Int):Rat):=by
  rw [cQ2,Int.pow_succ,Rat.intCast_mul]
  show cQ*(((2^t:Int):Rat)*2)=_
  grind
 rw [e]; exact ⟨a,b⟩
theorem zts {d c T:Rat}{p1 p2 q1 q2 k:Int}(hp1:(p1:Rat)≤d*T)(hp2:d*T≤(p2:Rat))(hp:p2≤p1+1)(hq1:(q1:Rat)≤c*T)(hq2:c*T≤(q2:Rat))(hq:q2-q1≤16777216)(hT:4722366482869645213696≤T)
  (c1:157≤100*c) (c2:1000*c≤1571) (hk:k=Int.fdiv (((p1+p2)*2^1)+(q1+q2)) ((q1+q2)*2^1)) (d1:-4294967296≤d) (d2:d≤4294967296):(-4294967295≤k∧k≤4294967295)∧-80≤100*(d-(k:Rat)*c)∧100*(d-(k:Rat)*c)≤80:=by
 have T0:0<T:=by grind
 have m1:=Rat.mul_le_mul_of_nonneg_right c1 (Rat.le_of_lt T0)
 have m2:=Rat.mul_le_mul_of_nonneg_right c2 (Rat.le_of_lt T0)
 have m1:157*T≤100*(c*T):=by rw [← Rat.mul_assoc]; exact m1
 have m2:1000*(c*T)≤1571*T:=by rw [← Rat.mul_assoc]; exact m2
 have m3:=Rat.mul_le_mul_of_nonneg_right d1 (Rat.le_of_lt T0)
 have m4:=Rat.mul_le_mul_of_nonneg_right d2 (Rat.le_of_lt T0)
 have hpR:(p2:Rat)≤(p1:Rat)+1:=by
  have:(p2:Rat)≤((p1+1:Int):Rat):=Rat.intCast_le_intCast.2 hp
  rw [Rat.intCast_add] at this; exact this
 have hqR:(q2:Rat)≤(q1:Rat)+16777216:=by
  have:(q2:Rat)≤((q1+16777216:Int):Rat):=Rat.intCast_le_intCast.2 oO
  rw [Rat.intCast_add] at this; exact this
 have q0:0<q1+q2:=by
  have:(0:Rat)<((q1+q2:Int):Rat):=by rw [Rat.intCast_add]; grind
  exact Rat.intCast_pos.1 this
 rw [Int.fdiv_eq_ediv_of_nonneg _ oO] at hk
 have f1:=Int.ediv_mul_le (((p1+p2)*2^1)+(q1+q2)) (show (q1+q2)*2^1≠0 by omega)
 have f2:=Int.lt_ediv_add_one_mul_self (((p1+p2)*2^1)+(q1+q2)) (show 0<(q1+q2)*2^1 by omega)
 rw [← hk] at f1 f2
 rw [show (2:Int)^1=2 from rfl] at f1 f2
 have g1:((k*((q1+q2)*2):Int):Rat)≤(((p1+p2)*2+(q1+q2):Int):Rat):=Rat.intCast_le_intCast.2 f1
 have g2:(((p1+p2)*2+(q1+q2):Int):Rat)≤(((k+1)*((q1+q2)*2):Int):Rat):=Rat.intCast_le_intCast.2 (Int.le_of_lt f2)
 simp only [Rat.intCast_mul,Rat.intCast_add,show ((2:Int):Rat)=2 from rfl,show ((1:Int):Rat)=1 from rfl] at g1 g2
 have K1:k≤4294967295:=by
  refine Decidable.byContradiction fun hn=>?_
  have kR:(4294967296:Rat)≤(k:Rat):=Rat.intCast_le_intCast.2 (show (4294967296:Int)≤k by omega)
  have m:=Rat.mul_le_mul_of_nonneg_right kR (show 0≤((q1:Rat)+(q2:Rat))*2 by grind)
  clear f1 f2 hk
  grind
 have K2:-4294967295≤k:=by
  refine Decidable.byContradiction fun hn=>?_
  have kR:(k:Rat)+1≤-4294967295:=by
   have:=Rat.intCast_le_intCast.2 (show k+1≤-4294967295 by omega)
   rw [Rat.intCast_add] at this; exact this
  have m:=Rat.mul_le_mul_of_nonneg_right kR (show 0≤((q1:Rat)+(q2:Rat))*2 by grind)
  clear f1 f2 hk
  grind
 refine ⟨⟨K2,K1⟩,?_⟩
 have k1R:(k:Rat)≤4294967296:=Rat.intCast_le_intCast.2 (show k≤4294967296 by omega)
 have k2R:-4294967296≤(k:Rat):=Rat.intCast_le_intCast.2 (show -4294967296≤k by omega)
 have mb:=zrp (p:=(k:Rat)) (P:=4294967296) (x:=(q1:Rat)+(q2:Rat)-2*(c*T)) (a:=16777216) k2R k1R (by grind) (by grind)
 have e1:(k:Rat)*((q1:Rat)+(q2:Rat)-2*(c*T))=(k:Rat)*((q1:Rat)+(q2:Rat))-2*((k:Rat)*(c*T)):=by grind
 have e2:(k:Rat)*(((q1:Rat)+(q2:Rat))*2)=2*((k:Rat)*((q1:Rat)+(q2:Rat))):=by grind
 have e3:((k:Rat)+1)*(((q1:Rat)+(q2:Rat))*2)=2*((k:Rat)*((q1:Rat)+(q2:Rat)))+2*((q1:Rat)+(q2:Rat)):=by grind
 have e4:100*(d-(k:Rat)*c)*T=100*(d*T-(k:Rat)*(c*T)):=by grind
 rw [e1] at mb
 rw [e2] at g1
 rw [e3] at g2
 clear f1 f2 hk K1 K2 e1 e2 e3
 constructor
 ·refine Rat.le_of_mul_le_mul_right (c:=T) ?_ T0
  rw [e4]
  generalize (k:Rat)*(c*T)=x1 at *
  generalize (k:Rat)*((q1:Rat)+(q2:Rat))=x2 at *
  generalize c*T=C at *
  generalize d*T=D at *
  clear c1 c2 d1 d2 e4 k1R k2R hp hq q0
  grind
 ·refine Rat.le_of_mul_le_mul_right (c:=T) ?_ T0
  rw [e4]
  generalize (k:Rat)*(c*T)=x1 at *
  generalize (k:Rat)*((q1:Rat)+(q2:Rat))=x2 at *
  generalize c*T=C at *
  generalize d*T=D at *
  clear c1 c2 d1 d2 e4 k1R k2R hp hq q0
  grind
theorem ztt (m ee sc:Int)(hs:24≤sc∧sc≤320)(hm:L (m).natAbs≤20)(he:-440≤ee∧ee≤130)(d1:-4294967296≤dv m ee)(d2:dv m ee≤4294967296) :
  ∃ q r1 r2:Int,Impl Tryz.prog Amb 94 [(yV m ee),(.int .i64 sc)] (.tup [(.int .i64 q),(sV r1 r2)])∧(-4294967295≤q∧q≤4294967295)∧r1≤r2∧r2-r1≤300∧(-80≤100*(dv m ee-(q:Rat)*cQ)∧100*(dv m ee-(q:Rat)*cQ)≤80) ∧
   (r1:Rat)≤(dv m ee-(q:Rat)*cQ)*((2^sc.toNat:Int):Rat)∧(dv m ee-(q:Rat)*cQ)*((2^sc.toNat:Int):Rat)≤(r2:Rat):=by
 obtain ⟨t,ht⟩:∃ t:Nat,(t:Int)=sc+48:=⟨(sc+48).toNat,by omega⟩
 have hO:=zq9 m ee (sc+48) oO oO oO
 have lf:=zow m ee (sc+48)
 have sc1:=(zpm (dv m ee) t).1
 have sc2:=(zpn (dv m ee) t).1
 have fc:=(zpo (dv m ee) t).1
 have cl:=ztr (t:=t+1) oO
 have tt:((t+1:Nat):Int)=sc+48+1:=by omega
 rw [tt] at cl
 rw [ht] at sc1 sc2 fc
 have b:=zlf (s:=sc+48+1) oO
 have bw:piHi (sc+48+1)-piLo (sc+48+1)<16777216:=by
  have:=zb9 (piHi (sc+48+1)-piLo (sc+48+1)).natAbs
  have p:=Nat.pow_le_pow_right (n:=2) oO b.2.2
  omega
 have hP:Impl Tryz.prog Amb 117 [(.int .i64 ((sc+48)+1))] (sV (piLo (sc+48+1)) (piHi (sc+48+1))):=zle (sc+48+1) oO
 generalize piLo (sc+48+1)=p1 at *
 generalize piHi (sc+48+1)=p2 at *
 generalize flr (dv m ee) (sc+48)=x1 at *
 generalize cei (dv m ee) (sc+48)=x2 at *
 have hH:=zl5 p1 p2 2 oO oO oO
 have he1:=zpz (a:=p1) (b:=p2) (X:=cQ) (t:=t+1+1) (s:=t) (n:=2) oO cl.1 cl.2
 have hw1:=zq0 (a:=p1) (b:=p2) (W:=4194304) (n:=2) oO
 have o1:=zgy p1 2
 have o2:=zcx p2
 have o3:=zgy (-p2) 2
 have o4:=zcx (-p2 / 2^2)
 have e2:(2:Int).toNat=2:=rfl
 rw [e2] at hH
 generalize p1 / 2^2=h1 at *
 generalize -(-p2 / 2^2)=h2 at *
 have cb:=cQ_b
 have T72:(4722366482869645213696:Rat)≤((2^t:Int):Rat):=by
  have p:=Int.ofNat_le.2 (Nat.pow_le_pow_right (n:=2) oO (show 72≤t by omega))
  rw [← zaj,← zaj] at p
  exact Rat.intCast_le_intCast.2 p
 have nk:=zts (k:=Int.fdiv (((x1+x2)*2^1)+(h1+h2)) ((h1+h2)*2^1)) sc1 sc2 fc he1.1 he1.2 oO T72 cb.1 cb.2 rfl d1 d2
 have h12:0<h1+h2:=by
  have:(0:Rat)<((h1+h2:Int):Rat):=by
   rw [Rat.intCast_add]
   have m1:=Rat.mul_le_mul_of_nonneg_right cb.1 (show (0:Rat)≤((2^t:Int):Rat) by grind)
   have hR:(h2:Rat)≤(h1:Rat)+16777216:=by
    have:(h2:Rat)≤((h1+16777216:Int):Rat):=Rat.intCast_le_intCast.2 oO
    rw [Rat.intCast_add] at this; exact this
   grind
  exact Rat.intCast_pos.1 this
 have hN:=zqw x1 x2 h1 h2 oO oO oO oO h12 oO
 generalize Int.fdiv (((x1+x2)*2^1)+(h1+h2)) ((h1+h2)*2^1)=q at *
 have m1:=zcw h1 q
 have m2:=zcw h2 q
 have lk:=zgo (n:=q) oO
 have hT:=zqc h1 h2 q oO oO oO
 have te:=zq1 (k:=q) he1.1 he1.2
 have h1le:h1≤h2:=Rat.intCast_le_intCast.1 (Rat.le_trans he1.1 he1.2)
 have tw:=tm_w (W:=4294967296) h1le (k:=q) oO oO
 have tL:L (tmLo h1 h2 q).natAbs≤430∧L (tmHi h1 h2 q).natAbs≤430:=by unfold tmLo tmHi; split<;>omega
 generalize tmLo h1 h2 q=t1 at *
 generalize tmHi h1 h2 q=t2 at *
 have n1:=zcx t1
 have n2:=zcx t2
 have a1:=zcv x1 (-t2)
 have a2:=zcv x2 (-t1)
 have hS:=zl8 x1 x2 t1 t2 oO oO oO oO
 have hH2:=zl5 (x1+-t2) (x2+-t1) (sc+48-sc) oO oO oO
 have e48:(sc+48-sc).toNat=48:=by omega
 rw [e48] at hH2
 have hw:=zq0 (a:=x1+-t2) (b:=x2+-t1) (W:=257) (n:=48) oO
 have he:=zpz (a:=x1+-t2) (b:=x2+-t1) (X:=dv m ee-(q:Rat)*cQ) (t:=t) (s:=sc.toNat) (n:=48) oO (by rw [Rat.intCast_add,Rat.intCast_neg]; grind) (by rw [Rat.intCast_add,Rat.intCast_neg]; grind)
 refine ⟨q,_,_,zth m ee sc x1 x2 p1 p2 h1 h2 q t1 t2 _ _ _ _ hO hP hH hN hT hS hH2 oO,nk.1,Rat.intCast_le_intCast.1 (Rat.le_trans he.1 he.2),?_,nk.2,he.1,he.2⟩
 omega
end Go.Proofs.YtcbihoojfakhdaaGreatDoor

namespace Go.Proofs.YtcbihoojfakhdaaGreatDoor
def quad (j:Int)(c s:Rat):Rat:=if j=0 then s else if j=1 then c else if j=2 then -s else -c
def yA (j s1 s2 k1 k2:Int):Int:=if j=0 then s1 else if j=1 then k1 else if j=2 then -s2 else -k2
def yB (j s1 s2 k1 k2:Int):Int:=if j=0 then s2 else if j=1 then k2 else if j=2 then -s1 else -k1
theorem ztu {j:Int}(h:0≤j∧j≤3):j=0∨j=1∨j=2∨j=3:=by omega
theorem ztv (c s:Rat):quad 0 c s=s:=rfl
theorem ztw (c s:Rat):quad 1 c s=c:=rfl
theorem ztx (c s:Rat):quad 2 c s=-s:=rfl
theorem zty (c s:Rat):quad 3 c s=-c:=rfl
theorem ztz (k:Int)(c s:Rat):qS k c s=quad (k%4) c s:=by
 unfold qS
 rcases (show k%4=0∨k%4=1∨k%4=2∨k%4=3 by omega) with q | q | q | q
 ·rw [iZ_0 q,q,ztv]; show s*1+c*0=s; grind
 ·rw [iZ_1 q,q,ztw]; show s*0+c*1=c; grind
 ·rw [iZ_2 q,q,ztx]; show s*-1+c*0=-s; grind
 ·rw [iZ_3 q,q,zty]; show s*0+c*-1=-c; grind
theorem zu0 (k:Int)(c s:Rat):qC k c s=quad ((k+1)%4) c s:=by
 unfold qC
 rcases (show k%4=0∨k%4=1∨k%4=2∨k%4=3 by omega) with q | q | q | q
 ·rw [iZ_0 q,show (k+1)%4=1 by omega,ztw]; show c*1-s*0=c; grind
 ·rw [iZ_1 q,show (k+1)%4=2 by omega,ztx]; show c*0-s*1=-s; grind
 ·rw [iZ_2 q,show (k+1)%4=3 by omega,zty]; show c*-1-s*0=-c; grind
 ·rw [iZ_3 q,show (k+1)%4=0 by omega,ztv]; show c*0-s*-1=s; grind
theorem zu1 {j:Int}(hj:0≤j∧j≤3){c s c' s' a:Rat}(hs:-a≤s-s'∧s-s'≤a)(hc:-a≤c-c'∧c-c'≤a):-a≤quad j c s-quad j c' s'∧quad j c s-quad j c' s'≤a:=by
 rcases ztu hj with rfl | rfl | rfl | rfl
 ·exact hs
 ·exact hc
 ·rw [ztx,ztx]; constructor<;>grind
 ·rw [zty,zty]; constructor<;>grind
theorem zu2 {j:Int}(hj:0≤j∧j≤3){c s T:Rat}{s1 s2 k1 k2:Int}(hs:(s1:Rat)≤s*T∧s*T≤(s2:Rat))(hc:(k1:Rat)≤c*T∧c*T≤(k2:Rat)) :
  ((yA j s1 s2 k1 k2:Int):Rat)≤quad j c s*T∧quad j c s*T≤((yB j s1 s2 k1 k2:Int):Rat):=by
 rcases ztu hj with rfl | rfl | rfl | rfl
 ·exact hs
 ·exact hc
 ·have e1:yA 2 s1 s2 k1 k2=-s2:=rfl
  have e2:yB 2 s1 s2 k1 k2=-s1:=rfl
  rw [ztx,e1,e2,Rat.intCast_neg,Rat.intCast_neg]; constructor<;>grind
 ·have e1:yA 3 s1 s2 k1 k2=-k2:=rfl
  have e2:yB 3 s1 s2 k1 k2=-k1:=rfl
  rw [zty,e1,e2,Rat.intCast_neg,Rat.intCast_neg]; constructor<;>grind
theorem zu3 {j:Int}(hj:0≤j∧j≤3){s1 s2 k1 k2 W:Int}(h1:s1≤s2)(h2:s2-s1≤W)(h3:k1≤k2)(h4:k2-k1≤W):yA j s1 s2 k1 k2≤yB j s1 s2 k1 k2∧yB j s1 s2 k1 k2-yA j s1 s2 k1 k2≤W:=by
 unfold yA yB
 rcases ztu hj with rfl | rfl | rfl | rfl<;>simp<;>omega
theorem zu4 {j:Int}{s1 s2 k1 k2:Int}{B:Nat}(h1:L s1.natAbs≤B)(h2:L s2.natAbs≤B)(h3:L k1.natAbs≤B)(h4:L k2.natAbs≤B):L (yA j s1 s2 k1 k2).natAbs≤B∧L (yB j s1 s2 k1 k2).natAbs≤B:=by
 have n1:=zcx s1
 have n2:=zcx s2
 have n3:=zcx k1
 have n4:=zcx k2
 unfold yA yB
 constructor
 ·split
  ·omega
  ·split
   ·omega
   ·split<;>omega
 ·split
  ·omega
  ·split
   ·omega
   ·split<;>omega
def SC (more:Int)(d:Rat)(K:Nat):Rat:=if more=0 then SN d K else CS d K
theorem zu5 (d:Rat)(k more:Int)(hm:more=0∨more=1){M:Nat}(hk:k.natAbs≤M)(hM:1≤M):∃ N,∀ K,N≤K →
  SC more d K≤quad ((k+more)%4) (CS (d-(k:Rat)*cQ) K) (SN (d-(k:Rat)*cQ) K)+qerr M∧quad ((k+more)%4) (CS (d-(k:Rat)*cQ) K) (SN (d-(k:Rat)*cQ) K)≤SC more d K+qerr M:=by
 obtain ⟨N,h⟩:=zsw d k hk hM
 refine ⟨N,fun K hK=>?_⟩
 have h:=h K hK
 rw [ztz,zu0] at h
 rcases hm with rfl | rfl
 ·rw [Int.add_zero]; exact h.1
 ·exact h.2
theorem EnE.half {f:Nat→Rat}{t s n:Nat}{a b:Int}{g:Rat}(ht:t=s+n)(h:EnE f t a b (g*((2^t:Int):Rat))):EnE f s (a / 2^n) (-(-b / 2^n)) (g*((2^s:Int):Rat)):=by
 obtain ⟨N,h⟩:=h
 refine ⟨N,fun K hK=>?_⟩
 have q:=h K hK
 have e1:f K*((2^t:Int):Rat)+g*((2^t:Int):Rat)=(f K+g)*((2^t:Int):Rat):=by grind
 have P0:(0:Rat)<((2^n:Int):Rat):=Rat.intCast_pos.2 (zi5 n)
 have f1:=(fl_R (a:=a) (zi5 n)).1
 have f2:=(ce_R (a:=b) (zi5 n)).1
 have e:((2^t:Int):Rat)=((2^s:Int):Rat)*((2^n:Int):Rat):=by rw [ht,Int.pow_add,Rat.intCast_mul]
 rw [e] at q
 constructor
 ·refine Rat.le_of_mul_le_mul_right (c:=((2^n:Int):Rat)) ?_ P0
  have:=q.1
  grind
 ·refine Rat.le_of_mul_le_mul_right (c:=((2^n:Int):Rat)) ?_ P0
  have:=q.2
  grind
def sM:Nat:=4294967296
def sE:Rat:=26*((sM:Rat)*eps)
theorem zu6 {d ρ:Rat}{q more W:Int}{t:Nat}{y1 y2 r1 r2:Int}(hm:more=0∨more=1)(hq:q.natAbs≤sM)(hr1:(r1:Rat)≤(d-(q:Rat)*cQ)*((2^t:Int):Rat))(hr2:(d-(q:Rat)*cQ)*((2^t:Int):Rat)≤(r2:Rat))(hρ:ρ*((2^t:Int):Rat)=(r1:Rat))
  (hw:r2-r1≤2^t) (hy:∃ N,∀ K,N≤K→(y1:Rat)≤quad ((q+more)%4) (CS ρ K) (SN ρ K)*((2^t:Int):Rat)∧quad ((q+more)%4) (CS ρ K) (SN ρ K)*((2^t:Int):Rat)≤(y2:Rat)) :
  EnE (SC more d) t (y1-(r2-r1)) (y2+(r2-r1)) (sE*((2^t:Int):Rat)):=by
 have T0:(0:Rat)<((2^t:Int):Rat):=Rat.intCast_pos.2 (zi5 t)
 have i0:=Rat.inv_pos.2 T0
 have ie:=zrq T0
 have e0:=eps0
 have M0:(0:Rat)<(sM:Rat):=of_decide_eq_true (by kernel_rfl)
 have me:=Rat.mul_pos M0 e0
 obtain ⟨N1,h1⟩:=zu5 d q more hm hq (by decide)
 obtain ⟨h,hh⟩:∃ h,h=(d-(q:Rat)*cQ)-ρ:=⟨_,rfl⟩
 have hr:ρ+h=d-(q:Rat)*cQ:=by rw [hh]; grind
 have hT:h*((2^t:Int):Rat)=(d-(q:Rat)*cQ)*((2^t:Int):Rat)-(r1:Rat):=by rw [hh,← hρ]; grind
 have h0:0≤h:=Rat.le_of_mul_le_mul_right (c:=((2^t:Int):Rat)) (by rw [Rat.zero_mul,hT]; grind) T0
 have hwR:(r2:Rat)-(r1:Rat)≤((2^t:Int):Rat):=by
  have:=Rat.intCast_le_intCast.2 hw
  rw [Rat.intCast_sub] at this; exact this
 have h1':h≤1:=Rat.le_of_mul_le_mul_right (c:=((2^t:Int):Rat)) (by rw [hT]; grind) T0
 obtain ⟨N2,h2⟩:=lip (x:=ρ) h0 (by grind) me
 obtain ⟨N3,h3⟩:=hy
 refine ⟨N1+N2+N3,fun K hK=>?_⟩
 have h1:=h1 K (by omega)
 have h2:=h2 K (by omega)
 have h3:=h3 K (by omega)
 rw [hr] at h2
 have jb:0≤(q+more)%4∧(q+more)%4≤3:=by omega
 have l:=zu1 jb h2.1 h2.2
 have eq:qerr sM=25*((sM:Rat)*eps):=rfl
 rw [eq] at h1
 unfold sE
 generalize quad ((q+more)%4) (CS (d-(q:Rat)*cQ) K) (SN (d-(q:Rat)*cQ) K)=u at *
 generalize quad ((q+more)%4) (CS ρ K) (SN ρ K)=v at *
 generalize (sM:Rat)*eps=E at *
 generalize SC more d K=z at *
 have hT2:h*((2^t:Int):Rat)≤(r2:Rat)-(r1:Rat):=by rw [hT]; grind
 have m1:=Rat.mul_le_mul_of_nonneg_right (show z≤v+h+26*E by grind) (Rat.le_of_lt T0)
 have m2:=Rat.mul_le_mul_of_nonneg_right (show v≤z+h+26*E by grind) (Rat.le_of_lt T0)
 rw [Rat.intCast_sub,Rat.intCast_add,Rat.intCast_sub]
 generalize ((2^t:Int):Rat)=T at *
 clear h1 h2 l hρ hh hr
 constructor<;>grind
theorem zu7 (q:Int)(more:Int)(hm:more=0∨more=1):wRem ((wRem q 4+4)+more) 4=(q+more)%4:=by
 unfold wRem
 have b:=zo3 (v:=q) (n:=4) (by omega)
 unfold wRem at b
 rw [Int.tmod_eq_emod_of_nonneg (by omega)]
 have e:Int.tmod q 4%4=q%4:=by
  rcases (show 0≤q∨q<0 by omega) with h | h
  ·rw [Int.tmod_eq_emod_of_nonneg h]; omega
  ·have:Int.tmod q 4=-(Int.tmod (-q) 4):=by rw [Int.neg_tmod,Int.neg_neg]
   rw [this,Int.tmod_eq_emod_of_nonneg (by omega)]; omega
 omega
end Go.Proofs.YtcbihoojfakhdaaGreatDoor

namespace Go.Proofs.YtcbihoojfakhdaaGreatDoor
open Go.RowKit
set_option maxRecDepth 100000
set_option maxHeartbeats 2000000
theorem zu8 {a b c d:Int}(h1:a=c)(h2:b=d):(V.agg [.bool (decide (a<0)),N a.natAbs,.bool (decide (b<0)),N b.natAbs])=.agg [.bool (decide (c<0)),N c.natAbs,.bool (decide (d<0)),N d.natAbs]:=by
 subst h1; subst h2; rfl
theorem zu9 (sc q1 q2 x:Int)(hs:24≤sc∧sc≤400)(h:TyH (2^sc.toNat) q1 q2 x x) :
  ∃ n:Nat,n≤sc.toNat∧Impl Tryz.prog Amb 237 [(sV x x),(sV q1 q2),(.int .u32 1),(.int .i64 sc)] (sV (tyA (fun j=>(ty (2^sc.toNat) q1 q2 x x 1 j).1) (fun j=>(ty (2^sc.toNat) q1 q2 x x 1 j).2) n-(ty (2^sc.toNat) q1 q2 x x 1 n).2) (tyB (fun j=>(ty (2^sc.toNat) q1 q2 x x 1 j).1) (fun j=>(ty (2^sc.toNat) q1 q2 x x 1 j).2) n+(ty (2^sc.toNat) q1 q2 x x 1 n).2))∧(0≤(ty (2^sc.toNat) q1 q2 x x 1 n).2∧(ty (2^sc.toNat) q1 q2 x x 1 n).2<8):=by
 obtain ⟨n,n1,n2,n3⟩:=zt4 h 1
 have tf:=zt2 h 1
 have tl:∀ z:Int,0≤z→z≤2^sc.toNat→L z.natAbs≤70:=fun z z0 z1=>by
  have p:((2^sc.toNat:Nat):Int)=(2:Int)^sc.toNat:=(zaj _).symm
  exact zrl (t:=sc.toNat) (c:=1) oO oO oO
 have l1:∀ j,L (ty (2^sc.toNat) q1 q2 x x 1 j).1.natAbs≤70:=fun j=>tl _ (tf j).1 (by have:=tf j; omega)
 have l2:∀ j,L (ty (2^sc.toNat) q1 q2 x x 1 j).2.natAbs≤70:=fun j=>tl _ (by have:=tf j; omega) (tf j).2.2.1
 have sb:=zt7 (p1:=(fun j=>(ty (2^sc.toNat) q1 q2 x x 1 j).1)) (p2:=(fun j=>(ty (2^sc.toNat) q1 q2 x x 1 j).2)) (T:=2^sc.toNat) tf
 have ls:∀ j,j≤n→L (tyA (fun j=>(ty (2^sc.toNat) q1 q2 x x 1 j).1) (fun j=>(ty (2^sc.toNat) q1 q2 x x 1 j).2) j).natAbs≤70∧L (tyB (fun j=>(ty (2^sc.toNat) q1 q2 x x 1 j).1) (fun j=>(ty (2^sc.toNat) q1 q2 x x 1 j).2) j).natAbs≤70:=fun j hj=>by
  have b:=(sb j).1
  have p:((2^sc.toNat:Nat):Int)=(2:Int)^sc.toNat:=(zaj _).symm
  have m:=Int.mul_le_mul_of_nonneg_right (show (j:Int)+1≤1000 by omega) (Int.le_of_lt (zi5 sc.toNat))
  exact ⟨zrl (t:=sc.toNat) (c:=1000) oO oO oO,zrl (t:=sc.toNat) (c:=1000) oO oO oO⟩
 have lq1:=tl q1 h.q0 (by have:=h.q12; have:=h.qT; omega)
 have lq2:=tl q2 (by have:=h.q0; have:=h.q12; omega) h.qT
 refine ⟨n,n1,ztf n 1 q1 q2 sc (fun j=>(ty (2^sc.toNat) q1 q2 x x 1 j).1) (fun j=>(ty (2^sc.toNat) q1 q2 x x 1 j).2) (fun j=>(ty (2^sc.toNat) q1 q2 x x 1 j).1*q1 / 2^sc.toNat) (fun j=>-(-((ty (2^sc.toNat) q1 q2 x x 1 j).2*q2) / 2^sc.toNat)) (fun j hj=>?_) (fun j hj=>?_) (fun j k hj hk=>?_) (fun j hj he=>?_) (fun j hj he=>?_) oO (fun j hj=>⟨Nat.le_trans (ls j hj).1 oO,Nat.le_trans (ls j hj).2 oO,Nat.le_trans (l2 j) oO⟩),by have:=tf n; omega,n2⟩
 ·refine zp3 (congrArg V.bool (decide_eq_decide.2 ?_)) (zqf (ty (2^sc.toNat) q1 q2 x x 1 j).1 (ty (2^sc.toNat) q1 q2 x x 1 j).2 (by have:=l2 j; omega))
  have z:=tf j
  constructor
  ·intro q
   exact Decidable.byContradiction fun hn=>n3 j oO oO
  ·intro q
   rw [show j=n by omega]
   have:=tf n
   omega
 ·exact zqa (ty (2^sc.toNat) q1 q2 x x 1 j).1 (ty (2^sc.toNat) q1 q2 x x 1 j).2 q1 q2 sc (by have:=l1 j; omega) (by have:=l2 j; omega) oO oO oO
 ·subst hk
  have z:=zt3 h 1 j
  have g1:=tl _ z.1.1 z.1.2
  have g2:=tl _ z.2.1.1 z.2.1.2
  exact zqd _ _ (mT 1 j) (by show L ((ty (2^sc.toNat) q1 q2 x x 1 j).1*q1 / 2^sc.toNat).natAbs≤65536; omega) (by show L (-(-((ty (2^sc.toNat) q1 q2 x x 1 j).2*q2) / 2^sc.toNat)).natAbs≤65536; omega) ⟨by have:=zsz 1 j; omega,zt0 oO oO⟩
 ·have z:=ls j oO
  have y1:=l1 (j+1)
  have y2:=l2 (j+1)
  exact zp3 (zu8 (if_pos he).symm (if_pos he).symm) (zl8 (tyA (fun j=>(ty (2^sc.toNat) q1 q2 x x 1 j).1) (fun j=>(ty (2^sc.toNat) q1 q2 x x 1 j).2) j) (tyB (fun j=>(ty (2^sc.toNat) q1 q2 x x 1 j).1) (fun j=>(ty (2^sc.toNat) q1 q2 x x 1 j).2) j) (ty (2^sc.toNat) q1 q2 x x 1 (j+1)).1 (ty (2^sc.toNat) q1 q2 x x 1 (j+1)).2 oO oO oO oO)
 ·have z:=ls j oO
  have y1:=l1 (j+1)
  have y2:=l2 (j+1)
  have he:¬ j%2=0:=by omega
  exact zp3 (zu8 (if_neg he).symm (if_neg he).symm) (zl7 (tyA (fun j=>(ty (2^sc.toNat) q1 q2 x x 1 j).1) (fun j=>(ty (2^sc.toNat) q1 q2 x x 1 j).2) j) (tyB (fun j=>(ty (2^sc.toNat) q1 q2 x x 1 j).1) (fun j=>(ty (2^sc.toNat) q1 q2 x x 1 j).2) j) (ty (2^sc.toNat) q1 q2 x x 1 (j+1)).1 (ty (2^sc.toNat) q1 q2 x x 1 (j+1)).2 oO oO oO oO)
theorem zua (sc q1 q2:Int)(hs:24≤sc∧sc≤400)(h:TyH (2^sc.toNat) q1 q2 ((2:Int)^sc.toNat) ((2:Int)^sc.toNat)) :
  ∃ n:Nat,1≤n∧n≤sc.toNat∧Impl Tryz.prog Amb 237 [(sV ((2:Int)^sc.toNat) ((2:Int)^sc.toNat)),(sV q1 q2),(.int .u32 0),(.int .i64 sc)] (sV (tyA (fun j=>(ty (2^sc.toNat) q1 q2 ((2:Int)^sc.toNat) ((2:Int)^sc.toNat) 0 j).1) (fun j=>(ty (2^sc.toNat) q1 q2 ((2:Int)^sc.toNat) ((2:Int)^sc.toNat) 0 j).2) n-(ty (2^sc.toNat) q1 q2 ((2:Int)^sc.toNat) ((2:Int)^sc.toNat) 0 n).2) (tyB (fun j=>(ty (2^sc.toNat) q1 q2 ((2:Int)^sc.toNat) ((2:Int)^sc.toNat) 0 j).1) (fun j=>(ty (2^sc.toNat) q1 q2 ((2:Int)^sc.toNat) ((2:Int)^sc.toNat) 0 j).2) n+(ty (2^sc.toNat) q1 q2 ((2:Int)^sc.toNat) ((2:Int)^sc.toNat) 0 n).2))∧(0≤(ty (2^sc.toNat) q1 q2 ((2:Int)^sc.toNat) ((2:Int)^sc.toNat) 0 n).2∧(ty (2^sc.toNat) q1 q2 ((2:Int)^sc.toNat) ((2:Int)^sc.toNat) 0 n).2<8):=by
 obtain ⟨n,n1,n2,n3⟩:=zt4 h 0
 have tf:=zt2 h 0
 have tl:∀ z:Int,0≤z→z≤2^sc.toNat→L z.natAbs≤70:=fun z z0 z1=>by
  have p:((2^sc.toNat:Nat):Int)=(2:Int)^sc.toNat:=(zaj _).symm
  exact zrl (t:=sc.toNat) (c:=1) oO oO oO
 have l1:∀ j,L (ty (2^sc.toNat) q1 q2 ((2:Int)^sc.toNat) ((2:Int)^sc.toNat) 0 j).1.natAbs≤70:=fun j=>tl _ (tf j).1 (by have:=tf j; omega)
 have l2:∀ j,L (ty (2^sc.toNat) q1 q2 ((2:Int)^sc.toNat) ((2:Int)^sc.toNat) 0 j).2.natAbs≤70:=fun j=>tl _ (by have:=tf j; omega) (tf j).2.2.1
 have sb:=zt7 (p1:=(fun j=>(ty (2^sc.toNat) q1 q2 ((2:Int)^sc.toNat) ((2:Int)^sc.toNat) 0 j).1)) (p2:=(fun j=>(ty (2^sc.toNat) q1 q2 ((2:Int)^sc.toNat) ((2:Int)^sc.toNat) 0 j).2)) (T:=2^sc.toNat) tf
 have ls:∀ j,j≤n→L (tyA (fun j=>(ty (2^sc.toNat) q1 q2 ((2:Int)^sc.toNat) ((2:Int)^sc.toNat) 0 j).1) (fun j=>(ty (2^sc.toNat) q1 q2 ((2:Int)^sc.toNat) ((2:Int)^sc.toNat) 0 j).2) j).natAbs≤70∧L (tyB (fun j=>(ty (2^sc.toNat) q1 q2 ((2:Int)^sc.toNat) ((2:Int)^sc.toNat) 0 j).1) (fun j=>(ty (2^sc.toNat) q1 q2 ((2:Int)^sc.toNat) ((2:Int)^sc.toNat) 0 j).2) j).natAbs≤70:=fun j hj=>by
  have b:=(sb j).1
  have p:((2^sc.toNat:Nat):Int)=(2:Int)^sc.toNat:=(zaj _).symm
  have m:=Int.mul_le_mul_of_nonneg_right (show (j:Int)+1≤1000 by omega) (Int.le_of_lt (zi5 sc.toNat))
  exact ⟨zrl (t:=sc.toNat) (c:=1000) oO oO oO,zrl (t:=sc.toNat) (c:=1000) oO oO oO⟩
 have lq1:=tl q1 h.q0 (by have:=h.q12; have:=h.qT; omega)
 have lq2:=tl q2 (by have:=h.q0; have:=h.q12; omega) h.qT
 refine ⟨n,?_,n1,ztf n 0 q1 q2 sc (fun j=>(ty (2^sc.toNat) q1 q2 ((2:Int)^sc.toNat) ((2:Int)^sc.toNat) 0 j).1) (fun j=>(ty (2^sc.toNat) q1 q2 ((2:Int)^sc.toNat) ((2:Int)^sc.toNat) 0 j).2) (fun j=>(ty (2^sc.toNat) q1 q2 ((2:Int)^sc.toNat) ((2:Int)^sc.toNat) 0 j).1*q1 / 2^sc.toNat) (fun j=>-(-((ty (2^sc.toNat) q1 q2 ((2:Int)^sc.toNat) ((2:Int)^sc.toNat) 0 j).2*q2) / 2^sc.toNat)) (fun j hj=>?_) (fun j hj=>?_) (fun j k hj hk=>?_) (fun j hj he=>?_) (fun j hj he=>?_) oO (fun j hj=>⟨Nat.le_trans (ls j hj).1 oO,Nat.le_trans (ls j hj).2 oO,Nat.le_trans (l2 j) oO⟩),by have:=tf n; omega,n2⟩
 ·refine Decidable.byContradiction fun hn=>?_
  rw [show n=0 by omega] at n2
  have n2:(2:Int)^sc.toNat<8:=n2
  have:=h.hT
  omega
 ·refine zp3 (congrArg V.bool (decide_eq_decide.2 ?_)) (zqf (ty (2^sc.toNat) q1 q2 ((2:Int)^sc.toNat) ((2:Int)^sc.toNat) 0 j).1 (ty (2^sc.toNat) q1 q2 ((2:Int)^sc.toNat) ((2:Int)^sc.toNat) 0 j).2 (by have:=l2 j; omega))
  have z:=tf j
  constructor
  ·intro q
   exact Decidable.byContradiction fun hn=>n3 j oO oO
  ·intro q
   rw [show j=n by omega]
   have:=tf n
   omega
 ·exact zqa (ty (2^sc.toNat) q1 q2 ((2:Int)^sc.toNat) ((2:Int)^sc.toNat) 0 j).1 (ty (2^sc.toNat) q1 q2 ((2:Int)^sc.toNat) ((2:Int)^sc.toNat) 0 j).2 q1 q2 sc (by have:=l1 j; omega) (by have:=l2 j; omega) oO oO oO
 ·subst hk
  have z:=zt3 h 0 j
  have g1:=tl _ z.1.1 z.1.2
  have g2:=tl _ z.2.1.1 z.2.1.2
  exact zqd _ _ (mT 0 j) (by show L ((ty (2^sc.toNat) q1 q2 ((2:Int)^sc.toNat) ((2:Int)^sc.toNat) 0 j).1*q1 / 2^sc.toNat).natAbs≤65536; omega) (by show L (-(-((ty (2^sc.toNat) q1 q2 ((2:Int)^sc.toNat) ((2:Int)^sc.toNat) 0 j).2*q2) / 2^sc.toNat)).natAbs≤65536; omega) ⟨by have:=zsz 0 j; omega,zt0 oO oO⟩
 ·have z:=ls j oO
  have y1:=l1 (j+1)
  have y2:=l2 (j+1)
  exact zp3 (zu8 (if_pos he).symm (if_pos he).symm) (zl8 (tyA (fun j=>(ty (2^sc.toNat) q1 q2 ((2:Int)^sc.toNat) ((2:Int)^sc.toNat) 0 j).1) (fun j=>(ty (2^sc.toNat) q1 q2 ((2:Int)^sc.toNat) ((2:Int)^sc.toNat) 0 j).2) j) (tyB (fun j=>(ty (2^sc.toNat) q1 q2 ((2:Int)^sc.toNat) ((2:Int)^sc.toNat) 0 j).1) (fun j=>(ty (2^sc.toNat) q1 q2 ((2:Int)^sc.toNat) ((2:Int)^sc.toNat) 0 j).2) j) (ty (2^sc.toNat) q1 q2 ((2:Int)^sc.toNat) ((2:Int)^sc.toNat) 0 (j+1)).1 (ty (2^sc.toNat) q1 q2 ((2:Int)^sc.toNat) ((2:Int)^sc.toNat) 0 (j+1)).2 oO oO oO oO)
 ·have z:=ls j oO
  have y1:=l1 (j+1)
  have y2:=l2 (j+1)
  have he:¬ j%2=0:=by omega
  exact zp3 (zu8 (if_neg he).symm (if_neg he).symm) (zl7 (tyA (fun j=>(ty (2^sc.toNat) q1 q2 ((2:Int)^sc.toNat) ((2:Int)^sc.toNat) 0 j).1) (fun j=>(ty (2^sc.toNat) q1 q2 ((2:Int)^sc.toNat) ((2:Int)^sc.toNat) 0 j).2) j) (tyB (fun j=>(ty (2^sc.toNat) q1 q2 ((2:Int)^sc.toNat) ((2:Int)^sc.toNat) 0 j).1) (fun j=>(ty (2^sc.toNat) q1 q2 ((2:Int)^sc.toNat) ((2:Int)^sc.toNat) 0 j).2) j) (ty (2^sc.toNat) q1 q2 ((2:Int)^sc.toNat) ((2:Int)^sc.toNat) 0 (j+1)).1 (ty (2^sc.toNat) q1 q2 ((2:Int)^sc.toNat) ((2:Int)^sc.toNat) 0 (j+1)).2 oO oO oO oO)
theorem sq_T {T x:Int}(hT:16≤T)(h0:0≤x)(h1:x≤T){X:Rat}(hX:(x:Rat)=X*(T:Rat)) :
  (0≤x*x / T∧x*x / T≤-(-(x*x) / T)∧-(-(x*x) / T)≤T∧-(-(x*x) / T)-x*x / T≤1)∧((x*x / T:Int):Rat)≤X*X*(T:Rat)∧X*X*(T:Rat)≤((-(-(x*x) / T):Int):Rat):=by
 have T0:0<T:=by omega
 have T0R:(0:Rat)<(T:Rat):=Rat.intCast_pos.2 T0
 have k:=Int.mul_le_mul h1 h1 h0 oO
 have k0:=Int.mul_nonneg h0 h0
 have a0:0≤x*x / T:=Int.ediv_nonneg k0 (Int.le_of_lt T0)
 have a1:=Int.ediv_mul_le (x*x) (show T≠0 by omega)
 have a2:=Int.lt_ediv_add_one_mul_self (x*x) T0
 have b1:=Int.ediv_mul_le (-(x*x)) (show T≠0 by omega)
 have b2:=Int.lt_ediv_add_one_mul_self (-(x*x)) T0
 have f1:=(fl_R (a:=x*x) T0).1
 have f2:=(ce_R (a:=x*x) T0).1
 have e:X*X*(T:Rat)*(T:Rat)=((x*x:Int):Rat):=by rw [Rat.intCast_mul,hX]; grind
 generalize x*x=y at *
 generalize y / T=u at *
 generalize -y / T=v at *
 refine ⟨⟨a0,?_,?_,?_⟩,Rat.le_of_mul_le_mul_right (c:=(T:Rat)) (by rw [e]; exact f1) T0R,Rat.le_of_mul_le_mul_right (c:=(T:Rat)) (by rw [e]; exact f2) T0R⟩
 ·refine Decidable.byContradiction fun hn=>?_
  have m:=Int.mul_le_mul_of_nonneg_right (show 1≤u+v by omega) (Int.le_of_lt T0)
  rw [Int.add_mul] at m
  omega
 ·refine Decidable.byContradiction fun hn=>?_
  have m:=Int.mul_le_mul_of_nonneg_right (show v+1≤-T by omega) (Int.le_of_lt T0)
  rw [Int.neg_mul] at m
  omega
 ·refine Decidable.byContradiction fun hn=>?_
  have m:=Int.mul_le_mul_of_nonneg_right (show u+1+(v+1)≤0 by omega) (Int.le_of_lt T0)
  rw [Int.add_mul] at m
  omega
theorem zub (x sc:Int)(X:Rat)(hs:24≤sc∧sc≤400)(h0:0≤x)(h1:x≤2^sc.toNat)(hX:X*((2^sc.toNat:Int):Rat)=(x:Rat)) :
  ∃ s1 s2 k1 k2:Int,Impl Tryz.prog Amb 206 [(zV x),(.int .i64 sc)] (.tup [(sV s1 s2),(sV k1 k2)])∧((s1≤s2∧s2-s1≤8000)∧k1≤k2∧k2-k1≤8000)∧((L s1.natAbs≤70∧L s2.natAbs≤70)∧L k1.natAbs≤70∧L k2.natAbs≤70) ∧
   ∃ N,∀ K,N≤K→((s1:Rat)≤SN X K*((2^sc.toNat:Int):Rat)∧SN X K*((2^sc.toNat:Int):Rat)≤(s2:Rat))∧((k1:Rat)≤CS X K*((2^sc.toNat:Int):Rat)∧CS X K*((2^sc.toNat:Int):Rat)≤(k2:Rat)):=by
 have T16:(16:Int)≤2^sc.toNat:=by
  have p:=Int.ofNat_le.2 (Nat.pow_le_pow_right (n:=2) oO (show 4≤sc.toNat by omega))
  rw [← zaj,← zaj] at p
  exact p
 have T0:(0:Rat)<((2^sc.toNat:Int):Rat):=Rat.intCast_pos.2 oO
 obtain ⟨⟨a1,a2,a3,a4⟩,b1,b2⟩:=sq_T T16 h0 h1 hX.symm
 have X0:0≤X:=Rat.le_of_mul_le_mul_right (c:=((2^sc.toNat:Int):Rat)) (by rw [Rat.zero_mul,hX]; exact Rat.intCast_nonneg.2 h0) T0
 have X1:X≤1:=Rat.le_of_mul_le_mul_right (c:=((2^sc.toNat:Int):Rat)) (by rw [Rat.one_mul,hX]; exact Rat.intCast_le_intCast.2 h1) T0
 have p:((2^sc.toNat:Nat):Int)=(2:Int)^sc.toNat:=(zaj _).symm
 have lx:L x.natAbs≤70:=zrl (t:=sc.toNat) (c:=1) oO oO oO
 have hM:=zqa x x x x sc oO oO oO oO oO
 have hO:=zq8 sc oO
 rw [Int.one_mul] at hO
 generalize x*x / 2^sc.toNat=q1 at *
 generalize -(-(x*x) / 2^sc.toNat)=q2 at *
 have H1:TyH (2^sc.toNat) q1 q2 x x:=⟨T16,a1,a2,a3,a4,h0,Int.le_refl _,h1,by omega⟩
 have H0:TyH (2^sc.toNat) q1 q2 (2^sc.toNat) (2^sc.toNat):=⟨T16,a1,a2,a3,a4,by omega,Int.le_refl _,Int.le_refl _,by omega⟩
 obtain ⟨n,n1,hA,hA2⟩:=zu9 sc q1 q2 x hs H1
 obtain ⟨m,m1,m2,hB,hB2⟩:=zua sc q1 q2 hs H0
 have w1:=zt7 (p1:=fun j=>(ty (2^sc.toNat) q1 q2 x x 1 j).1) (p2:=fun j=>(ty (2^sc.toNat) q1 q2 x x 1 j).2) (T:=2^sc.toNat) (zt2 H1 1) n
 have w0:=zt7 (p1:=fun j=>(ty (2^sc.toNat) q1 q2 (2^sc.toNat) (2^sc.toNat) 0 j).1) (p2:=fun j=>(ty (2^sc.toNat) q1 q2 (2^sc.toNat) (2^sc.toNat) 0 j).2) (T:=2^sc.toNat) (zt2 H0 0) m
 have e1:=fun K hK=>ztd H1 X0 X1 hX.symm b1 b2 (n:=n) (K:=K) hK
 have e0:=fun K hK=>ztc H0 X0 X1 b1 b2 (n:=m) m1 (K:=K) hK
 have mn:=Int.mul_le_mul_of_nonneg_right (show (n:Int)+1≤500 by omega) (Int.le_of_lt (zi5 sc.toNat))
 have mm:=Int.mul_le_mul_of_nonneg_right (show (m:Int)+1≤500 by omega) (Int.le_of_lt (zi5 sc.toNat))
 refine ⟨_,_,_,_,ztg x q1 q2 _ _ _ _ _ _ sc hM hA hO hB oO,?_,?_,2*n+2+(2*m+1),fun K hK=>⟨e1 K oO,e0 K oO⟩⟩
 ·clear e1 e0 hA hB hM hO
  omega
 ·clear e1 e0 hA hB hM hO b1 b2
  refine ⟨⟨zrl (t:=sc.toNat) (c:=1000) ?_ oO oO,zrl (t:=sc.toNat) (c:=1000) ?_ oO oO⟩,zrl (t:=sc.toNat) (c:=1000) ?_ oO oO,zrl (t:=sc.toNat) (c:=1000) ?_ oO oO⟩<;>omega
theorem zuc (m ee more sc q r1 r2 x s1 s2 k1 k2:Int)(hs:(0:Int)≤sc∧sc≤5000)(hm:more=0∨more=1)(hr:r1<0)(c4:Impl Tryz.prog Amb 94 [(yV m ee),(.int .i64 (sc+24))] (.tup [(.int .i64 q),(sV r1 r2)]))(c5:Impl Tryz.prog Amb 129 [(.bool false),(N r1.natAbs)] (zV x))(c6:Impl Tryz.prog Amb 206 [(zV x),(.int .i64 (sc+24))] (.tup [(sV s1 s2),(sV k1 k2)]))(l1:L r1.natAbs≤1000)(l2:L r2.natAbs≤1000)(l3:L s1.natAbs≤1000)(l4:L s2.natAbs≤1000)(l5:L k1.natAbs≤1000)(l6:L k2.natAbs≤1000) :
  Impl Tryz.prog Amb 157 [(yV m ee),(.int .i64 more),(.int .i64 sc)] (sV (((yA ((q+more)%4) (-s2) (-s1) k1 k2)-(r2-r1)) / 2^24) (-(-((yB ((q+more)%4) (-s2) (-s1) k1 k2)+(r2-r1)) / 2^24))):=by
 have hw:=zu7 q more hm
 have a1:=zgr r2 r1
 have a2:=zcx s1
 have a3:=zcx s2
 have a4:=zcx k1
 have a5:=zcx k2
 have a6:=zcx (-s1)
 have a7:=zcx (-s2)
 have b0:=zgr (-s2) (r2-r1)
 have b1:=zcv (-s1) (r2-r1)
 have b2:=zgr k1 (r2-r1)
 have b3:=zcv k2 (r2-r1)
 have b4:=zgr (-(-s1)) (r2-r1)
 have b5:=zcv (-(-s2)) (r2-r1)
 have b6:=zgr (-k2) (r2-r1)
 have b7:=zcv (-k1) (r2-r1)
 rcases (show (q+more)%4=0∨(q+more)%4=1∨(q+more)%4=2∨(q+more)%4=3 by omega) with hj | hj | hj | hj
 ·have hH:=zl5 ((-s2)-(r2-r1)) ((-s1)+(r2-r1)) ((sc+24)-sc) oO oO oO
  rw [show (sc+24-sc).toNat=24 by omega] at hH
  rw [hj] at hw
  rw [hj]
  exact ztk m ee more sc q r1 r2 x s1 s2 k1 k2 _ _ oO hw oO oO c4 c5 c6 hH oO oO oO oO oO oO
 ·have hH:=zl5 (k1-(r2-r1)) (k2+(r2-r1)) ((sc+24)-sc) oO oO oO
  rw [show (sc+24-sc).toNat=24 by omega] at hH
  rw [hj] at hw
  rw [hj]
  exact ztm m ee more sc q r1 r2 x s1 s2 k1 k2 _ _ oO hw oO oO c4 c5 c6 hH oO oO oO oO oO oO
 ·have hH:=zl5 ((-(-s1))-(r2-r1)) ((-(-s2))+(r2-r1)) ((sc+24)-sc) oO oO oO
  rw [show (sc+24-sc).toNat=24 by omega] at hH
  rw [hj] at hw
  rw [hj]
  exact zto m ee more sc q r1 r2 x s1 s2 k1 k2 _ _ oO hw oO oO c4 c5 c6 hH oO oO oO oO oO oO
 ·have hH:=zl5 ((-k2)-(r2-r1)) ((-k1)+(r2-r1)) ((sc+24)-sc) oO oO oO
  rw [show (sc+24-sc).toNat=24 by omega] at hH
  rw [hj] at hw
  rw [hj]
  exact ztq m ee more sc q r1 r2 x s1 s2 k1 k2 _ _ oO hw oO oO c4 c5 c6 hH oO oO oO oO oO oO
theorem zud (m ee more sc q r1 r2 x s1 s2 k1 k2:Int)(hs:(0:Int)≤sc∧sc≤5000)(hm:more=0∨more=1)(hr:0≤r1)(c4:Impl Tryz.prog Amb 94 [(yV m ee),(.int .i64 (sc+24))] (.tup [(.int .i64 q),(sV r1 r2)]))(c5:Impl Tryz.prog Amb 129 [(.bool false),(N r1.natAbs)] (zV x))(c6:Impl Tryz.prog Amb 206 [(zV x),(.int .i64 (sc+24))] (.tup [(sV s1 s2),(sV k1 k2)]))(l1:L r1.natAbs≤1000)(l2:L r2.natAbs≤1000)(l3:L s1.natAbs≤1000)(l4:L s2.natAbs≤1000)(l5:L k1.natAbs≤1000)(l6:L k2.natAbs≤1000) :
  Impl Tryz.prog Amb 157 [(yV m ee),(.int .i64 more),(.int .i64 sc)] (sV (((yA ((q+more)%4) s1 s2 k1 k2)-(r2-r1)) / 2^24) (-(-((yB ((q+more)%4) s1 s2 k1 k2)+(r2-r1)) / 2^24))):=by
 have hw:=zu7 q more hm
 have a1:=zgr r2 r1
 have a2:=zcx s1
 have a3:=zcx s2
 have a4:=zcx k1
 have a5:=zcx k2
 have a6:=zcx (-s1)
 have a7:=zcx (-s2)
 have b0:=zgr s1 (r2-r1)
 have b1:=zcv s2 (r2-r1)
 have b2:=zgr k1 (r2-r1)
 have b3:=zcv k2 (r2-r1)
 have b4:=zgr (-s2) (r2-r1)
 have b5:=zcv (-s1) (r2-r1)
 have b6:=zgr (-k2) (r2-r1)
 have b7:=zcv (-k1) (r2-r1)
 rcases (show (q+more)%4=0∨(q+more)%4=1∨(q+more)%4=2∨(q+more)%4=3 by omega) with hj | hj | hj | hj
 ·have hH:=zl5 (s1-(r2-r1)) (s2+(r2-r1)) ((sc+24)-sc) oO oO oO
  rw [show (sc+24-sc).toNat=24 by omega] at hH
  rw [hj] at hw
  rw [hj]
  exact ztj m ee more sc q r1 r2 x s1 s2 k1 k2 _ _ oO hw oO oO c4 c5 c6 hH oO oO oO oO oO oO
 ·have hH:=zl5 (k1-(r2-r1)) (k2+(r2-r1)) ((sc+24)-sc) oO oO oO
  rw [show (sc+24-sc).toNat=24 by omega] at hH
  rw [hj] at hw
  rw [hj]
  exact ztl m ee more sc q r1 r2 x s1 s2 k1 k2 _ _ oO hw oO oO c4 c5 c6 hH oO oO oO oO oO oO
 ·have hH:=zl5 ((-s2)-(r2-r1)) ((-s1)+(r2-r1)) ((sc+24)-sc) oO oO oO
  rw [show (sc+24-sc).toNat=24 by omega] at hH
  rw [hj] at hw
  rw [hj]
  exact ztn m ee more sc q r1 r2 x s1 s2 k1 k2 _ _ oO hw oO oO c4 c5 c6 hH oO oO oO oO oO oO
 ·have hH:=zl5 ((-k2)-(r2-r1)) ((-k1)+(r2-r1)) ((sc+24)-sc) oO oO oO
  rw [show (sc+24-sc).toNat=24 by omega] at hH
  rw [hj] at hw
  rw [hj]
  exact ztp m ee more sc q r1 r2 x s1 s2 k1 k2 _ _ oO hw oO oO c4 c5 c6 hH oO oO oO oO oO oO
theorem zue (m ee more sc:Int)(hmo:more=0∨more=1)(hs:24≤sc∧sc≤290)(hm:L (m).natAbs≤20)(he:-440≤ee∧ee≤130)(d1:-4294967296≤dv m ee)(d2:dv m ee≤4294967296) :
  ∃ u1 u2:Int,Impl Tryz.prog Amb 157 [(yV m ee),(.int .i64 more),(.int .i64 sc)] (sV u1 u2)∧u1≤u2∧u2-u1≤2∧EnE (SC more (dv m ee)) sc.toNat u1 u2 (sE*((2^sc.toNat:Int):Rat))∧L u1.natAbs≤75∧L u2.natAbs≤75:=by
 obtain ⟨q,r1,r2,hT,hq,r12,rw_,qb,er1,er2⟩:=ztt m ee (sc+24) oO hm he d1 d2
 obtain ⟨t,ht⟩:∃ t:Nat,(sc+24).toNat=t:=⟨_,rfl⟩
 rw [ht] at er1 er2
 have T0:(0:Rat)<((2^t:Int):Rat):=Rat.intCast_pos.2 (zi5 t)
 have T48:(281474976710656:Int)≤2^t:=by
  have p:=Int.ofNat_le.2 (Nat.pow_le_pow_right (n:=2) oO (show 48≤t by omega))
  rw [← zaj,← zaj] at p
  exact p
 have m1:=Rat.mul_le_mul_of_nonneg_right qb.1 (Rat.le_of_lt T0)
 have m2:=Rat.mul_le_mul_of_nonneg_right qb.2 (Rat.le_of_lt T0)
 rw [Rat.mul_assoc] at m1 m2
 have R1:100*r1≤80*2^t:=by
  refine Rat.intCast_le_intCast.1 ?_
  rw [Rat.intCast_mul,Rat.intCast_mul]
  show (100:Rat)*_≤80*_
  grind
 have R2:-(80*2^t)≤100*r2:=by
  refine Rat.intCast_le_intCast.1 ?_
  rw [Rat.intCast_neg,Rat.intCast_mul,Rat.intCast_mul]
  show -((80:Rat)*_)≤100*_
  grind
 have p:((2^t:Nat):Int)=(2:Int)^t:=(zaj _).symm
 have l1:L r1.natAbs≤70:=zrl (t:=t) (c:=1) oO oO oO
 have l2:L r2.natAbs≤70:=zrl (t:=t) (c:=2) oO oO oO
 have hNa:=zdb false r1.natAbs oO
 rw [zcr] at hNa
 have ie:=zrq T0
 have hX:(((r1.natAbs:Int):Rat)*(((2^t:Int):Rat))⁻¹)*((2^t:Int):Rat)=((r1.natAbs:Int):Rat):=by rw [Rat.mul_assoc,ie,Rat.mul_one]
 obtain ⟨s1,s2,k1,k2,hW,⟨⟨w1,w2⟩,w3,w4⟩,⟨⟨g1,g2⟩,g3,g4⟩,N,en⟩:=zub (r1.natAbs:Int) (sc+24) (((r1.natAbs:Int):Rat)*(((2^t:Int):Rat))⁻¹) oO oO (by rw [ht]; omega) (by rw [ht]; exact hX)
 rw [ht] at en
 have jb:0≤(q+more)%4∧(q+more)%4≤3:=by omega
 have tsc:t=sc.toNat+24:=by omega
 have c300:r2-r1≤300:=rw_
 have n1:=zcx s1
 have n2:=zcx s2
 have zz:=zgr r2 r1
 by_cases hr:r1<0
 ·have hS:=zuc m ee more sc q r1 r2 _ s1 s2 k1 k2 oO hmo hr hT hNa hW oO oO oO oO oO oO
  have y:=zu3 (s1:=-s2) (s2:=-s1) (k1:=k1) (k2:=k2) (W:=8000) jb oO oO w3 w4
  have yl:=zu4 (j:=(q+more)%4) (s1:=-s2) (s2:=-s1) (k1:=k1) (k2:=k2) (B:=70) oO oO g3 g4
  have e:=zu6 (d:=dv m ee) (ρ:=-(((r1.natAbs:Int):Rat)*(((2^t:Int):Rat))⁻¹)) (q:=q) (more:=more) (W:=0) (t:=t) (y1:=yA ((q+more)%4) (-s2) (-s1) k1 k2) (y2:=yB ((q+more)%4) (-s2) (-s1) k1 k2) hmo (by unfold sM; omega) er1 er2 (by rw [Rat.neg_mul,hX,show (r1.natAbs:Int)=-r1 by omega,Rat.intCast_neg,Rat.neg_neg]) oO ⟨N,fun K hK=>by
   have z:=en K hK
   refine zu2 jb ?_ ?_
   ·rw [zso,Rat.intCast_neg,Rat.intCast_neg]; constructor<;>grind
   ·rw [zsn]; exact z.2⟩
  generalize yA ((q+more)%4) (-s2) (-s1) k1 k2=ya at *
  generalize yB ((q+more)%4) (-s2) (-s1) k1 k2=yb at *
  have hw:=zq0 (a:=ya-(r2-r1)) (b:=yb+(r2-r1)) (W:=1) (n:=24) oO
  have v1:=zgr ya (r2-r1)
  have v2:=zcv yb (r2-r1)
  have o1:=zgy (ya-(r2-r1)) 24
  have o2:=zcx (yb+(r2-r1))
  have o3:=zgy (-(yb+(r2-r1))) 24
  have o4:=zcx (-(yb+(r2-r1)) / 2^24)
  have le:(ya-(r2-r1)) / 2^24≤-(-(yb+(r2-r1)) / 2^24):=by
   have:(2:Int)^24=16777216:=rfl
   rw [this]; omega
  exact ⟨_,_,hS,le,hw,e.half tsc,by omega,by omega⟩
 ·have hS:=zud m ee more sc q r1 r2 _ s1 s2 k1 k2 oO hmo oO hT hNa hW oO oO oO oO oO oO
  have y:=zu3 (s1:=s1) (s2:=s2) (k1:=k1) (k2:=k2) (W:=8000) jb oO oO w3 w4
  have yl:=zu4 (j:=(q+more)%4) (s1:=s1) (s2:=s2) (k1:=k1) (k2:=k2) (B:=70) g1 g2 g3 g4
  have e:=zu6 (d:=dv m ee) (ρ:=((r1.natAbs:Int):Rat)*(((2^t:Int):Rat))⁻¹) (q:=q) (more:=more) (W:=0) (t:=t) (y1:=yA ((q+more)%4) s1 s2 k1 k2) (y2:=yB ((q+more)%4) s1 s2 k1 k2) hmo (by unfold sM; omega) er1 er2 (by rw [hX,show (r1.natAbs:Int)=r1 by omega]) oO ⟨N,fun K hK=>by
   have z:=en K hK
   exact zu2 jb z.1 z.2⟩
  generalize yA ((q+more)%4) s1 s2 k1 k2=ya at *
  generalize yB ((q+more)%4) s1 s2 k1 k2=yb at *
  have hw:=zq0 (a:=ya-(r2-r1)) (b:=yb+(r2-r1)) (W:=1) (n:=24) oO
  have v1:=zgr ya (r2-r1)
  have v2:=zcv yb (r2-r1)
  have o1:=zgy (ya-(r2-r1)) 24
  have o2:=zcx (yb+(r2-r1))
  have o3:=zgy (-(yb+(r2-r1))) 24
  have o4:=zcx (-(yb+(r2-r1)) / 2^24)
  have le:(ya-(r2-r1)) / 2^24≤-(-(yb+(r2-r1)) / 2^24):=by
   have:(2:Int)^24=16777216:=rfl
   rw [this]; omega
  exact ⟨_,_,hS,le,hw,e.half tsc,by omega,by omega⟩
end Go.Proofs.YtcbihoojfakhdaaGreatDoor

namespace Go.Proofs.YtcbihoojfakhdaaGreatDoor
open Go.RowKit
set_option maxRecDepth 100000
set_option maxHeartbeats 2000000
theorem zuf (lo hi c:Int):iLe (cmpI (lo+((c-lo)-(Int.fdiv (c-lo) 4)*4)) hi) 0=decide (lo+(c-lo)%4≤hi):=by
 unfold iLe
 refine decide_eq_decide.2 ?_
 rw [zq3,Int.fdiv_eq_ediv_of_nonneg _ oO]
 omega
theorem zug (x y:Int):L (min x y).natAbs≤max (L x.natAbs) (L y.natAbs):=by
 rcases (show min x y=x∨min x y=y by omega) with h | h<;>rw [h]<;>omega
theorem zuh (x y:Int):L (max x y).natAbs≤max (L x.natAbs) (L y.natAbs):=by
 rcases (show max x y=x∨max x y=y by omega) with h | h<;>rw [h]<;>omega
theorem zui (m e:Int)(c0:L (m).natAbs≤4000)(c1:(-60000:Int)≤e∧e≤60000)(c2:cmpD m e 1 32≤0)(c3:cmpD (-m) e 1 32≤0):Impl Tryz.prog Amb 93 [(yV m e)] (.bool true):=by
 have l1:=zk7 1 (by decide)
 exact z6e hP hAmb Tryz.func93 (by kernel_rfl) (.lit<|.call (zV (1:Int))<|.lits 5<|.call (.int .i64 (cmpD m e (1:Int) 32))<|.lit<|.yes<|.lits 3<|.call (yV (-m) e)<|.lits 4<|.call (.int .i64 (cmpD (-m) e (1:Int) 32))<|.lits 4<|.ret)
  (z6d (aI True.intro (aI (zdc 1 oO) (have f4:=(zgo oO:L (1:Int).natAbs≤2); aI (zj6 m e (1:Int) 32 oO oO oO oO) (have f3:=zi9 m e (1:Int) 32; aI (z7g oO:(iLe (cmpD m e (1:Int) 32) 0)=true) (aI (ziz m e oO) (have f2:=zcx m; aI (zj6 (-m) e (1:Int) 32 oO oO oO oO) (have f1:=zi9 (-m) e (1:Int) 32; (z5x (congrArg V.bool (z7g oO)):vsub (.bool (iLe (cmpD (-m) e (1:Int) 32) 0)) (.bool true))))))))) (by kernel_rfl))
theorem zuj (lo hi c:Int)(c0:L (lo).natAbs≤8000)(c1:L (hi).natAbs≤8000)(c2:-10≤c∧c≤10):Impl Tryz.prog Amb 154 [(zV lo),(zV hi),(.int .i64 c)] (.bool (decide (lo+(c-lo)%4≤hi))):=by
 have l1:=zk7 4 (by decide)
 have l2:=zgo (n:=c) oO
 exact z6e hP hAmb Tryz.func154 (by kernel_rfl) (.lit<|.call (zV c)<|.lits 2<|.call (zV (c-lo))<|.lit<|.call (zV (4:Int))<|.lit<|.call (.tup [(zV (Int.fdiv (c-lo) (4:Int))),(zV ((c-lo)-(Int.fdiv (c-lo) (4:Int))*(4:Int))),(.bool true)])<|.lits 3<|.call (zV (lo+((c-lo)-(Int.fdiv (c-lo) (4:Int))*(4:Int))))<|.lits 2<|.call (.int .i64 (cmpI (lo+((c-lo)-(Int.fdiv (c-lo) (4:Int))*(4:Int))) hi))<|.lits 2<|.ret)
  (z6d (aI True.intro (aI (zdc c oO) (have f7:=(zgo oO:L (c:Int).natAbs≤2); aI (zdi c lo oO oO) (have f6:=zgr c lo; aI (zdc 4 oO) (have f5:=(zgo oO:L (4:Int).natAbs≤2); aI (zn0 (c-lo) (4:Int) oO oO oO) (have f4:=L_rm (c-lo) (4:Int); have f3:=zh6 (c-lo) (4:Int); aI (zdh lo ((c-lo)-(Int.fdiv (c-lo) (4:Int))*(4:Int)) oO oO) (have f2:=zcv lo ((c-lo)-(Int.fdiv (c-lo) (4:Int))*(4:Int)); aI (zdg (lo+((c-lo)-(Int.fdiv (c-lo) (4:Int))*(4:Int))) hi oO oO) (have f1:=zgs (lo+((c-lo)-(Int.fdiv (c-lo) (4:Int))*(4:Int))) hi; (z5x (congrArg V.bool (zuf lo hi c)):vsub (.bool (iLe (cmpI (lo+((c-lo)-(Int.fdiv (c-lo) (4:Int))*(4:Int))) hi) 0)) (.bool (decide (lo+(c-lo)%4≤hi)))))))))))) (by kernel_rfl))
theorem zuk (m ee n f w x y:Int)(c0:Impl Tryz.prog Amb 203 [(yV m ee),(.int .i64 (w+8))] (zV x))(c1:Impl Tryz.prog Amb 203 [(yV n f),(.int .i64 (w+8))] (zV y))(c2:L (x).natAbs≤8000)(c3:L (y).natAbs≤8000)(c4:0≤w∧w≤5000):Impl Tryz.prog Amb 153 [(wV m ee n f),(.int .i64 w)] (.tup [(zV (-(-(x-2) / 2^((w+8)).toNat))),(zV ((y+2) / 2^((w+8)).toNat))]):=by
 have l1:=zk7 2 (by decide)
 have k1:=zgr x 2
 have k2:=zcv y 2
 have k3:=zcx (x-2)
 have k4:=zgy (-(x-2)) (w+8).toNat
 exact z6e hP hAmb Tryz.func153 (by kernel_rfl) (.lit<|.yes<|.lits 2<|.call (zV x)<|.lit<|.call (zV (2:Int))<|.lit<|.call (zV (x-(2:Int)))<|.lits 3<|.call (zV y)<|.lit<|.call (zV (2:Int))<|.lit<|.call (zV (y+(2:Int)))<|.lits 3<|.call (zV (-(x-(2:Int))))<|.lit<|.call (zV ((-(x-(2:Int))) / 2^((w+8)).toNat))<|.lit<|.call (zV (-((-(x-(2:Int))) / 2^((w+8)).toNat)))<|.lits 2<|.call (zV ((y+(2:Int)) / 2^((w+8)).toNat))<|.lits 3<|.ret)
  (z6d (aI True.intro (aI (z7s oS:(fits .i64 (w+8))=true) (aI (c0 ) (aI (zdc 2 oS) (have f8:=(zgo oS:L (2:Int).natAbs≤2); aI (zdi x (2:Int) oS oS) (have f7:=zgr x (2:Int); aI (c1 ) (aI (zdc 2 oS) (have f6:=(zgo oS:L (2:Int).natAbs≤2); aI (zdh y (2:Int) oS oS) (have f5:=zcv y (2:Int); aI (zdf (x-(2:Int)) oS) (have f4:=zcx (x-(2:Int)); aI (zdl (-(x-(2:Int))) (w+8) oS oS) (have f3:=zgy (-(x-(2:Int))) ((w+8)).toNat; aI (zdf ((-(x-(2:Int))) / 2^((w+8)).toNat) oS) (have f2:=zcx ((-(x-(2:Int))) / 2^((w+8)).toNat); aI (zdl (y+(2:Int)) (w+8) oS oS) (have f1:=zgy (y+(2:Int)) ((w+8)).toNat; (z5w _:vsub (.tup [(zV (-((-(x-(2:Int))) / 2^((w+8)).toNat))),(zV ((y+(2:Int)) / 2^((w+8)).toNat))]) (.tup [(zV (-(-(x-2) / 2^((w+8)).toNat))),(zV ((y+2) / 2^((w+8)).toNat))]))))))))))))))) (by kernel_rfl))
theorem zul (a b:Int)(c0:L (a).natAbs≤8000)(c1:L (b).natAbs≤8000):Impl Tryz.prog Amb 160 [(zV a),(zV b)] (zV (min a b)):=by
 have ci:=zgs a b
 exact z6e hP hAmb Tryz.func160 (by kernel_rfl) (.lits 3<|.call (.int .i64 (cmpI a b))<|.lit<|.both (.lits 3<|.ret) (.lits 3<|.ret))
  (z6d (aI True.intro (aI (zdg a b oO oO) (have f3:=zgs a b; aI (fun (h1:(iGt (cmpI a b) 0)=true)=>have _gh1:=z77 h1; (by rw [show min a b=b by omega]; exact z5w _:vsub (zV b) (zV (min a b)))) (fun (h2:(iGt (cmpI a b) 0)=false)=>have _gh2:=z78 h2; (by rw [show min a b=a by omega]; exact z5w _:vsub (zV a) (zV (min a b))))))) (by kernel_rfl))
theorem zum (a b:Int)(c0:L (a).natAbs≤8000)(c1:L (b).natAbs≤8000):Impl Tryz.prog Amb 159 [(zV a),(zV b)] (zV (max a b)):=by
 have ci:=zgs a b
 exact z6e hP hAmb Tryz.func159 (by kernel_rfl) (.lits 3<|.call (.int .i64 (cmpI a b))<|.lit<|.both (.lits 3<|.ret) (.lits 3<|.ret))
  (z6d (aI True.intro (aI (zdg a b oO oO) (have f3:=zgs a b; aI (fun (h1:(iLt (cmpI a b) 0)=true)=>have _gh1:=z73 h1; (by rw [show max a b=b by omega]; exact z5w _:vsub (zV b) (zV (max a b)))) (fun (h2:(iLt (cmpI a b) 0)=false)=>have _gh2:=z74 h2; (by rw [show max a b=a by omega]; exact z5w _:vsub (zV a) (zV (max a b))))))) (by kernel_rfl))
theorem zun (m ee n f more w fi la x1 x2 y1 y2 a1 a2 b1 b2:Int)(c0:0≤w∧w≤4096)(c1:(0:Int)≤more∧more≤1)(c2:Impl Tryz.prog Amb 93 [(yV m ee)] (.bool true))(c3:Impl Tryz.prog Amb 93 [(yV n f)] (.bool true))(c4:Impl Tryz.prog Amb 153 [(wV m ee n f),(.int .i64 w)] (.tup [(zV fi),(zV la)]))(c5:Impl Tryz.prog Amb 154 [(zV fi),(zV la),(.int .i64 ((1:Int)-more))] (.bool true))(c6:Impl Tryz.prog Amb 154 [(zV fi),(zV la),(.int .i64 ((3:Int)-more))] (.bool true))(c7:Impl Tryz.prog Amb 70 [(zV (-((1:Int)*2^(w).toNat))),(.int .i64 ((0:Int)-w))] (.tup [(yV a1 a2),(.int .i64 0)]))(c8:Impl Tryz.prog Amb 70 [(zV ((1:Int)*2^(w).toNat)),(.int .i64 ((0:Int)-w))] (.tup [(yV b1 b2),(.int .i64 0)]))(c9:L (x1).natAbs≤4000)(c10:L (x2).natAbs≤4000)(c11:L (y1).natAbs≤4000)(c12:L (y2).natAbs≤4000):Impl Tryz.prog Amb 92 [(wV m ee n f),(.int .i64 more),(.int .i64 w)] (.tup [(wV a1 a2 b1 b2),(.int .i64 0)]):=by
 have pw:=zk4 w.toNat
 have mn:=zug x1 y1
 have mx:=zuh x2 y2
 exact z6e hP hAmb Tryz.func92 (by kernel_rfl) (.lit<|.no<|.lits 3<|.no<|.lits 2<|.call (.bool true)<|.lits 6<|.call (.bool true)<|.lits 6<|.call (.tup [(zV fi),(zV la)])<|.lits 6<|.yes<|.lit<|.call (.bool true)<|.lits 4<|.yes<|.lit<|.call (.bool true)<|.lit<|.call (zV (1:Int))<|.lit<|.call (zV ((1:Int)*2^(w).toNat))<|.lits 3<|.call (zV (-((1:Int)*2^(w).toNat)))<|.lits 9<|.yes<|.lit<|.call (.tup [(yV a1 a2),(.int .i64 0)])<|.lits 3<|.yes<|.lit<|.call (.tup [(yV b1 b2),(.int .i64 0)])<|.lits 12<|.ret)
  (z6d (aI True.intro (aI (z7k oS:(iLt w 0)=false) (aI (z7m oS:(iGt w 4096)=false) (aI (c2 ) (aI (c3 ) (aI (c4 ) (aI (z7s oS:(fits .i64 ((1:Int)-more))=true) (aI (c5 ) (aI (z7s oS:(fits .i64 ((3:Int)-more))=true) (aI (c6 ) (aI (zdc 1 oS) (have f3:=(zgo oS:L (1:Int).natAbs≤2); aI (zdk (1:Int) w oS oS) (have f2:=zgw (1:Int) (w).toNat; aI (zdf ((1:Int)*2^(w).toNat) oS) (have f1:=zcx ((1:Int)*2^(w).toNat); aI (z7s oS:(fits .i64 ((0:Int)-w))=true) (aI (c7 ) (aI (z7s oS:(fits .i64 ((0:Int)-w))=true) (aI (c8 ) ((z5w (.tup [(wV a1 a2 b1 b2),(.int .i64 0)])))))))))))))))))))) (by kernel_rfl))
theorem zuo (m ee n f more w fi la x1 x2 y1 y2 a1 a2 b1 b2:Int)(c0:0≤w∧w≤4096)(c1:(0:Int)≤more∧more≤1)(c2:Impl Tryz.prog Amb 93 [(yV m ee)] (.bool true))(c3:Impl Tryz.prog Amb 93 [(yV n f)] (.bool true))(c4:Impl Tryz.prog Amb 153 [(wV m ee n f),(.int .i64 w)] (.tup [(zV fi),(zV la)]))(c5:Impl Tryz.prog Amb 154 [(zV fi),(zV la),(.int .i64 ((1:Int)-more))] (.bool true))(c6:Impl Tryz.prog Amb 154 [(zV fi),(zV la),(.int .i64 ((3:Int)-more))] (.bool false))(c7:Impl Tryz.prog Amb 133 [(.int .i64 w),(.clos 156 [(.pt [(V.bool (decide (m<0))),(N m.natAbs),(V.int .i64 ee),(V.bool (decide (n<0))),(N n.natAbs),(V.int .i64 f)] 0),(.pt [(V.int .i64 more)] 0)])] (sV x1 x2))(c8:Impl Tryz.prog Amb 133 [(.int .i64 w),(.clos 158 [(.pt [(V.bool (decide (m<0))),(N m.natAbs),(V.int .i64 ee),(V.bool (decide (n<0))),(N n.natAbs),(V.int .i64 f)] 0),(.pt [(V.int .i64 more)] 0)])] (sV y1 y2))(c9:Impl Tryz.prog Amb 70 [(zV (max (-((1:Int)*2^(w).toNat)) (min x1 y1))),(.int .i64 ((0:Int)-w))] (.tup [(yV a1 a2),(.int .i64 0)]))(c10:Impl Tryz.prog Amb 70 [(zV ((1:Int)*2^(w).toNat)),(.int .i64 ((0:Int)-w))] (.tup [(yV b1 b2),(.int .i64 0)]))(c11:L (x1).natAbs≤4000)(c12:L (x2).natAbs≤4000)(c13:L (y1).natAbs≤4000)(c14:L (y2).natAbs≤4000):Impl Tryz.prog Amb 92 [(wV m ee n f),(.int .i64 more),(.int .i64 w)] (.tup [(wV a1 a2 b1 b2),(.int .i64 0)]):=by
 have pw:=zk4 w.toNat
 have mn:=zug x1 y1
 have mx:=zuh x2 y2
 exact z6e hP hAmb Tryz.func92 (by kernel_rfl) (.lit<|.no<|.lits 3<|.no<|.lits 2<|.call (.bool true)<|.lits 6<|.call (.bool true)<|.lits 6<|.call (.tup [(zV fi),(zV la)])<|.lits 6<|.yes<|.lit<|.call (.bool true)<|.lits 4<|.yes<|.lit<|.call (.bool false)<|.lit<|.call (zV (1:Int))<|.lit<|.call (zV ((1:Int)*2^(w).toNat))<|.lits 3<|.call (zV (-((1:Int)*2^(w).toNat)))<|.lits 8<|.call (sV x1 x2)<|.lits 2<|.call (sV y1 y2)<|.lits 7<|.call (zV (min x1 y1))<|.lit<|.call (zV (max (-((1:Int)*2^(w).toNat)) (min x1 y1)))<|.lits 5<|.yes<|.lit<|.call (.tup [(yV a1 a2),(.int .i64 0)])<|.lits 3<|.yes<|.lit<|.call (.tup [(yV b1 b2),(.int .i64 0)])<|.lits 12<|.ret)
  (z6d (aI True.intro (aI (z7k oS:(iLt w 0)=false) (aI (z7m oS:(iGt w 4096)=false) (aI (c2 ) (aI (c3 ) (aI (c4 ) (aI (z7s oS:(fits .i64 ((1:Int)-more))=true) (aI (c5 ) (aI (z7s oS:(fits .i64 ((3:Int)-more))=true) (aI (c6 ) (aI (zdc 1 oS) (have f3:=(zgo oS:L (1:Int).natAbs≤2); aI (zdk (1:Int) w oS oS) (have f2:=zgw (1:Int) (w).toNat; aI (zdf ((1:Int)*2^(w).toNat) oS) (have f1:=zcx ((1:Int)*2^(w).toNat); aI (c7 ) (aI (c8 ) (aI (zul x1 y1 oS oS) (aI (zum (-((1:Int)*2^(w).toNat)) (min x1 y1) oS oS) (aI (z7s oS:(fits .i64 ((0:Int)-w))=true) (aI (c9 ) (aI (z7s oS:(fits .i64 ((0:Int)-w))=true) (aI (c10 ) ((z5w (.tup [(wV a1 a2 b1 b2),(.int .i64 0)])))))))))))))))))))))))) (by kernel_rfl))
theorem zup (m ee n f more w fi la x1 x2 y1 y2 a1 a2 b1 b2:Int)(c0:0≤w∧w≤4096)(c1:(0:Int)≤more∧more≤1)(c2:Impl Tryz.prog Amb 93 [(yV m ee)] (.bool true))(c3:Impl Tryz.prog Amb 93 [(yV n f)] (.bool true))(c4:Impl Tryz.prog Amb 153 [(wV m ee n f),(.int .i64 w)] (.tup [(zV fi),(zV la)]))(c5:Impl Tryz.prog Amb 154 [(zV fi),(zV la),(.int .i64 ((1:Int)-more))] (.bool false))(c6:Impl Tryz.prog Amb 154 [(zV fi),(zV la),(.int .i64 ((3:Int)-more))] (.bool true))(c7:Impl Tryz.prog Amb 133 [(.int .i64 w),(.clos 156 [(.pt [(V.bool (decide (m<0))),(N m.natAbs),(V.int .i64 ee),(V.bool (decide (n<0))),(N n.natAbs),(V.int .i64 f)] 0),(.pt [(V.int .i64 more)] 0)])] (sV x1 x2))(c8:Impl Tryz.prog Amb 133 [(.int .i64 w),(.clos 158 [(.pt [(V.bool (decide (m<0))),(N m.natAbs),(V.int .i64 ee),(V.bool (decide (n<0))),(N n.natAbs),(V.int .i64 f)] 0),(.pt [(V.int .i64 more)] 0)])] (sV y1 y2))(c9:Impl Tryz.prog Amb 70 [(zV (-((1:Int)*2^(w).toNat))),(.int .i64 ((0:Int)-w))] (.tup [(yV a1 a2),(.int .i64 0)]))(c10:Impl Tryz.prog Amb 70 [(zV (min ((1:Int)*2^(w).toNat) (max x2 y2))),(.int .i64 ((0:Int)-w))] (.tup [(yV b1 b2),(.int .i64 0)]))(c11:L (x1).natAbs≤4000)(c12:L (x2).natAbs≤4000)(c13:L (y1).natAbs≤4000)(c14:L (y2).natAbs≤4000):Impl Tryz.prog Amb 92 [(wV m ee n f),(.int .i64 more),(.int .i64 w)] (.tup [(wV a1 a2 b1 b2),(.int .i64 0)]):=by
 have pw:=zk4 w.toNat
 have mn:=zug x1 y1
 have mx:=zuh x2 y2
 exact z6e hP hAmb Tryz.func92 (by kernel_rfl) (.lit<|.no<|.lits 3<|.no<|.lits 2<|.call (.bool true)<|.lits 6<|.call (.bool true)<|.lits 6<|.call (.tup [(zV fi),(zV la)])<|.lits 6<|.yes<|.lit<|.call (.bool false)<|.lits 4<|.yes<|.lit<|.call (.bool true)<|.lit<|.call (zV (1:Int))<|.lit<|.call (zV ((1:Int)*2^(w).toNat))<|.lits 3<|.call (zV (-((1:Int)*2^(w).toNat)))<|.lits 7<|.call (sV x1 x2)<|.lits 2<|.call (sV y1 y2)<|.lits 9<|.call (zV (max x2 y2))<|.lit<|.call (zV (min ((1:Int)*2^(w).toNat) (max x2 y2)))<|.lits 3<|.yes<|.lit<|.call (.tup [(yV a1 a2),(.int .i64 0)])<|.lits 3<|.yes<|.lit<|.call (.tup [(yV b1 b2),(.int .i64 0)])<|.lits 12<|.ret)
  (z6d (aI True.intro (aI (z7k oS:(iLt w 0)=false) (aI (z7m oS:(iGt w 4096)=false) (aI (c2 ) (aI (c3 ) (aI (c4 ) (aI (z7s oS:(fits .i64 ((1:Int)-more))=true) (aI (c5 ) (aI (z7s oS:(fits .i64 ((3:Int)-more))=true) (aI (c6 ) (aI (zdc 1 oS) (have f3:=(zgo oS:L (1:Int).natAbs≤2); aI (zdk (1:Int) w oS oS) (have f2:=zgw (1:Int) (w).toNat; aI (zdf ((1:Int)*2^(w).toNat) oS) (have f1:=zcx ((1:Int)*2^(w).toNat); aI (c7 ) (aI (c8 ) (aI (zum x2 y2 oS oS) (aI (zul ((1:Int)*2^(w).toNat) (max x2 y2) oS oS) (aI (z7s oS:(fits .i64 ((0:Int)-w))=true) (aI (c9 ) (aI (z7s oS:(fits .i64 ((0:Int)-w))=true) (aI (c10 ) ((z5w (.tup [(wV a1 a2 b1 b2),(.int .i64 0)])))))))))))))))))))))))) (by kernel_rfl))
theorem zuq (m ee n f more w fi la x1 x2 y1 y2 a1 a2 b1 b2:Int)(c0:0≤w∧w≤4096)(c1:(0:Int)≤more∧more≤1)(c2:Impl Tryz.prog Amb 93 [(yV m ee)] (.bool true))(c3:Impl Tryz.prog Amb 93 [(yV n f)] (.bool true))(c4:Impl Tryz.prog Amb 153 [(wV m ee n f),(.int .i64 w)] (.tup [(zV fi),(zV la)]))(c5:Impl Tryz.prog Amb 154 [(zV fi),(zV la),(.int .i64 ((1:Int)-more))] (.bool false))(c6:Impl Tryz.prog Amb 154 [(zV fi),(zV la),(.int .i64 ((3:Int)-more))] (.bool false))(c7:Impl Tryz.prog Amb 133 [(.int .i64 w),(.clos 156 [(.pt [(V.bool (decide (m<0))),(N m.natAbs),(V.int .i64 ee),(V.bool (decide (n<0))),(N n.natAbs),(V.int .i64 f)] 0),(.pt [(V.int .i64 more)] 0)])] (sV x1 x2))(c8:Impl Tryz.prog Amb 133 [(.int .i64 w),(.clos 158 [(.pt [(V.bool (decide (m<0))),(N m.natAbs),(V.int .i64 ee),(V.bool (decide (n<0))),(N n.natAbs),(V.int .i64 f)] 0),(.pt [(V.int .i64 more)] 0)])] (sV y1 y2))(c9:Impl Tryz.prog Amb 70 [(zV (max (-((1:Int)*2^(w).toNat)) (min x1 y1))),(.int .i64 ((0:Int)-w))] (.tup [(yV a1 a2),(.int .i64 0)]))(c10:Impl Tryz.prog Amb 70 [(zV (min ((1:Int)*2^(w).toNat) (max x2 y2))),(.int .i64 ((0:Int)-w))] (.tup [(yV b1 b2),(.int .i64 0)]))(c11:L (x1).natAbs≤4000)(c12:L (x2).natAbs≤4000)(c13:L (y1).natAbs≤4000)(c14:L (y2).natAbs≤4000):Impl Tryz.prog Amb 92 [(wV m ee n f),(.int .i64 more),(.int .i64 w)] (.tup [(wV a1 a2 b1 b2),(.int .i64 0)]):=by
 have pw:=zk4 w.toNat
 have mn:=zug x1 y1
 have mx:=zuh x2 y2
 exact z6e hP hAmb Tryz.func92 (by kernel_rfl) (.lit<|.no<|.lits 3<|.no<|.lits 2<|.call (.bool true)<|.lits 6<|.call (.bool true)<|.lits 6<|.call (.tup [(zV fi),(zV la)])<|.lits 6<|.yes<|.lit<|.call (.bool false)<|.lits 4<|.yes<|.lit<|.call (.bool false)<|.lit<|.call (zV (1:Int))<|.lit<|.call (zV ((1:Int)*2^(w).toNat))<|.lits 3<|.call (zV (-((1:Int)*2^(w).toNat)))<|.lits 7<|.call (sV x1 x2)<|.lits 2<|.call (sV y1 y2)<|.lits 7<|.call (zV (min x1 y1))<|.lit<|.call (zV (max (-((1:Int)*2^(w).toNat)) (min x1 y1)))<|.lits 7<|.call (zV (max x2 y2))<|.lit<|.call (zV (min ((1:Int)*2^(w).toNat) (max x2 y2)))<|.lits 3<|.yes<|.lit<|.call (.tup [(yV a1 a2),(.int .i64 0)])<|.lits 3<|.yes<|.lit<|.call (.tup [(yV b1 b2),(.int .i64 0)])<|.lits 12<|.ret)
  (z6d (aI True.intro (aI (z7k oS:(iLt w 0)=false) (aI (z7m oS:(iGt w 4096)=false) (aI (c2 ) (aI (c3 ) (aI (c4 ) (aI (z7s oS:(fits .i64 ((1:Int)-more))=true) (aI (c5 ) (aI (z7s oS:(fits .i64 ((3:Int)-more))=true) (aI (c6 ) (aI (zdc 1 oS) (have f3:=(zgo oS:L (1:Int).natAbs≤2); aI (zdk (1:Int) w oS oS) (have f2:=zgw (1:Int) (w).toNat; aI (zdf ((1:Int)*2^(w).toNat) oS) (have f1:=zcx ((1:Int)*2^(w).toNat); aI (c7 ) (aI (c8 ) (aI (zul x1 y1 oS oS) (aI (zum (-((1:Int)*2^(w).toNat)) (min x1 y1) oS oS) (aI (zum x2 y2 oS oS) (aI (zul ((1:Int)*2^(w).toNat) (max x2 y2) oS oS) (aI (z7s oS:(fits .i64 ((0:Int)-w))=true) (aI (c9 ) (aI (z7s oS:(fits .i64 ((0:Int)-w))=true) (aI (c10 ) ((z5w (.tup [(wV a1 a2 b1 b2),(.int .i64 0)])))))))))))))))))))))))))) (by kernel_rfl))
theorem zur (m ee n f more ss r1 r2:Int)(c0:Impl Tryz.prog Amb 157 [(yV m ee),(.int .i64 more),(.int .i64 ss)] (sV r1 r2)):Impl Tryz.prog Amb 156 [(.int .i64 ss),(.pt [(V.bool (decide (m<0))),(N m.natAbs),(V.int .i64 ee),(V.bool (decide (n<0))),(N n.natAbs),(V.int .i64 f)] 0),(.pt [(V.int .i64 more)] 0)] (sV r1 r2):=by
 exact z6e hP hAmb Tryz.func156 (by kernel_rfl) (.lits 3<|.call (sV r1 r2)<|.lits 2<|.ret)
  (z6d (aI True.intro (aI (c0 ) ((z5w (sV r1 r2))))) (by kernel_rfl))
theorem zus (m ee n f more ss r1 r2:Int)(c0:Impl Tryz.prog Amb 157 [(yV n f),(.int .i64 more),(.int .i64 ss)] (sV r1 r2)):Impl Tryz.prog Amb 158 [(.int .i64 ss),(.pt [(V.bool (decide (m<0))),(N m.natAbs),(V.int .i64 ee),(V.bool (decide (n<0))),(N n.natAbs),(V.int .i64 f)] 0),(.pt [(V.int .i64 more)] 0)] (sV r1 r2):=by
 exact z6e hP hAmb Tryz.func158 (by kernel_rfl) (.lits 3<|.call (sV r1 r2)<|.lits 2<|.ret)
  (z6d (aI True.intro (aI (c0 ) ((z5w (sV r1 r2))))) (by kernel_rfl))
theorem zut (m ee n f w a1 a2 b1 b2 e:Int)(c0:Impl Tryz.prog Amb 92 [(wV m ee n f),(.int .i64 0),(.int .i64 w)] (.tup [(wV a1 a2 b1 b2),(.int .i64 e)])):Impl Tryz.prog Amb 34 [(wV m ee n f),(.int .i64 w)] (.tup [(wV a1 a2 b1 b2),(.int .i64 e)]):=by
 exact z6e hP hAmb Tryz.func34 (by kernel_rfl) (.lits 2<|.call (.tup [(wV a1 a2 b1 b2),(.int .i64 e)])<|.lits 2<|.ret)
  (z6d (aI True.intro (aI (c0 ) ((z5w (.tup [(wV a1 a2 b1 b2),(.int .i64 e)]))))) (by kernel_rfl))
theorem zuu (m ee n f w a1 a2 b1 b2 e:Int)(c0:Impl Tryz.prog Amb 92 [(wV m ee n f),(.int .i64 1),(.int .i64 w)] (.tup [(wV a1 a2 b1 b2),(.int .i64 e)])):Impl Tryz.prog Amb 35 [(wV m ee n f),(.int .i64 w)] (.tup [(wV a1 a2 b1 b2),(.int .i64 e)]):=by
 exact z6e hP hAmb Tryz.func35 (by kernel_rfl) (.lits 2<|.call (.tup [(wV a1 a2 b1 b2),(.int .i64 e)])<|.lits 2<|.ret)
  (z6d (aI True.intro (aI (c0 ) ((z5w (.tup [(wV a1 a2 b1 b2),(.int .i64 e)]))))) (by kernel_rfl))
end Go.Proofs.YtcbihoojfakhdaaGreatDoor


