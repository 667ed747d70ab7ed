/-
  Lower layers: what functions of the program compute, and zyt facts. Conditions: as the theorems say.
-/
import Derived.Test.YtcbihoojfakhdaaGreatDoorCbQ
set_option linter.unusedVariables false
set_option linter.unusedSimpArgs false
namespace Go.Proofs.YtcbihoojfakhdaaGreatDoor
open Go.RowKit
set_option maxRecDepth 100000
set_option maxHeartbeats 8000000
theorem zqj (m e v:Int)(c0:L (m).natAbs≤4000)(c1:(-65536:Int)≤e∧e≤65536)(c2:vdb m e=true)(c3:(0:Int)≤v∧v≤1500):Impl Tryz.prog Amb 45 [(yV m e),(.int .i64 v)] (sV (flr (dv m e) v) (cei (dv m e) v)):=by
 have lm:=zcx m
 have q1:=dv_L c2 oO
 have q3:vdb (-m) e=true:=by rw [zom]; exact c2
 have q2:=dv_L q3 oO
 exact z6e hP hAmb Tryz.func45 (by kernel_rfl) (.lits 2<|.call (.agg [(.bool (decide ((dv m e).num<0))),(N (((dv m e).num).natAbs)),(N ((dv m e).den))])<|.lits 3<|.call (zV (flr (dv m e) v))<|.lits 4<|.call (yV (-m) e)<|.lit<|.call (.agg [(.bool (decide ((dv (-m) e).num<0))),(N (((dv (-m) e).num).natAbs)),(N ((dv (-m) e).den))])<|.lit<|.call (zV (flr (dv (-m) e) v))<|.lit<|.call (zV (-(flr (dv (-m) e) v)))<|.lits 3<|.ret)
  (z6d (aI True.intro (aI (zoz m e oU oU oU) (have f6:=(dv_L ‹vdb m e=true› oU:L (dv m e).num.natAbs≤L (m).natAbs+2050∧L (dv m e).den≤2050); aI (zp0 (dv m e) v oU oU oU) (have f5:=zov (dv m e) v; aI (zj3 m e oU) (have f4:=zcx m; aI (zoz (-m) e oU oU oU) (have f3:=(dv_L ‹vdb (-m) e=true› oU:L (dv (-m) e).num.natAbs≤L ((-m)).natAbs+2050∧L (dv (-m) e).den≤2050); aI (zp0 (dv (-m) e) v oU oU oU) (have f2:=zov (dv (-m) e) v; aI (zhg (flr (dv (-m) e) v) oU) (have f1:=zcx (flr (dv (-m) e) v); (zq4 rfl (by unfold cei; rw [znd]):vsub (sV (flr (dv m e) v) (-(flr (dv (-m) e) v))) (sV (flr (dv m e) v) (cei (dv m e) v))))))))))) (by kernel_rfl))
theorem zqk (a b c d v:Int)(c0:L (a).natAbs≤4000)(c1:L (b).natAbs≤4000)(c2:L (c).natAbs≤4000)(c3:L (d).natAbs≤4000)(c4:(0:Int)≤v∧v≤1500):Impl Tryz.prog Amb 75 [(sV a b),(sV c d),(.int .i64 v)] (sV (rm1 a b c d (2^(v).toNat)) (rm2 a b c d (2^(v).toNat))):=by
 have l0:=zcw a c
 have l1:=zcw a d
 have l2:=zcw b c
 have l3:=zcw b d
 exact z6e hP hAmb Tryz.func75 (by kernel_rfl) (.lits 3<|.call (zV (a*c))<|.lits 3<|.call (zV (a*d))<|.lits 3<|.call (zV (b*c))<|.lits 3<|.call (zV (b*d))<|.lit<|.call (zV (1:Int))<|.lit<|.call (sV (Int.fdiv (min (min (min (a*c) (a*d)) (b*c)) (b*d)) (1:Int)) (-(Int.fdiv (-(max (max (max (a*c) (a*d)) (b*c)) (b*d))) (1:Int))))<|.lits 2<|.call (zV ((Int.fdiv (min (min (min (a*c) (a*d)) (b*c)) (b*d)) (1:Int)) / 2^(v).toNat))<|.lits 2<|.call (zV (-(-(Int.fdiv (-(max (max (max (a*c) (a*d)) (b*c)) (b*d))) (1:Int)))))<|.lit<|.call (zV ((-(-(Int.fdiv (-(max (max (max (a*c) (a*d)) (b*c)) (b*d))) (1:Int)))) / 2^(v).toNat))<|.lit<|.call (zV (-((-(-(Int.fdiv (-(max (max (max (a*c) (a*d)) (b*c)) (b*d))) (1:Int)))) / 2^(v).toNat)))<|.lits 3<|.ret)
  (z6d (aI True.intro (aI (zhj a c oO oO) (have f19:=zcw a c; aI (zhj a d oO oO) (have f18:=zcw a d; aI (zhj b c oO oO) (have f17:=zcw b c; aI (zhj b d oO oO) (have f16:=zcw b d; aI (zhd 1 oO) (have f15:=(zgo oO:L (1:Int).natAbs≤2); aI (zke (a*c) (a*d) (b*c) (b*d) (1:Int) oO oO oO oO oO oO) (have f14:=zcx (Int.fdiv (-(max (max (max (a*c) (a*d)) (b*c)) (b*d))) (1:Int)); have f13:=zcx (max (max (max (a*c) (a*d)) (b*c)) (b*d)); have f12:=zh6 (-(max (max (max (a*c) (a*d)) (b*c)) (b*d))) (1:Int); have f11:=zh6 (min (min (min (a*c) (a*d)) (b*c)) (b*d)) (1:Int); have f10:=zjq (max (max (a*c) (a*d)) (b*c)) (b*d); have f9:=zjq (max (a*c) (a*d)) (b*c); have f8:=zjq (a*c) (a*d); have f7:=zjp (min (min (a*c) (a*d)) (b*c)) (b*d); have f6:=zjp (min (a*c) (a*d)) (b*c); have f5:=zjp (a*c) (a*d); aI (zhn (Int.fdiv (min (min (min (a*c) (a*d)) (b*c)) (b*d)) (1:Int)) v oO oO) (have f4:=zgy (Int.fdiv (min (min (min (a*c) (a*d)) (b*c)) (b*d)) (1:Int)) (v).toNat; aI (zhg (-(Int.fdiv (-(max (max (max (a*c) (a*d)) (b*c)) (b*d))) (1:Int))) oO) (have f3:=zcx (-(Int.fdiv (-(max (max (max (a*c) (a*d)) (b*c)) (b*d))) (1:Int))); aI (zhn (-(-(Int.fdiv (-(max (max (max (a*c) (a*d)) (b*c)) (b*d))) (1:Int)))) v oO oO) (have f2:=zgy (-(-(Int.fdiv (-(max (max (max (a*c) (a*d)) (b*c)) (b*d))) (1:Int)))) (v).toNat; aI (zhg ((-(-(Int.fdiv (-(max (max (max (a*c) (a*d)) (b*c)) (b*d))) (1:Int)))) / 2^(v).toNat) oO) (have f1:=zcx ((-(-(Int.fdiv (-(max (max (max (a*c) (a*d)) (b*c)) (b*d))) (1:Int)))) / 2^(v).toNat); (zq4 (by simp only [Int.fdiv_one]; rfl) (by simp only [Int.fdiv_one,Int.neg_neg]; rfl):vsub (sV ((Int.fdiv (min (min (min (a*c) (a*d)) (b*c)) (b*d)) (1:Int)) / 2^(v).toNat) (-((-(-(Int.fdiv (-(max (max (max (a*c) (a*d)) (b*c)) (b*d))) (1:Int)))) / 2^(v).toNat))) (sV (rm1 a b c d (2^(v).toNat)) (rm2 a b c d (2^(v).toNat)))))))))))))))) (by kernel_rfl))
theorem zql (m e n f l1 l2 l3 l4 g1 g2 g3 g4 w b1 b2 d1 d2 u1 u2 k1 k2 k3 k4:Int)(c0:(0:Int)≤w∧w≤4096)(c1:Impl Tryz.prog Amb 40 [(wV m e n f)] (.bool true))(c2:Impl Tryz.prog Amb 41 [(yV m e),(.int .i64 w)] (.bool true))(c3:Impl Tryz.prog Amb 41 [(yV n f),(.int .i64 w)] (.bool true))(c4:Impl Tryz.prog Amb 32 [(.int .i64 (w-1))] (.tup [(yV u1 u2),(.int .i64 0)]))(c5:Impl Tryz.prog Amb 19 [(yV l1 l2),(yV u1 u2)] (.tup [(yV b1 b2),(.int .i64 0)]))(c6:Impl Tryz.prog Amb 33 [(yV g3 g4),(yV u1 u2)] (.tup [(yV d1 d2),(.int .i64 0)]))(c7:Impl Tryz.prog Amb 44 [(yV m e),(yV l3 l4)] (.int .i64 k1))(c8:Impl Tryz.prog Amb 44 [(yV b1 b2),(yV m e)] (.int .i64 k2))(c9:Impl Tryz.prog Amb 44 [(yV g1 g2),(yV n f)] (.int .i64 k3))(c10:Impl Tryz.prog Amb 44 [(yV n f),(yV d1 d2)] (.int .i64 k4))(c11:k1≤0∧k2≤0∧k3≤0∧k4≤0):Impl Tryz.prog Amb 22 [(wV m e n f),(wV l1 l2 l3 l4),(wV g1 g2 g3 g4),(.int .i64 w)] (.bool true):=by
 exact z6e hP hAmb Tryz.func22 (by kernel_rfl) (.lits 2<|.call (.bool true)<|.lits 7<|.call (.bool true)<|.lits 9<|.call (.bool true)<|.lits 5<|.yes<|.lit<|.call (.tup [(yV u1 u2),(.int .i64 0)])<|.lits 4<|.call (.tup [(yV b1 b2),(.int .i64 0)])<|.lits 4<|.call (.tup [(yV d1 d2),(.int .i64 0)])<|.lits 14<|.call (.int .i64 k1)<|.lits 3<|.yes<|.lits 6<|.call (.int .i64 k2)<|.lits 3<|.yes<|.lits 7<|.call (.int .i64 k3)<|.lits 3<|.yes<|.lits 6<|.call (.int .i64 k4)<|.lits 4<|.ret)
  (z6d (aI True.intro (aI (c1 ) (aI (c2 ) (aI (c3 ) (aI (z7s oS:(fits .i64 (w-1))=true) (aI (c4 ) (aI (c5 ) (aI (c6 ) (aI (c7 ) (aI (z7g oS:(iLe k1 0)=true) (aI (c8 ) (aI (z7g oS:(iLe k2 0)=true) (aI (c9 ) (aI (z7g oS:(iLe k3 0)=true) (aI (c10 ) ((z5x (congrArg V.bool (z7g oO)):vsub (.bool (iLe k4 0)) (.bool true)))))))))))))))))) (by kernel_rfl))
theorem zqm (lo hi a1 b1 a2 b2 w:Int)(hw:0≤w∧w≤1500)(L1:L lo.natAbs≤300)(L2:L hi.natAbs≤300)(L3:L a1.natAbs≤300)(L4:L b1.natAbs≤300)(L5:L a2.natAbs≤300)(L6:L b2.natAbs≤300)
  (o:lo≤hi) (h1:lo*2^16≤b1) (h2:a1≤(lo+2)*2^16) (h3:a2≤hi*2^16) (h4:(hi-2)*2^16≤b2) :
  Impl Tryz.prog Amb 22 [(wV (mkM lo (-w)) (mkX lo (-w)) (mkM hi (-w)) (mkX hi (-w))),(wV (mkM a1 (-(w+16))) (mkX a1 (-(w+16))) (mkM b1 (-(w+16))) (mkX b1 (-(w+16)))),(wV (mkM a2 (-(w+16))) (mkX a2 (-(w+16))) (mkM b2 (-(w+16))) (mkX b2 (-(w+16)))),.int .i64 w] (.bool true):=by
 have f1:=zp9 (m:=lo) (e:=-w) oO oO
 have f2:=zp9 (m:=hi) (e:=-w) oO oO
 have f3:=zp9 (m:=a1) (e:=-(w+16)) oO oO
 have f4:=zp9 (m:=b1) (e:=-(w+16)) oO oO
 have f5:=zp9 (m:=a2) (e:=-(w+16)) oO oO
 have f6:=zp9 (m:=b2) (e:=-(w+16)) oO oO
 have ev:ivB (mkM lo (-w)) (mkX lo (-w)) (mkM hi (-w)) (mkX hi (-w))=true:=by
  unfold ivB
  rw [f1.2.2.2.2.1,f2.2.2.2.2.1,decide_eq_true (zqg.2 (by rw [f1.2.2.2.2.2,f2.2.2.2.2.2]; exact zn9.2 o))]; rfl
 have n1:=zo5 (p:=w) f1.1 oO oO
 have n2:=zo5 (p:=w) f2.1 oO oO
 have u:=zjh (p:=w-1) oO
 have hU:=zjk (w-1) oO
 rw [u.1,u.2.1,u.2.2.1] at hU
 have i1:=zht (-w) 0
 have i2:iMax (-w) 0≤0:=by unfold iMax; split<;>omega
 have i3:=zht (-(w+16)) 0
 have i4:iMax (-(w+16)) 0≤0:=by unfold iMax; split<;>omega
 have z1:=zk7 1 (by decide)
 have du:dv 1 (-(w-1))=dv 2 (-w):=by
  have:=zn6 1 (-w) 1
  rw [show (1:Int)*2^1=2 from rfl,show -w+((1:Nat):Int)=-(w-1) by omega] at this
  exact this.symm
 have xw:((w.toNat:Nat):Int)=w:=Int.toNat_of_nonneg hw.1
 have dn:∀ {a b:Int} {n:Nat},a*2^n≤b→dv a (-w)≤dv b (-(w+(n:Int))):=fun h=>by
  have:=(zqh (w:=w.toNat)).2 h
  rwa [xw] at this
 have dm2:∀ {a b:Int} {n:Nat},b≤a*2^n→dv b (-(w+(n:Int)))≤dv a (-w):=fun h=>by
  have:=(zqi (w:=w.toNat)).2 h
  rwa [xw] at this
 have sb:=zj9 (mkM a1 (-(w+16))) (mkX a1 (-(w+16))) 1 (-(w-1)) oO (by show L 1≤8192; omega) oO oO
 have ab:=zj8 (mkM b2 (-(w+16))) (mkX b2 (-(w+16))) 1 (-(w-1)) oO (by show L 1≤8192; omega) oO oO
 have m1:=zht (mkX a1 (-(w+16))) (-(w-1))
 have m2:=zht (mkX b2 (-(w+16))) (-(w-1))
 have ln1:L (-1:Int).natAbs≤300:=by show L 1≤300; omega
 have s1:=zpf (m:=mkM a1 (-(w+16))) (e:=mkX a1 (-(w+16))) (n:=-1) (f:=-(w-1)) (a:=300) (c:=400) oO ln1 oO oO
 have s2:=zpf (m:=mkM b2 (-(w+16))) (e:=mkX b2 (-(w+16))) (n:=1) (f:=-(w-1)) (a:=300) (c:=400) oO (by show L 1≤300; omega) oO oO
 have e1:=zp9 (m:=adS (mkM a1 (-(w+16))) (mkX a1 (-(w+16))) (-1) (-(w-1))) (e:=iMin (mkX a1 (-(w+16))) (-(w-1))) oO oO
 have e2:=zp9 (m:=adS (mkM b2 (-(w+16))) (mkX b2 (-(w+16))) 1 (-(w-1))) (e:=iMin (mkX b2 (-(w+16))) (-(w-1))) oO oO
 have j1:=zht (iMin (mkX a1 (-(w+16))) (-(w-1))) 0
 have j2:iMax (iMin (mkX a1 (-(w+16))) (-(w-1))) 0≤20000:=by unfold iMax; split<;>omega
 have j3:=zht (iMin (mkX b2 (-(w+16))) (-(w-1))) 0
 have j4:iMax (iMin (mkX b2 (-(w+16))) (-(w-1))) 0≤20000:=by unfold iMax; split<;>omega
 rw [e1.1] at sb
 rw [e2.1] at ab
 have hd1:=e1.2.2.2.2.2
 have hd2:=e2.2.2.2.2.2
 rw [znf,f3.2.2.2.2.2,znd,du] at hd1
 rw [znf,f6.2.2.2.2.2,du] at hd2
 refine zql _ _ _ _ _ _ _ _ _ _ _ _ w _ _ _ _ 1 (-(w-1)) _ _ _ _ oO ?_ ?_ ?_ hU sb ab (zj7 _ _ _ _ oO oO oO oO) (zj7 _ _ _ _ oO oO oO oO) (zj7 _ _ _ _ oO oO oO oO) (zj7 _ _ _ _ oO oO oO oO) ⟨?_,?_,?_,?_⟩
 ·exact zp3 (congrArg V.bool ev) (zjl _ _ _ _ oO oO)
 ·exact zp3 (congrArg V.bool n1) (zjj _ _ w oO oO)
 ·exact zp3 (congrArg V.bool n2) (zjj _ _ w oO oO)
 ·rw [zqg,f1.2.2.2.2.2,f4.2.2.2.2.2]
  exact dn h1
 ·rw [zqg,hd1,f1.2.2.2.2.2]
  have:=dm2 h2
  rw [zne] at this
  grind
 ·rw [zqg,f5.2.2.2.2.2,f2.2.2.2.2.2]
  exact dm2 h3
 ·rw [zqg,hd2,f2.2.2.2.2.2]
  have:=dn h4
  rw [Int.sub_eq_add_neg,zne,znd] at this
  grind
end Go.Proofs.YtcbihoojfakhdaaGreatDoor

namespace Go.Proofs.YtcbihoojfakhdaaGreatDoor
theorem zqn {m e:Int}:0≤dv m e↔0≤m:=by rw [← znb e,zn9]
theorem zqo {m e:Int}(hm:m≠0):dv (m.natAbs:Int) e<dv 1 (topD m e)∧dv 1 (topD m e-1)≤dv (m.natAbs:Int) e:=by
 have h1:=zb9 m.natAbs
 have h2:=zba (show m.natAbs≠0 by omega)
 have h3:=zbb (show m.natAbs≠0 by omega)
 have ht:topD m e=(nbits m.natAbs:Int)+e:=by unfold topD; rw [if_neg hm]
 constructor
 ·rw [zn7 (m:=1) (show e≤topD m e by omega),zn8,Int.one_mul,zaj,show (topD m e-e).toNat=nbits m.natAbs by omega]; omega
 ·rw [zn7 (m:=1) (show e≤topD m e-1 by omega),zn9,Int.one_mul,zaj,show (topD m e-1-e).toNat=nbits m.natAbs-1 by omega]; omega
theorem zqp {a b:Int}(h:a≤b):dv 1 a≤dv 1 b:=by
 rw [zn7 h,zn9,Int.one_mul,zaj]
 have:=Nat.pow_pos (n:=(b-a).toNat) (show 0<2 by omega); omega
end Go.Proofs.YtcbihoojfakhdaaGreatDoor


namespace Go.Proofs.YtcbihoojfakhdaaGreatDoor
theorem zqq (m e k:Int):dv m e=dv m (e-k)*2^k:=by
 unfold dv
 rw [Rat.mul_assoc,← zn1,show e-k+k=e by omega]
end Go.Proofs.YtcbihoojfakhdaaGreatDoor

namespace Go.Proofs.YtcbihoojfakhdaaGreatDoor
open Go.RowKit
set_option maxRecDepth 100000
def fx_Settle2_0_mk (fk:Nat)(u1:V)(u2:V)(_ _ w:Int)(x:Int):St:=⟨mkS 27 [(0,(.val (.int .i64 w))),(1,(.val (.clos fk [u1,u2]))),(4,(.own 0 0)),(5,(.val (.int .i64 24)))],[⟨true,false,[(V.bool false),V.nil,(V.bool false),V.nil]⟩]⟩
def fx_Settle2_0_I (_:Nat)(_:V)(_:V)(_ _ _:Int)(x:Int):Prop:=x=x
def fx_Settle2_0_mu (_:Nat)(_:V)(_:V)(_ _ _:Int)(x:Int):Nat:=0
def fx_Settle2_0_ex (_:Nat)(_:V)(_:V)(ka kb _:Int)(y:Int):Ex × St:=(.ret,⟨mkS 27 [(4,(.own 0 0))],[⟨true,false,[(V.bool (decide ((ka / 2^24)<0))),(N ((ka / 2^24).natAbs)),(V.bool (decide ((-(-kb / 2^24))<0))),(N ((-(-kb / 2^24)).natAbs))]⟩]⟩)
def fx_Settle2_0_J (_:Nat)(_:V)(_:V)(_ _ _:Int)(y:Int):Prop:=y=y
theorem zqr (fk:Nat)(u1:V)(u2:V)(ka kb w:Int)(c0:Impl Tryz.prog Amb fk [(.int .i64 (w+24)),u1,u2] (sV ka kb))(c1:L ka.natAbs≤8192∧L kb.natAbs≤8192)(c2:nbits (kb-ka).natAbs≤24)(c3:(0:Int)≤w∧w≤5000)(x0:Int)(hI:fx_Settle2_0_I fk u1 u2 ka kb w x0):LoopOk Tryz.prog Amb (loopN Tryz.f133 0) (fx_Settle2_0_mk fk u1 u2 ka kb w x0) (fun e st_=>∃ y,fx_Settle2_0_J fk u1 u2 ka kb w y∧fx_Settle2_0_ex fk u1 u2 ka kb w y=(e,st_)) :=
 z6m hP hAmb ⟨[0,1,4,5],1,[]⟩ (fx_Settle2_0_mk fk u1 u2 ka kb w) (fx_Settle2_0_I fk u1 u2 ka kb w) (fx_Settle2_0_mu fk u1 u2 ka kb w) (fx_Settle2_0_ex fk u1 u2 ka kb w) (fx_Settle2_0_J fk u1 u2 ka kb w) x0 hI (fun j=>.lit<|.yes<|.lit<|.call (sV ka kb)<|.lits 3<|.call (zV (kb-ka))<|.lits 2<|.call (.int .i64 (nbits ((kb-ka).natAbs):Int))<|.lit<|.yes<|.lits 5<|.call (sV (ka / 2^24) (-(-kb / 2^24)))<|.lit<|.fin3 ⟨[4],[0]⟩) (by
  rintro j hI
  have hI:j=j:=hI
  have h1:=hI
  exact z6d (aI True.intro (aI (z7s oS:(fits .i64 (w+24))=true) (aI (c0 ) (aI (zlb ka kb oS oS) (have f106:=zgr kb ka; aI (zc2 ((kb-ka).natAbs) oS) (have f105:=zet ((kb-ka).natAbs); aI (z7g oO:(iLe (nbits ((kb-ka).natAbs):Int) 24)=true) (aI (zl5 ka kb 24 oS oS oS) (have f104:=zcx (-kb / 2^24); have f103:=zgy (-kb) 24; have f102:=zcx kb; have f101:=zgy ka 24; aI tT ((z6l ((fx_Settle2_0_ex fk u1 u2 ka kb w j).2) j (show j=j from rfl) rfl:NX (fx_Settle2_0_mk fk u1 u2 ka kb w) (fx_Settle2_0_I fk u1 u2 ka kb w) (fx_Settle2_0_mu fk u1 u2 ka kb w) (fx_Settle2_0_ex fk u1 u2 ka kb w) (fx_Settle2_0_J fk u1 u2 ka kb w) j .ret ((fx_Settle2_0_ex fk u1 u2 ka kb w j).2))))))))))) (by kernel_rfl))
theorem zqs (fk:Nat)(u1:V)(u2:V)(ka kb w:Int)(c0:Impl Tryz.prog Amb fk [(.int .i64 (w+24)),u1,u2] (sV ka kb))(c1:L ka.natAbs≤8192∧L kb.natAbs≤8192)(c2:nbits (kb-ka).natAbs≤24)(c3:(0:Int)≤w∧w≤5000):Impl Tryz.prog Amb 133 [(.int .i64 w),(.clos fk [u1,u2])] (sV (ka / 2^24) (-(-kb / 2^24))):=by
 exact z6e hP hAmb Tryz.func133 (by kernel_rfl) (.loop ⟨[0,1,4,5],1,[]⟩ ((fx_Settle2_0_mk fk u1 u2 ka kb w (0:Int))) (Int) (fx_Settle2_0_ex fk u1 u2 ka kb w) (fx_Settle2_0_J fk u1 u2 ka kb w) (fun y=>.lit<|.ret))
  (z6d (aI True.intro (aI tT (aI (rfl:(fx_Settle2_0_mk fk u1 u2 ka kb w (0:Int))=(fx_Settle2_0_mk fk u1 u2 ka kb w (0:Int))) (aI (zqr fk u1 u2 ka kb w c0 c1 c2 c3 (0:Int) (show (0:Int)=(0:Int) from rfl)) (fun y (hJ:fx_Settle2_0_J fk u1 u2 ka kb w y)=>have hJ:y=y:=hJ; (z5w (sV (ka / 2^24) (-(-kb / 2^24))))))))) (by kernel_rfl))
end Go.Proofs.YtcbihoojfakhdaaGreatDoor


namespace Go.Proofs.YtcbihoojfakhdaaGreatDoor
open Go.RowKit
set_option maxRecDepth 100000
theorem zqt {x:Int}(h:x<0)(k:-4294967295≤x):IntKind.wrap .i64 (IntKind.wrap .u64 ((0:Int)-(x.natAbs:Int)))=x:=by
 rw [z7w]
 have e:((0:Int)-(x.natAbs:Int))%18446744073709551616=18446744073709551616+x:=by omega
 rw [e]
 simp [IntKind.wrap,IntKind.bits,IntKind.signed]
 omega
theorem zqu (a:Nat)(c0:a<4294967296):Impl Tryz.prog Amb 238 [(N a)] (.tup [(.int .u64 (a:Int)),(.bool true)]):=by
 have l1:=L_le (n:=a) (k:=1) (by rw [Nat.pow_one]; exact c0)
 have e0:=z8g a
 have g0:=z89 (limbs a) 0
 have g1:=z8a (z6y a) 0
 exact z6e hP hAmb Tryz.func238 (by kernel_rfl) (.lit<|.call (.int .i64 (L a:Int))<|.lit<|.both (.lit<|.ret) (.lit<|.both (.yes<|.yes<|.lit<|.yes<|.lit<|.ret) (.lit<|.both (.yes<|.yes<|.lit<|.yes<|.lit<|.yes<|.yes<|.yes<|.lit<|.yes<|.lits 2<|.ret) (.lit<|.ret))))
  (z6d (aI True.intro (aI (z9z a oO) (aI (fun (h1:(iEq (L a:Int) 0)=true)=>have _gh1:=z7b h1; (z5x (by rw [show a=0 from Decidable.byContradiction fun h=>by have:=z8i h; omega]; rfl):vsub (.tup [(.int .u64 0),(.bool true)]) (.tup [(.int .u64 (a:Int)),(.bool true)]))) (fun (h2:(iEq (L a:Int) 0)=false)=>have _gh2:=z7c h2; aI (fun (h3:(iEq (L a:Int) 1)=true)=>have _gh3:=z7b h3; aI (z7o oO:(inB (0:Int) ((lim a).length))=true) (aI (ld_L oO:(Nat.blt 0 (lim a).length && isIntK .u32 (nth (lim a) 0 .unk))=true) (aI (z7t oO:(fits .u64 (gi (limbs a) 0))=true) ((z5x (by rw [zmm (show L a=1 by omega)]):vsub (.tup [(.int .u64 (gi (limbs a) 0)),(.bool true)]) (.tup [(.int .u64 (a:Int)),(.bool true)])))))) (fun (h4:(iEq (L a:Int) 1)=false)=>have _gh4:=z7c h4; aI (fun (h5:(iEq (L a:Int) 2)=true)=>have _gh5:=z7b h5; aI (z7o oO:(inB (1:Int) ((lim a).length))=true) (aI (ld_L oO:(Nat.blt 1 (lim a).length && isIntK .u32 (nth (lim a) 1 .unk))=true) (aI (z7t oO:(fits .u64 (gi (limbs a) 1))=true) (aI (z7t oO:(fits .u64 ((gi (limbs a) 1)*2^32))=true) (aI (z7o oO:(inB (0:Int) ((lim a).length))=true) (aI (ld_L oO:(Nat.blt 0 (lim a).length && isIntK .u32 (nth (lim a) 0 .unk))=true) (aI (z7t oO:(fits .u64 (gi (limbs a) 0))=true) ((False.elim oO:vsub (.tup [(.int .u64 (wOr .u64 ((gi (limbs a) 1)*2^32) (gi (limbs a) 0))),(.bool true)]) (.tup [(.int .u64 (a:Int)),(.bool true)])))))))))) (fun (h6:(iEq (L a:Int) 2)=false)=>have _gh6:=z7c h6; (False.elim oO:vsub (.tup [(.int .u64 0),(.bool false)]) (.tup [(.int .u64 (a:Int)),(.bool true)])))))))) (by kernel_rfl))
theorem zqv (x:Int)(c0:-4294967295≤x∧x≤4294967295):Impl Tryz.prog Amb 211 [(zV x)] (.tup [(.int .i64 x),(.bool true)]):=by
 have wz:=zqt (x:=x)
 exact z6e hP hAmb Tryz.func211 (by kernel_rfl) (.lits 2<|.call (.tup [(.int .u64 (x.natAbs:Int)),(.bool true)])<|.lits 4<|.both (.lits 3<|.yes<|.lit<|.yes<|.lit<|.ret) (.lits 4<|.both (.lits 3<|.yes<|.lit<|.no<|.lit<|.no<|.lit<|.ret) (.lits 4<|.ret)))
  (z6d (aI True.intro (aI (zqu x.natAbs oO) (aI (fun (h1:(!(decide (x<0)))=true)=>have _gh1:=of_decide_eq_false (z7p h1); aI (z7f oO:(iLt (x.natAbs:Int) 9223372036854775808)=true) (aI (z7s oO:(fits .i64 (x.natAbs:Int))=true) ((z5x (by rw [show (x.natAbs:Int)=x by omega]):vsub (.tup [(.int .i64 (x.natAbs:Int)),(.bool true)]) (.tup [(.int .i64 x),(.bool true)]))))) (fun (h2:(!(decide (x<0)))=false)=>have _gh2:=of_decide_eq_true (z7q h2); aI (fun (h3:(decide (x<0))=true)=>have _gh3:=of_decide_eq_true h3; aI (z7g oO:(iLe (x.natAbs:Int) 9223372036854775808)=true) ((z5x (by rw [wz oO oO]):vsub (.tup [(.int .i64 (IntKind.wrap .i64 (IntKind.wrap .u64 ((0:Int)-(x.natAbs:Int))))),(.bool true)]) (.tup [(.int .i64 x),(.bool true)])))) (fun (h4:(decide (x<0))=false)=>have _gh4:=of_decide_eq_false h4; (False.elim oO:vsub (.tup [(.int .i64 0),(.bool false)]) (.tup [(.int .i64 x),(.bool true)]))))))) (by kernel_rfl))
theorem zqw (a b c d:Int)(c0:L (a).natAbs≤3000)(c1:L (b).natAbs≤3000)(c2:L (c).natAbs≤3000)(c3:L (d).natAbs≤3000)(c4:0<c+d)(c5:-4294967295≤(Int.fdiv (((a+b)*2^1)+(c+d)) ((c+d)*2^1))∧(Int.fdiv (((a+b)*2^1)+(c+d)) ((c+d)*2^1))≤4294967295):Impl Tryz.prog Amb 163 [(sV a b),(sV c d)] (.int .i64 (Int.fdiv (((a+b)*2^1)+(c+d)) ((c+d)*2^1))):=by
 exact z6e hP hAmb Tryz.func163 (by kernel_rfl) (.lits 3<|.call (zV (a+b))<|.lits 3<|.call (zV (c+d))<|.lits 2<|.call (zV ((a+b)*2^1))<|.lits 2<|.call (zV (((a+b)*2^1)+(c+d)))<|.lits 2<|.call (zV ((c+d)*2^1))<|.lit<|.call (.tup [(zV (Int.fdiv (((a+b)*2^1)+(c+d)) ((c+d)*2^1))),(zV ((((a+b)*2^1)+(c+d))-(Int.fdiv (((a+b)*2^1)+(c+d)) ((c+d)*2^1))*((c+d)*2^1))),(.bool true)])<|.lits 2<|.call (.tup [(.int .i64 (Int.fdiv (((a+b)*2^1)+(c+d)) ((c+d)*2^1))),(.bool true)])<|.lit<|.ret)
  (z6d (aI True.intro (aI (zdh a b oO oO) (have f7:=zcv a b; aI (zdh c d oO oO) (have f6:=zcv c d; aI (zdk (a+b) 1 oO oO) (have f5:=zgw (a+b) 1; aI (zdh ((a+b)*2^1) (c+d) oO oO) (have f4:=zcv ((a+b)*2^1) (c+d); aI (zdk (c+d) 1 oO oO) (have f3:=zgw (c+d) 1; aI (zn0 (((a+b)*2^1)+(c+d)) ((c+d)*2^1) oO oO oO) (have f2:=L_rm (((a+b)*2^1)+(c+d)) ((c+d)*2^1); have f1:=zh6 (((a+b)*2^1)+(c+d)) ((c+d)*2^1); aI (zqv (Int.fdiv (((a+b)*2^1)+(c+d)) ((c+d)*2^1)) oO) ((z5w (.int .i64 (Int.fdiv (((a+b)*2^1)+(c+d)) ((c+d)*2^1))))))))))))) (by kernel_rfl))
end Go.Proofs.YtcbihoojfakhdaaGreatDoor


namespace Go.Proofs.YtcbihoojfakhdaaGreatDoor
def Sm (f:Nat→Rat):Nat→Rat
 | 0=>0
 | n+1=>Sm f n+f n
theorem zqx {f g:Nat→Rat}:∀ {n:Nat},(∀ i,i<n→f i=g i)→Sm f n=Sm g n
 | 0,_=>rfl
 | n+1,h=>by
  show Sm f n+f n=Sm g n+g n
  rw [zqx (n:=n) (fun i hi=>h i (by omega)),h n (by omega)]
theorem zqy (f g:Nat→Rat):∀ n,Sm (fun i=>f i+g i) n=Sm f n+Sm g n
 | 0=>by show (0:Rat)=0+0; grind
 | n+1=>by
  show Sm (fun i=>f i+g i) n+(f n+g n)=Sm f n+f n+(Sm g n+g n)
  rw [zqy f g n]; grind
theorem zqz (f:Nat→Rat)(c:Rat):∀ n,Sm f n*c=Sm (fun i=>f i*c) n
 | 0=>by show (0:Rat)*c=0; grind
 | n+1=>by
  show (Sm f n+f n)*c=Sm (fun i=>f i*c) n+f n*c
  rw [← zqz f c n]; grind
theorem zr0 (f:Nat→Rat):∀ n,Sm f (n+1)=f 0+Sm (fun i=>f (i+1)) n
 | 0=>by show (0:Rat)+f 0=f 0+0; grind
 | n+1=>by
  show Sm f (n+1)+f (n+1)=f 0+(Sm (fun i=>f (i+1)) n+f (n+1))
  rw [zr0 f n]; grind
theorem zr1 {f g:Nat→Rat}:∀ {n:Nat},(∀ i,i<n→f i≤g i)→Sm f n≤Sm g n
 | 0,_=>Rat.le_refl
 | n+1,h=>by
  have a:=zr1 (n:=n) (fun i hi=>h i (by omega))
  have b:=h n (by omega)
  show Sm f n+f n≤Sm g n+g n
  grind
theorem zr2 {f:Nat→Rat}(h:∀ i,0≤f i):∀ n,0≤Sm f n
 | 0=>Rat.le_refl
 | n+1=>Rat.add_nonneg (zr2 h n) (h n)
theorem zr3 {f:Nat→Rat}(h:∀ i,0≤f i){n m:Nat}(hn:n≤m):Sm f n≤Sm f m:=by
 obtain ⟨k,rfl⟩:∃ k,m=n+k:=⟨m-n,by omega⟩
 induction k with
 | zero=>exact Rat.le_refl
 | succ k ih =>
  have a:=ih (by omega)
  have b:=h (n+k)
  show Sm f n≤Sm f (n+k)+f (n+k)
  grind
theorem zr4 (f:Nat→Nat→Rat):∀ K,Sm (fun n=>Sm (fun i=>f i (n-i)) (n+1)) K=Sm (fun i=>Sm (f i) (K-i)) K
 | 0=>rfl
 | K+1=>by
  have h:=zr4 f K
  have e:Sm (fun i=>Sm (f i) (K+1-i)) (K+1)=Sm (fun i=>Sm (f i) (K-i)+f i (K-i)) (K+1):=zqx fun i hi=>by
   rw [show K+1-i=(K-i)+1 by omega]; rfl
  rw [e,zqy]
  show Sm (fun n=>Sm (fun i=>f i (n-i)) (n+1)) K+Sm (fun i=>f i (K-i)) (K+1)=Sm (fun i=>Sm (f i) (K-i)) K+Sm (f K) (K-K)+Sm (fun i=>f i (K-i)) (K+1)
  rw [h,Nat.sub_self]
  show _=_+0+_
  grind
theorem zr5 (f g:Nat→Rat)(K:Nat):∀ n,Sm f n*Sm g K=Sm (fun i=>Sm (fun j=>f i*g j) K) n
 | 0=>by show (0:Rat)*_=0; grind
 | n+1=>by
  have h:=zr5 f g K n
  have e:f n*Sm g K=Sm (fun j=>f n*g j) K:=by
   rw [Rat.mul_comm,zqz]
   exact zqx fun i _=>Rat.mul_comm _ _
  show (Sm f n+f n)*Sm g K=Sm (fun i=>Sm (fun j=>f i*g j) K) n+Sm (fun j=>f n*g j) K
  rw [← h,← e]; grind
def nx (n:Nat):Int:=(n:Int)+1
theorem zr6 (n:Nat):(0:Rat)<(nx n:Rat):=Rat.intCast_pos.2 (by unfold nx; omega)
def tE (x:Rat):Nat→Rat
 | 0=>1
 | n+1=>tE x n*x / (nx n:Rat)
theorem zr7 (x:Rat)(n:Nat):tE x n*x=(nx n:Rat)*tE x (n+1):=by
 show tE x n*x=(nx n:Rat)*(tE x n*x / (nx n:Rat))
 have:=zr6 n
 rw [Rat.mul_comm (nx n:Rat),Rat.div_mul_cancel (by grind)]
theorem zr8 {x:Rat}(h:0≤x):∀ n,0≤tE x n
 | 0=>by show (0:Rat)≤1; decide
 | n+1=>by
  show 0≤tE x n*x / (nx n:Rat)
  rw [Rat.div_def]
  exact Rat.mul_nonneg (Rat.mul_nonneg (zr8 h n) h) (Rat.le_of_lt (Rat.inv_pos.2 (zr6 n)))
def EP (x:Rat)(K:Nat):Rat:=Sm (tE x) K
theorem zr9 (x y:Rat):∀ n,tE (x+y) n=Sm (fun i=>tE x i*tE y (n-i)) (n+1)
 | 0=>by show (1:Rat)=0+1*1; grind
 | n+1=>by
  have h:=zr9 x y n
  have np:=zr6 n
  have key:Sm (fun i=>tE x i*tE y (n-i)) (n+1)*(x+y)=(nx n:Rat)*Sm (fun i=>tE x i*tE y (n+1-i)) (n+2):=by
   have ex:Sm (fun i=>tE x i*tE y (n-i)) (n+1)*x=Sm (fun i=>(i:Rat)*(tE x i*tE y (n+1-i))) (n+2):=by
    rw [zqz,zr0 (fun i=>(i:Rat)*(tE x i*tE y (n+1-i))) (n+1)]
    have z:(((0:Nat):Nat):Rat)*(tE x 0*tE y (n+1-0))=0:=by
     rw [show ((0:Nat):Rat)=0 from rfl]; grind
    rw [z,Rat.zero_add]
    refine zqx fun i hi=>?_
    rw [show n+1-(i+1)=n-i by omega]
    have t:=zr7 x i
    have c:((i+1:Nat):Rat)=(nx i:Rat):=rfl
    show tE x i*tE y (n-i)*x=((i+1:Nat):Rat)*(tE x (i+1)*tE y (n-i))
    rw [c]
    grind
   have ey:Sm (fun i=>tE x i*tE y (n-i)) (n+1)*y=Sm (fun i=>((nx n:Rat)-(i:Rat))*(tE x i*tE y (n+1-i))) (n+2):=by
    rw [zqz]
    show _=Sm (fun i=>((nx n:Rat)-(i:Rat))*(tE x i*tE y (n+1-i))) (n+1)+((nx n:Rat)-((n+1:Nat):Rat))*(tE x (n+1)*tE y (n+1-(n+1)))
    have c:((n+1:Nat):Rat)=(nx n:Rat):=rfl
    rw [c]
    have z:((nx n:Rat)-(nx n:Rat))*(tE x (n+1)*tE y (n+1-(n+1)))=0:=by grind
    rw [z,Rat.add_zero]
    refine zqx fun i hi=>?_
    have t:=zr7 y (n-i)
    rw [show n+1-i=(n-i)+1 by omega]
    have d:(nx (n-i):Rat)=(nx n:Rat)-(i:Rat):=by
     have e:nx (n-i)=nx n-(i:Int):=by unfold nx; omega
     rw [e,Rat.intCast_sub]; rfl
    rw [← d]
    grind
   rw [show Sm (fun i=>tE x i*tE y (n-i)) (n+1)*(x+y)=Sm (fun i=>tE x i*tE y (n-i)) (n+1)*x+Sm (fun i=>tE x i*tE y (n-i)) (n+1)*y by grind,ex,ey,← zqy,Rat.mul_comm (nx n:Rat),zqz]
   exact zqx fun i _=>by grind
  show tE (x+y) n*(x+y) / (nx n:Rat)=_
  rw [h,key,Rat.mul_comm,Rat.mul_div_cancel (by grind)]
theorem zra (x y:Rat)(K:Nat):EP (x+y) K=Sm (fun i=>Sm (fun j=>tE x i*tE y j) (K-i)) K:=by
 unfold EP
 rw [← zr4 (fun i j=>tE x i*tE y j) K]
 exact zqx fun n _=>zr9 x y n
theorem zrb {x y:Rat}(hx:0≤x)(hy:0≤y)(K:Nat):EP (x+y) K≤EP x K*EP y K∧EP x K*EP y K≤EP (x+y) (2*K):=by
 have nn:∀ i j,0≤tE x i*tE y j:=fun i j=>Rat.mul_nonneg (zr8 hx i) (zr8 hy j)
 have p:EP x K*EP y K=Sm (fun i=>Sm (fun j=>tE x i*tE y j) K) K:=zr5 _ _ K K
 rw [p,zra,zra]
 constructor
 ·exact zr1 fun i _=>zr3 (nn i) (by omega)
 ·refine Rat.le_trans (zr1 (g:=fun i=>Sm (fun j=>tE x i*tE y j) (2*K-i)) fun i hi=>zr3 (nn i) (by omega)) (zr3 (fun i=>zr2 (nn i) _) (by omega))
theorem zrc {x:Rat}(h:0≤x)(K:Nat):0≤EP x K:=zr2 (zr8 h) K
theorem zrd {x:Rat}(h:0≤x){n m:Nat}(hn:n≤m):EP x n≤EP x m:=zr3 (zr8 h) hn
end Go.Proofs.YtcbihoojfakhdaaGreatDoor

namespace Go.Proofs.YtcbihoojfakhdaaGreatDoor
theorem zre {x:Rat}(h0:0≤x){m:Nat}(h:2*x≤(nx m:Rat)):2*tE x (m+1)≤tE x m:=by
 have np:=zr6 m
 have t:=zr7 x m
 have p:=zr8 h0 m
 refine Rat.le_of_mul_le_mul_right (c:=(nx m:Rat)) ?_ np
 have e:2*tE x (m+1)*(nx m:Rat)=tE x m*(2*x):=by grind
 rw [e]
 exact Rat.mul_le_mul_of_nonneg_left h p
theorem zrf {a b:Nat}(h:a≤b):(nx a:Rat)≤(nx b:Rat):=Rat.intCast_le_intCast.2 (by unfold nx; omega)
theorem zrg {x:Rat}(h0:0≤x){n:Nat}(h:2*x≤(nx n:Rat))(K:Nat):EP x K≤EP x (n+1)+tE x n:=by
 have key:∀ k,EP x (n+1+k)+tE x (n+k)≤EP x (n+1)+tE x n:=by
  intro k
  induction k with
  | zero=>exact Rat.le_refl
  | succ k ih =>
   have a:=zre h0 (m:=n+k) (Rat.le_trans h (zrf (by omega)))
   have e:EP x (n+1+(k+1))=EP x (n+1+k)+tE x (n+k+1):=by
    show Sm (tE x) (n+1+k)+tE x (n+1+k)=_
    rw [show n+1+k=n+k+1 by omega]; rfl
   rw [e]
   show EP x (n+1+k)+tE x (n+k+1)+tE x (n+k+1)≤_
   grind
 have a:=key K
 have b:=zrd h0 (show K≤n+1+K by omega)
 have c:=zr8 h0 (n+K)
 grind
def dbl (v:Rat):Nat→Rat
 | 0=>v
 | i+1=>dbl v i+dbl v i
theorem zrh (v:Rat):∀ i,dbl v i=v*((2^i:Int):Rat)
 | 0=>by show v=v*((1:Int):Rat); rw [show ((1:Int):Rat)=1 from rfl]; grind
 | i+1=>by
  show dbl v i+dbl v i=_
  rw [zrh v i,Int.pow_succ,Rat.intCast_mul,show ((2:Int):Rat)=2 from rfl]; grind
theorem zri {q:Rat}(h:1≤q):∀ n:Nat,1≤q^n
 | 0=>by rw [Rat.pow_zero]; exact Rat.le_refl
 | n+1=>by
  have a:=zri h n
  have m:=Rat.mul_le_mul_of_nonneg_left h (show (0:Rat)≤q^n by grind)
  rw [Rat.pow_succ]; grind
end Go.Proofs.YtcbihoojfakhdaaGreatDoor








namespace Go.Proofs.YtcbihoojfakhdaaGreatDoor
open Go.RowKit
set_option maxRecDepth 100000
def ivM (b:Bool)(l:List Nat)(e:Int)(c:Bool)(r:List Nat)(f n k:Int):Int:=(swM (mkM (rawI b l n) (e%(2*k+1)-k)) (mkX (rawI b l n) (e%(2*k+1)-k)) (mkM (rawI c r n) (f%(2*k+1)-k)) (mkX (rawI c r n) (f%(2*k+1)-k)))
def ivX (b:Bool)(l:List Nat)(e:Int)(c:Bool)(r:List Nat)(f n k:Int):Int:=(swX (mkM (rawI b l n) (e%(2*k+1)-k)) (mkX (rawI b l n) (e%(2*k+1)-k)) (mkM (rawI c r n) (f%(2*k+1)-k)) (mkX (rawI c r n) (f%(2*k+1)-k)))
def ivN (b:Bool)(l:List Nat)(e:Int)(c:Bool)(r:List Nat)(f n k:Int):Int:=(swN (mkM (rawI b l n) (e%(2*k+1)-k)) (mkX (rawI b l n) (e%(2*k+1)-k)) (mkM (rawI c r n) (f%(2*k+1)-k)) (mkX (rawI c r n) (f%(2*k+1)-k)))
def ivF (b:Bool)(l:List Nat)(e:Int)(c:Bool)(r:List Nat)(f n k:Int):Int:=(swF (mkM (rawI b l n) (e%(2*k+1)-k)) (mkX (rawI b l n) (e%(2*k+1)-k)) (mkM (rawI c r n) (f%(2*k+1)-k)) (mkX (rawI c r n) (f%(2*k+1)-k)))
theorem zrj {b:Bool}{l:List Nat}{e:Int}{c:Bool}{r:List Nat}{f n k:Int}(hl:Dig l)(hr:Dig r)(hn:0≤n∧n≤800)(hk:0≤k∧k≤20000):((L (ivM b l e c r f n k).natAbs≤n∧-k≤(ivX b l e c r f n k)∧(ivX b l e c r f n k)≤k+32*n)∧(L (ivN b l e c r f n k).natAbs≤n∧-k≤(ivF b l e c r f n k)∧(ivF b l e c r f n k)≤k+32*n))∧vdb (ivM b l e c r f n k) (ivX b l e c r f n k)=true∧vdb (ivN b l e c r f n k) (ivF b l e c r f n k)=true∧dv (ivM b l e c r f n k) (ivX b l e c r f n k)≤dv (ivN b l e c r f n k) (ivF b l e c r f n k):=by
 have h:=zpd (b:=b) (c:=c) (e:=e) (f:=f) hl hr hn hk rfl rfl rfl rfl
 exact ⟨⟨h.1,h.2.1⟩,h.2.2⟩
theorem zrk (b:Bool)(l:List Nat)(e:Int)(c:Bool)(r:List Nat)(f n k:Int)(c0:Dig l)(c1:l.length≤9223372036854775807)(c2:Dig r)(c3:r.length≤9223372036854775807)(c4:(-9223372036854775808:Int)≤e∧e≤9223372036854775807)(c5:(-9223372036854775808:Int)≤f∧f≤9223372036854775807)(c6:(0:Int)≤n∧n≤800)(c7:(0:Int)≤k∧k≤20000):Impl Tryz.prog Amb 78 [(.agg [(.bool b),(.sl 1 (U l)),(.int .i64 e),(.bool c),(.sl 1 (U r)),(.int .i64 f)]),(.int .i64 n),(.int .i64 k)] (.tup [(wV (ivM b l e c r f n k) (ivX b l e c r f n k) (ivN b l e c r f n k) (ivF b l e c r f n k)),(.bool (decide ((l.length:Int)≤n∧(r.length:Int)≤n)))]) :=
 zp7 b l e c r f n k c0 c1 c2 c3 c4 c5 c6 c7
end Go.Proofs.YtcbihoojfakhdaaGreatDoor








namespace Go.Proofs.YtcbihoojfakhdaaGreatDoor
open Go.RowKit
set_option maxRecDepth 100000
set_option maxHeartbeats 400000
theorem zrl {x:Int}{t c:Nat}(h:x.natAbs≤c*2^t)(hc:c≤2^20)(ht:t≤2000):L x.natAbs≤70:=by
 refine zjf (n:=t+21) ?_ oO
 have e:(2:Nat)^(t+21)=2*(2^20*2^t):=by rw [Nat.pow_add]; omega
 have p:=Nat.mul_le_mul_right (2^t) hc
 have:=Nat.pow_pos (n:=t) (show 0<2 by omega)
 omega
theorem zrm {m e f:Int}(h:vdb m e=true)(hm:m≠0)(hf:-65536≤f∧f≤65536):vdb m f=true:=by
 rcases zhs.1 h with q | q
 ·exact absurd q.1 hm
 ·exact zhs.2 (.inr ⟨hm,q.2.1,hf.1,hf.2,q.2.2.2.2⟩)
end Go.Proofs.YtcbihoojfakhdaaGreatDoor





namespace Go.Proofs.YtcbihoojfakhdaaGreatDoor
def eps:Rat:=dv 1 (-400)
end Go.Proofs.YtcbihoojfakhdaaGreatDoor


namespace Go.Proofs.YtcbihoojfakhdaaGreatDoor
def Lq (f g:Nat→Rat):Prop:=∀ e:Rat,0<e→∃ N,∀ K,N≤K→f K≤g K+e
def Lm (f g:Nat→Rat):Prop:=Lq f g∧Lq g f
def Bn (f:Nat→Rat)(B:Rat):Prop:=∃ N,∀ K,N≤K→-B≤f K∧f K≤B
theorem Lq.refl (f:Nat→Rat):Lq f f:=fun e h=>⟨0,fun K _=>by grind⟩
theorem Lm.refl (f:Nat→Rat):Lm f f:=⟨Lq.refl f,Lq.refl f⟩
theorem Lm.symm {f g:Nat→Rat}(h:Lm f g):Lm g f:=⟨h.2,h.1⟩
theorem r8:(0:Rat)<1 / 8∧(0:Rat)<1 / 2∧(0:Rat)<2⁻¹:=⟨of_decide_eq_true (by kernel_rfl),of_decide_eq_true (by kernel_rfl),of_decide_eq_true (by kernel_rfl)⟩
theorem zrn {e:Rat}(h:0<e):0<e / 2:=by rw [Rat.div_def]; exact Rat.mul_pos h r8.2.2
theorem zro (e:Rat):e / 2+e / 2=e:=by rw [Rat.div_def]; grind
theorem Lq.trans {f g h:Nat→Rat}(a:Lq f g)(b:Lq g h):Lq f h:=fun e he=>by
 obtain ⟨N,p⟩:=a (e / 2) (zrn he)
 obtain ⟨M,q⟩:=b (e / 2) (zrn he)
 refine ⟨N+M,fun K hK=>?_⟩
 have x:=p K (by omega)
 have y:=q K (by omega)
 have z:=zro e
 grind
theorem Lm.trans {f g h:Nat→Rat}(a:Lm f g)(b:Lm g h):Lm f h:=⟨a.1.trans b.1,b.2.trans a.2⟩
theorem Lq.of_le {f g:Nat→Rat}{N:Nat}(h:∀ K,N≤K→f K≤g K):Lq f g:=fun e he=>⟨N,fun K hK=>by have:=h K hK; grind⟩
theorem Lm.of_eq {f g:Nat→Rat}{N:Nat}(h:∀ K,N≤K→f K=g K):Lm f g:=⟨.of_le (N:=N) fun K hK=>by rw [h K hK]; exact Rat.le_refl,.of_le (N:=N) fun K hK=>by rw [h K hK]; exact Rat.le_refl⟩
theorem zrp {p x P a:Rat}(h1:-P≤p)(h2:p≤P)(h3:-a≤x)(h4:x≤a):-(P*a)≤p*x∧p*x≤P*a:=by
 have m1:=Rat.mul_nonneg (show 0≤P-p by grind) (show 0≤a+x by grind)
 have m2:=Rat.mul_nonneg (show 0≤P+p by grind) (show 0≤a-x by grind)
 have m3:=Rat.mul_nonneg (show 0≤P+p by grind) (show 0≤a+x by grind)
 have m4:=Rat.mul_nonneg (show 0≤P-p by grind) (show 0≤a-x by grind)
 constructor<;>grind
theorem zrq {B:Rat}(h:0<B):B⁻¹*B=1:=Rat.inv_mul_cancel _ (by grind)
theorem Bn.pos {f:Nat→Rat}{B:Rat}(h:Bn f B):∃ C,0<C∧Bn f C:=by
 obtain ⟨N,h⟩:=h
 have a:=h N (Nat.le_refl _)
 refine ⟨B+1,by grind,N,fun K hK=>?_⟩
 have b:=h K hK
 constructor<;>grind
theorem Lq.mul_aux {f f' g g':Nat→Rat}{A B:Rat}(h:Lm f f')(k:Lm g g')(hf:Bn f A)(hg:Bn g' B):Lq (fun K=>f K*g K) (fun K=>f' K*g' K):=fun e he=>by
 obtain ⟨A',A0,N1,b1⟩:=hf.pos
 obtain ⟨B',B0,N2,b2⟩:=hg.pos
 have iA:=Rat.inv_pos.2 A0
 have iB:=Rat.inv_pos.2 B0
 have eA:=zrq A0
 have eB:=zrq B0
 obtain ⟨N3,c1⟩:=h.1 _ (Rat.mul_pos (zrn he) iB)
 obtain ⟨N4,c2⟩:=h.2 _ (Rat.mul_pos (zrn he) iB)
 obtain ⟨N5,c3⟩:=k.1 _ (Rat.mul_pos (zrn he) iA)
 obtain ⟨N6,c4⟩:=k.2 _ (Rat.mul_pos (zrn he) iA)
 refine ⟨N1+N2+N3+N4+N5+N6,fun K hK=>?_⟩
 have b1:=b1 K (by omega)
 have b2:=b2 K (by omega)
 have c1:=c1 K (by omega)
 have c2:=c2 K (by omega)
 have c3:=c3 K (by omega)
 have c4:=c4 K (by omega)
 have z:=zro e
 have m1:=(zrp b1.1 b1.2 (x:=g K-g' K) (a:=e / 2*A'⁻¹) (by grind) (by grind)).2
 have m2:=(zrp b2.1 b2.2 (x:=f K-f' K) (a:=e / 2*B'⁻¹) (by grind) (by grind)).2
 have q1:A'*(e / 2*A'⁻¹)=e / 2:=by grind
 have q2:B'*(e / 2*B'⁻¹)=e / 2:=by grind
 rw [q1] at m1
 rw [q2] at m2
 show f K*g K≤f' K*g' K+e
 grind
theorem Lm.bn {f g:Nat→Rat}{A:Rat}(h:Lm f g)(b:Bn f A):Bn g (A+1):=by
 obtain ⟨N,b⟩:=b
 obtain ⟨N1,h1⟩:=h.1 1 (by decide)
 obtain ⟨N2,h2⟩:=h.2 1 (by decide)
 refine ⟨N+N1+N2,fun K hK=>?_⟩
 have b:=b K (by omega)
 have h1:=h1 K (by omega)
 have h2:=h2 K (by omega)
 constructor<;>grind
theorem Lm.mul {f f' g g':Nat→Rat}{A B:Rat}(h:Lm f f')(k:Lm g g')(hf:Bn f A)(hg:Bn g B):Lm (fun K=>f K*g K) (fun K=>f' K*g' K) :=
 ⟨Lq.mul_aux h k hf (k.bn hg),Lq.mul_aux h.symm k.symm (h.bn hf) hg⟩
theorem zrr {f g:Nat→Rat}:∀ {n:Nat},(∀ i,i<n→-(g i)≤f i∧f i≤g i)→-(Sm g n)≤Sm f n∧Sm f n≤Sm g n
 | 0,_=>by show -(0:Rat)≤0∧(0:Rat)≤0; constructor<;>decide
 | n+1,h=>by
  have a:=zrr (n:=n) (fun i hi=>h i (by omega))
  have b:=h n (by omega)
  show -(Sm g n+g n)≤Sm f n+f n∧Sm f n+f n≤Sm g n+g n
  constructor<;>grind
theorem zrs {x a:Rat}(h1:-a≤x)(h2:x≤a):∀ n,-(tE a n)≤tE x n∧tE x n≤tE a n
 | 0=>by show -(1:Rat)≤1∧(1:Rat)≤1; constructor<;>decide
 | n+1=>by
  have i:=zrs h1 h2 n
  have m:=zrp i.1 i.2 h1 h2
  have np:=zr6 n
  have e1:=zr7 x n
  have e2:=zr7 a n
  constructor
  ·exact Rat.le_of_mul_le_mul_right (c:=(nx n:Rat)) (by grind) np
  ·exact Rat.le_of_mul_le_mul_right (c:=(nx n:Rat)) (by grind) np
theorem zrt (c:Rat)(f:Nat→Rat)(n:Nat):Sm (fun j=>c*f j) n=c*Sm f n:=by
 rw [Rat.mul_comm,zqz]
 exact zqx fun i _=>Rat.mul_comm _ _
theorem zru (r:Rat):∃ n:Nat,r≤(n:Rat):=by
 refine ⟨r.ceil.toNat,?_⟩
 have a:r≤(r.ceil:Rat):=Rat.le_ceil
 have b:((r.ceil:Int):Rat)≤((r.ceil.toNat:Int):Rat):=Rat.intCast_le_intCast.2 (by omega)
 exact Rat.le_trans a b
theorem two_pow_ge:∀ n:Nat,(n:Rat)≤(2:Rat)^n
 | 0=>by rw [Rat.pow_zero]; decide
 | n+1=>by
  have a:=two_pow_ge n
  have b:=zri (q:=2) (by decide) n
  rw [Rat.pow_succ,Rat.natCast_add]
  show (n:Rat)+1≤_
  grind
theorem zrv {a:Rat}(h0:0≤a){m:Nat}(h:2*a≤(nx m:Rat)):∀ j,tE a (m+j)*(2:Rat)^j≤tE a m
 | 0=>by rw [Rat.pow_zero,Rat.mul_one]; exact Rat.le_refl
 | j+1=>by
  have i:=zrv h0 h j
  have t:=zre h0 (m:=m+j) (Rat.le_trans h (zrf (by omega)))
  have p:(0:Rat)≤(2:Rat)^j:=by have:=zri (q:=2) (by decide) j; grind
  have m1:=Rat.mul_le_mul_of_nonneg_right t p
  rw [Rat.pow_succ]
  show tE a (m+j+1)*_≤_
  grind
theorem zrw {a:Rat}(h0:0≤a){e:Rat}(he:0<e):∃ N,∀ K,N≤K→tE a K≤e∧2*a≤(nx K:Rat):=by
 obtain ⟨m,hm⟩:=zru (2*a)
 have hm':2*a≤(nx m:Rat):=Rat.le_trans hm (Rat.intCast_le_intCast.2 (show (m:Int)≤nx m by unfold nx; omega))
 obtain ⟨j,hj⟩:=zru (tE a m*e⁻¹)
 have ie:=zrq he
 have i0:=Rat.inv_pos.2 he
 refine ⟨m+j,fun K hK=>⟨?_,Rat.le_trans hm' (zrf (by omega))⟩⟩
 obtain ⟨i,rfl⟩:∃ i,K=m+(j+i):=⟨K-m-j,by omega⟩
 have d:=zrv h0 hm' (j+i)
 have g:=two_pow_ge (j+i)
 have n1:(j:Rat)≤((j+i:Nat):Rat):=by
  rw [Rat.natCast_add]
  have:(0:Rat)≤(i:Rat):=Rat.natCast_nonneg
  grind
 have p:(1:Rat)≤(2:Rat)^(j+i):=zri (by decide) _
 refine Rat.le_of_mul_le_mul_right (c:=(2:Rat)^(j+i)) ?_ (by grind)
 have m1:=Rat.mul_le_mul_of_nonneg_left (show tE a m*e⁻¹≤(2:Rat)^(j+i) by grind) (Rat.le_of_lt he)
 have q:e*(tE a m*e⁻¹)=tE a m:=by grind
 rw [q] at m1
 exact Rat.le_trans d m1
theorem zrx {a:Rat}(h0:0≤a){e:Rat}(he:0<e):∃ N,∀ K,N≤K→∀ M,EP a M≤EP a K+e:=by
 obtain ⟨N,h⟩:=zrw h0 he
 refine ⟨N+1,fun K hK M=>?_⟩
 obtain ⟨n,rfl⟩:∃ n,K=n+1:=⟨K-1,by omega⟩
 have b:=h n (by omega)
 have c:=zrg h0 b.2 M
 grind
theorem zry {a:Rat}(h0:0≤a):∃ B,0<B∧∀ K,EP a K≤B:=by
 obtain ⟨N,h⟩:=zrx h0 (e:=1) (by decide)
 have p:=zrc h0 N
 exact ⟨EP a N+1,by grind,fun K=>h N (Nat.le_refl _) K⟩
theorem zrz (x:Rat):∃ a,0≤a∧-a≤x∧x≤a:=by
 rcases (Rat.le_total:0≤x∨x≤0) with h | h
 ·exact ⟨x,h,by grind,Rat.le_refl⟩
 ·exact ⟨-x,by grind,by grind,by grind⟩
end Go.Proofs.YtcbihoojfakhdaaGreatDoor


namespace Go.Proofs.YtcbihoojfakhdaaGreatDoor
def rE (T y1 y2:Int):Nat→Int × Int
 | 0=>(T,T)
 | j+1=>(ovLo (rm1 (rE T y1 y2 j).1 (rE T y1 y2 j).2 y1 y2 T) (rm2 (rE T y1 y2 j).1 (rE T y1 y2 j).2 y1 y2 T) ((j:Int)+1),ovHi (rm1 (rE T y1 y2 j).1 (rE T y1 y2 j).2 y1 y2 T) (rm2 (rE T y1 y2 j).1 (rE T y1 y2 j).2 y1 y2 T) ((j:Int)+1))
theorem zs0 {T y1 y2:Int}{x:Rat}(hT:0<T)(e1:(y1:Rat)≤x*T)(e2:x*T≤(y2:Rat)):∀ j,((rE T y1 y2 j).1:Rat)≤tE x j*T∧tE x j*T≤((rE T y1 y2 j).2:Rat)
 | 0=>by
  show (T:Rat)≤1*T∧1*(T:Rat)≤T
  rw [Rat.one_mul]; exact ⟨Rat.le_refl,Rat.le_refl⟩
 | j+1=>by
  have a:=zs0 hT e1 e2 j
  have b:=zpt hT a.1 a.2 e1 e2
  have n0:(0:Int)<(j:Int)+1:=by omega
  have c:=zpw n0 b.1 b.2
  have e:tE x j*x*(T:Rat) / (((j:Int)+1:Int):Rat)=tE x (j+1)*T:=by
   show tE x j*x*(T:Rat) / (nx j:Rat)=tE x j*x / (nx j:Rat)*T
   rw [Rat.div_def,Rat.div_def]; grind
  rw [e] at c
  exact c
theorem zs1 {a b n:Int}{B:Nat}(hn:0<n)(ha:a.natAbs≤B)(hb:b.natAbs≤B):(ovLo a b n).natAbs≤B∧(ovHi a b n).natAbs≤B:=by
 have key:∀ z:Int,z.natAbs≤B→(Int.fdiv z n).natAbs≤B:=by
  intro z hz
  rw [Int.fdiv_eq_ediv_of_nonneg _ (Int.le_of_lt hn)]
  have f1:=Int.ediv_mul_le z (show n≠0 by omega)
  have f2:=Int.lt_ediv_add_one_mul_self z hn
  generalize z / n=q at *
  have u:q≤B:=by
   refine Decidable.byContradiction fun h=>?_
   have m:=Int.mul_le_mul_of_nonneg_left (show (1:Int)≤n by omega) (show 0≤q by omega)
   omega
  have l:-(B:Int)≤q:=by
   refine Decidable.byContradiction fun h=>?_
   have m:=Int.mul_le_mul_of_nonneg_left (show (1:Int)≤n by omega) (show 0≤-(q+1) by omega)
   have e:-(q+1)*n=-((q+1)*n):=Int.neg_mul _ _
   omega
  omega
 unfold ovLo ovHi
 have k1:=key (min a b) (by omega)
 have k2:=key (-(max a b)) (by omega)
 omega
end Go.Proofs.YtcbihoojfakhdaaGreatDoor

namespace Go.Proofs.YtcbihoojfakhdaaGreatDoor
def EnE (f:Nat→Rat)(s:Nat)(lo hi:Int)(g:Rat):Prop:=∃ N,∀ K,N≤K→(lo:Rat)≤f K*((2^s:Int):Rat)+g∧f K*((2^s:Int):Rat)≤(hi:Rat)+g
theorem EnE.mono {f:Nat→Rat}{s:Nat}{lo hi:Int}{g g':Rat}(h:EnE f s lo hi g)(hg:g≤g'):EnE f s lo hi g':=by
 obtain ⟨N,h⟩:=h
 exact ⟨N,fun K hK=>by have:=h K hK; constructor<;>grind⟩
theorem EnE.near {f f':Nat→Rat}{s:Nat}{lo hi:Int}{g e:Rat}(h:EnE f s lo hi g)(hn:∃ N,∀ K,N≤K→f K≤f' K+e∧f' K≤f K+e):EnE f' s lo hi (g+e*((2^s:Int):Rat)):=by
 obtain ⟨N,h⟩:=h
 obtain ⟨M,hn⟩:=hn
 have P:(0:Rat)<((2^s:Int):Rat):=Rat.intCast_pos.2 (zi5 s)
 refine ⟨N+M,fun K hK=>?_⟩
 have a:=h K (by omega)
 have b:=hn K (by omega)
 have m1:=Rat.mul_le_mul_of_nonneg_right b.1 (Rat.le_of_lt P)
 have m2:=Rat.mul_le_mul_of_nonneg_right b.2 (Rat.le_of_lt P)
 constructor<;>grind
theorem zs2 {l h:Int}{X Y:Rat}(h1:(l:Rat)≤X)(h2:Y≤(h:Rat))(g:X<Y+1):l≤h:=by
 refine Decidable.byContradiction fun hn=>?_
 have:((h+1:Int):Rat)≤(l:Rat):=Rat.intCast_le_intCast.2 (by omega)
 rw [Rat.intCast_add,show ((1:Int):Rat)=1 from rfl] at this
 grind
theorem EnE.le {f f':Nat→Rat}{s:Nat}{a b c d:Int}{g g':Rat}(h:EnE f s a b g)(k:EnE f' s c d g')(hl:Lq f f')(hg:g+g'<1):a≤d:=by
 obtain ⟨N,h⟩:=h
 obtain ⟨M,k⟩:=k
 have P:(0:Rat)<((2^s:Int):Rat):=Rat.intCast_pos.2 (zi5 s)
 have i0:=Rat.inv_pos.2 P
 have ie:=zrq P
 have e0:0<(1-g-g')*(1 / 2):=Rat.mul_pos (by grind) r8.2.1
 obtain ⟨Q,q⟩:=hl ((1-g-g')*(1 / 2)*(((2^s:Int):Rat))⁻¹) (Rat.mul_pos e0 i0)
 have h:=(h (N+M+Q) (by omega)).1
 have k:=(k (N+M+Q) (by omega)).2
 have q:=Rat.mul_le_mul_of_nonneg_right (q (N+M+Q) (by omega)) (Rat.le_of_lt P)
 have z:(1-g-g')*(1 / 2)*(((2^s:Int):Rat))⁻¹*((2^s:Int):Rat)=(1-g-g')*(1 / 2):=by rw [Rat.mul_assoc,ie,Rat.mul_one]
 exact zs2 (X:=f (N+M+Q)*((2^s:Int):Rat)+g) (Y:=f' (N+M+Q)*((2^s:Int):Rat)-g') h (by grind) (by grind)
theorem EnE.scale {f:Nat→Rat}{s n:Nat}{a b:Int}{g:Rat}(h:EnE f s a b g):EnE f (s+n) (a*2^n) (b*2^n) (g*((2^n:Int):Rat)):=by
 obtain ⟨N,h⟩:=h
 have P:(0:Rat)<((2^n:Int):Rat):=Rat.intCast_pos.2 (zi5 n)
 refine ⟨N,fun K hK=>?_⟩
 have q:=h K hK
 rw [Int.pow_add,Rat.intCast_mul,Rat.intCast_mul,Rat.intCast_mul]
 have m1:=Rat.mul_le_mul_of_nonneg_right q.1 (Rat.le_of_lt P)
 have m2:=Rat.mul_le_mul_of_nonneg_right q.2 (Rat.le_of_lt P)
 constructor<;>grind
theorem EnE.meet {f:Nat→Rat}{s n:Nat}{a b c d:Int}{g g':Rat}(h:EnE f s a b g)(k:EnE f (s+n) c d g')(hg:g*((2^n:Int):Rat)+g'<1):a*2^n≤d∧c≤b*2^n :=
 ⟨h.scale.le k (Lq.refl f) hg,k.le h.scale (Lq.refl f) (by grind)⟩
theorem EnE.of_lim {f f':Nat→Rat}{s:Nat}{lo hi:Int}{g:Rat}(h:EnE f s lo hi 0)(hl:Lm f f')(g0:0<g):EnE f' s lo hi g:=by
 have P:(0:Rat)<((2^s:Int):Rat):=Rat.intCast_pos.2 (zi5 s)
 have i0:=Rat.inv_pos.2 P
 have ie:=zrq P
 obtain ⟨N1,h1⟩:=hl.1 (g*(((2^s:Int):Rat))⁻¹) (Rat.mul_pos g0 i0)
 obtain ⟨N2,h2⟩:=hl.2 (g*(((2^s:Int):Rat))⁻¹) (Rat.mul_pos g0 i0)
 have r:=h.near (f':=f') (e:=g*(((2^s:Int):Rat))⁻¹) ⟨N1+N2,fun K hK=>⟨h1 K (by omega),h2 K (by omega)⟩⟩
 rw [Rat.mul_assoc,ie,Rat.mul_one] at r
 exact r.mono (by grind)
theorem zs3 (x:Rat):∀ n,tE (-x) n=tE x n∨tE (-x) n=-(tE x n)
 | 0=>.inl rfl
 | n+1=>by
  have e1:tE (-x) (n+1)=tE (-x) n*-x / (nx n:Rat):=rfl
  have e2:tE x (n+1)=tE x n*x / (nx n:Rat):=rfl
  rcases zs3 x n with h | h
  ·right; rw [e1,e2,h,Rat.div_def,Rat.div_def]; grind
  ·left; rw [e1,e2,h,Rat.div_def,Rat.div_def]; grind
theorem zs4 (x:Rat):∃ a,(0≤a∧-a≤x∧x≤a)∧(a=x∨a=-x):=by
 rcases (Rat.le_total:0≤x∨x≤0) with h | h
 ·exact ⟨x,⟨h,by grind,Rat.le_refl⟩,.inl rfl⟩
 ·exact ⟨-x,⟨by grind,by grind,by grind⟩,.inr rfl⟩
def reLo (T y1 y2:Int)(j:Nat):Int:=(rE T y1 y2 j).1
def reHi (T y1 y2:Int)(j:Nat):Int:=(rE T y1 y2 j).2
end Go.Proofs.YtcbihoojfakhdaaGreatDoor

namespace Go.Proofs.YtcbihoojfakhdaaGreatDoor
def iP:Nat→Rat × Rat
 | 0=>(1,0)
 | n+1=>(-(iP n).2,(iP n).1)
theorem zs5 (a:Nat):∀ b,(iP (a+b)).1=(iP a).1*(iP b).1-(iP a).2*(iP b).2∧(iP (a+b)).2=(iP a).1*(iP b).2+(iP a).2*(iP b).1
 | 0=>by
  show (iP a).1=(iP a).1*1-(iP a).2*0∧(iP a).2=(iP a).1*0+(iP a).2*1
  constructor<;>grind
 | b+1=>by
  have h:=zs5 a b
  have e1:(iP (a+(b+1))).1=-(iP (a+b)).2:=rfl
  have e2:(iP (a+(b+1))).2=(iP (a+b)).1:=rfl
  have e3:(iP (b+1)).1=-(iP b).2:=rfl
  have e4:(iP (b+1)).2=(iP b).1:=rfl
  rw [e1,e2,e3,e4,h.1,h.2]
  constructor<;>grind
theorem iP_bd:∀ n,(-1≤(iP n).1∧(iP n).1≤1)∧(-1≤(iP n).2∧(iP n).2≤1)
 | 0=>by show (-1≤(1:Rat)∧(1:Rat)≤1)∧(-1≤(0:Rat)∧(0:Rat)≤1); decide
 | n+1=>by
  have h:=iP_bd n
  show (-1≤-(iP n).2∧-(iP n).2≤1)∧(-1≤(iP n).1∧(iP n).1≤1)
  refine ⟨⟨by grind,by grind⟩,h.1⟩
def tC (x:Rat)(n:Nat):Rat:=(iP n).1*tE x n
def tS (x:Rat)(n:Nat):Rat:=(iP n).2*tE x n
def CS (x:Rat)(K:Nat):Rat:=Sm (tC x) K
def SN (x:Rat)(K:Nat):Rat:=Sm (tS x) K
theorem zs6 {u t g:Rat}(h:-1≤u∧u≤1)(h1:-g≤t)(h2:t≤g):-g≤u*t∧u*t≤g:=by
 have m:=zrp h.1 h.2 h1 h2
 rw [Rat.one_mul] at m; exact m
theorem zs7 {x a:Rat}(h1:-a≤x)(h2:x≤a)(n:Nat):-(tE a n)≤tC x n∧tC x n≤tE a n:=zs6 (iP_bd n).1 (zrs h1 h2 n).1 (zrs h1 h2 n).2
theorem zs8 {x a:Rat}(h1:-a≤x)(h2:x≤a)(n:Nat):-(tE a n)≤tS x n∧tS x n≤tE a n:=zs6 (iP_bd n).2 (zrs h1 h2 n).1 (zrs h1 h2 n).2
theorem zs9 {f g:Nat→Rat}(h:∀ i,-(g i)≤f i∧f i≤g i)(K:Nat):∀ k,-(Sm g (K+k)-Sm g K)≤Sm f (K+k)-Sm f K∧Sm f (K+k)-Sm f K≤Sm g (K+k)-Sm g K
 | 0=>by show -(Sm g K-Sm g K)≤Sm f K-Sm f K∧Sm f K-Sm f K≤Sm g K-Sm g K; constructor<;>grind
 | k+1=>by
  have i:=zs9 h K k
  have b:=h (K+k)
  have e1:Sm f (K+(k+1))=Sm f (K+k)+f (K+k):=rfl
  have e2:Sm g (K+(k+1))=Sm g (K+k)+g (K+k):=rfl
  rw [e1,e2]
  constructor<;>grind
def Tri (f g:Nat→Rat)(K:Nat):Rat:=Sm (fun i=>Sm (fun j=>f i*g j) (K-i)) K
theorem zsa (f g:Nat→Rat)(K:Nat):Sm f K*Sm g K-Tri f g K=Sm (fun i=>f i*(Sm g K-Sm g (K-i))) K:=by
 have q:Tri f g K=Sm (fun i=>f i*Sm g (K-i)) K:=zqx fun i _=>zrt _ _ _
 have r:Sm (fun i=>f i*Sm g K) K=Sm (fun i=>f i*(Sm g K-Sm g (K-i))) K+Sm (fun i=>f i*Sm g (K-i)) K:=by
  rw [← zqy]
  exact zqx fun i _=>by grind
 rw [q,zqz,r]; grind
theorem zsb {f g F G:Nat→Rat}(hf:∀ i,-(F i)≤f i∧f i≤F i)(hg:∀ i,-(G i)≤g i∧g i≤G i)(K:Nat) :
  -(Sm F K*Sm G K-Tri F G K)≤Sm f K*Sm g K-Tri f g K∧Sm f K*Sm g K-Tri f g K≤Sm F K*Sm G K-Tri F G K:=by
 rw [zsa,zsa]
 refine zrr fun i hi=>?_
 have s:=zs9 hg (K-i) i
 rw [show K-i+i=K by omega] at s
 exact zrp (hf i).1 (hf i).2 s.1 s.2
theorem zsc (f g:Nat→Rat)(K:Nat):Tri f g K=Sm (fun n=>Sm (fun i=>f i*g (n-i)) (n+1)) K:=(zr4 (fun i j=>f i*g j) K).symm
theorem zsd (f g:Nat→Rat):∀ n,Sm (fun i=>f i-g i) n=Sm f n-Sm g n
 | 0=>by show (0:Rat)=0-0; grind
 | n+1=>by
  show Sm (fun i=>f i-g i) n+(f n-g n)=Sm f n+f n-(Sm g n+g n)
  rw [zsd f g n]; grind
theorem zse (x y:Rat)(K:Nat):Tri (tE x) (tE y) K=EP (x+y) K:=(zra x y K).symm
theorem zsf (x y:Rat)(K:Nat):CS (x+y) K=Tri (tC x) (tC y) K-Tri (tS x) (tS y) K:=by
 rw [zsc,zsc,← zsd]
 refine zqx fun n _=>?_
 rw [← zsd]
 unfold tC
 rw [zr9,← zrt]
 refine zqx fun i hi=>?_
 have a:=(zs5 i (n-i)).1
 rw [show i+(n-i)=n by omega] at a
 rw [a]
 unfold tS
 grind
theorem zsg (x y:Rat)(K:Nat):SN (x+y) K=Tri (tC x) (tS y) K+Tri (tS x) (tC y) K:=by
 rw [zsc,zsc,← zqy]
 refine zqx fun n _=>?_
 rw [← zqy]
 unfold tS
 rw [zr9,← zrt]
 refine zqx fun i hi=>?_
 have a:=(zs5 i (n-i)).2
 rw [show i+(n-i)=n by omega] at a
 rw [a]
 unfold tC
 grind
theorem zsh {a b:Rat}(a0:0≤a)(b0:0≤b){e:Rat}(he:0<e):∃ N,∀ K,N≤K→Sm (tE a) K*Sm (tE b) K-Tri (tE a) (tE b) K≤e:=by
 obtain ⟨N,h⟩:=zrx (Rat.add_nonneg a0 b0) he
 refine ⟨N,fun K hK=>?_⟩
 have c:=h K hK (2*K)
 have d:Sm (tE a) K*Sm (tE b) K≤EP (a+b) (2*K):=(zrb a0 b0 K).2
 rw [zse]
 grind
theorem Lm.of_near {f g:Nat→Rat}(h:∀ e:Rat,0<e→∃ N,∀ K,N≤K→f K≤g K+e∧g K≤f K+e):Lm f g :=
 ⟨fun e he=>by obtain ⟨N,h⟩:=h e he; exact ⟨N,fun K hK=>(h K hK).1⟩,fun e he=>by obtain ⟨N,h⟩:=h e he; exact ⟨N,fun K hK=>(h K hK).2⟩⟩
theorem zsi (x y:Rat):Lm (CS (x+y)) (fun K=>CS x K*CS y K-SN x K*SN y K):=by
 obtain ⟨a,a0,a1,a2⟩:=zrz x
 obtain ⟨b,b0,b1,b2⟩:=zrz y
 refine Lm.of_near fun e he=>?_
 obtain ⟨N,h⟩:=zsh a0 b0 (zrn he)
 refine ⟨N,fun K hK=>?_⟩
 have c:=h K hK
 have z:=zro e
 have f1:=zsb (zs7 a1 a2) (zs7 b1 b2) K
 have f2:=zsb (zs8 a1 a2) (zs8 b1 b2) K
 rw [zsf]
 unfold CS SN
 constructor<;>grind
theorem zsj (x y:Rat):Lm (SN (x+y)) (fun K=>CS x K*SN y K+SN x K*CS y K):=by
 obtain ⟨a,a0,a1,a2⟩:=zrz x
 obtain ⟨b,b0,b1,b2⟩:=zrz y
 refine Lm.of_near fun e he=>?_
 obtain ⟨N,h⟩:=zsh a0 b0 (zrn he)
 refine ⟨N,fun K hK=>?_⟩
 have c:=h K hK
 have z:=zro e
 have f1:=zsb (zs7 a1 a2) (zs8 b1 b2) K
 have f2:=zsb (zs8 a1 a2) (zs7 b1 b2) K
 rw [zsg]
 unfold CS SN
 constructor<;>grind
theorem zsk (x y:Rat){e:Rat}(he:0<e):∃ N,∀ K,N≤K→(CS (x+y) K≤CS x K*CS y K-SN x K*SN y K+e∧CS x K*CS y K-SN x K*SN y K≤CS (x+y) K+e)∧(SN (x+y) K≤CS x K*SN y K+SN x K*CS y K+e∧CS x K*SN y K+SN x K*CS y K≤SN (x+y) K+e):=by
 obtain ⟨N1,h1⟩:=(zsi x y).1 e he
 obtain ⟨N2,h2⟩:=(zsi x y).2 e he
 obtain ⟨N3,h3⟩:=(zsj x y).1 e he
 obtain ⟨N4,h4⟩:=(zsj x y).2 e he
 exact ⟨N1+N2+N3+N4,fun K hK=>⟨⟨h1 K (by omega),h2 K (by omega)⟩,h3 K (by omega),h4 K (by omega)⟩⟩
theorem zsl (x:Rat):∀ n,tC (-x) n=tC x n∧tS (-x) n=-(tS x n)
 | 0=>by
  show (1:Rat)*1=1*1∧(0:Rat)*1=-(0*1)
  constructor<;>grind
 | n+1=>by
  have h:=zsl x n
  unfold tC tS at h ⊢
  show -(iP n).2*(tE (-x) n*-x / (nx n:Rat))=-(iP n).2*(tE x n*x / (nx n:Rat))∧(iP n).1*(tE (-x) n*-x / (nx n:Rat))=-((iP n).1*(tE x n*x / (nx n:Rat)))
  rw [Rat.div_def,Rat.div_def]
  constructor<;>grind
theorem zsm (f:Nat→Rat):∀ n,Sm (fun i=>-(f i)) n=-(Sm f n)
 | 0=>by show (0:Rat)=-0; grind
 | n+1=>by
  show Sm (fun i=>-(f i)) n+-(f n)=-(Sm f n+f n)
  rw [zsm f n]; grind
theorem zsn (x:Rat)(K:Nat):CS (-x) K=CS x K:=zqx fun i _=>(zsl x i).1
theorem zso (x:Rat)(K:Nat):SN (-x) K=-(SN x K):=by
 unfold SN
 rw [← zsm]
 exact zqx fun i _=>(zsl x i).2
theorem zsp (x:Rat):∃ B,0<B∧Bn (CS x) B∧Bn (SN x) B:=by
 obtain ⟨a,a0,a1,a2⟩:=zrz x
 obtain ⟨B,B0,hB⟩:=zry a0
 refine ⟨B,B0,⟨0,fun K _=>?_⟩,⟨0,fun K _=>?_⟩⟩
 ·have b:=zrr (n:=K) fun i _=>zs7 a1 a2 i
  have c:Sm (tE a) K≤B:=hB K
  unfold CS; constructor<;>grind
 ·have b:=zrr (n:=K) fun i _=>zs8 a1 a2 i
  have c:Sm (tE a) K≤B:=hB K
  unfold SN; constructor<;>grind
theorem tE_0 (n:Nat):tE 0 (n+1)=0:=by
 show tE 0 n*0 / (nx n:Rat)=0
 rw [Rat.mul_zero,Rat.div_def,Rat.zero_mul]
theorem CS_zero:∀ K,1≤K→CS 0 K=1∧SN 0 K=0
 | 0,h=>absurd h (by omega)
 | 1,_=>by show (0:Rat)+1*1=1∧(0:Rat)+0*1=0; constructor<;>grind
 | K+2,_=>by
  have a:=CS_zero (K+1) (by omega)
  show CS 0 (K+1)+(iP (K+1)).1*tE 0 (K+1)=1∧SN 0 (K+1)+(iP (K+1)).2*tE 0 (K+1)=0
  rw [a.1,a.2,tE_0]
  constructor<;>grind
theorem zsq (x:Rat):Lm (fun K=>CS x K*CS x K+SN x K*SN x K) (fun _=>1):=by
 have h:=zsi x (-x)
 rw [show x+-x=0 by grind] at h
 refine Lm.trans (Lm.of_eq (N:=0) fun K _=>?_) (h.symm.trans (Lm.of_eq (N:=1) fun K hK=>(CS_zero K hK).1))
 rw [zsn,zso]; grind
theorem zsr (x:Rat):0≤x*x:=by
 rcases (Rat.le_total:0≤x∨x≤0) with h | h
 ·exact Rat.mul_nonneg h h
 ·have:=Rat.mul_nonneg (show 0≤-x by grind) (show 0≤-x by grind); grind
theorem zss {x e:Rat}(he:0<e)(h:x*x≤1+e):-(1+e)≤x∧x≤1+e:=by
 constructor
 ·refine Decidable.byContradiction fun hn=>?_
  have m:=Rat.mul_le_mul_of_nonneg_left (show 1+e≤-x by grind) (show 0≤-x by grind)
  have m2:=Rat.mul_le_mul_of_nonneg_right (show 1≤1+e by grind) (show 0≤-x by grind)
  grind
 ·refine Decidable.byContradiction fun hn=>?_
  have m:=Rat.mul_le_mul_of_nonneg_left (show 1+e≤x by grind) (show 0≤x by grind)
  have m2:=Rat.mul_le_mul_of_nonneg_right (show 1≤1+e by grind) (show 0≤x by grind)
  grind
theorem zst (x:Rat){e:Rat}(he:0<e):∃ N,∀ K,N≤K→(-(1+e)≤CS x K∧CS x K≤1+e)∧(-(1+e)≤SN x K∧SN x K≤1+e):=by
 obtain ⟨N,h⟩:=(zsq x).1 e he
 refine ⟨N,fun K hK=>?_⟩
 have h:CS x K*CS x K+SN x K*SN x K≤1+e:=h K hK
 have a:=zsr (CS x K)
 have b:=zsr (SN x K)
 exact ⟨zss he (by grind),zss he (by grind)⟩
theorem zsu {x a:Rat}(a0:0≤a)(h1:-a≤x)(h2:x≤a){n:Nat}(hn:2*a≤(nx n:Rat)){K:Nat}(hK:n+1≤K) :
  (CS x (n+1)-tE a n≤CS x K∧CS x K≤CS x (n+1)+tE a n)∧(SN x (n+1)-tE a n≤SN x K∧SN x K≤SN x (n+1)+tE a n):=by
 have t:=zrg a0 hn K
 have g1:=zs9 (zs7 h1 h2) (n+1) (K-(n+1))
 have g2:=zs9 (zs8 h1 h2) (n+1) (K-(n+1))
 rw [show n+1+(K-(n+1))=K by omega] at g1 g2
 unfold EP at t
 unfold CS SN
 refine ⟨⟨?_,?_⟩,⟨?_,?_⟩⟩<;>grind
end Go.Proofs.YtcbihoojfakhdaaGreatDoor

namespace Go.Proofs.YtcbihoojfakhdaaGreatDoor
def ptPi:Int:=8710598741881011095307514925528767253835697869117002946683736815061430642517439960281687965396170617911066893946226934353316672095
def cQ:Rat:=dv ptPi (-431)
theorem CQ_num:(-eps≤CS cQ 96-tE cQ 95∧CS cQ 96+tE cQ 95≤eps)∧(1-eps≤SN cQ 96-tE cQ 95∧SN cQ 96+tE cQ 95≤1+eps) :=
 ⟨⟨of_decide_eq_true (by kernel_rfl),of_decide_eq_true (by kernel_rfl)⟩,of_decide_eq_true (by kernel_rfl),of_decide_eq_true (by kernel_rfl)⟩
theorem cQ_b:157≤100*cQ∧1000*cQ≤1571:=⟨of_decide_eq_true (by kernel_rfl),of_decide_eq_true (by kernel_rfl)⟩
theorem CQ {K:Nat}(hK:96≤K):(-eps≤CS cQ K∧CS cQ K≤eps)∧(-eps≤SN cQ K-1∧SN cQ K-1≤eps):=by
 have b:=cQ_b
 have t:=zsu (x:=cQ) (a:=cQ) (by grind) (by grind) Rat.le_refl (n:=95) (Rat.le_trans (show 2*cQ≤96 by grind) (of_decide_eq_true (by kernel_rfl))) hK
 have n:=CQ_num
 refine ⟨⟨?_,?_⟩,⟨?_,?_⟩⟩<;>grind
theorem eps0:0<eps:=of_decide_eq_true (by kernel_rfl)
theorem rotN:∀ n:Nat,∃ N,∀ K,N≤K→(-(6*((n:Rat)*eps))≤CS ((n:Rat)*cQ) K-(iP n).1∧CS ((n:Rat)*cQ) K-(iP n).1≤6*((n:Rat)*eps))∧(-(6*((n:Rat)*eps))≤SN ((n:Rat)*cQ) K-(iP n).2∧SN ((n:Rat)*cQ) K-(iP n).2≤6*((n:Rat)*eps))
 | 0=>by
  refine ⟨1,fun K hK=>?_⟩
  have e:(((0:Nat):Nat):Rat)=0:=rfl
  rw [e,Rat.zero_mul,Rat.zero_mul,(CS_zero K hK).1,(CS_zero K hK).2]
  have e1:(iP 0).1=1:=rfl
  have e2:(iP 0).2=0:=rfl
  rw [e1,e2]
  refine ⟨⟨?_,?_⟩,⟨?_,?_⟩⟩<;>grind
 | n+1=>by
  obtain ⟨N1,h1⟩:=rotN n
  obtain ⟨N2,h2⟩:=zst ((n:Rat)*cQ) (e:=1) (by decide)
  have e0:=eps0
  obtain ⟨N3,hh⟩:=zsk ((n:Rat)*cQ) cQ e0
  refine ⟨N1+N2+N3+96,fun K hK=>?_⟩
  have h1:=h1 K (by omega)
  have h2:=h2 K (by omega)
  obtain ⟨⟨h3,h4⟩,h5,h6⟩:=hh K (by omega)
  have q:=CQ (K:=K) (by omega)
  have c:((n+1:Nat):Rat)=(n:Rat)+1:=by rw [Rat.natCast_add]; rfl
  have cm:((n:Rat)+1)*cQ=(n:Rat)*cQ+cQ:=by grind
  have e1:(iP (n+1)).1=-(iP n).2:=rfl
  have e2:(iP (n+1)).2=(iP n).1:=rfl
  rw [c,cm,e1,e2]
  have n0:(0:Rat)≤(n:Rat)*eps:=Rat.mul_nonneg Rat.natCast_nonneg (Rat.le_of_lt e0)
  have d:((n:Rat)+1)*eps=(n:Rat)*eps+eps:=by grind
  rw [d]
  generalize (n:Rat)*eps=ne at *
  generalize CS ((n:Rat)*cQ+cQ) K=A' at *
  generalize SN ((n:Rat)*cQ+cQ) K=B' at *
  generalize CS ((n:Rat)*cQ) K=A at *
  generalize SN ((n:Rat)*cQ) K=B at *
  generalize CS cQ K=u at *
  generalize SN cQ K=v at *
  have m1:=zrp (P:=2) (a:=eps) (p:=A) (x:=u) (by grind) (by grind) q.1.1 q.1.2
  have m2:=zrp (P:=2) (a:=eps) (p:=B) (x:=v-1) (by grind) (by grind) q.2.1 q.2.2
  have m3:=zrp (P:=2) (a:=eps) (p:=A) (x:=v-1) (by grind) (by grind) q.2.1 q.2.2
  have m4:=zrp (P:=2) (a:=eps) (p:=B) (x:=u) (by grind) (by grind) q.1.1 q.1.2
  have r1:A*u-B*v=A*u-B*(v-1)-B:=by grind
  have r2:A*v+B*u=A*(v-1)+A+B*u:=by grind
  rw [r1] at h3 h4
  rw [r2] at h5 h6
  clear r1 r2 h2 q
  generalize A*u=x1 at *
  generalize B*(v-1)=x2 at *
  generalize A*(v-1)=x3 at *
  generalize B*u=x4 at *
  refine ⟨⟨?_,?_⟩,⟨?_,?_⟩⟩<;>grind
def iZ (k:Int):Rat × Rat:=if k%4=0 then (1,0) else if k%4=1 then (0,1) else if k%4=2 then (-1,0) else (0,-1)
theorem iZ_0 {k:Int}(h:k%4=0):iZ k=(1,0):=by unfold iZ; rw [if_pos h]
theorem iZ_1 {k:Int}(h:k%4=1):iZ k=(0,1):=by unfold iZ; rw [if_neg (by omega),if_pos h]
theorem iZ_2 {k:Int}(h:k%4=2):iZ k=(-1,0):=by unfold iZ; rw [if_neg (by omega),if_neg (by omega),if_pos h]
theorem iZ_3 {k:Int}(h:k%4=3):iZ k=(0,-1):=by unfold iZ; rw [if_neg (by omega),if_neg (by omega),if_neg (by omega)]
theorem r0n:-(0:Rat)=0:=by grind
theorem iP_Z:∀ n:Nat,iP n=iZ (n:Int)
 | 0=>rfl
 | n+1=>by
  have h:=iP_Z n
  have e:iP (n+1)=(-(iP n).2,(iP n).1):=rfl
  rw [e,h]
  have c:((n+1:Nat):Int)=(n:Int)+1:=rfl
  rw [c]
  rcases (show (n:Int)%4=0∨(n:Int)%4=1∨(n:Int)%4=2∨(n:Int)%4=3 by omega) with q | q | q | q
  ·rw [iZ_0 q,iZ_1 (by omega)]; show (-(0:Rat),(1:Rat))=_; rw [r0n]
  ·rw [iZ_1 q,iZ_2 (by omega)]
  ·rw [iZ_2 q,iZ_3 (by omega)]; show (-(0:Rat),(-1:Rat))=_; rw [r0n]
  ·rw [iZ_3 q,iZ_0 (by omega)]; show (-(-1:Rat),(0:Rat))=_; rw [show -(-1:Rat)=1 by grind]
theorem zsv (k:Int):(iZ (-k)).1=(iZ k).1∧(iZ (-k)).2=-(iZ k).2:=by
 rcases (show k%4=0∨k%4=1∨k%4=2∨k%4=3 by omega) with q | q | q | q
 ·rw [iZ_0 q,iZ_0 (by omega)]; exact ⟨rfl,r0n.symm⟩
 ·rw [iZ_1 q,iZ_3 (by omega)]; exact ⟨rfl,rfl⟩
 ·rw [iZ_2 q,iZ_2 (by omega)]; exact ⟨rfl,r0n.symm⟩
 ·rw [iZ_3 q,iZ_1 (by omega)]; exact ⟨rfl,by show (1:Rat)=-(-1:Rat); grind⟩
theorem rotZ (k:Int){M:Nat}(hk:k.natAbs≤M):∃ N,∀ K,N≤K→(-(6*((M:Rat)*eps))≤CS ((k:Rat)*cQ) K-(iZ k).1∧CS ((k:Rat)*cQ) K-(iZ k).1≤6*((M:Rat)*eps))∧(-(6*((M:Rat)*eps))≤SN ((k:Rat)*cQ) K-(iZ k).2∧SN ((k:Rat)*cQ) K-(iZ k).2≤6*((M:Rat)*eps)):=by
 have e0:=Rat.le_of_lt eps0
 rcases (show 0≤k∨k≤0 by omega) with h | h
 ·obtain ⟨n,rfl⟩:∃ n:Nat,k=(n:Int):=⟨k.toNat,by omega⟩
  obtain ⟨N,a⟩:=rotN n
  refine ⟨N,fun K hK=>?_⟩
  have a:=a K hK
  have le:(n:Rat)≤(M:Rat):=Rat.natCast_le_natCast.2 (by omega)
  have m:=Rat.mul_le_mul_of_nonneg_right le e0
  have c:(((n:Int)):Rat)=(n:Rat):=rfl
  rw [c,← iP_Z]
  refine ⟨⟨?_,?_⟩,⟨?_,?_⟩⟩<;>grind
 ·obtain ⟨n,rfl⟩:∃ n:Nat,k=-(n:Int):=⟨(-k).toNat,by omega⟩
  obtain ⟨N,a⟩:=rotN n
  refine ⟨N,fun K hK=>?_⟩
  have a:=a K hK
  have le:(n:Rat)≤(M:Rat):=Rat.natCast_le_natCast.2 (by omega)
  have m:=Rat.mul_le_mul_of_nonneg_right le e0
  have c:((-(n:Int):Int):Rat)*cQ=-((n:Rat)*cQ):=by
   rw [Rat.intCast_neg]
   show -(n:Rat)*cQ=_
   rw [Rat.neg_mul]
  have z:=zsv (n:Int)
  rw [← iP_Z] at z
  rw [c,zsn,zso,z.1,z.2]
  refine ⟨⟨?_,?_⟩,⟨?_,?_⟩⟩<;>grind
def qS (k:Int)(c s:Rat):Rat:=s*(iZ k).1+c*(iZ k).2
def qC (k:Int)(c s:Rat):Rat:=c*(iZ k).1-s*(iZ k).2
def qerr (M:Nat):Rat:=25*((M:Rat)*eps)
theorem zsw (d:Rat)(k:Int){M:Nat}(hk:k.natAbs≤M)(hM:1≤M):∃ N,∀ K,N≤K →
  (SN d K≤qS k (CS (d-(k:Rat)*cQ) K) (SN (d-(k:Rat)*cQ) K)+qerr M∧qS k (CS (d-(k:Rat)*cQ) K) (SN (d-(k:Rat)*cQ) K)≤SN d K+qerr M) ∧
  (CS d K≤qC k (CS (d-(k:Rat)*cQ) K) (SN (d-(k:Rat)*cQ) K)+qerr M∧qC k (CS (d-(k:Rat)*cQ) K) (SN (d-(k:Rat)*cQ) K)≤CS d K+qerr M):=by
 have e0:=eps0
 have hd:d-(k:Rat)*cQ+(k:Rat)*cQ=d:=by grind
 obtain ⟨N1,hh⟩:=zsk (d-(k:Rat)*cQ) ((k:Rat)*cQ) e0
 rw [hd] at hh
 obtain ⟨N5,h5⟩:=rotZ k hk
 obtain ⟨N6,h6⟩:=zst (d-(k:Rat)*cQ) (e:=1) (by decide)
 refine ⟨N1+N5+N6,fun K hK=>?_⟩
 obtain ⟨⟨h1,h2⟩,h3,h4⟩:=hh K (by omega)
 have h5:=h5 K (by omega)
 have h6:=h6 K (by omega)
 have M1:(1:Rat)≤(M:Rat):=Rat.natCast_le_natCast.2 hM
 have me:=Rat.mul_le_mul_of_nonneg_right M1 (Rat.le_of_lt e0)
 unfold qS qC qerr
 generalize (M:Rat)*eps=E at *
 generalize CS (d-(k:Rat)*cQ) K=c at *
 generalize SN (d-(k:Rat)*cQ) K=s at *
 generalize CS ((k:Rat)*cQ) K=u at *
 generalize SN ((k:Rat)*cQ) K=v at *
 generalize (iZ k).1=a at *
 generalize (iZ k).2=b at *
 generalize CS d K=C at *
 generalize SN d K=S at *
 have m1:=zrp (P:=2) (a:=6*E) (p:=c) (x:=u-a) (by grind) (by grind) h5.1.1 h5.1.2
 have m2:=zrp (P:=2) (a:=6*E) (p:=c) (x:=v-b) (by grind) (by grind) h5.2.1 h5.2.2
 have m3:=zrp (P:=2) (a:=6*E) (p:=s) (x:=u-a) (by grind) (by grind) h5.1.1 h5.1.2
 have m4:=zrp (P:=2) (a:=6*E) (p:=s) (x:=v-b) (by grind) (by grind) h5.2.1 h5.2.2
 have r1:c*u-s*v=c*(u-a)+c*a-(s*(v-b)+s*b):=by grind
 have r2:c*v+s*u=c*(v-b)+c*b+(s*(u-a)+s*a):=by grind
 rw [r1] at h1 h2
 rw [r2] at h3 h4
 clear r1 r2 h5 h6
 generalize c*(u-a)=x1 at *
 generalize c*(v-b)=x2 at *
 generalize s*(u-a)=x3 at *
 generalize s*(v-b)=x4 at *
 refine ⟨⟨?_,?_⟩,⟨?_,?_⟩⟩<;>grind
theorem zsx {u:Rat}(h0:0≤u)(h1:u≤1){K:Nat}(hK:4≤K):0≤SN u K∧SN u K≤u:=by
 have t:=(zsu (x:=u) (a:=u) h0 (by grind) Rat.le_refl (n:=3) (Rat.le_trans (show 2*u≤4 by grind) (of_decide_eq_true (by kernel_rfl))) hK).2
 have e1:=zr7 u 0
 have e2:=zr7 u 1
 have e3:=zr7 u 2
 have z0:tE u 0=1:=rfl
 have c0:(nx 0:Rat)=1:=rfl
 have c1:(nx 1:Rat)=2:=rfl
 have c2:(nx 2:Rat)=3:=rfl
 have s:SN u (3+1)=0+0*tE u 0+1*tE u 1+-0*tE u 2+-1*tE u 3:=rfl
 rw [s] at t
 rw [z0,c0] at e1
 rw [c1] at e2
 rw [c2] at e3
 have t1:tE u 1=u:=by grind
 rw [t1] at e2 t
 have m:=Rat.mul_le_mul_of_nonneg_left h1 h0
 have m2:=Rat.mul_le_mul_of_nonneg_left (show u*u≤1 by grind) h0
 have t3:6*tE u 3=u*(u*u):=by grind
 have p3:=zr8 h0 3
 constructor<;>grind
theorem zsy {u:Rat}(h0:0≤u)(h1:u≤1){K:Nat}(hK:3≤K):1-u*u≤CS u K∧CS u K≤1:=by
 have t:=(zsu (x:=u) (a:=u) h0 (by grind) Rat.le_refl (n:=2) (Rat.le_trans (show 2*u≤3 by grind) (of_decide_eq_true (by kernel_rfl))) hK).1
 have e1:=zr7 u 0
 have e2:=zr7 u 1
 have z0:tE u 0=1:=rfl
 have c0:(nx 0:Rat)=1:=rfl
 have c1:(nx 1:Rat)=2:=rfl
 have s:CS u (2+1)=0+1*tE u 0+-0*tE u 1+-1*tE u 2:=rfl
 rw [s] at t
 rw [z0,c0] at e1
 rw [c1] at e2
 rw [z0] at t
 have t1:tE u 1=u:=by grind
 rw [t1] at e2 t
 constructor<;>grind
theorem lip {x h:Rat}(h0:0≤h)(h2:h≤2){e:Rat}(he:0<e):∃ N,∀ K,N≤K →
  (-(h+e)≤SN (x+h) K-SN x K∧SN (x+h) K-SN x K≤h+e)∧(-(h+e)≤CS (x+h) K-CS x K∧CS (x+h) K-CS x K≤h+e):=by
 have hh:=zro h
 have hp:h / 2+h / 2=h:=hh
 generalize hu:h / 2=u at *
 have e8:0<e*(1 / 8):=Rat.mul_pos he r8.1
 obtain ⟨N1,p1⟩:=zsk (x+u) u e8
 obtain ⟨N2,p2⟩:=zsk (x+u) (-u) e8
 rw [show x+u+u=x+h by grind] at p1
 rw [show x+u+-u=x by grind] at p2
 obtain ⟨N9,a9⟩:=zst (x+u) e8
 refine ⟨N1+N2+N9+4,fun K hK=>?_⟩
 obtain ⟨⟨a5,a6⟩,a1,a2⟩:=p1 K (by omega)
 obtain ⟨⟨a7,a8⟩,a3,a4⟩:=p2 K (by omega)
 have a9:=a9 K (by omega)
 have b:=zsx (u:=u) (by grind) (by grind) (K:=K) (by omega)
 rw [zsn,zso] at a3 a4 a7 a8
 have he8:e=8*(e*(1 / 8)):=by grind
 generalize e*(1 / 8)=d at *
 generalize CS (x+u) K=c at *
 generalize SN (x+u) K=s at *
 generalize CS u K=p at *
 generalize SN u K=q at *
 have m1:=zrp (P:=1+d) (a:=u) (p:=c) (x:=q) a9.1.1 a9.1.2 (by grind) b.2
 have m2:=zrp (P:=1+d) (a:=u) (p:=s) (x:=q) a9.2.1 a9.2.2 (by grind) b.2
 have u1:u≤1:=by grind
 have m3:=Rat.mul_le_mul_of_nonneg_left u1 (Rat.le_of_lt e8)
 have r:(1+d)*u=u+d*u:=by grind
 rw [r] at m1 m2
 rw [Rat.mul_neg] at a3 a4 a7 a8
 clear a9 b
 generalize c*q=x1 at *
 generalize s*q=x2 at *
 generalize s*p=x3 at *
 generalize c*p=x4 at *
 generalize d*u=x5 at *
 refine ⟨⟨?_,?_⟩,⟨?_,?_⟩⟩<;>grind
end Go.Proofs.YtcbihoojfakhdaaGreatDoor

namespace Go.Proofs.YtcbihoojfakhdaaGreatDoor
theorem fl2' {A T n:Int}(hT:0<T)(hn:0<n):A / T / n*(T*n)≤A:=by
 rw [Int.ediv_ediv_of_nonneg (Int.le_of_lt hT)]
 have p:=Int.mul_pos hT hn
 exact Int.ediv_mul_le _ (by omega)
theorem ce2' {B T n:Int}(hT:0<T)(hn:0<n):B≤-(-(-(-B / T)) / n)*(T*n):=by
 have f:=fl2' (A:=-B) hT hn
 rw [Int.neg_neg]
 generalize -B / T / n=g at *
 have e1:-g*(T*n)=-(g*(T*n)):=Int.neg_mul _ _
 omega
def mT (i j:Nat):Int:=(((i+2*j:Nat):Int)+1)*(((i+2*j:Nat):Int)+2)
theorem zsz (i j:Nat):2≤mT i j:=by
 unfold mT
 have:=Int.mul_le_mul (show (1:Int)≤((i+2*j:Nat):Int)+1 by omega) (show (2:Int)≤((i+2*j:Nat):Int)+2 by omega) (by omega) (by omega)
 omega
theorem zt0 {i j:Nat}(hi:i≤1)(hj:j≤10000):mT i j<4294967296:=by
 unfold mT
 have:=Int.mul_le_mul (show ((i+2*j:Nat):Int)+1≤20002 by omega) (show ((i+2*j:Nat):Int)+2≤20003 by omega) (by omega) (by omega)
 omega
def ty (T q1 q2 a b:Int)(i:Nat):Nat→Int × Int
 | 0=>(a,b)
 | j+1=>(ptLo ((ty T q1 q2 a b i j).1*q1 / T) (mT i j),ptHi (-(-((ty T q1 q2 a b i j).2*q2) / T)) (mT i j))
structure TyH (T q1 q2 a b:Int):Prop where
 hT:16≤T
 q0:0≤q1
 q12:q1≤q2
 qT:q2≤T
 qw:q2-q1≤1
 a0:0≤a
 ab:a≤b
 bT:b≤T
 aw:b-a≤1
theorem zt1 {T q1 q2 p1 p2 m:Int}(hT:16≤T)(q0:0≤q1)(q12:q1≤q2)(qT:q2≤T)(qw:q2-q1≤1)(m2:2≤m)(p0:0≤p1)(p12:p1≤p2)(pT:p2≤T)(pw:p2-p1≤8) :
  (0≤p1*q1 / T∧p1*q1 / T≤T)∧(0≤-(-(p2*q2) / T)∧-(-(p2*q2) / T)≤T)∧0≤ptLo (p1*q1 / T) m∧ptLo (p1*q1 / T) m≤ptHi (-(-(p2*q2) / T)) m∧ptHi (-(-(p2*q2) / T)) m≤T ∧
  ptHi (-(-(p2*q2) / T)) m-ptLo (p1*q1 / T) m≤8∧2*ptHi (-(-(p2*q2) / T)) m≤p2+1∧ptLo (p1*q1 / T) m*(T*m)≤p1*q1∧p2*q2≤ptHi (-(-(p2*q2) / T)) m*(T*m):=by
 have T0:0<T:=by omega
 have m0:0<m:=by omega
 have A0:=Int.mul_nonneg p0 q0
 have B0:=Int.mul_nonneg (show 0≤p2 by omega) (show 0≤q2 by omega)
 have k1:=Int.mul_le_mul_of_nonneg_right pw (show 0≤q2 by omega)
 have k2:=Int.mul_le_mul_of_nonneg_left qw p0
 have k3:=Int.mul_le_mul_of_nonneg_left qT (show 0≤p2 by omega)
 have k4:=Int.mul_le_mul_of_nonneg_right p12 q0
 have k5:=Int.mul_le_mul_of_nonneg_left q12 (show 0≤p2 by omega)
 rw [Int.sub_mul] at k1
 rw [Int.mul_sub,Int.mul_one] at k2
 have e1:p1*q1≤p2*q2:=Int.le_trans k4 k5
 have e2:p2*q2-p1*q1≤9*T:=by omega
 have f0:0≤p1*q1 / T:=Int.ediv_nonneg A0 (Int.le_of_lt T0)
 have c0:0≤-(-(p2*q2) / T):=by have:=Int.ediv_le_ediv T0 (show -(p2*q2)≤0 by omega); rw [Int.zero_ediv] at this; omega
 rw [zpj f0 m0,zpk c0 m0]
 have g1:=fl2' (A:=p1*q1) T0 m0
 have g2:=ce2' (B:=p2*q2) T0 m0
 clear k1 k2 k4 k5
 have a1:=Int.ediv_mul_le (p1*q1) (show T≠0 by omega)
 have a2:=Int.lt_ediv_add_one_mul_self (p1*q1) T0
 have b1:=Int.ediv_mul_le (-(p2*q2)) (show T≠0 by omega)
 have b2:=Int.lt_ediv_add_one_mul_self (-(p2*q2)) T0
 generalize hP1:p1*q1 / T=P1 at *
 generalize hP2:-(p2*q2) / T=P2 at *
 -- P2 is the negative of the ceiling
 have u1:-P2≤p2:=by
  refine Decidable.byContradiction fun hn=>?_
  have m:=Int.mul_le_mul_of_nonneg_right (show P2+1≤-p2 by omega) (Int.le_of_lt T0)
  rw [Int.neg_mul] at m
  omega
 have u2:P1≤-P2:=by
  refine Decidable.byContradiction fun hn=>?_
  have m:=Int.mul_le_mul_of_nonneg_right (show 1≤P1+P2 by omega) (Int.le_of_lt T0)
  rw [Int.add_mul] at m
  omega
 have u3:-P2-P1≤10:=by
  refine Decidable.byContradiction fun hn=>?_
  have m:=Int.mul_le_mul_of_nonneg_right (show P1+1+(P2+1)≤-9 by omega) (Int.le_of_lt T0)
  rw [Int.add_mul] at m
  omega
 have z1:=Int.ediv_mul_le P1 (show m≠0 by omega)
 have z2:=Int.lt_ediv_add_one_mul_self P1 m0
 have y1:=Int.ediv_mul_le (- -P2) (show m≠0 by omega)
 have y2:=Int.lt_ediv_add_one_mul_self (- -P2) m0
 have x0:0≤P1 / m:=Int.ediv_nonneg f0 (by omega)
 generalize P1 / m=d1 at *
 generalize - -P2 / m=d2 at *
 clear a1 a2 b1 b2
 have w1:d1≤-d2:=by
  refine Decidable.byContradiction fun hn=>?_
  have k:=Int.mul_le_mul_of_nonneg_right (show 1≤d1+d2 by omega) (Int.le_of_lt m0)
  rw [Int.add_mul] at k
  omega
 have w2:-d2-d1≤8:=by
  refine Decidable.byContradiction fun hn=>?_
  have k:=Int.mul_le_mul_of_nonneg_right (show d1+1+(d2+1)≤-7 by omega) (Int.le_of_lt m0)
  rw [Int.add_mul] at k
  omega
 have w3:2*-d2≤p2+1:=by
  by_cases h:-d2≤0
  ·omega
  ·have k:=Int.mul_le_mul_of_nonneg_left m2 (show 0≤-d2-1 by omega)
   have k':(-d2-1)*m=-((d2+1)*m):=by rw [← Int.neg_mul]; congr 1; omega
   omega
 refine ⟨⟨f0,by omega⟩,⟨c0,by omega⟩,x0,w1,by omega,w2,w3,g1,g2⟩
theorem zt2 {T q1 q2 a b:Int}(h:TyH T q1 q2 a b)(i:Nat):∀ j,0≤(ty T q1 q2 a b i j).1∧(ty T q1 q2 a b i j).1≤(ty T q1 q2 a b i j).2∧(ty T q1 q2 a b i j).2≤T∧(ty T q1 q2 a b i j).2-(ty T q1 q2 a b i j).1≤8
 | 0=>by
  have:=h.aw
  exact ⟨h.a0,h.ab,h.bT,show b-a≤8 by omega⟩
 | j+1=>by
  obtain ⟨a1,a2,a3,a4⟩:=zt2 h i j
  have s:=zt1 h.hT h.q0 h.q12 h.qT h.qw (zsz i j) a1 a2 a3 a4
  exact ⟨s.2.2.1,s.2.2.2.1,s.2.2.2.2.1,s.2.2.2.2.2.1⟩
theorem zt3 {T q1 q2 a b:Int}(h:TyH T q1 q2 a b)(i j:Nat) :
  (0≤(ty T q1 q2 a b i j).1*q1 / T∧(ty T q1 q2 a b i j).1*q1 / T≤T)∧(0≤-(-((ty T q1 q2 a b i j).2*q2) / T)∧-(-((ty T q1 q2 a b i j).2*q2) / T)≤T) ∧
  2*(ty T q1 q2 a b i (j+1)).2≤(ty T q1 q2 a b i j).2+1∧(ty T q1 q2 a b i (j+1)).1*(T*mT i j)≤(ty T q1 q2 a b i j).1*q1∧(ty T q1 q2 a b i j).2*q2≤(ty T q1 q2 a b i (j+1)).2*(T*mT i j):=by
 obtain ⟨a1,a2,a3,a4⟩:=zt2 h i j
 have s:=zt1 h.hT h.q0 h.q12 h.qT h.qw (zsz i j) a1 a2 a3 a4
 exact ⟨s.1,s.2.1,s.2.2.2.2.2.2.1,s.2.2.2.2.2.2.2.1,s.2.2.2.2.2.2.2.2⟩
theorem zt4 {t:Nat}{q1 q2 a b:Int}(h:TyH (2^t) q1 q2 a b)(i:Nat):∃ n,n≤t∧(ty (2^t) q1 q2 a b i n).2<8∧∀ j,j<n→¬ (ty (2^t) q1 q2 a b i j).2<8:=by
 have dec:∀ j,j≤t→(ty (2^t) q1 q2 a b i j).2≤2^(t-j)+1:=by
  intro j
  induction j with
  | zero =>
   intro _
   have:=h.bT
   show b≤2^(t-0)+1
   rw [Nat.sub_zero]; omega
  | succ j ih =>
   intro hj
   have a:=ih (by omega)
   have n:=(zt3 h i j).2.2.1
   have p:(2:Int)^(t-j)=2*2^(t-(j+1)):=by rw [show t-j=(t-(j+1))+1 by omega,Int.pow_succ,Int.mul_comm]
   omega
 have e:=dec t (Nat.le_refl _)
 rw [Nat.sub_self] at e
 have e2:(2:Int)^0=1:=rfl
 obtain ⟨n,n1,n2,n3⟩:=zpi (P:=fun j=>(ty (2^t) q1 q2 a b i j).2<8) (n:=t) (by rw [e2] at e; omega)
 exact ⟨n,n1,n2,n3⟩
theorem zt5 {T q1 q2 a b:Int}(h:TyH T q1 q2 a b){i:Nat}{X:Rat}(hq1:(q1:Rat)≤X*X*(T:Rat))(hq2:X*X*(T:Rat)≤(q2:Rat))(ha:(a:Rat)≤tE X i*(T:Rat))(hb:tE X i*(T:Rat)≤(b:Rat)) :
  ∀ j,(((ty T q1 q2 a b i j).1:Int):Rat)≤tE X (i+2*j)*(T:Rat)∧tE X (i+2*j)*(T:Rat)≤(((ty T q1 q2 a b i j).2:Int):Rat)
 | 0=>⟨ha,hb⟩
 | j+1=>by
  have p:=zt5 h hq1 hq2 ha hb j
  obtain ⟨f1,f2,f3,f4⟩:=zt2 h i j
  obtain ⟨_,_,_,n1,n2⟩:=zt3 h i j
  have T0:(0:Rat)<(T:Rat):=Rat.intCast_pos.2 (by have:=h.hT; omega)
  have m0:(0:Rat)<(mT i j:Rat):=Rat.intCast_pos.2 (by have:=zsz i j; omega)
  have t1:=zr7 X (i+2*j)
  have t2:=zr7 X (i+2*j+1)
  have me:(mT i j:Rat)=(nx (i+2*j):Rat)*(nx (i+2*j+1):Rat):=by
   unfold mT nx
   rw [Rat.intCast_mul]
   congr 2
  have key:tE X (i+2*(j+1))*(mT i j:Rat)=tE X (i+2*j)*(X*X):=by
   rw [me,show i+2*(j+1)=i+2*j+1+1 by omega]
   grind
  have n1:=Rat.intCast_le_intCast.2 n1
  have n2:=Rat.intCast_le_intCast.2 n2
  simp only [Rat.intCast_mul] at n1 n2
  have f1:(0:Rat)≤(((ty T q1 q2 a b i j).1:Int):Rat):=Rat.intCast_nonneg.2 f1
  have f2:(0:Rat)≤(((ty T q1 q2 a b i j).2:Int):Rat):=Rat.intCast_nonneg.2 (by omega)
  have q0:(0:Rat)≤(q1:Rat):=Rat.intCast_nonneg.2 h.q0
  have q0':(0:Rat)≤X*X*(T:Rat):=Rat.le_trans q0 hq1
  have Tm:=Rat.mul_pos T0 m0
  have m1:=Rat.mul_le_mul_of_nonneg_left hq1 f1
  have m2:=Rat.mul_le_mul_of_nonneg_right p.1 q0'
  have m3:=Rat.mul_le_mul_of_nonneg_left hq2 f2
  have m4:=Rat.mul_le_mul_of_nonneg_right p.2 q0'
  have e:tE X (i+2*(j+1))*(T:Rat)*((T:Rat)*(mT i j:Rat))=tE X (i+2*j)*(T:Rat)*(X*X*(T:Rat)):=by
   have:tE X (i+2*(j+1))*(T:Rat)*((T:Rat)*(mT i j:Rat))=tE X (i+2*(j+1))*(mT i j:Rat)*((T:Rat)*(T:Rat)):=by grind
   rw [this,key]; grind
  constructor
  ·refine Rat.le_of_mul_le_mul_right (c:=(T:Rat)*(mT i j:Rat)) ?_ Tm
   rw [e]; exact Rat.le_trans n1 (Rat.le_trans m1 m2)
  ·refine Rat.le_of_mul_le_mul_right (c:=(T:Rat)*(mT i j:Rat)) ?_ Tm
   rw [e]; exact Rat.le_trans m4 (Rat.le_trans m3 n2)
def tyA (p1 p2:Nat→Int):Nat→Int
 | 0=>p1 0
 | j+1=>if j%2=0 then tyA p1 p2 j+-(p2 (j+1)) else tyA p1 p2 j+p1 (j+1)
def tyB (p1 p2:Nat→Int):Nat→Int
 | 0=>p2 0
 | j+1=>if j%2=0 then tyB p1 p2 j+-(p1 (j+1)) else tyB p1 p2 j+p2 (j+1)
def aS (t:Nat→Rat):Nat→Rat
 | 0=>t 0
 | j+1=>if j%2=0 then aS t j-t (j+1) else aS t j+t (j+1)
theorem zt6 {p1 p2:Nat→Int}{t:Nat→Rat}{T:Rat}(h:∀ j,(p1 j:Rat)≤t j*T∧t j*T≤(p2 j:Rat)):∀ j,((tyA p1 p2 j:Int):Rat)≤aS t j*T∧aS t j*T≤((tyB p1 p2 j:Int):Rat)
 | 0=>h 0
 | j+1=>by
  have a:=zt6 h j
  have b:=h (j+1)
  unfold tyA tyB aS
  by_cases q:j%2=0
  ·rw [if_pos q,if_pos q,if_pos q,Rat.intCast_add,Rat.intCast_add,Rat.intCast_neg,Rat.intCast_neg]
   constructor<;>grind
  ·rw [if_neg q,if_neg q,if_neg q,Rat.intCast_add,Rat.intCast_add]
   constructor<;>grind
theorem zt7 {p1 p2:Nat→Int}{T:Int}(h:∀ j,0≤p1 j∧p1 j≤p2 j∧p2 j≤T∧p2 j-p1 j≤8):∀ j:Nat,((-(((j:Int)+1)*T)≤tyA p1 p2 j∧tyA p1 p2 j≤((j:Int)+1)*T)∧-(((j:Int)+1)*T)≤tyB p1 p2 j∧tyB p1 p2 j≤((j:Int)+1)*T)∧tyA p1 p2 j≤tyB p1 p2 j∧tyB p1 p2 j-tyA p1 p2 j≤8*((j:Int)+1)
 | 0=>by
  have a:=h 0
  show ((-(((0:Int)+1)*T)≤p1 0∧p1 0≤((0:Int)+1)*T)∧-(((0:Int)+1)*T)≤p2 0∧p2 0≤((0:Int)+1)*T)∧p1 0≤p2 0∧p2 0-p1 0≤8*((0:Int)+1)
  omega
 | j+1=>by
  have a:=zt7 h j
  have b:=h (j+1)
  have e:(((j+1:Nat):Int)+1)*T=((j:Int)+1)*T+T:=by
   rw [show ((j+1:Nat):Int)=(j:Int)+1 from rfl,Int.add_mul _ 1 T,Int.one_mul]
  rw [e]
  have e2:((j+1:Nat):Int)=(j:Int)+1:=rfl
  unfold tyA tyB
  by_cases q:j%2=0
  ·rw [if_pos q,if_pos q,e2]; omega
  ·rw [if_neg q,if_neg q,e2]; omega
def sg (l:Nat):Rat:=if l%2=0 then 1 else -1
theorem zt8 (l:Nat):sg (l+1)=-(sg l):=by
 unfold sg
 by_cases h:l%2=0
 ·rw [if_pos h,if_neg (by omega)]
 ·rw [if_neg h,if_pos (by omega)]; grind
theorem iP_even:∀ l,(iP (2*l)).1=sg l∧(iP (2*l)).2=0
 | 0=>⟨rfl,rfl⟩
 | l+1=>by
  have h:=iP_even l
  have e1:(iP (2*(l+1))).1=-(iP (2*l)).1:=rfl
  have e2:(iP (2*(l+1))).2=-(iP (2*l)).2:=rfl
  rw [e1,e2,h.1,h.2,zt8]
  exact ⟨rfl,r0n⟩
theorem zt9 (l:Nat):(iP (2*l+1)).1=0∧(iP (2*l+1)).2=sg l:=by
 have h:=iP_even l
 have e1:(iP (2*l+1)).1=-(iP (2*l)).2:=rfl
 have e2:(iP (2*l+1)).2=(iP (2*l)).1:=rfl
 rw [e1,e2,h.1,h.2]
 exact ⟨r0n,rfl⟩
theorem zta (X:Rat):∀ j,aS (fun l=>tE X (0+2*l)) j=CS X (2*j+1)
 | 0=>by
  show tE X 0=0+1*tE X 0
  grind
 | j+1=>by
  have h:=zta X j
  have e:CS X (2*(j+1)+1)=CS X (2*j+1)+(iP (2*j+1)).1*tE X (2*j+1)+(iP (2*(j+1))).1*tE X (2*(j+1)):=rfl
  rw [e,(zt9 j).1,(iP_even (j+1)).1,zt8,← h]
  unfold sg
  show (if j%2=0 then aS (fun l=>tE X (0+2*l)) j-tE X (0+2*(j+1)) else aS (fun l=>tE X (0+2*l)) j+tE X (0+2*(j+1)))=_
  rw [show 0+2*(j+1)=2*(j+1) by omega]
  by_cases q:j%2=0
  ·rw [if_pos q,if_pos q]; grind
  ·rw [if_neg q,if_neg q]; grind
theorem ztb (X:Rat):∀ j,aS (fun l=>tE X (1+2*l)) j=SN X (2*j+2)
 | 0=>by
  show tE X 1=0+0*tE X 0+1*tE X 1
  grind
 | j+1=>by
  have h:=ztb X j
  have e:SN X (2*(j+1)+2)=SN X (2*j+2)+(iP (2*(j+1))).2*tE X (2*(j+1))+(iP (2*(j+1)+1)).2*tE X (2*(j+1)+1):=rfl
  rw [e,(zt9 (j+1)).2,(iP_even (j+1)).2,zt8,← h]
  unfold sg
  show (if j%2=0 then aS (fun l=>tE X (1+2*l)) j-tE X (1+2*(j+1)) else aS (fun l=>tE X (1+2*l)) j+tE X (1+2*(j+1)))=_
  rw [show 1+2*(j+1)=2*(j+1)+1 by omega]
  by_cases q:j%2=0
  ·rw [if_pos q,if_pos q]; grind
  ·rw [if_neg q,if_neg q]; grind
theorem ztc {T q1 q2:Int}(h:TyH T q1 q2 T T){X:Rat}(X0:0≤X)(X1:X≤1)(hq1:(q1:Rat)≤X*X*(T:Rat))(hq2:X*X*(T:Rat)≤(q2:Rat)){n:Nat}(hn:1≤n){K:Nat}(hK:2*n+1≤K) :
  ((tyA (fun j=>(ty T q1 q2 T T 0 j).1) (fun j=>(ty T q1 q2 T T 0 j).2) n-(ty T q1 q2 T T 0 n).2:Int):Rat)≤CS X K*(T:Rat)∧CS X K*(T:Rat)≤((tyB (fun j=>(ty T q1 q2 T T 0 j).1) (fun j=>(ty T q1 q2 T T 0 j).2) n+(ty T q1 q2 T T 0 n).2:Int):Rat):=by
 have T0:(0:Rat)<(T:Rat):=Rat.intCast_pos.2 (by have:=h.hT; omega)
 have one:tE X 0=1:=rfl
 have e:=zt5 h (i:=0) hq1 hq2 (by rw [one,Rat.one_mul]; exact Rat.le_refl) (by rw [one,Rat.one_mul]; exact Rat.le_refl)
 have s:=zt6 e n
 rw [zta] at s
 have en:=(e n).2
 rw [show 0+2*n=2*n by omega] at en
 have t:=(zsu (x:=X) (a:=X) X0 (by grind) Rat.le_refl (n:=2*n) (Rat.le_trans (show 2*X≤2 by grind) (show (2:Rat)≤(nx (2*n):Rat) from zrf (a:=1) (by omega))) hK).1
 have m1:=Rat.mul_le_mul_of_nonneg_right t.1 (Rat.le_of_lt T0)
 have m2:=Rat.mul_le_mul_of_nonneg_right t.2 (Rat.le_of_lt T0)
 rw [Rat.intCast_sub,Rat.intCast_add]
 constructor<;>grind
theorem ztd {T q1 q2 x:Int}(h:TyH T q1 q2 x x){X:Rat}(X0:0≤X)(X1:X≤1)(hx:(x:Rat)=X*(T:Rat))(hq1:(q1:Rat)≤X*X*(T:Rat))(hq2:X*X*(T:Rat)≤(q2:Rat)){n:Nat}{K:Nat}(hK:2*n+2≤K) :
  ((tyA (fun j=>(ty T q1 q2 x x 1 j).1) (fun j=>(ty T q1 q2 x x 1 j).2) n-(ty T q1 q2 x x 1 n).2:Int):Rat)≤SN X K*(T:Rat)∧SN X K*(T:Rat)≤((tyB (fun j=>(ty T q1 q2 x x 1 j).1) (fun j=>(ty T q1 q2 x x 1 j).2) n+(ty T q1 q2 x x 1 n).2:Int):Rat):=by
 have T0:(0:Rat)<(T:Rat):=Rat.intCast_pos.2 (by have:=h.hT; omega)
 have t1:tE X 1=X:=by
  have a:=zr7 X 0
  have c0:(nx 0:Rat)=1:=rfl
  have z0:tE X 0=1:=rfl
  rw [c0,z0] at a
  grind
 have e:=zt5 h (i:=1) hq1 hq2 (by rw [t1,hx]; exact Rat.le_refl) (by rw [t1,hx]; exact Rat.le_refl)
 have s:=zt6 e n
 rw [ztb] at s
 have en:=(e n).2
 rw [show 1+2*n=2*n+1 by omega] at en
 have t:=(zsu (x:=X) (a:=X) X0 (by grind) Rat.le_refl (n:=2*n+1) (Rat.le_trans (show 2*X≤2 by grind) (show (2:Rat)≤(nx (2*n+1):Rat) from zrf (a:=1) (by omega))) hK).2
 have m1:=Rat.mul_le_mul_of_nonneg_right t.1 (Rat.le_of_lt T0)
 have m2:=Rat.mul_le_mul_of_nonneg_right t.2 (Rat.le_of_lt T0)
 rw [Rat.intCast_sub,Rat.intCast_add]
 constructor<;>grind
end Go.Proofs.YtcbihoojfakhdaaGreatDoor
