/-
  Lower layers: what functions of the program compute, and zyt facts. Conditions: as the theorems say.
-/
import Derived.Test.YtcbihoojfakhdaaGreatDoorChecked
import Derived.Test.YtcbihoojfakhdaaGreatDoorRows
import Derived.WalkKit
import Derived.ProofKit
import Derived.OpenShut
import Derived.Deep.DeepHandedRow
import Derived.Lib.LaidTab
import Derived.Lib.SmallJoins
import Derived.ChangeSlices
import Derived.Carry
import Derived.Test.YtcbihoojfakhdaaGreatDoorCards
import Derived.Test.YtcbihoojfakhdaaGreatDoorTie
import Derived.Test.YtcbihoojfakhdaaGreatDoorCbX
set_option linter.unusedVariables false
set_option linter.unusedSimpArgs false
namespace Go.Proofs.YtcbihoojfakhdaaGreatDoor
open Go.RowKit
set_option maxRecDepth 100000
set_option maxHeartbeats 4000000
theorem zxq (m ee n f w:Int)(hw:0≤w∧w≤200)(hm:L (m).natAbs≤20)(he:-440≤ee∧ee≤130)(hd:-4294967296≤dv m ee∧dv m ee≤4294967296)(hn:L (n).natAbs≤20)(hf:-440≤f∧f≤130)(v1:vdb m ee=true)(v2:vdb n f=true) :
  ∃ mv dv_:V,Impl Tryz.prog Amb 143 [(wV m ee n f),(.int .i64 w)] (.tup [mv,dv_])∧∀ c:Int,-100≤c∧c≤100→∃ i1 i2:Bool,Impl Tryz.prog Amb 144 [mv,(.int .i64 c)] (.bool i1)∧Impl Tryz.prog Amb 144 [dv_,(.int .i64 c)] (.bool i2)∧Rp (dv m ee) (dv n f) w c i1∧(i2=true→i1=true):=by
 obtain⟨p1,p2,n1,n2,hP,hO,rc,⟨q1,q2,q3⟩,ln1,ln2⟩:=zvo (v:=w+80) oO
 have hA1:=zqj m ee (w+80) oO oO v1 oO
 have hA2:=zqj n f (w+80) oO oO v2 oO
 have lf1:=zow m ee (w+80)
 have lf2:=zow n f (w+80)
 have s1:=zpm (dv m ee) (w+80).toNat
 have s2:=zpn (dv n f) (w+80).toNat
 rw[Int.toNat_of_nonneg (show 0≤w+80 by omega)] at s1 s2
 have T80:(1208925819614629174706176:Rat)≤((2^(w+80).toNat:Int):Rat):=by
  have p:=Int.ofNat_le.2 (Nat.pow_le_pow_right (n:=2) oO (show 80≤(w+80).toNat by omega))
  rw[← zaj,← zaj] at p
  exact Rat.intCast_le_intCast.2 p
 have hTF:((2^(w+80).toNat:Int):Rat)=((2^(w+8).toNat:Int):Rat)*4722366482869645213696:=by
  rw[show (w+80).toNat=(w+8).toNat+72 by omega,Int.pow_add,Rat.intCast_mul];rfl
 generalize flr (dv m ee) (w+80)=l1 at *
 generalize cei (dv m ee) (w+80)=l2 at *
 generalize flr (dv n f) (w+80)=g1 at *
 generalize cei (dv n f) (w+80)=g2 at *
 have H:QtH (dv m ee) (dv n f) ((2^(w+80).toNat:Int):Rat) n1 n2 l1 l2 g1 g2:=⟨T80,rc.1,rc.2,q3,s1.1,Rat.le_of_lt s1.2,s2.1,Rat.le_of_lt s2.2,hd⟩
 obtain⟨n0,⟨fb1,fb2⟩,_⟩:=fi_b H
 have hDv:=zho l1 n1 oO oO oO
 have im:∀ k,iMax k (0-k)=(k.natAbs:Int):=zxi
 have kl:∀ k:Int,Int.fdiv l1 n1-2≤k→k≤Int.fdiv l1 n1+8→((-9223372036854775808:Int)≤iMax k (0-k)∧iMax k (0-k)≤9223372036854775807)∧(L (n1*iMax k (0-k)).natAbs≤80∧L (n2*iMax k (0-k)).natAbs≤80):=fun k a b=>by
  have e:=im k
  have r:(-9223372036854775808:Int)≤iMax k (0-k)∧iMax k (0-k)≤9223372036854775807:=by omega
  have lk:=zgo (n:=iMax k (0-k)) r
  have m1:=zcw n1 (iMax k (0-k))
  have m2:=zcw n2 (iMax k (0-k))
  exact⟨r,by omega,by omega⟩
 have hT:∀ k:Int,Int.fdiv l1 n1-2≤k→k≤Int.fdiv l1 n1+8→Impl Tryz.prog Amb 28 [(sV n1 n2),(.int .i64 (iMax k ((0:Int)-k)))] (sV (n1*iMax k (0-k)) (n2*iMax k (0-k))):=fun k a b=>by
  have z:=kl k a b
  exact zkk n1 n2 (iMax k (0-k)) oO oO z.1
 have hN:∀ k:Int,Int.fdiv l1 n1-2≤k→k≤Int.fdiv l1 n1+8→k<0→Impl Tryz.prog Amb 99 [(sV (n1*iMax k (0-k)) (n2*iMax k (0-k)))] (sV (-(n2*iMax k (0-k))) (-(n1*iMax k (0-k)))):=fun k a b _=>by
  have z:=kl k a b
  exact zki (n1*iMax k (0-k)) (n2*iMax k (0-k)) oO oO
 have h0:∀ k:Int,Int.fdiv l1 n1-2≤k→k≤Int.fdiv l1 n1+8→0≤k→Impl Tryz.prog Amb 96 [(zV (n2*iMax k (0-k))),(zV l1)] (.int .i64 (cmpI (kB n1 n2 k) l1))∧Impl Tryz.prog Amb 96 [(zV (n1*iMax k (0-k))),(zV g2)] (.int .i64 (cmpI (kA n1 n2 k) g2))∧Impl Tryz.prog Amb 96 [(zV (n1*iMax k (0-k))),(zV l2)] (.int .i64 (cmpI (kA n1 n2 k) l2))∧Impl Tryz.prog Amb 96 [(zV (n2*iMax k (0-k))),(zV g1)] (.int .i64 (cmpI (kB n1 n2 k) g1)):=fun k a b q=>by
  have z:=kl k a b
  have eAp:kA n1 n2 k=n1*iMax k (0-k):=if_neg oO
  have eBp:kB n1 n2 k=n2*iMax k (0-k):=if_neg oO
  exact⟨zp3 (congrArg (V.int .i64) (congrArg (fun z=>cmpI z l1) (eBp).symm)) (zhk (n2*iMax k (0-k)) l1 oO oO),zp3 (congrArg (V.int .i64) (congrArg (fun z=>cmpI z g2) (eAp).symm)) (zhk (n1*iMax k (0-k)) g2 oO oO),zp3 (congrArg (V.int .i64) (congrArg (fun z=>cmpI z l2) (eAp).symm)) (zhk (n1*iMax k (0-k)) l2 oO oO),zp3 (congrArg (V.int .i64) (congrArg (fun z=>cmpI z g1) (eBp).symm)) (zhk (n2*iMax k (0-k)) g1 oO oO)⟩
 have h1:∀ k:Int,Int.fdiv l1 n1-2≤k→k≤Int.fdiv l1 n1+8→k<0→Impl Tryz.prog Amb 96 [(zV (-(n1*iMax k (0-k)))),(zV l1)] (.int .i64 (cmpI (kB n1 n2 k) l1))∧Impl Tryz.prog Amb 96 [(zV (-(n2*iMax k (0-k)))),(zV g2)] (.int .i64 (cmpI (kA n1 n2 k) g2))∧Impl Tryz.prog Amb 96 [(zV (-(n2*iMax k (0-k)))),(zV l2)] (.int .i64 (cmpI (kA n1 n2 k) l2))∧Impl Tryz.prog Amb 96 [(zV (-(n1*iMax k (0-k)))),(zV g1)] (.int .i64 (cmpI (kB n1 n2 k) g1)):=fun k a b q=>by
  have z:=kl k a b
  have y1:=zcx (n1*iMax k (0-k))
  have y2:=zcx (n2*iMax k (0-k))
  have eAn:kA n1 n2 k=-(n2*iMax k (0-k)):=if_pos q
  have eBn:kB n1 n2 k=-(n1*iMax k (0-k)):=if_pos q
  exact⟨zp3 (congrArg (V.int .i64) (congrArg (fun z=>cmpI z l1) (eBn).symm)) (zhk (-(n1*iMax k (0-k))) l1 oO oO),zp3 (congrArg (V.int .i64) (congrArg (fun z=>cmpI z g2) (eAn).symm)) (zhk (-(n2*iMax k (0-k))) g2 oO oO),zp3 (congrArg (V.int .i64) (congrArg (fun z=>cmpI z l2) (eAn).symm)) (zhk (-(n2*iMax k (0-k))) l2 oO oO),zp3 (congrArg (V.int .i64) (congrArg (fun z=>cmpI z g1) (eBn).symm)) (zhk (-(n1*iMax k (0-k))) g1 oO oO)⟩
 have rp:=fun c=>zxj (c:=c) (x1:=(fun k=>cmpI (kB n1 n2 k) l1)) (x2:=(fun k=>cmpI (kA n1 n2 k) g2)) H hTF (fun _=>rfl) (fun _=>rfl)
 have mb:∀ {p:Int→Bool},∀ x∈qf p (Int.fdiv l1 n1-2) 11,-10000000000≤x∧x≤10000000000:=fun x hx=>by
  have:=zxh hx
  omega
 by_cases hM:(qf (pmB (fun k=>cmpI (kB n1 n2 k) l1) (fun k=>cmpI (kA n1 n2 k) g2)) (Int.fdiv l1 n1-2) 11) = []
 ·have hD:(qf (pdB (fun k=>cmpI (kB n1 n2 k) l1) (fun k=>cmpI (kA n1 n2 k) g2) (fun k=>cmpI (kA n1 n2 k) l2) (fun k=>cmpI (kB n1 n2 k) g1)) (Int.fdiv l1 n1-2) 11) = []:=zwp hM
  refine⟨_,_,zwr m ee n f w p1 p2 n1 n2 l1 l2 g1 g2 (Int.fdiv l1 n1) _ (fun k=>n1*iMax k (0-k)) (fun k=>n2*iMax k (0-k)) (fun k=>-(n2*iMax k (0-k))) (fun k=>-(n1*iMax k (0-k))) (fun k=>cmpI (kB n1 n2 k) l1) (fun k=>cmpI (kA n1 n2 k) g2) (fun k=>cmpI (kA n1 n2 k) l2) (fun k=>cmpI (kB n1 n2 k) g1) oO hP hO hA1 hA2 hDv oO hT hN (fun k a b q=>(h0 k a b q).1) (fun k a b q=>(h0 k a b q).2.1) (fun k a b q=>(h0 k a b q).2.2.1) (fun k a b q=>(h0 k a b q).2.2.2) (fun k a b q=>(h1 k a b q).1) (fun k a b q=>(h1 k a b q).2.1) (fun k a b q=>(h1 k a b q).2.2.1) (fun k a b q=>(h1 k a b q).2.2.2) hM,fun c hc=>⟨_,_,zx8 c,zx8 c,?_,fun q=>by cases q⟩⟩
  have r:=rp c
  rw[hM] at r
  exact r
 ·by_cases hD:(qf (pdB (fun k=>cmpI (kB n1 n2 k) l1) (fun k=>cmpI (kA n1 n2 k) g2) (fun k=>cmpI (kA n1 n2 k) l2) (fun k=>cmpI (kB n1 n2 k) g1)) (Int.fdiv l1 n1-2) 11) = []
  ·exact⟨_,_,zwt m ee n f w p1 p2 n1 n2 l1 l2 g1 g2 (Int.fdiv l1 n1) _ (fun k=>n1*iMax k (0-k)) (fun k=>n2*iMax k (0-k)) (fun k=>-(n2*iMax k (0-k))) (fun k=>-(n1*iMax k (0-k))) (fun k=>cmpI (kB n1 n2 k) l1) (fun k=>cmpI (kA n1 n2 k) g2) (fun k=>cmpI (kA n1 n2 k) l2) (fun k=>cmpI (kB n1 n2 k) g1) oO hP hO hA1 hA2 hDv oO hT hN (fun k a b q=>(h0 k a b q).1) (fun k a b q=>(h0 k a b q).2.1) (fun k a b q=>(h0 k a b q).2.2.1) (fun k a b q=>(h0 k a b q).2.2.2) (fun k a b q=>(h1 k a b q).1) (fun k a b q=>(h1 k a b q).2.1) (fun k a b q=>(h1 k a b q).2.2.1) (fun k a b q=>(h1 k a b q).2.2.2) hM hD,fun c hc=>⟨_,_,zx6 _ c mb oO (Nat.le_trans (zwh _ _ _) oO),zx8 c,rp c,fun q=>by cases q⟩⟩
  ·exact⟨_,_,zwv m ee n f w p1 p2 n1 n2 l1 l2 g1 g2 (Int.fdiv l1 n1) _ (fun k=>n1*iMax k (0-k)) (fun k=>n2*iMax k (0-k)) (fun k=>-(n2*iMax k (0-k))) (fun k=>-(n1*iMax k (0-k))) (fun k=>cmpI (kB n1 n2 k) l1) (fun k=>cmpI (kA n1 n2 k) g2) (fun k=>cmpI (kA n1 n2 k) l2) (fun k=>cmpI (kB n1 n2 k) g1) oO hP hO hA1 hA2 hDv oO hT hN (fun k a b q=>(h0 k a b q).1) (fun k a b q=>(h0 k a b q).2.1) (fun k a b q=>(h0 k a b q).2.2.1) (fun k a b q=>(h0 k a b q).2.2.2) (fun k a b q=>(h1 k a b q).1) (fun k a b q=>(h1 k a b q).2.1) (fun k a b q=>(h1 k a b q).2.2.1) (fun k a b q=>(h1 k a b q).2.2.2) hM hD,fun c hc=>⟨_,_,zx6 _ c mb oO (Nat.le_trans (zwh _ _ _) oO),zx6 _ c mb oO (Nat.le_trans (zwh _ _ _) oO),rp c,zxk⟩⟩
theorem w_eq {a b c d a' b' c' d':Int}(h1:a=a')(h2:b=b')(h3:c=c')(h4:d=d'):(V.agg [.bool (decide (a<0)),N a.natAbs,.int .i64 b,.bool (decide (c<0)),N c.natAbs,.int .i64 d])=.agg [.bool (decide (a'<0)),N a'.natAbs,.int .i64 b',.bool (decide (c'<0)),N c'.natAbs,.int .i64 d']:=by
 subst h1;subst h2;subst h3;subst h4;rfl
theorem zxr {a b c d p q r s a' b' c' d' p' q' r' s':Int}(h1:a=a'∧b=b')(h2:c=c'∧d=d')(h3:p=p'∧q=q')(h4:r=r'∧s=s'):(V.tup [.agg [.bool (decide (a<0)),N a.natAbs,.int .i64 b,.bool (decide (c<0)),N c.natAbs,.int .i64 d],.agg [.bool (decide (p<0)),N p.natAbs,.int .i64 q,.bool (decide (r<0)),N r.natAbs,.int .i64 s]]) =
  .tup [.agg [.bool (decide (a'<0)),N a'.natAbs,.int .i64 b',.bool (decide (c'<0)),N c'.natAbs,.int .i64 d'],.agg [.bool (decide (p'<0)),N p'.natAbs,.int .i64 q',.bool (decide (r'<0)),N r'.natAbs,.int .i64 s']]:=by
 obtain⟨rfl,rfl⟩:=h1
 obtain⟨rfl,rfl⟩:=h2
 obtain⟨rfl,rfl⟩:=h3
 obtain⟨rfl,rfl⟩:=h4
 rfl
theorem zxs {n:Nat}(hn:n≤1000):(mkM (2^n) (-(n:Int))=1∧mkX (2^n) (-(n:Int))=0)∧mkM (-(2^n)) (-(n:Int))=-1∧mkX (-(2^n)) (-(n:Int))=0:=by
 have p:((2^n:Nat):Int)=(2:Int)^n:=(zaj _).symm
 have l:L ((2:Int)^n).natAbs≤70:=zrl (t:=n) (c:=1) oO oO oO
 have l':=zcx ((2:Int)^n)
 have f1:=zp9 (m:=2^n) (e:=-(n:Int)) oO oO
 have f2:=zp9 (m:=-(2^n)) (e:=-(n:Int)) oO oO
 have i1:=zht (-(n:Int)) 0
 have i2:iMax (-(n:Int)) 0≤0:=by unfold iMax;split<;>omega
 have d1:dv (2^n) (-(n:Int))=dv 1 0:=by
  rw[zn7 (m:=1) (e:=0) (c:=-(n:Int)) oO,show (0 - -(n:Int)).toNat=n by omega,Int.one_mul]
 have v1:vdb 1 0=true:=by decide
 have v2:vdb (-1) 0=true:=by decide
 have s1:=zxp f1.2.2.2.2.1 v1 oO oO (by rw[f1.2.2.2.2.2,d1])
 have s2:=zxp f2.2.2.2.2.1 v2 oO oO (by rw[f2.2.2.2.2.2,znd,znd,d1])
 exact⟨⟨s1.2,s1.1⟩,s2.2,s2.1⟩
theorem zxt (a1 b1 a2 b2 w:Int)(hw:0≤w∧w≤200)(l1:L a1.natAbs≤75)(l2:L b1.natAbs≤75)(l3:L a2.natAbs≤75)(l4:L b2.natAbs≤75):Impl Tryz.prog Amb 141 [(wV (mkM a1 (-(w+16))) (mkX a1 (-(w+16))) (mkM b1 (-(w+16))) (mkX b1 (-(w+16)))),(wV (mkM a2 (-(w+16))) (mkX a2 (-(w+16))) (mkM b2 (-(w+16))) (mkX b2 (-(w+16))))] (wV (mkM (min a1 a2) (-(w+16))) (mkX (min a1 a2) (-(w+16))) (mkM (min b1 b2) (-(w+16))) (mkX (min b1 b2) (-(w+16)))):=by
 have f1:=zp9 (m:=a1) (e:=-(w+16)) oO oO
 have f2:=zp9 (m:=b1) (e:=-(w+16)) oO oO
 have f3:=zp9 (m:=a2) (e:=-(w+16)) oO oO
 have f4:=zp9 (m:=b2) (e:=-(w+16)) oO oO
 have i1:=zht (-(w+16)) 0
 have i2:iMax (-(w+16)) 0≤0:=by unfold iMax;split<;>omega
 have ea1:(if 0<cmpD (mkM a1 (-(w+16))) (mkX a1 (-(w+16))) (mkM a2 (-(w+16))) (mkX a2 (-(w+16))) then (mkM a2 (-(w+16))) else (mkM a1 (-(w+16))))=mkM (min a1 a2) (-(w+16))∧(if 0<cmpD (mkM a1 (-(w+16))) (mkX a1 (-(w+16))) (mkM a2 (-(w+16))) (mkX a2 (-(w+16))) then (mkX a2 (-(w+16))) else (mkX a1 (-(w+16))))=mkX (min a1 a2) (-(w+16)):=by
  have i:(0<cmpD (mkM a1 (-(w+16))) (mkX a1 (-(w+16))) (mkM a2 (-(w+16))) (mkX a2 (-(w+16))))↔a2<a1:=by
   rw[zp2,f1.2.2.2.2.2,f3.2.2.2.2.2]
   constructor
   ·intro h
    refine Decidable.byContradiction fun hn=>?_
    have:=(zn9 (c:=-(w+16))).2 (show a1≤a2 by omega)
    grind
   ·intro h
    refine Decidable.byContradiction fun hn=>?_
    have z:dv a1 (-(w+16))≤dv a2 (-(w+16)):=by grind
    have:=zn9.1 z
    omega
  by_cases q:a2<a1
  ·rw[if_pos (i.2 q),if_pos (i.2 q),show min a1 a2=a2 by omega];exact⟨rfl,rfl⟩
  ·rw[if_neg (fun z=>q (i.1 z)),if_neg (fun z=>q (i.1 z)),show min a1 a2=a1 by omega];exact⟨rfl,rfl⟩
 have eb1:(if 0<cmpD (mkM b1 (-(w+16))) (mkX b1 (-(w+16))) (mkM b2 (-(w+16))) (mkX b2 (-(w+16))) then (mkM b2 (-(w+16))) else (mkM b1 (-(w+16))))=mkM (min b1 b2) (-(w+16))∧(if 0<cmpD (mkM b1 (-(w+16))) (mkX b1 (-(w+16))) (mkM b2 (-(w+16))) (mkX b2 (-(w+16))) then (mkX b2 (-(w+16))) else (mkX b1 (-(w+16))))=mkX (min b1 b2) (-(w+16)):=by
  have i:(0<cmpD (mkM b1 (-(w+16))) (mkX b1 (-(w+16))) (mkM b2 (-(w+16))) (mkX b2 (-(w+16))))↔b2<b1:=by
   rw[zp2,f2.2.2.2.2.2,f4.2.2.2.2.2]
   constructor
   ·intro h
    refine Decidable.byContradiction fun hn=>?_
    have:=(zn9 (c:=-(w+16))).2 (show b1≤b2 by omega)
    grind
   ·intro h
    refine Decidable.byContradiction fun hn=>?_
    have z:dv b1 (-(w+16))≤dv b2 (-(w+16)):=by grind
    have:=zn9.1 z
    omega
  by_cases q:b2<b1
  ·rw[if_pos (i.2 q),if_pos (i.2 q),show min b1 b2=b2 by omega];exact⟨rfl,rfl⟩
  ·rw[if_neg (fun z=>q (i.1 z)),if_neg (fun z=>q (i.1 z)),show min b1 b2=b1 by omega];exact⟨rfl,rfl⟩
 exact zp3 (w_eq ea1.1 ea1.2 eb1.1 eb1.2) (zx9 (mkM a1 (-(w+16))) (mkX a1 (-(w+16))) (mkM b1 (-(w+16))) (mkX b1 (-(w+16))) (mkM a2 (-(w+16))) (mkX a2 (-(w+16))) (mkM b2 (-(w+16))) (mkX b2 (-(w+16))) oO oO oO oO oO oO oO oO)
theorem zxu (a1 b1 a2 b2 w:Int)(hw:0≤w∧w≤200)(l1:L a1.natAbs≤75)(l2:L b1.natAbs≤75)(l3:L a2.natAbs≤75)(l4:L b2.natAbs≤75):Impl Tryz.prog Amb 142 [(wV (mkM a1 (-(w+16))) (mkX a1 (-(w+16))) (mkM b1 (-(w+16))) (mkX b1 (-(w+16)))),(wV (mkM a2 (-(w+16))) (mkX a2 (-(w+16))) (mkM b2 (-(w+16))) (mkX b2 (-(w+16))))] (wV (mkM (max a1 a2) (-(w+16))) (mkX (max a1 a2) (-(w+16))) (mkM (max b1 b2) (-(w+16))) (mkX (max b1 b2) (-(w+16)))):=by
 have f1:=zp9 (m:=a1) (e:=-(w+16)) oO oO
 have f2:=zp9 (m:=b1) (e:=-(w+16)) oO oO
 have f3:=zp9 (m:=a2) (e:=-(w+16)) oO oO
 have f4:=zp9 (m:=b2) (e:=-(w+16)) oO oO
 have i1:=zht (-(w+16)) 0
 have i2:iMax (-(w+16)) 0≤0:=by unfold iMax;split<;>omega
 have ea1:(if cmpD (mkM a1 (-(w+16))) (mkX a1 (-(w+16))) (mkM a2 (-(w+16))) (mkX a2 (-(w+16)))<0 then (mkM a2 (-(w+16))) else (mkM a1 (-(w+16))))=mkM (max a1 a2) (-(w+16))∧(if cmpD (mkM a1 (-(w+16))) (mkX a1 (-(w+16))) (mkM a2 (-(w+16))) (mkX a2 (-(w+16)))<0 then (mkX a2 (-(w+16))) else (mkX a1 (-(w+16))))=mkX (max a1 a2) (-(w+16)):=by
  have i:(cmpD (mkM a1 (-(w+16))) (mkX a1 (-(w+16))) (mkM a2 (-(w+16))) (mkX a2 (-(w+16)))<0)↔a1<a2:=by
   rw[zp1,f1.2.2.2.2.2,f3.2.2.2.2.2]
   constructor
   ·intro h
    refine Decidable.byContradiction fun hn=>?_
    have:=(zn9 (c:=-(w+16))).2 (show a2≤a1 by omega)
    grind
   ·intro h
    refine Decidable.byContradiction fun hn=>?_
    have z:dv a2 (-(w+16))≤dv a1 (-(w+16)):=by grind
    have:=zn9.1 z
    omega
  by_cases q:a1<a2
  ·rw[if_pos (i.2 q),if_pos (i.2 q),show max a1 a2=a2 by omega];exact⟨rfl,rfl⟩
  ·rw[if_neg (fun z=>q (i.1 z)),if_neg (fun z=>q (i.1 z)),show max a1 a2=a1 by omega];exact⟨rfl,rfl⟩
 have eb1:(if cmpD (mkM b1 (-(w+16))) (mkX b1 (-(w+16))) (mkM b2 (-(w+16))) (mkX b2 (-(w+16)))<0 then (mkM b2 (-(w+16))) else (mkM b1 (-(w+16))))=mkM (max b1 b2) (-(w+16))∧(if cmpD (mkM b1 (-(w+16))) (mkX b1 (-(w+16))) (mkM b2 (-(w+16))) (mkX b2 (-(w+16)))<0 then (mkX b2 (-(w+16))) else (mkX b1 (-(w+16))))=mkX (max b1 b2) (-(w+16)):=by
  have i:(cmpD (mkM b1 (-(w+16))) (mkX b1 (-(w+16))) (mkM b2 (-(w+16))) (mkX b2 (-(w+16)))<0)↔b1<b2:=by
   rw[zp1,f2.2.2.2.2.2,f4.2.2.2.2.2]
   constructor
   ·intro h
    refine Decidable.byContradiction fun hn=>?_
    have:=(zn9 (c:=-(w+16))).2 (show b2≤b1 by omega)
    grind
   ·intro h
    refine Decidable.byContradiction fun hn=>?_
    have z:dv b2 (-(w+16))≤dv b1 (-(w+16)):=by grind
    have:=zn9.1 z
    omega
  by_cases q:b1<b2
  ·rw[if_pos (i.2 q),if_pos (i.2 q),show max b1 b2=b2 by omega];exact⟨rfl,rfl⟩
  ·rw[if_neg (fun z=>q (i.1 z)),if_neg (fun z=>q (i.1 z)),show max b1 b2=b1 by omega];exact⟨rfl,rfl⟩
 exact zp3 (w_eq ea1.1 ea1.2 eb1.1 eb1.2) (zxa (mkM a1 (-(w+16))) (mkX a1 (-(w+16))) (mkM b1 (-(w+16))) (mkX b1 (-(w+16))) (mkM a2 (-(w+16))) (mkX a2 (-(w+16))) (mkM b2 (-(w+16))) (mkX b2 (-(w+16))) oO oO oO oO oO oO oO oO)
theorem zxv (m ee n f w:Int)(hw:0≤w∧w≤200)(hm:L (m).natAbs≤20)(he:-440≤ee∧ee≤130)(hd:-4294967296≤dv m ee∧dv m ee≤4294967296)(hn:L (n).natAbs≤20)(hf:-440≤f∧f≤130)(v1:vdb m ee=true)(v2:vdb n f=true)(t1:topD m ee≤34)(t2:topD n f≤34) :
  ∃ (i1 i2 i3 i4:Bool) (sl sh tl th:Int),Impl Tryz.prog Amb 79 [(wV m ee n f),(.int .i64 w),(.bool false)] (.tup [(wV (mkM (cond i3 (-((2:Int)^(w+16).toNat)) (min sl tl)) (-(w+16))) (mkX (cond i3 (-((2:Int)^(w+16).toNat)) (min sl tl)) (-(w+16))) (mkM (cond i4 (-((2:Int)^(w+16).toNat)) (min sh th)) (-(w+16))) (mkX (cond i4 (-((2:Int)^(w+16).toNat)) (min sh th)) (-(w+16)))),(wV (mkM (cond i2 ((2:Int)^(w+16).toNat) (max sl tl)) (-(w+16))) (mkX (cond i2 ((2:Int)^(w+16).toNat) (max sl tl)) (-(w+16))) (mkM (cond i1 ((2:Int)^(w+16).toNat) (max sh th)) (-(w+16))) (mkX (cond i1 ((2:Int)^(w+16).toNat) (max sh th)) (-(w+16))))])∧((L sl.natAbs≤75∧L sh.natAbs≤75)∧L tl.natAbs≤75∧L th.natAbs≤75)∧(∀ g:Rat,0<g→EnE (SC 0 (dv m ee)) (w.toNat+16) sl sh g∧EnE (SC 0 (dv n f)) (w.toNat+16) tl th g) ∧
   (Rp (dv m ee) (dv n f) w (1-0) i1∧(i2=true→i1=true))∧(Rp (dv m ee) (dv n f) w (3-0) i3∧(i4=true→i3=true)):=by
 obtain⟨a1,a2,a3,a4,hA,⟨⟨k1,k2⟩,k3,k4⟩,_,eA⟩:=zw8 m ee w oO oO hw t1
 obtain⟨b1,b2,b3,b4,hB,⟨⟨k5,k6⟩,k7,k8⟩,_,eB⟩:=zw8 n f w oO oO hw t2
 obtain⟨mv,dv_,hQ,hc⟩:=zxq m ee n f w hw hm he hd hn hf v1 v2
 obtain⟨i1,i2,j1,j2,r1,r2⟩:=hc 1 oO
 obtain⟨i3,i4,j3,j4,r3,r4⟩:=hc 3 oO
 have hL:=zxt a1 a2 b1 b2 w hw oO oO oO oO
 have hG:=zxu a1 a2 b1 b2 w hw oO oO oO oO
 have hO:=zjb 1 oO
 have hO':Impl Tryz.prog Amb 17 [(.int .i64 1)] (yV (1:Int) 0):=zp3 (by kernel_rfl) hO
 have hN':Impl Tryz.prog Amb 17 [(.int .i64 (-1))] (yV (-1:Int) 0):=zp3 (by kernel_rfl) (zjb (-1) oO)
 have h:=zxb m ee n f w _ _ _ _ _ _ _ _ _ _ _ _ _ _ _ _ _ _ _ _ _ _ _ _ mv dv_ i1 i2 i3 i4 hA hB hL hG hQ hO' hN' j1 j2 j3 j4
 have mp:=zxs (n:=(w+16).toNat) oO
 rw[Int.toNat_of_nonneg (show 0≤w+16 by omega)] at mp
 refine⟨i1,i2,i3,i4,a1,a2,b1,b2,zp3 (zxr ?_ ?_ ?_ ?_) h,⟨⟨by omega,by omega⟩,by omega,by omega⟩,fun g hg=>⟨(eA g hg).1,(eB g hg).1⟩,⟨r1,r2⟩,r3,r4⟩
 ·cases i3
  ·exact⟨rfl,rfl⟩
  ·exact⟨mp.2.1.symm,mp.2.2.symm⟩
 ·cases i4
  ·exact⟨rfl,rfl⟩
  ·exact⟨mp.2.1.symm,mp.2.2.symm⟩
 ·cases i2
  ·exact⟨rfl,rfl⟩
  ·exact⟨mp.1.1.symm,mp.1.2.symm⟩
 ·cases i1
  ·exact⟨rfl,rfl⟩
  ·exact⟨mp.1.1.symm,mp.1.2.symm⟩
theorem zxw (m ee n f w:Int)(hw:0≤w∧w≤200)(hm:L (m).natAbs≤20)(he:-440≤ee∧ee≤130)(hd:-4294967296≤dv m ee∧dv m ee≤4294967296)(hn:L (n).natAbs≤20)(hf:-440≤f∧f≤130)(v1:vdb m ee=true)(v2:vdb n f=true)(t1:topD m ee≤34)(t2:topD n f≤34) :
  ∃ (i1 i2 i3 i4:Bool) (sl sh tl th:Int),Impl Tryz.prog Amb 79 [(wV m ee n f),(.int .i64 w),(.bool true)] (.tup [(wV (mkM (cond i3 (-((2:Int)^(w+16).toNat)) (min sl tl)) (-(w+16))) (mkX (cond i3 (-((2:Int)^(w+16).toNat)) (min sl tl)) (-(w+16))) (mkM (cond i4 (-((2:Int)^(w+16).toNat)) (min sh th)) (-(w+16))) (mkX (cond i4 (-((2:Int)^(w+16).toNat)) (min sh th)) (-(w+16)))),(wV (mkM (cond i2 ((2:Int)^(w+16).toNat) (max sl tl)) (-(w+16))) (mkX (cond i2 ((2:Int)^(w+16).toNat) (max sl tl)) (-(w+16))) (mkM (cond i1 ((2:Int)^(w+16).toNat) (max sh th)) (-(w+16))) (mkX (cond i1 ((2:Int)^(w+16).toNat) (max sh th)) (-(w+16))))])∧((L sl.natAbs≤75∧L sh.natAbs≤75)∧L tl.natAbs≤75∧L th.natAbs≤75)∧(∀ g:Rat,0<g→EnE (SC 1 (dv m ee)) (w.toNat+16) sl sh g∧EnE (SC 1 (dv n f)) (w.toNat+16) tl th g) ∧
   (Rp (dv m ee) (dv n f) w (1-1) i1∧(i2=true→i1=true))∧(Rp (dv m ee) (dv n f) w (3-1) i3∧(i4=true→i3=true)):=by
 obtain⟨a1,a2,a3,a4,hA,⟨⟨k1,k2⟩,k3,k4⟩,_,eA⟩:=zw8 m ee w oO oO hw t1
 obtain⟨b1,b2,b3,b4,hB,⟨⟨k5,k6⟩,k7,k8⟩,_,eB⟩:=zw8 n f w oO oO hw t2
 obtain⟨mv,dv_,hQ,hc⟩:=zxq m ee n f w hw hm he hd hn hf v1 v2
 obtain⟨i1,i2,j1,j2,r1,r2⟩:=hc 0 oO
 obtain⟨i3,i4,j3,j4,r3,r4⟩:=hc 2 oO
 have hL:=zxt a3 a4 b3 b4 w hw oO oO oO oO
 have hG:=zxu a3 a4 b3 b4 w hw oO oO oO oO
 have hO:=zjb 1 oO
 have hO':Impl Tryz.prog Amb 17 [(.int .i64 1)] (yV (1:Int) 0):=zp3 (by kernel_rfl) hO
 have hN':Impl Tryz.prog Amb 17 [(.int .i64 (-1))] (yV (-1:Int) 0):=zp3 (by kernel_rfl) (zjb (-1) oO)
 have h:=zxc m ee n f w _ _ _ _ _ _ _ _ _ _ _ _ _ _ _ _ _ _ _ _ _ _ _ _ mv dv_ i1 i2 i3 i4 hA hB hL hG hQ hO' hN' j1 j2 j3 j4
 have mp:=zxs (n:=(w+16).toNat) oO
 rw[Int.toNat_of_nonneg (show 0≤w+16 by omega)] at mp
 refine⟨i1,i2,i3,i4,a3,a4,b3,b4,zp3 (zxr ?_ ?_ ?_ ?_) h,⟨⟨by omega,by omega⟩,by omega,by omega⟩,fun g hg=>⟨(eA g hg).2,(eB g hg).2⟩,⟨r1,r2⟩,r3,r4⟩
 ·cases i3
  ·exact⟨rfl,rfl⟩
  ·exact⟨mp.2.1.symm,mp.2.2.symm⟩
 ·cases i4
  ·exact⟨rfl,rfl⟩
  ·exact⟨mp.2.1.symm,mp.2.2.symm⟩
 ·cases i2
  ·exact⟨rfl,rfl⟩
  ·exact⟨mp.1.1.symm,mp.1.2.symm⟩
 ·cases i1
  ·exact⟨rfl,rfl⟩
  ·exact⟨mp.1.1.symm,mp.1.2.symm⟩
end Go.Proofs.YtcbihoojfakhdaaGreatDoor

namespace Go.Proofs.YtcbihoojfakhdaaGreatDoor
open Go.RowKit
set_option maxRecDepth 100000
set_option maxHeartbeats 4000000
theorem zxx {P x1 x2 y1 y2 sl sh tl th:Int}{bt i3 i4:Bool}(hP:1≤P)(hx:x1≤x2∧x2-x1≤2)(hy:y1≤y2∧y2-y1≤2)(ox:x1≤P∧-P≤x2)(oy:y1≤P∧-P≤y2)(os:sl≤P*65536∧-(P*65536)≤sh)(ot:tl≤P*65536∧-(P*65536)≤th)
  (mx:x1*65536≤sh∧sl≤x2*65536) (my:y1*65536≤th∧tl≤y2*65536) (b1:bt=false→i3=false) (b2:bt=true→i3=false→sl≤-(P*65536)+300∨tl≤-(P*65536)+300) (b3:i4=true→i3=true) :
  ∃ lo:Int,(if bt then -P else max (-P) (min x1 y1))=lo∧(lo≤P∧-P≤lo)∧(lo=-P∨lo≤x1∨lo≤y1)∧lo*65536≤cond i4 (-(P*65536)) (min sh th)∧cond i3 (-(P*65536)) (min sl tl)≤(lo+2)*65536:=by
 cases bt with
 | false =>
  have h3:=b1 rfl
  subst h3
  have h4:i4=false:=by
   cases i4 with
   | false=>rfl
   | true=>exact absurd (b3 rfl) (by decide)
  subst h4
  refine⟨max (-P) (min x1 y1),rfl,by omega,by omega,?_,?_⟩
  ·show max (-P) (min x1 y1)*65536≤min sh th
   omega
  ·show min sl tl≤(max (-P) (min x1 y1)+2)*65536
   omega
 | true =>
  cases i3 with
  | true =>
   refine⟨-P,rfl,by omega,.inl rfl,?_,?_⟩
   ·cases i4
    ·show -P*65536≤min sh th
     omega
    ·show -P*65536≤-(P*65536)
     omega
   ·show -(P*65536)≤(-P+2)*65536
    omega
  | false =>
   have h4:i4=false:=by
    cases i4 with
    | false=>rfl
    | true=>exact absurd (b3 rfl) (by decide)
   subst h4
   have q:=b2 rfl rfl
   refine⟨-P,rfl,by omega,.inl rfl,?_,?_⟩
   ·show -P*65536≤min sh th
    omega
   ·show min sl tl≤(-P+2)*65536
    omega
theorem zxy {P x1 x2 y1 y2 sl sh tl th:Int}{tp i1 i2:Bool}(hP:1≤P)(hx:x1≤x2∧x2-x1≤2)(hy:y1≤y2∧y2-y1≤2)(ox:x1≤P∧-P≤x2)(oy:y1≤P∧-P≤y2)(os:sl≤P*65536∧-(P*65536)≤sh)(ot:tl≤P*65536∧-(P*65536)≤th)
  (mx:x1*65536≤sh∧sl≤x2*65536) (my:y1*65536≤th∧tl≤y2*65536) (b1:tp=false→i1=false) (b2:tp=true→i1=false→P*65536-300≤sh∨P*65536-300≤th) (b3:i2=true→i1=true) :
  ∃ hi:Int,(if tp then P else min P (max x2 y2))=hi∧(hi≤P∧-P≤hi)∧(hi=P∨(x2≤hi∧y2≤hi))∧cond i2 (P*65536) (max sl tl)≤hi*65536∧(hi-2)*65536≤cond i1 (P*65536) (max sh th):=by
 cases tp with
 | false =>
  have h3:=b1 rfl
  subst h3
  have h4:i2=false:=by
   cases i2 with
   | false=>rfl
   | true=>exact absurd (b3 rfl) (by decide)
  subst h4
  refine⟨min P (max x2 y2),rfl,by omega,by omega,?_,?_⟩
  ·show max sl tl≤min P (max x2 y2)*65536
   omega
  ·show (min P (max x2 y2)-2)*65536≤max sh th
   omega
 | true =>
  cases i1 with
  | true =>
   refine⟨P,rfl,by omega,.inl rfl,?_,?_⟩
   ·cases i2
    ·show max sl tl≤P*65536
     omega
    ·show P*65536≤P*65536
     omega
   ·show (P-2)*65536≤P*65536
    omega
  | false =>
   have h4:i2=false:=by
    cases i2 with
    | false=>rfl
    | true=>exact absurd (b3 rfl) (by decide)
   subst h4
   have q:=b2 rfl rfl
   refine⟨P,rfl,by omega,.inl rfl,?_,?_⟩
   ·show max sl tl≤P*65536
    omega
   ·show (P-2)*65536≤max sh th
    omega
theorem sE_num:sE*((2^300:Int):Rat)*8≤1∧0≤sE∧qerr sM≤sE:=⟨of_decide_eq_true (by kernel_rfl),of_decide_eq_true (by kernel_rfl),of_decide_eq_true (by kernel_rfl)⟩
theorem zxz {t:Nat}(ht:t≤300):0≤sE*((2^t:Int):Rat)∧8*(sE*((2^t:Int):Rat))≤1∧8*(qerr sM*((2^t:Int):Rat))≤1:=by
 have n:=sE_num
 have p0:(0:Rat)<((2^t:Int):Rat):=Rat.intCast_pos.2 (zi5 t)
 have e:((2^300:Int):Rat)=((2^t:Int):Rat)*((2^(300-t):Int):Rat):=by rw[← Rat.intCast_mul,← Int.pow_add];congr 2;omega
 have a:(1:Rat)≤((2^(300-t):Int):Rat):=by
  have:=zi5 (300-t)
  exact Rat.intCast_le_intCast.2 (show (1:Int)≤2^(300-t) by omega)
 have m:=Rat.mul_le_mul_of_nonneg_left a (Rat.mul_nonneg n.2.1 (Rat.le_of_lt p0))
 have q:=rM n.2.2 (Rat.le_of_lt p0)
 rw[e] at n
 refine⟨Rat.mul_nonneg n.2.1 (Rat.le_of_lt p0),by grind,by grind⟩
theorem zy0 {d:Rat}{k more w sl sh:Int}(hm:more=0∨more=1)(hw:0≤w∧w≤200)(hd:-4294967296≤d∧d≤4294967296)(hn:(0≤d-(k:Rat)*cQ∧(d-(k:Rat)*cQ)*((2^(w+8).toNat:Int):Rat)≤5)∨(0≤(k:Rat)*cQ-d∧((k:Rat)*cQ-d)*((2^(w+8).toNat:Int):Rat)≤5))
  (he:EnE (SC more d) (w.toNat+16) sl sh (1/8)):((k-(3-more))%4=0→sl≤-(2^w.toNat*65536)+300)∧((k-(1-more))%4=0→2^w.toNat*65536-300≤sh):=by
 have F256:(256:Rat)≤((2^(w+8).toNat:Int):Rat):=by
  have p:=Int.ofNat_le.2 (Nat.pow_le_pow_right (n:=2) oO (show 8≤(w+8).toNat by omega))
  rw[← zaj,← zaj] at p
  exact Rat.intCast_le_intCast.2 p
 have e16:((2^(w.toNat+16):Int):Rat)=((2^(w+8).toNat:Int):Rat)*256:=by
  rw[show w.toNat+16=(w+8).toNat+8 by omega,Int.pow_add,Rat.intCast_mul];rfl
 have eP:(((2:Int)^w.toNat*65536:Int):Rat)=((2^(w+8).toNat:Int):Rat)*256:=by
  rw[← e16,Int.pow_add];rfl
 have qs:=(zxz (t:=w.toNat+16) oO).2.2
 rw[e16] at qs
 have cb:=cQ_b
 obtain⟨u,u0,uF,hu⟩:∃ u,0≤u∧u*((2^(w+8).toNat:Int):Rat)≤5∧(d-(k:Rat)*cQ=u∨d-(k:Rat)*cQ=-u):=by
  rcases hn with ⟨a,b⟩ | ⟨a,b⟩
  ·exact⟨_,a,b,.inl rfl⟩
  ·exact⟨_,a,b,.inr (by grind)⟩
 have u1:u≤1:=by
  refine Rat.le_of_mul_le_mul_right (c:=((2^(w+8).toNat:Int):Rat)) ?_ (by grind)
  grind
 have hk:k.natAbs≤sM:=by
  have k1:k≤4294967296:=by
   refine Decidable.byContradiction fun hn=>?_
   have m:=rM (Rat.intCast_le_intCast.2 (show (4294967297:Int)≤k by omega)) (show 0≤cQ by grind)
   have m:(4294967297:Rat)*cQ≤(k:Rat)*cQ:=m
   rcases hu with h | h<;>grind
  have k2:-4294967296≤k:=by
   refine Decidable.byContradiction fun hn=>?_
   have z:(k:Rat)≤-4294967297:=Rat.intCast_le_intCast.2 (show k≤-4294967297 by omega)
   have m:=rM z (show 0≤cQ by grind)
   rcases hu with h | h<;>grind
  unfold sM;omega
 have ex:=zxm (d:=d) (u:=u) (F:=((2^(w+8).toNat:Int):Rat)) (k:=k) hm hk F256 u0 uF hu
 obtain⟨N,he⟩:=he
 constructor
 ·intro hc
  obtain⟨M,h⟩:=ex.1 hc
  have h:=h (N+M) oO
  have he:=(he (N+M) oO).1
  rw[e16] at he
  refine Rat.intCast_le_intCast.1 ?_
  rw[Rat.intCast_add,Rat.intCast_neg,eP]
  show (sl:Rat)≤_+(300:Rat)
  generalize SC more d (N+M)=z at *
  generalize ((2^(w+8).toNat:Int):Rat)=F at *
  grind
 ·intro hc
  obtain⟨M,h⟩:=ex.2 hc
  have h:=h (N+M) oO
  have he:=(he (N+M) oO).2
  rw[e16] at he
  refine Rat.intCast_le_intCast.1 ?_
  rw[Rat.intCast_sub,eP]
  show _-(300:Rat)≤(sh:Rat)
  generalize SC more d (N+M)=z at *
  generalize ((2^(w+8).toNat:Int):Rat)=F at *
  grind
theorem fitS (m ee n f w:Int)(hw:0≤w∧w≤200)(hm:L (m).natAbs≤20)(he:-440≤ee∧ee≤130)(hd:-4294967296≤dv m ee∧dv m ee≤4294967296)(hn:L (n).natAbs≤20)(hf:-440≤f∧f≤130)(hd':-4294967296≤dv n f∧dv n f≤4294967296)(v1:vdb m ee=true)(v2:vdb n f=true)(t1:topD m ee≤34)(t2:topD n f≤34) :
  ∃ (lo hi:Int) (la lb lc ld ha hb hc hd:Int),Impl Tryz.prog Amb 34 [(wV m ee n f),(.int .i64 w)] (.tup [(wV (mkM lo (-w)) (mkX lo (-w)) (mkM hi (-w)) (mkX hi (-w))),(.int .i64 0)])∧Impl Tryz.prog Amb 42 [(wV (mkM lo (-w)) (mkX lo (-w)) (mkM hi (-w)) (mkX hi (-w)))] (.bool true)∧Impl Tryz.prog Amb 79 [(wV m ee n f),(.int .i64 w),(.bool false)] (.tup [(wV la lb lc ld),(wV ha hb hc hd)])∧Impl Tryz.prog Amb 22 [(wV (mkM lo (-w)) (mkX lo (-w)) (mkM hi (-w)) (mkX hi (-w))),(wV la lb lc ld),(wV ha hb hc hd),(.int .i64 w)] (.bool true):=by
 obtain⟨tp,bt,x1,x2,y1,y2,hI,⟨wx,eX,lx⟩,⟨wy,eY,ly⟩,pT,pB⟩:=zv1 m ee n f 0 w (.inl rfl) hw hm he hd hn hf hd'
 obtain⟨i1,i2,i3,i4,sl,sh,tl,th,hR,⟨⟨k1,k2⟩,k3,k4⟩,eR,⟨r1,r2⟩,r3,r4⟩:=zxv m ee n f w hw hm he hd hn hf v1 v2 t1 t2
 have g8:(0:Rat)<1/8:=r8.1
 have eS:=(eR (1/8) g8).1
 have eT:=(eR (1/8) g8).2
 have sc:=zxz (t:=w.toNat) oO
 have sc2:=zxz (t:=w.toNat+16) oO
 have e2:sE*((2^w.toNat:Int):Rat)*((2^16:Int):Rat)=sE*((2^(w.toNat+16):Int):Rat):=by rw[Int.pow_add,Rat.intCast_mul,Rat.mul_assoc]
 have mX:=EnE.meet (n:=16) eX eS (by rw[e2];grind)
 have mY:=EnE.meet (n:=16) eY eT (by rw[e2];grind)
 have oX:=zxo (by grind) eX
 have oY:=zxo (by grind) eY
 have oS:=zxo (by grind) eS
 have oT:=zxo (by grind) eT
 have P16:(2:Int)^(w.toNat+16)=2^w.toNat*65536:=by rw[Int.pow_add];rfl
 rw[P16] at oS oT
 rw[show (2:Int)^16=65536 from rfl] at mX mY
 have P1:(1:Int)≤2^w.toNat:=zi5 _
 have qb:=zxl pB r3
 have qt:=zxl pT r1
 obtain⟨lo,hlo,ul,pl,n1,n2⟩:=zxx P1 wx wy oX oY oS oT mX mY qb.1 (fun a b=>by
  obtain⟨k,hk,h⟩:=qb.2 a b
  rcases h with h | h
  ·exact .inl ((zy0 (.inl rfl) hw hd (.inl h) eS).1 hk)
  ·exact .inr ((zy0 (.inl rfl) hw hd' (.inr h) eT).1 hk)) r4
 obtain⟨hi,hhi,uh,ph,n3,n4⟩:=zxy P1 wx wy oX oY oS oT mX mY qt.1 (fun a b=>by
  obtain⟨k,hk,h⟩:=qt.2 a b
  rcases h with h | h
  ·exact .inl ((zy0 (.inl rfl) hw hd (.inl h) eS).2 hk)
  ·exact .inr ((zy0 (.inl rfl) hw hd' (.inr h) eT).2 hk)) r2
 rw[hlo,hhi] at hI
 have P16':(2:Int)^(w+16).toNat=2^w.toNat*65536:=by rw[show (w+16).toNat=w.toNat+16 by omega];exact P16
 rw[P16'] at hR
 have pv2:((2^w.toNat:Nat):Int)=(2:Int)^w.toNat:=(zaj _).symm
 have ll:L lo.natAbs≤70:=zrl (t:=w.toNat) (c:=1) oO oO oO
 have lh:L hi.natAbs≤70:=zrl (t:=w.toNat) (c:=1) oO oO oO
 have lp:L ((2:Int)^w.toNat*65536).natAbs≤70:=zrl (t:=w.toNat) (c:=65536) oO oO oO
 have lq:=zcx ((2:Int)^w.toNat*65536)
 have z1:=zug sl tl
 have z2:=zug sh th
 have z3:=zuh sl tl
 have z4:=zuh sh th
 have oLH:lo≤hi:=by omega
 have c1:L (cond i3 (-((2:Int)^w.toNat*65536)) (min sl tl)).natAbs≤300:=by cases i3<;>simp only [cond_true,cond_false]<;>omega
 have c2:L (cond i4 (-((2:Int)^w.toNat*65536)) (min sh th)).natAbs≤300:=by cases i4<;>simp only [cond_true,cond_false]<;>omega
 have c3:L (cond i2 ((2:Int)^w.toNat*65536) (max sl tl)).natAbs≤300:=by cases i2<;>simp only [cond_true,cond_false]<;>omega
 have c4:L (cond i1 ((2:Int)^w.toNat*65536) (max sh th)).natAbs≤300:=by cases i1<;>simp only [cond_true,cond_false]<;>omega
 have hNr:=zqm lo hi (cond i3 (-((2:Int)^w.toNat*65536)) (min sl tl)) (cond i4 (-((2:Int)^w.toNat*65536)) (min sh th)) (cond i2 ((2:Int)^w.toNat*65536) (max sl tl)) (cond i1 ((2:Int)^w.toNat*65536) (max sh th)) w oO oO oO c1 c2 c3 c4 oLH (by rw[show (2:Int)^16=65536 from rfl];exact n1) (by rw[show (2:Int)^16=65536 from rfl];exact n2) (by rw[show (2:Int)^16=65536 from rfl];exact n3) (by rw[show (2:Int)^16=65536 from rfl];exact n4)
 exact⟨lo,hi,_,_,_,_,_,_,_,_,zut m ee n f w _ _ _ _ 0 hI,zvn lo hi w oO ul uh,hR,hNr⟩
theorem fitC (m ee n f w:Int)(hw:0≤w∧w≤200)(hm:L (m).natAbs≤20)(he:-440≤ee∧ee≤130)(hd:-4294967296≤dv m ee∧dv m ee≤4294967296)(hn:L (n).natAbs≤20)(hf:-440≤f∧f≤130)(hd':-4294967296≤dv n f∧dv n f≤4294967296)(v1:vdb m ee=true)(v2:vdb n f=true)(t1:topD m ee≤34)(t2:topD n f≤34) :
  ∃ (lo hi:Int) (la lb lc ld ha hb hc hd:Int),Impl Tryz.prog Amb 35 [(wV m ee n f),(.int .i64 w)] (.tup [(wV (mkM lo (-w)) (mkX lo (-w)) (mkM hi (-w)) (mkX hi (-w))),(.int .i64 0)])∧Impl Tryz.prog Amb 42 [(wV (mkM lo (-w)) (mkX lo (-w)) (mkM hi (-w)) (mkX hi (-w)))] (.bool true)∧Impl Tryz.prog Amb 79 [(wV m ee n f),(.int .i64 w),(.bool true)] (.tup [(wV la lb lc ld),(wV ha hb hc hd)])∧Impl Tryz.prog Amb 22 [(wV (mkM lo (-w)) (mkX lo (-w)) (mkM hi (-w)) (mkX hi (-w))),(wV la lb lc ld),(wV ha hb hc hd),(.int .i64 w)] (.bool true):=by
 obtain⟨tp,bt,x1,x2,y1,y2,hI,⟨wx,eX,lx⟩,⟨wy,eY,ly⟩,pT,pB⟩:=zv1 m ee n f 1 w (.inr rfl) hw hm he hd hn hf hd'
 obtain⟨i1,i2,i3,i4,sl,sh,tl,th,hR,⟨⟨k1,k2⟩,k3,k4⟩,eR,⟨r1,r2⟩,r3,r4⟩:=zxw m ee n f w hw hm he hd hn hf v1 v2 t1 t2
 have g8:(0:Rat)<1/8:=r8.1
 have eS:=(eR (1/8) g8).1
 have eT:=(eR (1/8) g8).2
 have sc:=zxz (t:=w.toNat) oO
 have sc2:=zxz (t:=w.toNat+16) oO
 have e2:sE*((2^w.toNat:Int):Rat)*((2^16:Int):Rat)=sE*((2^(w.toNat+16):Int):Rat):=by rw[Int.pow_add,Rat.intCast_mul,Rat.mul_assoc]
 have mX:=EnE.meet (n:=16) eX eS (by rw[e2];grind)
 have mY:=EnE.meet (n:=16) eY eT (by rw[e2];grind)
 have oX:=zxo (by grind) eX
 have oY:=zxo (by grind) eY
 have oS:=zxo (by grind) eS
 have oT:=zxo (by grind) eT
 have P16:(2:Int)^(w.toNat+16)=2^w.toNat*65536:=by rw[Int.pow_add];rfl
 rw[P16] at oS oT
 rw[show (2:Int)^16=65536 from rfl] at mX mY
 have P1:(1:Int)≤2^w.toNat:=zi5 _
 have qb:=zxl pB r3
 have qt:=zxl pT r1
 obtain⟨lo,hlo,ul,pl,n1,n2⟩:=zxx P1 wx wy oX oY oS oT mX mY qb.1 (fun a b=>by
  obtain⟨k,hk,h⟩:=qb.2 a b
  rcases h with h | h
  ·exact .inl ((zy0 (.inr rfl) hw hd (.inl h) eS).1 hk)
  ·exact .inr ((zy0 (.inr rfl) hw hd' (.inr h) eT).1 hk)) r4
 obtain⟨hi,hhi,uh,ph,n3,n4⟩:=zxy P1 wx wy oX oY oS oT mX mY qt.1 (fun a b=>by
  obtain⟨k,hk,h⟩:=qt.2 a b
  rcases h with h | h
  ·exact .inl ((zy0 (.inr rfl) hw hd (.inl h) eS).2 hk)
  ·exact .inr ((zy0 (.inr rfl) hw hd' (.inr h) eT).2 hk)) r2
 rw[hlo,hhi] at hI
 have P16':(2:Int)^(w+16).toNat=2^w.toNat*65536:=by rw[show (w+16).toNat=w.toNat+16 by omega];exact P16
 rw[P16'] at hR
 have pv2:((2^w.toNat:Nat):Int)=(2:Int)^w.toNat:=(zaj _).symm
 have ll:L lo.natAbs≤70:=zrl (t:=w.toNat) (c:=1) oO oO oO
 have lh:L hi.natAbs≤70:=zrl (t:=w.toNat) (c:=1) oO oO oO
 have lp:L ((2:Int)^w.toNat*65536).natAbs≤70:=zrl (t:=w.toNat) (c:=65536) oO oO oO
 have lq:=zcx ((2:Int)^w.toNat*65536)
 have z1:=zug sl tl
 have z2:=zug sh th
 have z3:=zuh sl tl
 have z4:=zuh sh th
 have oLH:lo≤hi:=by omega
 have c1:L (cond i3 (-((2:Int)^w.toNat*65536)) (min sl tl)).natAbs≤300:=by cases i3<;>simp only [cond_true,cond_false]<;>omega
 have c2:L (cond i4 (-((2:Int)^w.toNat*65536)) (min sh th)).natAbs≤300:=by cases i4<;>simp only [cond_true,cond_false]<;>omega
 have c3:L (cond i2 ((2:Int)^w.toNat*65536) (max sl tl)).natAbs≤300:=by cases i2<;>simp only [cond_true,cond_false]<;>omega
 have c4:L (cond i1 ((2:Int)^w.toNat*65536) (max sh th)).natAbs≤300:=by cases i1<;>simp only [cond_true,cond_false]<;>omega
 have hNr:=zqm lo hi (cond i3 (-((2:Int)^w.toNat*65536)) (min sl tl)) (cond i4 (-((2:Int)^w.toNat*65536)) (min sh th)) (cond i2 ((2:Int)^w.toNat*65536) (max sl tl)) (cond i1 ((2:Int)^w.toNat*65536) (max sh th)) w oO oO oO c1 c2 c3 c4 oLH (by rw[show (2:Int)^16=65536 from rfl];exact n1) (by rw[show (2:Int)^16=65536 from rfl];exact n2) (by rw[show (2:Int)^16=65536 from rfl];exact n3) (by rw[show (2:Int)^16=65536 from rfl];exact n4)
 exact⟨lo,hi,_,_,_,_,_,_,_,_,zuu m ee n f w _ _ _ _ 0 hI,zvn lo hi w oO ul uh,hR,hNr⟩
theorem zy1 (m ee n f w:Int)(hw:0≤w∧w≤200)(hm:L (m).natAbs≤20)(he:-440≤ee∧ee≤130)(hd:-4294967296≤dv m ee∧dv m ee≤4294967296)(hn:L (n).natAbs≤20)(hf:-440≤f∧f≤130)(hd':-4294967296≤dv n f∧dv n f≤4294967296)(v1:vdb m ee=true)(v2:vdb n f=true)(t1:topD m ee≤34)(t2:topD n f≤34):Impl Tryz.prog Amb 26 [(wV m ee n f),(.int .i64 w)] (.bool true):=by
 obtain⟨lo,hi,_,_,_,_,_,_,_,_,a1,a2,a3,a4⟩:=fitS m ee n f w hw hm he hd hn hf hd' v1 v2 t1 t2
 obtain⟨lo',hi',_,_,_,_,_,_,_,_,b1,b2,b3,b4⟩:=fitC m ee n f w hw hm he hd hn hf hd' v1 v2 t1 t2
 exact zxd m ee n f w _ _ _ _ _ _ _ _ _ _ _ _ _ _ _ _ _ _ _ _ _ _ _ _ a1 b1 a2 b2 a3 b3 a4 b4
end Go.Proofs.YtcbihoojfakhdaaGreatDoor

namespace Go.Proofs.YtcbihoojfakhdaaGreatDoor
open Go.RowKit
set_option maxRecDepth 100000
set_option maxHeartbeats 4000000
theorem zy2 (m e n f k:Int)(c0:L (m).natAbs≤800)(c1:L (n).natAbs≤800)(c2:-65000≤e∧e≤65000)(c3:-65000≤f∧f≤65000)(c4:(-100:Int)≤k∧k≤800):Impl Tryz.prog Amb 25 [(wV m e n f),(.int .i64 k)] (wV m e (thM (mkM (adS m e (mkM (1:Int) ((0:Int)-k)) (mkX (1:Int) ((0:Int)-k))) (iMin e (mkX (1:Int) ((0:Int)-k)))) (mkX (adS m e (mkM (1:Int) ((0:Int)-k)) (mkX (1:Int) ((0:Int)-k))) (iMin e (mkX (1:Int) ((0:Int)-k)))) n f) (thX (mkM (adS m e (mkM (1:Int) ((0:Int)-k)) (mkX (1:Int) ((0:Int)-k))) (iMin e (mkX (1:Int) ((0:Int)-k)))) (mkX (adS m e (mkM (1:Int) ((0:Int)-k)) (mkX (1:Int) ((0:Int)-k))) (iMin e (mkX (1:Int) ((0:Int)-k)))) n f)):=by
 exact z6e hP hAmb Tryz.func25 (by kernel_rfl) (.lit<|.call (zV (1:Int))<|.lit<|.yes<|.lit<|.call (.tup [(yV (mkM (1:Int) ((0:Int)-k)) (mkX (1:Int) ((0:Int)-k))),(.int .i64 (mkE (1:Int) ((0:Int)-k)))])<|.lits 4<|.call (.tup [(yV (mkM (adS m e (mkM (1:Int) ((0:Int)-k)) (mkX (1:Int) ((0:Int)-k))) (iMin e (mkX (1:Int) ((0:Int)-k)))) (mkX (adS m e (mkM (1:Int) ((0:Int)-k)) (mkX (1:Int) ((0:Int)-k))) (iMin e (mkX (1:Int) ((0:Int)-k))))),(.int .i64 (mkE (adS m e (mkM (1:Int) ((0:Int)-k)) (mkX (1:Int) ((0:Int)-k))) (iMin e (mkX (1:Int) ((0:Int)-k)))))])<|.lits 4<|.call (.int .i64 (cmpD (mkM (adS m e (mkM (1:Int) ((0:Int)-k)) (mkX (1:Int) ((0:Int)-k))) (iMin e (mkX (1:Int) ((0:Int)-k)))) (mkX (adS m e (mkM (1:Int) ((0:Int)-k)) (mkX (1:Int) ((0:Int)-k))) (iMin e (mkX (1:Int) ((0:Int)-k)))) n f))<|.lit<|.both (.lits 5<|.ret) (.lits 3<|.ret))
  (z6d (aI True.intro (aI (zhd 1 oO) (have f7:=(zgo oO:L (1:Int).natAbs≤2);aI (z7s oO:(fits .i64 ((0:Int)-k))=true) (aI (zj2 (1:Int) ((0:Int)-k) oO oO) (have f6:=zhz (1:Int) ((0:Int)-k);aI (zj8 m e (mkM (1:Int) ((0:Int)-k)) (mkX (1:Int) ((0:Int)-k)) oO oO oO oO) (have f5:=zhz (adS m e (mkM (1:Int) ((0:Int)-k)) (mkX (1:Int) ((0:Int)-k))) (iMin e (mkX (1:Int) ((0:Int)-k)));have f4:=zip m e (mkM (1:Int) ((0:Int)-k)) (mkX (1:Int) ((0:Int)-k)) oO oO;aI (zj7 (mkM (adS m e (mkM (1:Int) ((0:Int)-k)) (mkX (1:Int) ((0:Int)-k))) (iMin e (mkX (1:Int) ((0:Int)-k)))) (mkX (adS m e (mkM (1:Int) ((0:Int)-k)) (mkX (1:Int) ((0:Int)-k))) (iMin e (mkX (1:Int) ((0:Int)-k)))) n f oO oO oO oO) (have f3:=zi9 (mkM (adS m e (mkM (1:Int) ((0:Int)-k)) (mkX (1:Int) ((0:Int)-k))) (iMin e (mkX (1:Int) ((0:Int)-k)))) (mkX (adS m e (mkM (1:Int) ((0:Int)-k)) (mkX (1:Int) ((0:Int)-k))) (iMin e (mkX (1:Int) ((0:Int)-k)))) n f;aI (fun (h1:(iLt (cmpD (mkM (adS m e (mkM (1:Int) ((0:Int)-k)) (mkX (1:Int) ((0:Int)-k))) (iMin e (mkX (1:Int) ((0:Int)-k)))) (mkX (adS m e (mkM (1:Int) ((0:Int)-k)) (mkX (1:Int) ((0:Int)-k))) (iMin e (mkX (1:Int) ((0:Int)-k)))) n f) 0)=true)=>have _gh1:=z73 h1;(zol (zoi oO):vsub (wV m e (mkM (adS m e (mkM (1:Int) ((0:Int)-k)) (mkX (1:Int) ((0:Int)-k))) (iMin e (mkX (1:Int) ((0:Int)-k)))) (mkX (adS m e (mkM (1:Int) ((0:Int)-k)) (mkX (1:Int) ((0:Int)-k))) (iMin e (mkX (1:Int) ((0:Int)-k))))) (wV m e (thM (mkM (adS m e (mkM (1:Int) ((0:Int)-k)) (mkX (1:Int) ((0:Int)-k))) (iMin e (mkX (1:Int) ((0:Int)-k)))) (mkX (adS m e (mkM (1:Int) ((0:Int)-k)) (mkX (1:Int) ((0:Int)-k))) (iMin e (mkX (1:Int) ((0:Int)-k)))) n f) (thX (mkM (adS m e (mkM (1:Int) ((0:Int)-k)) (mkX (1:Int) ((0:Int)-k))) (iMin e (mkX (1:Int) ((0:Int)-k)))) (mkX (adS m e (mkM (1:Int) ((0:Int)-k)) (mkX (1:Int) ((0:Int)-k))) (iMin e (mkX (1:Int) ((0:Int)-k)))) n f)))) (fun (h2:(iLt (cmpD (mkM (adS m e (mkM (1:Int) ((0:Int)-k)) (mkX (1:Int) ((0:Int)-k))) (iMin e (mkX (1:Int) ((0:Int)-k)))) (mkX (adS m e (mkM (1:Int) ((0:Int)-k)) (mkX (1:Int) ((0:Int)-k))) (iMin e (mkX (1:Int) ((0:Int)-k)))) n f) 0)=false)=>have _gh2:=z74 h2;(zol (zoj oO):vsub (wV m e n f) (wV m e (thM (mkM (adS m e (mkM (1:Int) ((0:Int)-k)) (mkX (1:Int) ((0:Int)-k))) (iMin e (mkX (1:Int) ((0:Int)-k)))) (mkX (adS m e (mkM (1:Int) ((0:Int)-k)) (mkX (1:Int) ((0:Int)-k))) (iMin e (mkX (1:Int) ((0:Int)-k)))) n f) (thX (mkM (adS m e (mkM (1:Int) ((0:Int)-k)) (mkX (1:Int) ((0:Int)-k))) (iMin e (mkX (1:Int) ((0:Int)-k)))) (mkX (adS m e (mkM (1:Int) ((0:Int)-k)) (mkX (1:Int) ((0:Int)-k))) (iMin e (mkX (1:Int) ((0:Int)-k)))) n f))))))))))) (by kernel_rfl))
theorem zy3 {m e n f k c:Int}(hm:L m.natAbs≤2)(hn:L n.natAbs≤2)(he:-440≤e∧e≤150)(hf:-440≤f∧f≤150)(hk:-9≤k∧k≤30)(hv:vdb n f=true)(ho:dv m e≤dv n f){a b x y:Int}
  (ha:a=mkM (adS m e (mkM (1:Int) ((0:Int)-k)) (mkX (1:Int) ((0:Int)-k))) (iMin e (mkX (1:Int) ((0:Int)-k))))
  (hb:b=mkX (adS m e (mkM (1:Int) ((0:Int)-k)) (mkX (1:Int) ((0:Int)-k))) (iMin e (mkX (1:Int) ((0:Int)-k))))
  (hx:x=thM a b n f) (hy:y=thX a b n f) (hc:0≤c∧c≤120) (h1:topD m e≤c) (h2:topD n f≤c) :
  (L x.natAbs≤20∧-440≤y∧y≤120)∧vdb x y=true∧(dv m e≤dv x y∧dv x y≤dv n f)∧topD x y≤c:=by
 have l1:=L_le (n:=1) (k:=1) (by decide)
 have c1':=zp9 (m:=(1:Int)) (e:=(0:Int)-k) (by show L 1≤900;omega) oO
 have c1:L (1:Int).natAbs≤1:=l1
 have i0:=zht ((0:Int)-k) 0
 have i1:iMax ((0:Int)-k) 0≤9:=by unfold iMax;split<;>omega
 have i2:=zht e (mkX (1:Int) ((0:Int)-k))
 have h1':=zpf (a:=2) (c:=16) (e:=e) (f:=mkX (1:Int) ((0:Int)-k)) hm (show L (mkM (1:Int) ((0:Int)-k)).natAbs≤2 by omega) oO oO
 have d:=zp9 (m:=adS m e (mkM (1:Int) ((0:Int)-k)) (mkX (1:Int) ((0:Int)-k))) (e:=iMin e (mkX (1:Int) ((0:Int)-k))) oO oO
 rw[← ha,← hb] at d
 have i3:=zht (iMin e (mkX (1:Int) ((0:Int)-k))) 0
 have hd:dv m e≤dv a b:=by
  rw[d.2.2.2.2.2,znf,c1'.2.2.2.2.2]
  have:0<dv 1 ((0:Int)-k):=znh.2 (by decide)
  grind
 have fin:∀ {x y:Int},L x.natAbs≤20→-440≤y→vdb x y=true→dv m e≤dv x y→dv x y≤dv n f→(L x.natAbs≤20∧-440≤y∧y≤120)∧vdb x y=true∧(dv m e≤dv x y∧dv x y≤dv n f)∧topD x y≤c:=by
  intro x y g1 g2 g3 g4 g5
  have tb:=zv6 hc.1 h1 h2 g4 g5
  refine⟨⟨g1,g2,?_⟩,g3,⟨g4,g5⟩,tb⟩
  rcases zi7 x y with q | q
  ·rcases zhs.1 g3 with r | r
   ·omega
   ·exact absurd q.1 r.1
  ·omega
 rcases zok a b n f with ⟨q1,q2,q3,q4⟩ | ⟨q1,q2,q3,q4⟩
 ·rw[hx,hy,q2,q3]
  exact fin oO oO d.2.2.2.2.1 hd (Rat.le_of_lt (zp1.1 q1))
 ·rw[hx,hy,q2,q3]
  exact fin oO oO hv ho Rat.le_refl
theorem zy4 (b1:Bool)(l1:List Nat)(e1:Int)(b2:Bool)(l2:List Nat)(e2 w m ee n f p q r t u1 u2 g1 g2 e0:Int)(c0:(-9223372036854775808:Int)≤w∧w≤9223372036854775807)(c1:Impl Tryz.prog Amb 23 [] (.bool true))(c2:Impl Tryz.prog Amb 24 [(.agg [(.bool b1),(.sl 1 (U l1)),(.int .i64 e1),(.bool b2),(.sl 1 (U l2)),(.int .i64 e2)]),(.int .i64 32)] (.tup [(wV m ee n f),(.bool false)])):Impl Tryz.prog Amb 5 [(.agg [(.bool b1),(.sl 1 (U l1)),(.int .i64 e1),(.bool b2),(.sl 1 (U l2)),(.int .i64 e2)]),(.int .i64 w),(.bool true),(.bool true)] (.bool true):=by
 exact z6e hP hAmb Tryz.func5 (by kernel_rfl) (.lit<|.call (.bool true)<|.lits 4<|.call (.tup [(wV m ee n f),(.bool false)])<|.lits 4<|.ret)
  (z6d (aI True.intro (aI (c1 ) (aI (c2 ) ((z5w (.bool true)))))) (by kernel_rfl))
theorem zy5 (b1:Bool)(l1:List Nat)(e1:Int)(b2:Bool)(l2:List Nat)(e2 w m ee n f p q r t u1 u2 g1 g2 e0:Int)(c0:(-9223372036854775808:Int)≤w∧w≤9223372036854775807)(c1:Impl Tryz.prog Amb 23 [] (.bool true))(c2:Impl Tryz.prog Amb 24 [(.agg [(.bool b1),(.sl 1 (U l1)),(.int .i64 e1),(.bool b2),(.sl 1 (U l2)),(.int .i64 e2)]),(.int .i64 32)] (.tup [(wV m ee n f),(.bool false)])):Impl Tryz.prog Amb 5 [(.agg [(.bool b1),(.sl 1 (U l1)),(.int .i64 e1),(.bool b2),(.sl 1 (U l2)),(.int .i64 e2)]),(.int .i64 w),(.bool true),(.bool false)] (.bool true):=by
 exact z6e hP hAmb Tryz.func5 (by kernel_rfl) (.lit<|.call (.bool true)<|.lits 4<|.call (.tup [(wV m ee n f),(.bool false)])<|.lits 4<|.ret)
  (z6d (aI True.intro (aI (c1 ) (aI (c2 ) ((z5w (.bool true)))))) (by kernel_rfl))
theorem zy6 (b1:Bool)(l1:List Nat)(e1:Int)(b2:Bool)(l2:List Nat)(e2 w m ee n f p q r t u1 u2 g1 g2 e0:Int)(c0:(-9223372036854775808:Int)≤w∧w≤9223372036854775807)(c1:Impl Tryz.prog Amb 23 [] (.bool true))(c2:Impl Tryz.prog Amb 24 [(.agg [(.bool b1),(.sl 1 (U l1)),(.int .i64 e1),(.bool b2),(.sl 1 (U l2)),(.int .i64 e2)]),(.int .i64 32)] (.tup [(wV m ee n f),(.bool false)])):Impl Tryz.prog Amb 5 [(.agg [(.bool b1),(.sl 1 (U l1)),(.int .i64 e1),(.bool b2),(.sl 1 (U l2)),(.int .i64 e2)]),(.int .i64 w),(.bool false),(.bool true)] (.bool true):=by
 exact z6e hP hAmb Tryz.func5 (by kernel_rfl) (.lit<|.call (.bool true)<|.lits 4<|.call (.tup [(wV m ee n f),(.bool false)])<|.lits 4<|.ret)
  (z6d (aI True.intro (aI (c1 ) (aI (c2 ) ((z5w (.bool true)))))) (by kernel_rfl))
theorem zy7 (b1:Bool)(l1:List Nat)(e1:Int)(b2:Bool)(l2:List Nat)(e2 w m ee n f p q r t u1 u2 g1 g2 e0:Int)(c0:(-9223372036854775808:Int)≤w∧w≤9223372036854775807)(c1:Impl Tryz.prog Amb 23 [] (.bool true))(c2:Impl Tryz.prog Amb 24 [(.agg [(.bool b1),(.sl 1 (U l1)),(.int .i64 e1),(.bool b2),(.sl 1 (U l2)),(.int .i64 e2)]),(.int .i64 32)] (.tup [(wV m ee n f),(.bool false)])):Impl Tryz.prog Amb 5 [(.agg [(.bool b1),(.sl 1 (U l1)),(.int .i64 e1),(.bool b2),(.sl 1 (U l2)),(.int .i64 e2)]),(.int .i64 w),(.bool false),(.bool false)] (.bool true):=by
 exact z6e hP hAmb Tryz.func5 (by kernel_rfl) (.lit<|.call (.bool true)<|.lits 4<|.call (.tup [(wV m ee n f),(.bool false)])<|.lits 4<|.ret)
  (z6d (aI True.intro (aI (c1 ) (aI (c2 ) ((z5w (.bool true)))))) (by kernel_rfl))
theorem zy8 (b1:Bool)(l1:List Nat)(e1:Int)(b2:Bool)(l2:List Nat)(e2 w m ee n f p q r t u1 u2 g1 g2 e0:Int)(c0:(-9223372036854775808:Int)≤w∧w≤9223372036854775807)(c1:Impl Tryz.prog Amb 23 [] (.bool true))(c2:Impl Tryz.prog Amb 24 [(.agg [(.bool b1),(.sl 1 (U l1)),(.int .i64 e1),(.bool b2),(.sl 1 (U l2)),(.int .i64 e2)]),(.int .i64 32)] (.tup [(wV m ee n f),(.bool true)]))(c3:Impl Tryz.prog Amb 25 [(wV m ee n f),(.int .i64 3)] (wV p q r t))(c4:Impl Tryz.prog Amb 17 [(.int .i64 1)] (yV u1 u2))(c5:Impl Tryz.prog Amb 27 [(zV u1),(.int .i64 32)] (.tup [(yV g1 g2),(.int .i64 e0)]))(c6:Impl Tryz.prog Amb 26 [(wV g1 g2 g1 g2),(.int .i64 (w%60))] (.bool true)):Impl Tryz.prog Amb 5 [(.agg [(.bool b1),(.sl 1 (U l1)),(.int .i64 e1),(.bool b2),(.sl 1 (U l2)),(.int .i64 e2)]),(.int .i64 w),(.bool true),(.bool true)] (.bool true):=by
 exact z6e hP hAmb Tryz.func5 (by kernel_rfl) (.lit<|.call (.bool true)<|.lits 4<|.call (.tup [(wV m ee n f),(.bool true)])<|.lits 6<|.call (wV p q r t)<|.lits 3<|.call (yV u1 u2)<|.lits 2<|.call (.tup [(yV g1 g2),(.int .i64 e0)])<|.lits 7<|.call (.int .i64 (w%60))<|.lit<|.call (.bool true)<|.lit<|.ret)
  (z6d (aI True.intro (aI (c1 ) (aI (c2 ) (aI (c3 ) (aI (c4 ) (aI (c5 ) (aI (zp4 w 60 oS oS) (have f2:=Int.emod_lt_of_pos w (show (0:Int)<60 by first | omega | assumption);have f1:=Int.emod_nonneg w (show (60:Int)≠0 by first | omega | assumption);aI (c6 ) ((z5w (.bool true))))))))))) (by kernel_rfl))
theorem zy9 (b1:Bool)(l1:List Nat)(e1:Int)(b2:Bool)(l2:List Nat)(e2 w m ee n f p q r t u1 u2 g1 g2 e0:Int)(c0:(-9223372036854775808:Int)≤w∧w≤9223372036854775807)(c1:Impl Tryz.prog Amb 23 [] (.bool true))(c2:Impl Tryz.prog Amb 24 [(.agg [(.bool b1),(.sl 1 (U l1)),(.int .i64 e1),(.bool b2),(.sl 1 (U l2)),(.int .i64 e2)]),(.int .i64 32)] (.tup [(wV m ee n f),(.bool true)]))(c3:Impl Tryz.prog Amb 25 [(wV m ee n f),(.int .i64 3)] (wV p q r t))(c4:Impl Tryz.prog Amb 26 [(wV p q r t),(.int .i64 (w%60))] (.bool true)):Impl Tryz.prog Amb 5 [(.agg [(.bool b1),(.sl 1 (U l1)),(.int .i64 e1),(.bool b2),(.sl 1 (U l2)),(.int .i64 e2)]),(.int .i64 w),(.bool true),(.bool false)] (.bool true):=by
 exact z6e hP hAmb Tryz.func5 (by kernel_rfl) (.lit<|.call (.bool true)<|.lits 4<|.call (.tup [(wV m ee n f),(.bool true)])<|.lits 6<|.call (wV p q r t)<|.lits 4<|.call (.int .i64 (w%60))<|.lit<|.call (.bool true)<|.lit<|.ret)
  (z6d (aI True.intro (aI (c1 ) (aI (c2 ) (aI (c3 ) (aI (zp4 w 60 oS oS) (have f2:=Int.emod_lt_of_pos w (show (0:Int)<60 by first | omega | assumption);have f1:=Int.emod_nonneg w (show (60:Int)≠0 by first | omega | assumption);aI (c4 ) ((z5w (.bool true))))))))) (by kernel_rfl))
theorem zya (b1:Bool)(l1:List Nat)(e1:Int)(b2:Bool)(l2:List Nat)(e2 w m ee n f p q r t u1 u2 g1 g2 e0:Int)(c0:(-9223372036854775808:Int)≤w∧w≤9223372036854775807)(c1:Impl Tryz.prog Amb 23 [] (.bool true))(c2:Impl Tryz.prog Amb 24 [(.agg [(.bool b1),(.sl 1 (U l1)),(.int .i64 e1),(.bool b2),(.sl 1 (U l2)),(.int .i64 e2)]),(.int .i64 32)] (.tup [(wV m ee n f),(.bool true)]))(c3:Impl Tryz.prog Amb 17 [(.int .i64 1)] (yV u1 u2))(c4:Impl Tryz.prog Amb 27 [(zV u1),(.int .i64 32)] (.tup [(yV g1 g2),(.int .i64 e0)]))(c5:Impl Tryz.prog Amb 26 [(wV g1 g2 g1 g2),(.int .i64 (w%60))] (.bool true)):Impl Tryz.prog Amb 5 [(.agg [(.bool b1),(.sl 1 (U l1)),(.int .i64 e1),(.bool b2),(.sl 1 (U l2)),(.int .i64 e2)]),(.int .i64 w),(.bool false),(.bool true)] (.bool true):=by
 exact z6e hP hAmb Tryz.func5 (by kernel_rfl) (.lit<|.call (.bool true)<|.lits 4<|.call (.tup [(wV m ee n f),(.bool true)])<|.lits 6<|.call (yV u1 u2)<|.lits 2<|.call (.tup [(yV g1 g2),(.int .i64 e0)])<|.lits 7<|.call (.int .i64 (w%60))<|.lit<|.call (.bool true)<|.lit<|.ret)
  (z6d (aI True.intro (aI (c1 ) (aI (c2 ) (aI (c3 ) (aI (c4 ) (aI (zp4 w 60 oS oS) (have f2:=Int.emod_lt_of_pos w (show (0:Int)<60 by first | omega | assumption);have f1:=Int.emod_nonneg w (show (60:Int)≠0 by first | omega | assumption);aI (c5 ) ((z5w (.bool true)))))))))) (by kernel_rfl))
theorem zyb (b1:Bool)(l1:List Nat)(e1:Int)(b2:Bool)(l2:List Nat)(e2 w m ee n f p q r t u1 u2 g1 g2 e0:Int)(c0:(-9223372036854775808:Int)≤w∧w≤9223372036854775807)(c1:Impl Tryz.prog Amb 23 [] (.bool true))(c2:Impl Tryz.prog Amb 24 [(.agg [(.bool b1),(.sl 1 (U l1)),(.int .i64 e1),(.bool b2),(.sl 1 (U l2)),(.int .i64 e2)]),(.int .i64 32)] (.tup [(wV m ee n f),(.bool true)]))(c3:Impl Tryz.prog Amb 26 [(wV m ee n f),(.int .i64 (w%60))] (.bool true)):Impl Tryz.prog Amb 5 [(.agg [(.bool b1),(.sl 1 (U l1)),(.int .i64 e1),(.bool b2),(.sl 1 (U l2)),(.int .i64 e2)]),(.int .i64 w),(.bool false),(.bool false)] (.bool true):=by
 exact z6e hP hAmb Tryz.func5 (by kernel_rfl) (.lit<|.call (.bool true)<|.lits 4<|.call (.tup [(wV m ee n f),(.bool true)])<|.lits 7<|.call (.int .i64 (w%60))<|.lit<|.call (.bool true)<|.lit<|.ret)
  (z6d (aI True.intro (aI (c1 ) (aI (c2 ) (aI (zp4 w 60 oS oS) (have f2:=Int.emod_lt_of_pos w (show (0:Int)<60 by first | omega | assumption);have f1:=Int.emod_nonneg w (show (60:Int)≠0 by first | omega | assumption);aI (c3 ) ((z5w (.bool true)))))))) (by kernel_rfl))
theorem zyc {m e n f p q c:Int}(h1:topD m e≤c)(h2:topD n f≤c)(hc:c≤32)(o1:dv m e≤dv p q)(o2:dv p q≤dv n f):-4294967296≤dv p q∧dv p q≤4294967296:=by
 have a:=zv5 h1
 have b:=zv5 h2
 have cc:dv 1 c≤dv 1 32:=by
  rw[zn7 (m:=1) (e:=32) (c:=c) hc,zn9,Int.one_mul]
  have:=zi5 (32-c).toNat
  omega
 rw[dv32] at cc
 constructor<;>grind
theorem end32:∃ u1 u2 e0:Int,Impl Tryz.prog Amb 17 [(.int .i64 1)] (yV u1 u2)∧Impl Tryz.prog Amb 27 [(zV u1),(.int .i64 32)] (.tup [(yV (1:Int) 32),(.int .i64 e0)]):=by
 have one:mkM 1 0=1:=by kernel_rfl
 have hN:=zj2 1 32 (by show L 1≤_;have:=zk7 1 (by decide);omega) oO
 have e:mkM 1 32=1∧mkX 1 32=32:=⟨by kernel_rfl,by kernel_rfl⟩
 rw[e.1,e.2] at hN
 exact⟨_,_,_,zjb 1 oO,by rw[one];exact hN⟩
theorem zyd (b1:Bool)(l1:List Nat)(e1:Int)(b2:Bool)(l2:List Nat)(e2 w:Int)(thin at_:Bool)(c0:Dig l1)(c1:l1.length≤9223372036854775807)(c2:(-9223372036854775808:Int)≤e1∧e1≤9223372036854775807)(c3:Dig l2)(c4:l2.length≤9223372036854775807)(c5:(-9223372036854775808:Int)≤e2∧e2≤9223372036854775807)(c6:(-9223372036854775808:Int)≤w∧w≤9223372036854775807):Impl Tryz.prog Amb 5 [(.agg [(.bool b1),(.sl 1 (U l1)),(.int .i64 e1),(.bool b2),(.sl 1 (U l2)),(.int .i64 e2)]),.int .i64 w,.bool thin,.bool at_] (.bool true):=by
 have w1:=Int.emod_nonneg w (show (60:Int)≠0 by omega)
 have w2:=Int.emod_lt_of_pos w (show (0:Int)<60 by omega)
 obtain⟨m,ee,n,f,ok,hA,⟨lm,ln⟩,⟨le,lf⟩,hok⟩:=zvk b1 l1 e1 b2 l2 e2 32 c0 c1 c2 c3 c4 c5 oO
 obtain⟨u1,u2,e0,hO,hM⟩:=end32
 have z1:L (1:Int).natAbs≤1:=zk7 1 (by decide)
 have d0:-4294967296≤dv 1 32∧dv 1 32≤4294967296:=by rw[dv32];constructor<;>grind
 have hE:=zy1 1 32 1 32 (w%60) oO oO oO d0 oO oO d0 (by decide) (by decide) (by decide) (by decide)
 cases ok with
 | false =>
  cases thin<;>cases at_
  ·exact zy7 b1 l1 e1 b2 l2 e2 w m ee n f 0 0 0 0 0 0 0 0 0 c6 l17_awake hA
  ·exact zy6 b1 l1 e1 b2 l2 e2 w m ee n f 0 0 0 0 0 0 0 0 0 c6 l17_awake hA
  ·exact zy5 b1 l1 e1 b2 l2 e2 w m ee n f 0 0 0 0 0 0 0 0 0 c6 l17_awake hA
  ·exact zy4 b1 l1 e1 b2 l2 e2 w m ee n f 0 0 0 0 0 0 0 0 0 c6 l17_awake hA
 | true =>
  obtain⟨⟨t1,t2⟩,⟨v1,v2⟩,o⟩:=hok rfl
  have hT:=zy2 m ee n f 3 oO oO oO oO oO
  have tf:=zy3 (m:=m) (e:=ee) (n:=n) (f:=f) (k:=3) (c:=32) oO oO oO oO oO v2 o rfl rfl rfl rfl oO t1 t2
  have d1:=zyc (p:=m) (q:=ee) t1 t2 oO Rat.le_refl o
  have d3:=zyc (p:=n) (q:=f) t1 t2 oO o Rat.le_refl
  have d2:=zyc t1 t2 oO tf.2.2.1.1 tf.2.2.1.2
  cases thin<;>cases at_
  ·exact zyb b1 l1 e1 b2 l2 e2 w m ee n f 0 0 0 0 0 0 0 0 0 c6 l17_awake hA (zy1 m ee n f (w%60) oO oO oO d1 oO oO d3 v1 v2 oO oO)
  ·exact zya b1 l1 e1 b2 l2 e2 w m ee n f 0 0 0 0 u1 u2 1 32 e0 c6 l17_awake hA hO hM hE
  ·exact zy9 b1 l1 e1 b2 l2 e2 w m ee n f m ee _ _ 0 0 0 0 0 c6 l17_awake hA hT (zy1 m ee _ _ (w%60) oO oO oO d1 oO oO d2 v1 tf.2.1 oO (by have:=tf.2.2.2;omega))
  ·exact zy8 b1 l1 e1 b2 l2 e2 w m ee n f m ee _ _ u1 u2 1 32 e0 c6 l17_awake hA hT hO hM hE
end Go.Proofs.YtcbihoojfakhdaaGreatDoor

namespace Go.Proofs.YtcbihoojfakhdaaGreatDoor
open Go.ChangeShapes Go.WideShapes Go.ChangeAt Go.RowKit
theorem ownNone:ownKnob Tryz.prog.godebug=none:=by kernel_rfl
theorem gTab:Tryz.prog.globalNamed "math/bits.deBruijn32tab"=some 0:=by kernel_rfl
theorem gTabType:(Tryz.prog.globals[0]?).map (·.type)=some 184:=by kernel_rfl
theorem cellsTab:Tryz.prog.cellsOf 184=32:=by kernel_rfl
theorem cellsU8:Tryz.prog.cellsOf 5=1:=by kernel_rfl
theorem zye {W:World}(h:laidMetH Tryz.prog [("math/bits.deBruijn32tab",Rows.laid_math_bits_deBruijn32tab)] W):Amb W:=by
 have t:Lib.TabIs Tryz.prog W "math/bits.deBruijn32tab" .u8 tab32:=Lib.tabIs_of_head (rest:=[]) gTab gTabType Tryz.underlying184 Tryz.underlying5 cellsU8 cellsTab h
 intro i v hi
 have hlt:i<tab32.length:=by
  rcases Nat.lt_or_ge i tab32.length with q | q
  ·exact q
  ·rw[List.getElem?_eq_none q] at hi;cases hi
 have h1:=t.cell gTab i hlt
 rw[List.getD_eq_getElem?_getD,hi] at h1
 exact h1
theorem zyf {n:Int}(h:(Lit.int .i64 n).wf=true):(-9223372036854775808:Int)≤n∧n≤9223372036854775807:=by
 simp only [Lit.wf,Bool.and_eq_true,decide_eq_true_eq] at h
 simp [IntKind.min,IntKind.max,IntKind.signed,IntKind.bits] at h
 omega
noncomputable def laidWorld (os : Os) : World :=
  { World.holding Tryz.prog os ⟨#[], #[], []⟩ with heap := (World.holding Tryz.prog os ⟨#[], #[], []⟩).heap.modify 0 fun
      | .cells _ t frozen => .cells (tab32.map (Value.int .u8)).toArray t frozen
      | o => o }
theorem zyg {H:Type}{enc:TypeId × Value→H}{P:Program}{f:Func}{s:ChangeSpec}{apart fresh handsOn again:Bool}{W W':World}{args:Array Value}{v:Value}{ds gs:List (DataW H)}{before pa pv:List MemPlace}
  (hW:DataW.Whole enc P f.params.toList s.vars apart W args.toList ds gs before)
  (hres:∀ (b:Nat) (sp:Nat→Bool) (hd:Bool),DataW.TrodAll enc P W' b sp hd f.resultTypes.toList (v.resultList f.resultTypes.size) (s.fn H (ds ++ gs)).results [])
  (hargs:∀ sp:Nat→Bool,(∀ p∈before,sp p.block=true)→DataW.TrodAll enc P W' 0 sp true f.params.toList args.toList (s.fn H (ds ++ gs)).args pa)
  (hvars:∀ sp:Nat→Bool,(∀ p∈before,sp p.block=true)→DataW.TrodVars enc P W' sp s.vars (s.fn H (ds ++ gs)).vars pv)
  (hps:before=pa ++ pv) (hb:Below W.heap.size W W')
  (hok:∀ (j:Nat) (t:TypeId) (r:Value),f.resultTypes[j]?=some t→(v.resultList f.resultTypes.size)[j]?=some r→Value.okWide P W' .any 0 t r):s.post enc P f apart fresh handsOn again W args v W':=by
 have lt:=hW.lt
 have old:∀ p∈before,(fun b=>decide (b<W.heap.size)) p.block=true:=fun p hp=>decide_eq_true (lt p hp)
 subst hps
 refine⟨ds,gs,pa ++ pv,[],pa,pv,hW,hres _ _ _,hargs _ old,hvars _ old,hb.frame _,fun _=>?_⟩
 obtain⟨_,_,_,_,_,hz,hn⟩:=hW
 have h1:=trodAll_append (hargs (fun _=>true) fun _ _=>rfl) (hres 0 (fun _=>true) true)
 refine⟨hok,_,_,_,⟨_,pv,h1,hvars _ fun _ _=>rfl,rfl,fun b off hp=>?_,fun ha=>?_⟩,fun p hp _=>?_⟩
 ·have hp':MemPlace.cell b off∈pa ++ pv:=by simpa using hp
  rw[hb.frozen (lt _ hp')]
  exact hz b off hp'
 ·simpa using hn ha
 ·simpa using hp
end Go.Proofs.YtcbihoojfakhdaaGreatDoor

namespace Go.Proofs.YtcbihoojfakhdaaGreatDoor
open Go.ChangeShapes Go.WideShapes Go.ChangeAt Go.RowKit
set_option maxRecDepth 100000
variable {H:Type} {enc:TypeId × Value→H} {W:World} {sp:Nat→Bool} {held:Bool}
theorem laidOut:laidOutB Tryz.prog=true:=by kernel_rfl
theorem cellsU32:Tryz.prog.cellsOf 141=1:=by kernel_rfl
theorem cellsSl:Tryz.prog.cellsOf 22=1:=by kernel_rfl
theorem cellsBool:Tryz.prog.cellsOf 4=1:=by kernel_rfl
theorem cellsInt:Tryz.prog.cellsOf 3=1:=by kernel_rfl
theorem cellsZ:Tryz.prog.cellsOf 24=2:=by kernel_rfl
theorem cellsY:Tryz.prog.cellsOf 26=3:=by kernel_rfl
theorem cellsW:Tryz.prog.cellsOf 38=6:=by kernel_rfl
theorem zyh (S:Nat→Prop):∀ l:List Nat,RdL W S (l.map fun (d:Nat)=>Value.int .u32 (d:Int)) (U l)
 | []=>.nil
 | _::l=>.cons .int (zyh S l)
theorem zyi {n:Int}(h:(Lit.int .u32 n).wf=true):0≤n∧n<4294967296:=by
 simp only [Lit.wf,Bool.and_eq_true,decide_eq_true_eq] at h
 simp [IntKind.min,IntKind.max,IntKind.signed,IntKind.bits] at h
 omega
theorem zyj {n:Nat}{c:Value}{x:DataW H × List MemPlace}{b0:Nat}(h:DataW.trod enc Tryz.prog W 0 sp held n 22 [c]=some x)(hok:Cell.okWide Tryz.prog W .any b0 22 c) :
  ∃ l:List Nat,Dig l∧l.length≤maxLen∧Rd W (fun _=>True) c (.sl 1 (U l)):=by
 rcases open_ints Tryz.underlying22 Tryz.underlying141 cellsU32 h with ⟨hc,_⟩ | ⟨a,len,cap,zs,hc,_,hl,hm,hz,_,hcell,hwf⟩
 ·obtain rfl:c=.slice none 0 0:=by simpa using hc
  exact⟨[],(fun d hd=>by cases hd),Nat.zero_le _,.nilsl⟩
 ·obtain rfl:c=.slice (some a) len cap:=by simpa using hc
  have hlen:len≤zs.length:=by rw[hz];split<;>omega
  simp only [Cell.okWide,Cell.ok,Tryz.underlying22,World.has] at hok
  obtain⟨_,_,_,hs,row,cells,hsh,_⟩:=hok
  obtain⟨ab,ao,spot⟩:=a
  simp only at hs hsh
  subst hs
  have hb:ab<W.heap.size:=by
   unfold World.shape? at hsh
   split at hsh
   ·rename_i q;exact (Array.getElem?_eq_some_iff.1 q).1
   ·cases hsh
  refine⟨(zs.take len).map Int.toNat,?_,?_,?_⟩
  ·intro d hd
   obtain⟨z,hz',rfl⟩:=List.mem_map.1 hd
   have:=zyi (hwf z (List.mem_of_mem_take hz'))
   show z.toNat<4294967296
   omega
  ·simp;omega
  ·refine .sl (vals:=((zs.take len).map Int.toNat).map fun (d:Nat)=>Value.int .u32 (d:Int)) trivial hb hl (by simp [U];omega) (zyh _ _) ?_
   intro i v hv
   simp only [List.getElem?_map,Option.map_eq_some_iff] at hv
   obtain⟨d,⟨z,hz',rfl⟩,rfl⟩:=hv
   have hi:i<len:=by
    rcases Nat.lt_or_ge i len with q | q
    ·exact q
    ·rw[List.getElem?_eq_none (by simp;omega)] at hz';cases hz'
   rw[List.getElem?_take,if_pos hi] at hz'
   have h1:=hcell i (by omega)
   rw[List.getD_eq_getElem?_getD,hz'] at h1
   have h2:=zyi (hwf z (List.mem_of_getElem? hz'))
   have h3:((z.toNat:Nat):Int)=z:=Int.toNat_of_nonneg h2.1
   simp only [Option.getD_some] at h1
   rw[h3]
   have h4:(Addr.mk ab ao none).add i=⟨ab,ao+i,none⟩:=by
    unfold Addr.add;split
    ·rename_i q;subst q;rfl
    ·rfl
   rw[h4] at h1
   exact h1
theorem zyk {n:Nat}{c0 c1:Value}{x:DataW H × List MemPlace}{b0:Nat}(h:DataW.trod enc Tryz.prog W 0 sp held n 24 [c0,c1]=some x)(hok:Cell.okWide Tryz.prog W .any b0 22 c1) :
  ∃ (b:Bool) (l:List Nat),Dig l∧l.length≤maxLen∧RdL W (fun _=>True) [c0,c1] [.bool b,.sl 1 (U l)]:=by
 obtain⟨y0,y1,m,_,_,h0,h1⟩:=trod_struct2 Tryz.underlying24 h
 have k0:DataW.trod enc Tryz.prog W 0 sp held m 4 [c0]=some y0:=by simpa [cellsBool] using h0
 have k1:DataW.trod enc Tryz.prog W 0 sp held m 22 [c1]=some y1:=by simpa [cellsSl] using h1
 obtain⟨b,hb,_⟩:=DataW.trod_bool Tryz.underlying4 k0
 obtain rfl:c0=.bool b:=by simpa using hb
 obtain⟨l,d,e,r⟩:=zyj k1 hok
 exact⟨b,l,d,e,.cons .bool (.cons r .nil)⟩
theorem zyl {n:Nat}{c0 c1 c2:Value}{x:DataW H × List MemPlace}{b0:Nat}(h:DataW.trod enc Tryz.prog W 0 sp held n 26 [c0,c1,c2]=some x)(hok:Cell.okWide Tryz.prog W .any b0 22 c1) :
  ∃ (b:Bool) (l:List Nat) (e:Int),Dig l∧l.length≤maxLen∧((-9223372036854775808:Int)≤e∧e≤9223372036854775807)∧RdL W (fun _=>True) [c0,c1,c2] [.bool b,.sl 1 (U l),.int .i64 e]:=by
 obtain⟨y0,y1,m,_,_,h0,h1⟩:=trod_struct2 Tryz.underlying26 h
 have k0:DataW.trod enc Tryz.prog W 0 sp held m 24 [c0,c1]=some y0:=by simpa [cellsZ] using h0
 have k1:DataW.trod enc Tryz.prog W 0 sp held m 3 [c2]=some y1:=by simpa [cellsInt] using h1
 obtain⟨b,l,d,e,r⟩:=zyk k0 hok
 obtain⟨z,hz,_,hw⟩:=DataW.trod_int Tryz.underlying3 k1
 obtain rfl:c2=.int .i64 z:=by simpa using hz
 cases r with | cons r0 r=>cases r with | cons r1 r=>cases r with | nil =>
  exact⟨b,l,z,d,e,zyf hw,.cons r0 (.cons r1 (.cons .int .nil))⟩
theorem zym {α:Type}{cs:Array α}(h:cs.size=6):∃ c0 c1 c2 c3 c4 c5,cs=#[c0,c1,c2,c3,c4,c5]:=by
 obtain⟨l⟩:=cs
 match l,h with
 | [c0,c1,c2,c3,c4,c5],_=>exact⟨c0,c1,c2,c3,c4,c5,rfl⟩
theorem zyn {v:Value}{d:DataW H}{p:List MemPlace}{b0:Nat}(hv:Value.okWide Tryz.prog W .any b0 38 v)(h:DataW.Trod enc Tryz.prog W 0 sp held 38 v d p) :
  ∃ (b:Bool) (l:List Nat) (e:Int) (c:Bool) (r:List Nat) (f:Int),(Dig l∧l.length≤maxLen∧((-9223372036854775808:Int)≤e∧e≤9223372036854775807))∧(Dig r∧r.length≤maxLen∧((-9223372036854775808:Int)≤f∧f≤9223372036854775807)) ∧
   Rd W (fun _=>True) v (.agg [.bool b,.sl 1 (U l),.int .i64 e,.bool c,.sl 1 (U r),.int .i64 f]):=by
 simp only [Value.okWide,Tryz.underlying38] at hv
 obtain⟨cs,rfl,hsz,ts,hts,_,hrow⟩:=hv
 have e0:Tryz.prog.cellTypes Tryz.prog.depth 38=some [4,22,3,4,22,3]:=by kernel_rfl
 rw[e0] at hts
 obtain rfl:=Option.some.inj hts
 obtain⟨c0,c1,c2,c3,c4,c5,rfl⟩:=zym (hsz.trans cellsW)
 obtain⟨u1,q1,ok1⟩:=hrow 1 c1 rfl
 obtain rfl:22=u1:=by simpa using q1
 obtain⟨u4,q4,ok4⟩:=hrow 4 c4 rfl
 obtain rfl:22=u4:=by simpa using q4
 obtain⟨n,hn⟩:=h
 obtain⟨y0,y1,m,_,_,h0,h1⟩:=trod_struct2 Tryz.underlying38 hn
 have k0:DataW.trod enc Tryz.prog W 0 sp held m 26 [c0,c1,c2]=some y0:=by simpa [cellsY,Value.cells] using h0
 have k1:DataW.trod enc Tryz.prog W 0 sp held m 26 [c3,c4,c5]=some y1:=by simpa [cellsY,Value.cells] using h1
 obtain⟨b,l,e,d1,d2,d3,r1⟩:=zyl k0 ok1
 obtain⟨c,r,f,f1,f2,f3,r2⟩:=zyl k1 ok4
 refine⟨b,l,e,c,r,f,⟨d1,d2,d3⟩,⟨f1,f2,f3⟩,?_⟩
 cases r1 with | cons a0 r1=>cases r1 with | cons a1 r1=>cases r1 with | cons a2 r1=>cases r1 with | nil =>
 cases r2 with | cons b0 r2=>cases r2 with | cons b1 r2=>cases r2 with | cons b2 r2=>cases r2 with | nil =>
  exact .agg (.cons a0 (.cons a1 (.cons a2 (.cons b0 (.cons b1 (.cons b2 .nil))))))
end Go.Proofs.YtcbihoojfakhdaaGreatDoor

namespace Go.Proofs.YtcbihoojfakhdaaGreatDoor.circularFar
open Go.ChangeShapes Go.WideShapes Go.ChangeAt Go.RowKit
set_option maxRecDepth 100000 in
theorem zyo (H:Type)(enc:TypeId × Value→H)(W:World)(base:Nat)(args:Array Value)(ds gs:List (DataW H))(before:List MemPlace)
  (hval:∀ (j:Nat) t v,Tryz.f5.params[j]?=some t→args[j]?=some v→Value.okWide Tryz.prog W .any base t v)
  (hW:DataW.Whole enc Tryz.prog Tryz.f5.params.toList Rows.circularFarSpec.vars false W args.toList ds gs before) (hL:laidMetH Tryz.prog Rows.circularFarRow.laid W) :
  Calls Tryz.prog 5 args W fun e W'=>∃ v,e=.returned v∧Rows.circularFarSpec.post enc Tryz.prog Tryz.f5 false true false false W args v W':=by
 have hW':=hW
 obtain⟨p,q,hA0,hV,rfl,hfz,hnd⟩:=hW
 have hA:DataW.TrodAll enc Tryz.prog W 0 (fun _=>true) true Tryz.f5.params.toList args.toList ds p:=hA0
 rw[Tryz.params5] at hA hval
 obtain⟨v0,vs0,d0,ds0,p0,q0,hargs0,rfl,rfl,h0,r0⟩:=trodAll_cons hA
 obtain⟨v1,vs1,d1,ds1,p1,q1,hargs1,rfl,rfl,h1,r1⟩:=trodAll_cons r0
 obtain⟨v2,vs2,d2,ds2,p2,q2,hargs2,rfl,rfl,h2,r2⟩:=trodAll_cons r1
 obtain⟨v3,vs3,d3,ds3,p3,q3,hargs3,rfl,rfl,h3,r3⟩:=trodAll_cons r2
 obtain⟨rfl,rfl,rfl⟩:=trodAll_nil r3
 obtain rfl:args=#[v0,v1,v2,v3]:=by cases args;simp_all
 obtain⟨rfl,rfl⟩:=trodVars_none hV
 obtain⟨b0,l0,e0,c0,s0,f0,⟨a0,a0',a0''⟩,⟨z0,z0',z0''⟩,t0⟩:=zyn (hval 0 38 v0 rfl rfl) h0
 have m0:l0.length≤9223372036854775807:=a0'
 have n0:s0.length≤9223372036854775807:=z0'
 have k1:=h1
 obtain⟨x1,rfl,rfl,rfl,w1⟩:=open_int Tryz.underlying3 (hval 1 3 v1 rfl rfl) h1
 have b1:=zyf w1
 have k2:=h2
 obtain⟨x2,rfl,rfl,rfl⟩:=open_bool Tryz.underlying4 (hval 2 4 v2 rfl rfl) h2
 have k3:=h3
 obtain⟨x3,rfl,rfl,rfl⟩:=open_bool Tryz.underlying4 (hval 3 4 v3 rfl rfl) h3
 clear hA0
 have hlt:=hW'.lt
 have hI:=zyd b0 l0 e0 c0 s0 f0 x1 x2 x3 a0 m0 a0'' z0 n0 z0'' b1
 have hC:=hI.2 W (fun _=>True) [v0,.int .i64 x1,.bool x2,.bool x3] (zye hL) (fun _ _=>trivial) (.cons t0 (.cons .int (.cons .bool (.cons .bool (.nil)))))
 refine hC.mono fun e W' hh=>?_
 obtain⟨v,rfl,hv,hb⟩:=hh
 have hv:=hv.bool_inv
 subst hv
 exact⟨_,rfl,zyg (pa:=(p0 ++ ([] ++ ([] ++ ([] ++ []))))) (pv:=[]) hW' (fun _ _ _=>trodAll_cons_mk (shut_bool Tryz.underlying4 _) trodAll_mk0) (fun sp hsp=>(trodAll_cons_mk (WideElems.Trod_stays laidOut (by kernel_rfl) (of_decide_eq_true (by kernel_rfl)) h0 (fun x hx=>hb.same (hlt x (by simp [hx]))) (fun x hx=>hsp x (by simp [hx]))) (trodAll_cons_mk (shut_int Tryz.underlying3 w1) (trodAll_cons_mk (shut_bool Tryz.underlying4 x2) (trodAll_cons_mk (shut_bool Tryz.underlying4 x3) trodAll_mk0))))) (fun _ _=>rfl) rfl
  hb (ok_one (by kernel_rfl) rfl (okWide_bool_mk Tryz.underlying4 _))⟩
theorem zyp (os:Os):laidMet Tryz.prog Rows.circularFarRow.laid ((laidWorld os).forCall (fun _ _=>0) ⟨#[],#[.agg #[.bool false,.slice none 0 0,.int .i64 0,.bool false,.slice none 0 0,.int .i64 0],.int .i64 0,.bool false,.bool false],[]⟩).memory :=
 laidMet_of_run' 64 (by kernel_rfl) (by kernel_rfl)
theorem zyq (os:Os){H:Type}(enc:TypeId × Value→H):∃ places,DataW.whole enc Tryz.prog ((laidWorld os).forCall (fun _ _=>0) ⟨#[],#[.agg #[.bool false,.slice none 0 0,.int .i64 0,.bool false,.slice none 0 0,.int .i64 0],.int .i64 0,.bool false,.bool false],[]⟩).memory Tryz.f5.params.toList Rows.circularFarSpec.vars false #[Value.agg #[.bool false,.slice none 0 0,.int .i64 0,.bool false,.slice none 0 0,.int .i64 0],Value.int .i64 0,Value.bool false,Value.bool false].toList 64=some ([.agg [.agg [.agg [.lit (.bool false),.nil],.lit (.int .i64 0)],.agg [.agg [.lit (.bool false),.nil],.lit (.int .i64 0)]],.lit (.int .i64 0),.lit (.bool false),.lit (.bool false)],[],places) :=
 ⟨[],by kernel_rfl⟩
set_option maxRecDepth 100000 in
theorem zyr (os:Os)(started:os.Started)(H:Type)(enc:TypeId × Value→H)(F:Stop.Interp) :
  ReturnsInHanded {} Tryz.checked os 5 .any ((OpenSpec.ofChange Rows.circularFarSpec).preRow enc Tryz.prog Tryz.f5 Rows.circularFarRow.domain false Rows.circularFarRow.laid) (((OpenSpec.ofChange Rows.circularFarSpec).at F).post enc Tryz.prog Tryz.f5 false true false false):=by
 obtain⟨places,hx⟩:=zyq os enc
 refine returnsInHanded_of_row (C:=Tryz.checked) (s:=OpenSpec.ofChange Rows.circularFarSpec) ownNone started (by kernel_rfl) Tryz.func5
  (witness_row_at (enc:=enc) (C:=Tryz.checked) false (laidWorld os) #[.agg #[.bool false,.slice none 0 0,.int .i64 0,.bool false,.slice none 0 0,.int .i64 0],.int .i64 0,.bool false,.bool false] rfl (by kernel_rfl) (by kernel_rfl) (by kernel_rfl)
   (OpenSpec.preRow_of_cond 64 hx (by kernel_rfl) (fun k hk=>by cases hk) (by kernel_rfl) (zyp os))) ?_
 intro W base args ds gs before hval hW _ _ _ hL _ _
 exact zyo H enc W base args ds gs before hval hW hL
end Go.Proofs.YtcbihoojfakhdaaGreatDoor.circularFar
