/-
  Lower layers: what functions of the program compute, and zxd facts. Conditions: as the theorems say.
-/
import Derived.Test.YtcbihoojfakhdaaGreatDoorChecked
import Derived.Test.YtcbihoojfakhdaaGreatDoorRows
import Derived.WalkKit
import Derived.ProofKit
import Derived.OpenShut
import Derived.Deep.DeepHandedRow
import Derived.Lib.LaidTab
import Derived.Lib.SmallJoins
import Derived.ChangeSlices
import Derived.Carry
import Derived.Test.YtcbihoojfakhdaaGreatDoorCards
import Derived.Test.YtcbihoojfakhdaaGreatDoorTie
import Derived.Test.YtcbihoojfakhdaaGreatDoorCcW
set_option linter.unusedVariables false
set_option linter.unusedSimpArgs false
namespace Go.Proofs.YtcbihoojfakhdaaGreatDoor
open Go.RowKit
set_option maxRecDepth 100000
set_option maxHeartbeats 4000000
theorem zwm (m ee n f w:Int)(hw:0≤w∧w≤200)(hm:L (m).natAbs≤20)(he:-440≤ee∧ee≤130)(hd:-4294967296≤dv m ee∧dv m ee≤4294967296)(hn:L (n).natAbs≤20)(hf:-440≤f∧f≤130)(v1:vdb m ee=true)(v2:vdb n f=true) :
  ∃ mv dv_:V,Impl Tryz.prog Amb 143 [(wV m ee n f),(.int .i64 w)] (.tup [mv,dv_])∧∀ c:Int,-100≤c∧c≤100→∃ i1 i2:Bool,Impl Tryz.prog Amb 144 [mv,(.int .i64 c)] (.bool i1)∧Impl Tryz.prog Amb 144 [dv_,(.int .i64 c)] (.bool i2)∧Rp (dv m ee) (dv n f) w c i1∧(i2=true→i1=true):=by
 obtain ⟨p1,p2,n1,n2,hP,hO,rc,⟨q1,q2,q3⟩,ln1,ln2⟩:=zuk (v:=w+80) oO
 have hA1:=zpx m ee (w+80) oO oO v1 oO
 have hA2:=zpx n f (w+80) oO oO v2 oO
 have lf1:=zog m ee (w+80)
 have lf2:=zog n f (w+80)
 have s1:=zp0 (dv m ee) (w+80).toNat
 have s2:=zp1 (dv n f) (w+80).toNat
 rw [Int.toNat_of_nonneg (show 0≤w+80 by omega)] at s1 s2
 have T80:(1208925819614629174706176:Rat)≤((2^(w+80).toNat:Int):Rat):=by
  have p:=Int.ofNat_le.2 (Nat.pow_le_pow_right (n:=2) oO (show 80≤(w+80).toNat by omega))
  rw [← zak,← zak] at p
  exact Rat.intCast_le_intCast.2 p
 have hTF:((2^(w+80).toNat:Int):Rat)=((2^(w+8).toNat:Int):Rat)*4722366482869645213696:=by
  rw [show (w+80).toNat=(w+8).toNat+72 by omega,Int.pow_add,Rat.intCast_mul]; rfl
 generalize flr (dv m ee) (w+80)=l1 at *
 generalize cei (dv m ee) (w+80)=l2 at *
 generalize flr (dv n f) (w+80)=g1 at *
 generalize cei (dv n f) (w+80)=g2 at *
 have H:QtH (dv m ee) (dv n f) ((2^(w+80).toNat:Int):Rat) n1 n2 l1 l2 g1 g2:=⟨T80,rc.1,rc.2,q3,s1.1,Rat.le_of_lt s1.2,s2.1,Rat.le_of_lt s2.2,hd⟩
 obtain ⟨n0,⟨fb1,fb2⟩,_⟩:=fi_b H
 have hDv:=zho l1 n1 oO oO oO
 have im:∀ k,iMax k (0-k)=(k.natAbs:Int):=zwe
 have kl:∀ k:Int,Int.fdiv l1 n1-2≤k→k≤Int.fdiv l1 n1+8→((-9223372036854775808:Int)≤iMax k (0-k)∧iMax k (0-k)≤9223372036854775807)∧(L (n1*iMax k (0-k)).natAbs≤80∧L (n2*iMax k (0-k)).natAbs≤80):=fun k a b=>by
  have e:=im k
  have r:(-9223372036854775808:Int)≤iMax k (0-k)∧iMax k (0-k)≤9223372036854775807:=by omega
  have lk:=zgp (n:=iMax k (0-k)) r
  have m1:=zcx n1 (iMax k (0-k))
  have m2:=zcx n2 (iMax k (0-k))
  exact ⟨r,by omega,by omega⟩
 have hT:∀ k:Int,Int.fdiv l1 n1-2≤k→k≤Int.fdiv l1 n1+8→Impl Tryz.prog Amb 28 [(sV n1 n2),(.int .i64 (iMax k ((0:Int)-k)))] (sV (n1*iMax k (0-k)) (n2*iMax k (0-k))):=fun k a b=>by
  have z:=kl k a b
  exact zkk n1 n2 (iMax k (0-k)) oO oO z.1
 have hN:∀ k:Int,Int.fdiv l1 n1-2≤k→k≤Int.fdiv l1 n1+8→k<0→Impl Tryz.prog Amb 99 [(sV (n1*iMax k (0-k)) (n2*iMax k (0-k)))] (sV (-(n2*iMax k (0-k))) (-(n1*iMax k (0-k)))):=fun k a b _=>by
  have z:=kl k a b
  exact zki (n1*iMax k (0-k)) (n2*iMax k (0-k)) oO oO
 have h0:∀ k:Int,Int.fdiv l1 n1-2≤k→k≤Int.fdiv l1 n1+8→0≤k→Impl Tryz.prog Amb 96 [(zV (n2*iMax k (0-k))),(zV l1)] (.int .i64 (cmpI (kB n1 n2 k) l1))∧Impl Tryz.prog Amb 96 [(zV (n1*iMax k (0-k))),(zV g2)] (.int .i64 (cmpI (kA n1 n2 k) g2))∧Impl Tryz.prog Amb 96 [(zV (n1*iMax k (0-k))),(zV l2)] (.int .i64 (cmpI (kA n1 n2 k) l2))∧Impl Tryz.prog Amb 96 [(zV (n2*iMax k (0-k))),(zV g1)] (.int .i64 (cmpI (kB n1 n2 k) g1)):=fun k a b q=>by
  have z:=kl k a b
  have eAp:kA n1 n2 k=n1*iMax k (0-k):=if_neg oO
  have eBp:kB n1 n2 k=n2*iMax k (0-k):=if_neg oO
  exact ⟨zon (congrArg (V.int .i64) (congrArg (fun z=>cmpI z l1) (eBp).symm)) (zhk (n2*iMax k (0-k)) l1 oO oO),zon (congrArg (V.int .i64) (congrArg (fun z=>cmpI z g2) (eAp).symm)) (zhk (n1*iMax k (0-k)) g2 oO oO),zon (congrArg (V.int .i64) (congrArg (fun z=>cmpI z l2) (eAp).symm)) (zhk (n1*iMax k (0-k)) l2 oO oO),zon (congrArg (V.int .i64) (congrArg (fun z=>cmpI z g1) (eBp).symm)) (zhk (n2*iMax k (0-k)) g1 oO oO)⟩
 have h1:∀ k:Int,Int.fdiv l1 n1-2≤k→k≤Int.fdiv l1 n1+8→k<0→Impl Tryz.prog Amb 96 [(zV (-(n1*iMax k (0-k)))),(zV l1)] (.int .i64 (cmpI (kB n1 n2 k) l1))∧Impl Tryz.prog Amb 96 [(zV (-(n2*iMax k (0-k)))),(zV g2)] (.int .i64 (cmpI (kA n1 n2 k) g2))∧Impl Tryz.prog Amb 96 [(zV (-(n2*iMax k (0-k)))),(zV l2)] (.int .i64 (cmpI (kA n1 n2 k) l2))∧Impl Tryz.prog Amb 96 [(zV (-(n1*iMax k (0-k)))),(zV g1)] (.int .i64 (cmpI (kB n1 n2 k) g1)):=fun k a b q=>by
  have z:=kl k a b
  have y1:=zcy (n1*iMax k (0-k))
  have y2:=zcy (n2*iMax k (0-k))
  have eAn:kA n1 n2 k=-(n2*iMax k (0-k)):=if_pos q
  have eBn:kB n1 n2 k=-(n1*iMax k (0-k)):=if_pos q
  exact ⟨zon (congrArg (V.int .i64) (congrArg (fun z=>cmpI z l1) (eBn).symm)) (zhk (-(n1*iMax k (0-k))) l1 oO oO),zon (congrArg (V.int .i64) (congrArg (fun z=>cmpI z g2) (eAn).symm)) (zhk (-(n2*iMax k (0-k))) g2 oO oO),zon (congrArg (V.int .i64) (congrArg (fun z=>cmpI z l2) (eAn).symm)) (zhk (-(n2*iMax k (0-k))) l2 oO oO),zon (congrArg (V.int .i64) (congrArg (fun z=>cmpI z g1) (eBn).symm)) (zhk (-(n1*iMax k (0-k))) g1 oO oO)⟩
 have rp:=fun c=>zwf (c:=c) (x1:=(fun k=>cmpI (kB n1 n2 k) l1)) (x2:=(fun k=>cmpI (kA n1 n2 k) g2)) H hTF (fun _=>rfl) (fun _=>rfl)
 have mb:∀ {p:Int→Bool},∀ x∈qf p (Int.fdiv l1 n1-2) 11,-10000000000≤x∧x≤10000000000:=fun x hx=>by
  have:=zwd hx
  omega
 by_cases hM:(qf (pmB (fun k=>cmpI (kB n1 n2 k) l1) (fun k=>cmpI (kA n1 n2 k) g2)) (Int.fdiv l1 n1-2) 11) = []
 ·have hD:(qf (pdB (fun k=>cmpI (kB n1 n2 k) l1) (fun k=>cmpI (kA n1 n2 k) g2) (fun k=>cmpI (kA n1 n2 k) l2) (fun k=>cmpI (kB n1 n2 k) g1)) (Int.fdiv l1 n1-2) 11) = []:=zvl hM
  refine ⟨_,_,zvn m ee n f w p1 p2 n1 n2 l1 l2 g1 g2 (Int.fdiv l1 n1) _ (fun k=>n1*iMax k (0-k)) (fun k=>n2*iMax k (0-k)) (fun k=>-(n2*iMax k (0-k))) (fun k=>-(n1*iMax k (0-k))) (fun k=>cmpI (kB n1 n2 k) l1) (fun k=>cmpI (kA n1 n2 k) g2) (fun k=>cmpI (kA n1 n2 k) l2) (fun k=>cmpI (kB n1 n2 k) g1) oO hP hO hA1 hA2 hDv oO hT hN (fun k a b q=>(h0 k a b q).1) (fun k a b q=>(h0 k a b q).2.1) (fun k a b q=>(h0 k a b q).2.2.1) (fun k a b q=>(h0 k a b q).2.2.2) (fun k a b q=>(h1 k a b q).1) (fun k a b q=>(h1 k a b q).2.1) (fun k a b q=>(h1 k a b q).2.2.1) (fun k a b q=>(h1 k a b q).2.2.2) hM,fun c hc=>⟨_,_,zw4 c,zw4 c,?_,fun q=>by cases q⟩⟩
  have r:=rp c
  rw [hM] at r
  exact r
 ·by_cases hD:(qf (pdB (fun k=>cmpI (kB n1 n2 k) l1) (fun k=>cmpI (kA n1 n2 k) g2) (fun k=>cmpI (kA n1 n2 k) l2) (fun k=>cmpI (kB n1 n2 k) g1)) (Int.fdiv l1 n1-2) 11) = []
  ·exact ⟨_,_,zvp m ee n f w p1 p2 n1 n2 l1 l2 g1 g2 (Int.fdiv l1 n1) _ (fun k=>n1*iMax k (0-k)) (fun k=>n2*iMax k (0-k)) (fun k=>-(n2*iMax k (0-k))) (fun k=>-(n1*iMax k (0-k))) (fun k=>cmpI (kB n1 n2 k) l1) (fun k=>cmpI (kA n1 n2 k) g2) (fun k=>cmpI (kA n1 n2 k) l2) (fun k=>cmpI (kB n1 n2 k) g1) oO hP hO hA1 hA2 hDv oO hT hN (fun k a b q=>(h0 k a b q).1) (fun k a b q=>(h0 k a b q).2.1) (fun k a b q=>(h0 k a b q).2.2.1) (fun k a b q=>(h0 k a b q).2.2.2) (fun k a b q=>(h1 k a b q).1) (fun k a b q=>(h1 k a b q).2.1) (fun k a b q=>(h1 k a b q).2.2.1) (fun k a b q=>(h1 k a b q).2.2.2) hM hD,fun c hc=>⟨_,_,zw2 _ c mb oO (Nat.le_trans (zvd _ _ _) oO),zw4 c,rp c,fun q=>by cases q⟩⟩
  ·exact ⟨_,_,zvr m ee n f w p1 p2 n1 n2 l1 l2 g1 g2 (Int.fdiv l1 n1) _ (fun k=>n1*iMax k (0-k)) (fun k=>n2*iMax k (0-k)) (fun k=>-(n2*iMax k (0-k))) (fun k=>-(n1*iMax k (0-k))) (fun k=>cmpI (kB n1 n2 k) l1) (fun k=>cmpI (kA n1 n2 k) g2) (fun k=>cmpI (kA n1 n2 k) l2) (fun k=>cmpI (kB n1 n2 k) g1) oO hP hO hA1 hA2 hDv oO hT hN (fun k a b q=>(h0 k a b q).1) (fun k a b q=>(h0 k a b q).2.1) (fun k a b q=>(h0 k a b q).2.2.1) (fun k a b q=>(h0 k a b q).2.2.2) (fun k a b q=>(h1 k a b q).1) (fun k a b q=>(h1 k a b q).2.1) (fun k a b q=>(h1 k a b q).2.2.1) (fun k a b q=>(h1 k a b q).2.2.2) hM hD,fun c hc=>⟨_,_,zw2 _ c mb oO (Nat.le_trans (zvd _ _ _) oO),zw2 _ c mb oO (Nat.le_trans (zvd _ _ _) oO),rp c,zwg⟩⟩
theorem w_eq {a b c d a' b' c' d':Int}(h1:a=a')(h2:b=b')(h3:c=c')(h4:d=d'):(V.agg [.bool (decide (a<0)),N a.natAbs,.int .i64 b,.bool (decide (c<0)),N c.natAbs,.int .i64 d])=.agg [.bool (decide (a'<0)),N a'.natAbs,.int .i64 b',.bool (decide (c'<0)),N c'.natAbs,.int .i64 d']:=by
 subst h1; subst h2; subst h3; subst h4; rfl
theorem zwn {a b c d p q r s a' b' c' d' p' q' r' s':Int}(h1:a=a'∧b=b')(h2:c=c'∧d=d')(h3:p=p'∧q=q')(h4:r=r'∧s=s'):(V.tup [.agg [.bool (decide (a<0)),N a.natAbs,.int .i64 b,.bool (decide (c<0)),N c.natAbs,.int .i64 d],.agg [.bool (decide (p<0)),N p.natAbs,.int .i64 q,.bool (decide (r<0)),N r.natAbs,.int .i64 s]]) =
  .tup [.agg [.bool (decide (a'<0)),N a'.natAbs,.int .i64 b',.bool (decide (c'<0)),N c'.natAbs,.int .i64 d'],.agg [.bool (decide (p'<0)),N p'.natAbs,.int .i64 q',.bool (decide (r'<0)),N r'.natAbs,.int .i64 s']]:=by
 obtain ⟨rfl,rfl⟩:=h1
 obtain ⟨rfl,rfl⟩:=h2
 obtain ⟨rfl,rfl⟩:=h3
 obtain ⟨rfl,rfl⟩:=h4
 rfl
theorem zwo {n:Nat}(hn:n≤1000):(mkM (2^n) (-(n:Int))=1∧mkX (2^n) (-(n:Int))=0)∧mkM (-(2^n)) (-(n:Int))=-1∧mkX (-(2^n)) (-(n:Int))=0:=by
 have p:((2^n:Nat):Int)=(2:Int)^n:=(zak _).symm
 have l:L ((2:Int)^n).natAbs≤70:=zqw (t:=n) (c:=1) oO oO oO
 have l':=zcy ((2:Int)^n)
 have f1:=zoq (m:=2^n) (e:=-(n:Int)) oO oO
 have f2:=zoq (m:=-(2^n)) (e:=-(n:Int)) oO oO
 have i1:=zht (-(n:Int)) 0
 have i2:iMax (-(n:Int)) 0≤0:=by unfold iMax; split<;>omega
 have d1:dv (2^n) (-(n:Int))=dv 1 0:=by
  rw [zn7 (m:=1) (e:=0) (c:=-(n:Int)) oO,show (0 - -(n:Int)).toNat=n by omega,Int.one_mul]
 have v1:vdb 1 0=true:=by decide
 have v2:vdb (-1) 0=true:=by decide
 have s1:=zwl f1.2.2.2.2.1 v1 oO oO (by rw [f1.2.2.2.2.2,d1])
 have s2:=zwl f2.2.2.2.2.1 v2 oO oO (by rw [f2.2.2.2.2.2,znd,znd,d1])
 exact ⟨⟨s1.2,s1.1⟩,s2.2,s2.1⟩
theorem zwp (a1 b1 a2 b2 w:Int)(hw:0≤w∧w≤200)(l1:L a1.natAbs≤75)(l2:L b1.natAbs≤75)(l3:L a2.natAbs≤75)(l4:L b2.natAbs≤75):Impl Tryz.prog Amb 141 [(wV (mkM a1 (-(w+16))) (mkX a1 (-(w+16))) (mkM b1 (-(w+16))) (mkX b1 (-(w+16)))),(wV (mkM a2 (-(w+16))) (mkX a2 (-(w+16))) (mkM b2 (-(w+16))) (mkX b2 (-(w+16))))] (wV (mkM (min a1 a2) (-(w+16))) (mkX (min a1 a2) (-(w+16))) (mkM (min b1 b2) (-(w+16))) (mkX (min b1 b2) (-(w+16)))):=by
 have f1:=zoq (m:=a1) (e:=-(w+16)) oO oO
 have f2:=zoq (m:=b1) (e:=-(w+16)) oO oO
 have f3:=zoq (m:=a2) (e:=-(w+16)) oO oO
 have f4:=zoq (m:=b2) (e:=-(w+16)) oO oO
 have i1:=zht (-(w+16)) 0
 have i2:iMax (-(w+16)) 0≤0:=by unfold iMax; split<;>omega
 have ea1:(if 0<cmpD (mkM a1 (-(w+16))) (mkX a1 (-(w+16))) (mkM a2 (-(w+16))) (mkX a2 (-(w+16))) then (mkM a2 (-(w+16))) else (mkM a1 (-(w+16))))=mkM (min a1 a2) (-(w+16))∧(if 0<cmpD (mkM a1 (-(w+16))) (mkX a1 (-(w+16))) (mkM a2 (-(w+16))) (mkX a2 (-(w+16))) then (mkX a2 (-(w+16))) else (mkX a1 (-(w+16))))=mkX (min a1 a2) (-(w+16)):=by
  have i:(0<cmpD (mkM a1 (-(w+16))) (mkX a1 (-(w+16))) (mkM a2 (-(w+16))) (mkX a2 (-(w+16))))↔a2<a1:=by
   rw [zom,f1.2.2.2.2.2,f3.2.2.2.2.2]
   constructor
   ·intro h
    refine Decidable.byContradiction fun hn=>?_
    have:=(zn9 (c:=-(w+16))).2 (show a1≤a2 by omega)
    grind
   ·intro h
    refine Decidable.byContradiction fun hn=>?_
    have z:dv a1 (-(w+16))≤dv a2 (-(w+16)):=by grind
    have:=zn9.1 z
    omega
  by_cases q:a2<a1
  ·rw [if_pos (i.2 q),if_pos (i.2 q),show min a1 a2=a2 by omega]; exact ⟨rfl,rfl⟩
  ·rw [if_neg (fun z=>q (i.1 z)),if_neg (fun z=>q (i.1 z)),show min a1 a2=a1 by omega]; exact ⟨rfl,rfl⟩
 have eb1:(if 0<cmpD (mkM b1 (-(w+16))) (mkX b1 (-(w+16))) (mkM b2 (-(w+16))) (mkX b2 (-(w+16))) then (mkM b2 (-(w+16))) else (mkM b1 (-(w+16))))=mkM (min b1 b2) (-(w+16))∧(if 0<cmpD (mkM b1 (-(w+16))) (mkX b1 (-(w+16))) (mkM b2 (-(w+16))) (mkX b2 (-(w+16))) then (mkX b2 (-(w+16))) else (mkX b1 (-(w+16))))=mkX (min b1 b2) (-(w+16)):=by
  have i:(0<cmpD (mkM b1 (-(w+16))) (mkX b1 (-(w+16))) (mkM b2 (-(w+16))) (mkX b2 (-(w+16))))↔b2<b1:=by
   rw [zom,f2.2.2.2.2.2,f4.2.2.2.2.2]
   constructor
   ·intro h
    refine Decidable.byContradiction fun hn=>?_
    have:=(zn9 (c:=-(w+16))).2 (show b1≤b2 by omega)
    grind
   ·intro h
    refine Decidable.byContradiction fun hn=>?_
    have z:dv b1 (-(w+16))≤dv b2 (-(w+16)):=by grind
    have:=zn9.1 z
    omega
  by_cases q:b2<b1
  ·rw [if_pos (i.2 q),if_pos (i.2 q),show min b1 b2=b2 by omega]; exact ⟨rfl,rfl⟩
  ·rw [if_neg (fun z=>q (i.1 z)),if_neg (fun z=>q (i.1 z)),show min b1 b2=b1 by omega]; exact ⟨rfl,rfl⟩
 exact zon (w_eq ea1.1 ea1.2 eb1.1 eb1.2) (zw5 (mkM a1 (-(w+16))) (mkX a1 (-(w+16))) (mkM b1 (-(w+16))) (mkX b1 (-(w+16))) (mkM a2 (-(w+16))) (mkX a2 (-(w+16))) (mkM b2 (-(w+16))) (mkX b2 (-(w+16))) oO oO oO oO oO oO oO oO)
theorem zwq (a1 b1 a2 b2 w:Int)(hw:0≤w∧w≤200)(l1:L a1.natAbs≤75)(l2:L b1.natAbs≤75)(l3:L a2.natAbs≤75)(l4:L b2.natAbs≤75):Impl Tryz.prog Amb 142 [(wV (mkM a1 (-(w+16))) (mkX a1 (-(w+16))) (mkM b1 (-(w+16))) (mkX b1 (-(w+16)))),(wV (mkM a2 (-(w+16))) (mkX a2 (-(w+16))) (mkM b2 (-(w+16))) (mkX b2 (-(w+16))))] (wV (mkM (max a1 a2) (-(w+16))) (mkX (max a1 a2) (-(w+16))) (mkM (max b1 b2) (-(w+16))) (mkX (max b1 b2) (-(w+16)))):=by
 have f1:=zoq (m:=a1) (e:=-(w+16)) oO oO
 have f2:=zoq (m:=b1) (e:=-(w+16)) oO oO
 have f3:=zoq (m:=a2) (e:=-(w+16)) oO oO
 have f4:=zoq (m:=b2) (e:=-(w+16)) oO oO
 have i1:=zht (-(w+16)) 0
 have i2:iMax (-(w+16)) 0≤0:=by unfold iMax; split<;>omega
 have ea1:(if cmpD (mkM a1 (-(w+16))) (mkX a1 (-(w+16))) (mkM a2 (-(w+16))) (mkX a2 (-(w+16)))<0 then (mkM a2 (-(w+16))) else (mkM a1 (-(w+16))))=mkM (max a1 a2) (-(w+16))∧(if cmpD (mkM a1 (-(w+16))) (mkX a1 (-(w+16))) (mkM a2 (-(w+16))) (mkX a2 (-(w+16)))<0 then (mkX a2 (-(w+16))) else (mkX a1 (-(w+16))))=mkX (max a1 a2) (-(w+16)):=by
  have i:(cmpD (mkM a1 (-(w+16))) (mkX a1 (-(w+16))) (mkM a2 (-(w+16))) (mkX a2 (-(w+16)))<0)↔a1<a2:=by
   rw [zol,f1.2.2.2.2.2,f3.2.2.2.2.2]
   constructor
   ·intro h
    refine Decidable.byContradiction fun hn=>?_
    have:=(zn9 (c:=-(w+16))).2 (show a2≤a1 by omega)
    grind
   ·intro h
    refine Decidable.byContradiction fun hn=>?_
    have z:dv a2 (-(w+16))≤dv a1 (-(w+16)):=by grind
    have:=zn9.1 z
    omega
  by_cases q:a1<a2
  ·rw [if_pos (i.2 q),if_pos (i.2 q),show max a1 a2=a2 by omega]; exact ⟨rfl,rfl⟩
  ·rw [if_neg (fun z=>q (i.1 z)),if_neg (fun z=>q (i.1 z)),show max a1 a2=a1 by omega]; exact ⟨rfl,rfl⟩
 have eb1:(if cmpD (mkM b1 (-(w+16))) (mkX b1 (-(w+16))) (mkM b2 (-(w+16))) (mkX b2 (-(w+16)))<0 then (mkM b2 (-(w+16))) else (mkM b1 (-(w+16))))=mkM (max b1 b2) (-(w+16))∧(if cmpD (mkM b1 (-(w+16))) (mkX b1 (-(w+16))) (mkM b2 (-(w+16))) (mkX b2 (-(w+16)))<0 then (mkX b2 (-(w+16))) else (mkX b1 (-(w+16))))=mkX (max b1 b2) (-(w+16)):=by
  have i:(cmpD (mkM b1 (-(w+16))) (mkX b1 (-(w+16))) (mkM b2 (-(w+16))) (mkX b2 (-(w+16)))<0)↔b1<b2:=by
   rw [zol,f2.2.2.2.2.2,f4.2.2.2.2.2]
   constructor
   ·intro h
    refine Decidable.byContradiction fun hn=>?_
    have:=(zn9 (c:=-(w+16))).2 (show b2≤b1 by omega)
    grind
   ·intro h
    refine Decidable.byContradiction fun hn=>?_
    have z:dv b2 (-(w+16))≤dv b1 (-(w+16)):=by grind
    have:=zn9.1 z
    omega
  by_cases q:b1<b2
  ·rw [if_pos (i.2 q),if_pos (i.2 q),show max b1 b2=b2 by omega]; exact ⟨rfl,rfl⟩
  ·rw [if_neg (fun z=>q (i.1 z)),if_neg (fun z=>q (i.1 z)),show max b1 b2=b1 by omega]; exact ⟨rfl,rfl⟩
 exact zon (w_eq ea1.1 ea1.2 eb1.1 eb1.2) (zw6 (mkM a1 (-(w+16))) (mkX a1 (-(w+16))) (mkM b1 (-(w+16))) (mkX b1 (-(w+16))) (mkM a2 (-(w+16))) (mkX a2 (-(w+16))) (mkM b2 (-(w+16))) (mkX b2 (-(w+16))) oO oO oO oO oO oO oO oO)
theorem zwr (m ee n f w:Int)(hw:0≤w∧w≤200)(hm:L (m).natAbs≤20)(he:-440≤ee∧ee≤130)(hd:-4294967296≤dv m ee∧dv m ee≤4294967296)(hn:L (n).natAbs≤20)(hf:-440≤f∧f≤130)(v1:vdb m ee=true)(v2:vdb n f=true)(t1:topD m ee≤34)(t2:topD n f≤34) :
  ∃ (i1 i2 i3 i4:Bool) (sl sh tl th:Int),Impl Tryz.prog Amb 79 [(wV m ee n f),(.int .i64 w),(.bool false)] (.tup [(wV (mkM (cond i3 (-((2:Int)^(w+16).toNat)) (min sl tl)) (-(w+16))) (mkX (cond i3 (-((2:Int)^(w+16).toNat)) (min sl tl)) (-(w+16))) (mkM (cond i4 (-((2:Int)^(w+16).toNat)) (min sh th)) (-(w+16))) (mkX (cond i4 (-((2:Int)^(w+16).toNat)) (min sh th)) (-(w+16)))),(wV (mkM (cond i2 ((2:Int)^(w+16).toNat) (max sl tl)) (-(w+16))) (mkX (cond i2 ((2:Int)^(w+16).toNat) (max sl tl)) (-(w+16))) (mkM (cond i1 ((2:Int)^(w+16).toNat) (max sh th)) (-(w+16))) (mkX (cond i1 ((2:Int)^(w+16).toNat) (max sh th)) (-(w+16))))])∧((L sl.natAbs≤75∧L sh.natAbs≤75)∧L tl.natAbs≤75∧L th.natAbs≤75)∧(∀ g:Rat,0<g→EnE (SC 0 (dv m ee)) (w.toNat+16) sl sh g∧EnE (SC 0 (dv n f)) (w.toNat+16) tl th g) ∧
   (Rp (dv m ee) (dv n f) w (1-0) i1∧(i2=true→i1=true))∧(Rp (dv m ee) (dv n f) w (3-0) i3∧(i4=true→i3=true)):=by
 obtain ⟨a1,a2,a3,a4,hA,⟨⟨k1,k2⟩,k3,k4⟩,_,eA⟩:=zv4 m ee w oO oO hw t1
 obtain ⟨b1,b2,b3,b4,hB,⟨⟨k5,k6⟩,k7,k8⟩,_,eB⟩:=zv4 n f w oO oO hw t2
 obtain ⟨mv,dv_,hQ,hc⟩:=zwm m ee n f w hw hm he hd hn hf v1 v2
 obtain ⟨i1,i2,j1,j2,r1,r2⟩:=hc 1 oO
 obtain ⟨i3,i4,j3,j4,r3,r4⟩:=hc 3 oO
 have hL:=zwp a1 a2 b1 b2 w hw oO oO oO oO
 have hG:=zwq a1 a2 b1 b2 w hw oO oO oO oO
 have hO:=zjb 1 oO
 have hO':Impl Tryz.prog Amb 17 [(.int .i64 1)] (yV (1:Int) 0):=zon (by kernel_rfl) hO
 have hN':Impl Tryz.prog Amb 17 [(.int .i64 (-1))] (yV (-1:Int) 0):=zon (by kernel_rfl) (zjb (-1) oO)
 have h:=zw7 m ee n f w _ _ _ _ _ _ _ _ _ _ _ _ _ _ _ _ _ _ _ _ _ _ _ _ mv dv_ i1 i2 i3 i4 hA hB hL hG hQ hO' hN' j1 j2 j3 j4
 have mp:=zwo (n:=(w+16).toNat) oO
 rw [Int.toNat_of_nonneg (show 0≤w+16 by omega)] at mp
 refine ⟨i1,i2,i3,i4,a1,a2,b1,b2,zon (zwn ?_ ?_ ?_ ?_) h,⟨⟨by omega,by omega⟩,by omega,by omega⟩,fun g hg=>⟨(eA g hg).1,(eB g hg).1⟩,⟨r1,r2⟩,r3,r4⟩
 ·cases i3
  ·exact ⟨rfl,rfl⟩
  ·exact ⟨mp.2.1.symm,mp.2.2.symm⟩
 ·cases i4
  ·exact ⟨rfl,rfl⟩
  ·exact ⟨mp.2.1.symm,mp.2.2.symm⟩
 ·cases i2
  ·exact ⟨rfl,rfl⟩
  ·exact ⟨mp.1.1.symm,mp.1.2.symm⟩
 ·cases i1
  ·exact ⟨rfl,rfl⟩
  ·exact ⟨mp.1.1.symm,mp.1.2.symm⟩
theorem zws (m ee n f w:Int)(hw:0≤w∧w≤200)(hm:L (m).natAbs≤20)(he:-440≤ee∧ee≤130)(hd:-4294967296≤dv m ee∧dv m ee≤4294967296)(hn:L (n).natAbs≤20)(hf:-440≤f∧f≤130)(v1:vdb m ee=true)(v2:vdb n f=true)(t1:topD m ee≤34)(t2:topD n f≤34) :
  ∃ (i1 i2 i3 i4:Bool) (sl sh tl th:Int),Impl Tryz.prog Amb 79 [(wV m ee n f),(.int .i64 w),(.bool true)] (.tup [(wV (mkM (cond i3 (-((2:Int)^(w+16).toNat)) (min sl tl)) (-(w+16))) (mkX (cond i3 (-((2:Int)^(w+16).toNat)) (min sl tl)) (-(w+16))) (mkM (cond i4 (-((2:Int)^(w+16).toNat)) (min sh th)) (-(w+16))) (mkX (cond i4 (-((2:Int)^(w+16).toNat)) (min sh th)) (-(w+16)))),(wV (mkM (cond i2 ((2:Int)^(w+16).toNat) (max sl tl)) (-(w+16))) (mkX (cond i2 ((2:Int)^(w+16).toNat) (max sl tl)) (-(w+16))) (mkM (cond i1 ((2:Int)^(w+16).toNat) (max sh th)) (-(w+16))) (mkX (cond i1 ((2:Int)^(w+16).toNat) (max sh th)) (-(w+16))))])∧((L sl.natAbs≤75∧L sh.natAbs≤75)∧L tl.natAbs≤75∧L th.natAbs≤75)∧(∀ g:Rat,0<g→EnE (SC 1 (dv m ee)) (w.toNat+16) sl sh g∧EnE (SC 1 (dv n f)) (w.toNat+16) tl th g) ∧
   (Rp (dv m ee) (dv n f) w (1-1) i1∧(i2=true→i1=true))∧(Rp (dv m ee) (dv n f) w (3-1) i3∧(i4=true→i3=true)):=by
 obtain ⟨a1,a2,a3,a4,hA,⟨⟨k1,k2⟩,k3,k4⟩,_,eA⟩:=zv4 m ee w oO oO hw t1
 obtain ⟨b1,b2,b3,b4,hB,⟨⟨k5,k6⟩,k7,k8⟩,_,eB⟩:=zv4 n f w oO oO hw t2
 obtain ⟨mv,dv_,hQ,hc⟩:=zwm m ee n f w hw hm he hd hn hf v1 v2
 obtain ⟨i1,i2,j1,j2,r1,r2⟩:=hc 0 oO
 obtain ⟨i3,i4,j3,j4,r3,r4⟩:=hc 2 oO
 have hL:=zwp a3 a4 b3 b4 w hw oO oO oO oO
 have hG:=zwq a3 a4 b3 b4 w hw oO oO oO oO
 have hO:=zjb 1 oO
 have hO':Impl Tryz.prog Amb 17 [(.int .i64 1)] (yV (1:Int) 0):=zon (by kernel_rfl) hO
 have hN':Impl Tryz.prog Amb 17 [(.int .i64 (-1))] (yV (-1:Int) 0):=zon (by kernel_rfl) (zjb (-1) oO)
 have h:=zw8 m ee n f w _ _ _ _ _ _ _ _ _ _ _ _ _ _ _ _ _ _ _ _ _ _ _ _ mv dv_ i1 i2 i3 i4 hA hB hL hG hQ hO' hN' j1 j2 j3 j4
 have mp:=zwo (n:=(w+16).toNat) oO
 rw [Int.toNat_of_nonneg (show 0≤w+16 by omega)] at mp
 refine ⟨i1,i2,i3,i4,a3,a4,b3,b4,zon (zwn ?_ ?_ ?_ ?_) h,⟨⟨by omega,by omega⟩,by omega,by omega⟩,fun g hg=>⟨(eA g hg).2,(eB g hg).2⟩,⟨r1,r2⟩,r3,r4⟩
 ·cases i3
  ·exact ⟨rfl,rfl⟩
  ·exact ⟨mp.2.1.symm,mp.2.2.symm⟩
 ·cases i4
  ·exact ⟨rfl,rfl⟩
  ·exact ⟨mp.2.1.symm,mp.2.2.symm⟩
 ·cases i2
  ·exact ⟨rfl,rfl⟩
  ·exact ⟨mp.1.1.symm,mp.1.2.symm⟩
 ·cases i1
  ·exact ⟨rfl,rfl⟩
  ·exact ⟨mp.1.1.symm,mp.1.2.symm⟩
end Go.Proofs.YtcbihoojfakhdaaGreatDoor

namespace Go.Proofs.YtcbihoojfakhdaaGreatDoor
open Go.RowKit
set_option maxRecDepth 100000
set_option maxHeartbeats 4000000
theorem zwt {P x1 x2 y1 y2 sl sh tl th:Int}{bt i3 i4:Bool}(hP:1≤P)(hx:x1≤x2∧x2-x1≤2)(hy:y1≤y2∧y2-y1≤2)(ox:x1≤P∧-P≤x2)(oy:y1≤P∧-P≤y2)(os:sl≤P*65536∧-(P*65536)≤sh)(ot:tl≤P*65536∧-(P*65536)≤th)
  (mx:x1*65536≤sh∧sl≤x2*65536) (my:y1*65536≤th∧tl≤y2*65536) (b1:bt=false→i3=false) (b2:bt=true→i3=false→sl≤-(P*65536)+300∨tl≤-(P*65536)+300) (b3:i4=true→i3=true) :
  ∃ lo:Int,(if bt then -P else max (-P) (min x1 y1))=lo∧(lo≤P∧-P≤lo)∧(lo=-P∨lo≤x1∨lo≤y1)∧lo*65536≤cond i4 (-(P*65536)) (min sh th)∧cond i3 (-(P*65536)) (min sl tl)≤(lo+2)*65536:=by
 cases bt with
 | false =>
  have h3:=b1 rfl
  subst h3
  have h4:i4=false:=by
   cases i4 with
   | false=>rfl
   | true=>exact absurd (b3 rfl) (by decide)
  subst h4
  refine ⟨max (-P) (min x1 y1),rfl,by omega,by omega,?_,?_⟩
  ·show max (-P) (min x1 y1)*65536≤min sh th
   omega
  ·show min sl tl≤(max (-P) (min x1 y1)+2)*65536
   omega
 | true =>
  cases i3 with
  | true =>
   refine ⟨-P,rfl,by omega,.inl rfl,?_,?_⟩
   ·cases i4
    ·show -P*65536≤min sh th
     omega
    ·show -P*65536≤-(P*65536)
     omega
   ·show -(P*65536)≤(-P+2)*65536
    omega
  | false =>
   have h4:i4=false:=by
    cases i4 with
    | false=>rfl
    | true=>exact absurd (b3 rfl) (by decide)
   subst h4
   have q:=b2 rfl rfl
   refine ⟨-P,rfl,by omega,.inl rfl,?_,?_⟩
   ·show -P*65536≤min sh th
    omega
   ·show min sl tl≤(-P+2)*65536
    omega
theorem zwu {P x1 x2 y1 y2 sl sh tl th:Int}{tp i1 i2:Bool}(hP:1≤P)(hx:x1≤x2∧x2-x1≤2)(hy:y1≤y2∧y2-y1≤2)(ox:x1≤P∧-P≤x2)(oy:y1≤P∧-P≤y2)(os:sl≤P*65536∧-(P*65536)≤sh)(ot:tl≤P*65536∧-(P*65536)≤th)
  (mx:x1*65536≤sh∧sl≤x2*65536) (my:y1*65536≤th∧tl≤y2*65536) (b1:tp=false→i1=false) (b2:tp=true→i1=false→P*65536-300≤sh∨P*65536-300≤th) (b3:i2=true→i1=true) :
  ∃ hi:Int,(if tp then P else min P (max x2 y2))=hi∧(hi≤P∧-P≤hi)∧(hi=P∨(x2≤hi∧y2≤hi))∧cond i2 (P*65536) (max sl tl)≤hi*65536∧(hi-2)*65536≤cond i1 (P*65536) (max sh th):=by
 cases tp with
 | false =>
  have h3:=b1 rfl
  subst h3
  have h4:i2=false:=by
   cases i2 with
   | false=>rfl
   | true=>exact absurd (b3 rfl) (by decide)
  subst h4
  refine ⟨min P (max x2 y2),rfl,by omega,by omega,?_,?_⟩
  ·show max sl tl≤min P (max x2 y2)*65536
   omega
  ·show (min P (max x2 y2)-2)*65536≤max sh th
   omega
 | true =>
  cases i1 with
  | true =>
   refine ⟨P,rfl,by omega,.inl rfl,?_,?_⟩
   ·cases i2
    ·show max sl tl≤P*65536
     omega
    ·show P*65536≤P*65536
     omega
   ·show (P-2)*65536≤P*65536
    omega
  | false =>
   have h4:i2=false:=by
    cases i2 with
    | false=>rfl
    | true=>exact absurd (b3 rfl) (by decide)
   subst h4
   have q:=b2 rfl rfl
   refine ⟨P,rfl,by omega,.inl rfl,?_,?_⟩
   ·show max sl tl≤P*65536
    omega
   ·show (P-2)*65536≤max sh th
    omega
theorem sE_num:sE*((2^300:Int):Rat)*8≤1∧0≤sE∧qerr sM≤sE:=⟨of_decide_eq_true (by kernel_rfl),of_decide_eq_true (by kernel_rfl),of_decide_eq_true (by kernel_rfl)⟩
theorem zwv {t:Nat}(ht:t≤300):0≤sE*((2^t:Int):Rat)∧8*(sE*((2^t:Int):Rat))≤1∧8*(qerr sM*((2^t:Int):Rat))≤1:=by
 have n:=sE_num
 have p0:(0:Rat)<((2^t:Int):Rat):=Rat.intCast_pos.2 (zi5 t)
 have e:((2^300:Int):Rat)=((2^t:Int):Rat)*((2^(300-t):Int):Rat):=by rw [← Rat.intCast_mul,← Int.pow_add]; congr 2; omega
 have a:(1:Rat)≤((2^(300-t):Int):Rat):=by
  have:=zi5 (300-t)
  exact Rat.intCast_le_intCast.2 (show (1:Int)≤2^(300-t) by omega)
 have m:=Rat.mul_le_mul_of_nonneg_left a (Rat.mul_nonneg n.2.1 (Rat.le_of_lt p0))
 have q:=Rat.mul_le_mul_of_nonneg_right n.2.2 (Rat.le_of_lt p0)
 rw [e] at n
 refine ⟨Rat.mul_nonneg n.2.1 (Rat.le_of_lt p0),by grind,by grind⟩
theorem zww {d:Rat}{k more w sl sh:Int}(hm:more=0∨more=1)(hw:0≤w∧w≤200)(hd:-4294967296≤d∧d≤4294967296)(hn:(0≤d-(k:Rat)*cQ∧(d-(k:Rat)*cQ)*((2^(w+8).toNat:Int):Rat)≤5)∨(0≤(k:Rat)*cQ-d∧((k:Rat)*cQ-d)*((2^(w+8).toNat:Int):Rat)≤5))
  (he:EnE (SC more d) (w.toNat+16) sl sh (1 / 8)):((k-(3-more))%4=0→sl≤-(2^w.toNat*65536)+300)∧((k-(1-more))%4=0→2^w.toNat*65536-300≤sh):=by
 have F256:(256:Rat)≤((2^(w+8).toNat:Int):Rat):=by
  have p:=Int.ofNat_le.2 (Nat.pow_le_pow_right (n:=2) oO (show 8≤(w+8).toNat by omega))
  rw [← zak,← zak] at p
  exact Rat.intCast_le_intCast.2 p
 have e16:((2^(w.toNat+16):Int):Rat)=((2^(w+8).toNat:Int):Rat)*256:=by
  rw [show w.toNat+16=(w+8).toNat+8 by omega,Int.pow_add,Rat.intCast_mul]; rfl
 have eP:(((2:Int)^w.toNat*65536:Int):Rat)=((2^(w+8).toNat:Int):Rat)*256:=by
  rw [← e16,Int.pow_add]; rfl
 have qs:=(zwv (t:=w.toNat+16) oO).2.2
 rw [e16] at qs
 have cb:=cQ_b
 obtain ⟨u,u0,uF,hu⟩:∃ u,0≤u∧u*((2^(w+8).toNat:Int):Rat)≤5∧(d-(k:Rat)*cQ=u∨d-(k:Rat)*cQ=-u):=by
  rcases hn with ⟨a,b⟩ | ⟨a,b⟩
  ·exact ⟨_,a,b,.inl rfl⟩
  ·exact ⟨_,a,b,.inr (by grind)⟩
 have u1:u≤1:=by
  refine Rat.le_of_mul_le_mul_right (c:=((2^(w+8).toNat:Int):Rat)) ?_ (by grind)
  grind
 have hk:k.natAbs≤sM:=by
  have k1:k≤4294967296:=by
   refine Decidable.byContradiction fun hn=>?_
   have m:=Rat.mul_le_mul_of_nonneg_right (Rat.intCast_le_intCast.2 (show (4294967297:Int)≤k by omega)) (show 0≤cQ by grind)
   have m:(4294967297:Rat)*cQ≤(k:Rat)*cQ:=m
   rcases hu with h | h<;>grind
  have k2:-4294967296≤k:=by
   refine Decidable.byContradiction fun hn=>?_
   have z:(k:Rat)≤-4294967297:=Rat.intCast_le_intCast.2 (show k≤-4294967297 by omega)
   have m:=Rat.mul_le_mul_of_nonneg_right z (show 0≤cQ by grind)
   rcases hu with h | h<;>grind
  unfold sM; omega
 have ex:=zwi (d:=d) (u:=u) (F:=((2^(w+8).toNat:Int):Rat)) (k:=k) hm hk F256 u0 uF hu
 obtain ⟨N,he⟩:=he
 constructor
 ·intro hc
  obtain ⟨M,h⟩:=ex.1 hc
  have h:=h (N+M) oO
  have he:=(he (N+M) oO).1
  rw [e16] at he
  refine Rat.intCast_le_intCast.1 ?_
  rw [Rat.intCast_add,Rat.intCast_neg,eP]
  show (sl:Rat)≤_+(300:Rat)
  generalize SC more d (N+M)=z at *
  generalize ((2^(w+8).toNat:Int):Rat)=F at *
  grind
 ·intro hc
  obtain ⟨M,h⟩:=ex.2 hc
  have h:=h (N+M) oO
  have he:=(he (N+M) oO).2
  rw [e16] at he
  refine Rat.intCast_le_intCast.1 ?_
  rw [Rat.intCast_sub,eP]
  show _-(300:Rat)≤(sh:Rat)
  generalize SC more d (N+M)=z at *
  generalize ((2^(w+8).toNat:Int):Rat)=F at *
  grind
theorem fitS (m ee n f w:Int)(hw:0≤w∧w≤200)(hm:L (m).natAbs≤20)(he:-440≤ee∧ee≤130)(hd:-4294967296≤dv m ee∧dv m ee≤4294967296)(hn:L (n).natAbs≤20)(hf:-440≤f∧f≤130)(hd':-4294967296≤dv n f∧dv n f≤4294967296)(v1:vdb m ee=true)(v2:vdb n f=true)(t1:topD m ee≤34)(t2:topD n f≤34) :
  ∃ (lo hi:Int) (la lb lc ld ha hb hc hd:Int),Impl Tryz.prog Amb 34 [(wV m ee n f),(.int .i64 w)] (.tup [(wV (mkM lo (-w)) (mkX lo (-w)) (mkM hi (-w)) (mkX hi (-w))),(.int .i64 0)])∧Impl Tryz.prog Amb 42 [(wV (mkM lo (-w)) (mkX lo (-w)) (mkM hi (-w)) (mkX hi (-w)))] (.bool true)∧Impl Tryz.prog Amb 79 [(wV m ee n f),(.int .i64 w),(.bool false)] (.tup [(wV la lb lc ld),(wV ha hb hc hd)])∧Impl Tryz.prog Amb 22 [(wV (mkM lo (-w)) (mkX lo (-w)) (mkM hi (-w)) (mkX hi (-w))),(wV la lb lc ld),(wV ha hb hc hd),(.int .i64 w)] (.bool true):=by
 obtain ⟨tp,bt,x1,x2,y1,y2,hI,⟨wx,eX,lx⟩,⟨wy,eY,ly⟩,pT,pB⟩:=zub m ee n f 0 w (.inl rfl) hw hm he hd hn hf hd'
 obtain ⟨i1,i2,i3,i4,sl,sh,tl,th,hR,⟨⟨k1,k2⟩,k3,k4⟩,eR,⟨r1,r2⟩,r3,r4⟩:=zwr m ee n f w hw hm he hd hn hf v1 v2 t1 t2
 have g8:(0:Rat)<1 / 8:=r8.1
 have eS:=(eR (1 / 8) g8).1
 have eT:=(eR (1 / 8) g8).2
 have sc:=zwv (t:=w.toNat) oO
 have sc2:=zwv (t:=w.toNat+16) oO
 have e2:sE*((2^w.toNat:Int):Rat)*((2^16:Int):Rat)=sE*((2^(w.toNat+16):Int):Rat):=by rw [Int.pow_add,Rat.intCast_mul,Rat.mul_assoc]
 have mX:=EnE.meet (n:=16) eX eS (by rw [e2]; grind)
 have mY:=EnE.meet (n:=16) eY eT (by rw [e2]; grind)
 have oX:=zwk (by grind) eX
 have oY:=zwk (by grind) eY
 have oS:=zwk (by grind) eS
 have oT:=zwk (by grind) eT
 have P16:(2:Int)^(w.toNat+16)=2^w.toNat*65536:=by rw [Int.pow_add]; rfl
 rw [P16] at oS oT
 rw [show (2:Int)^16=65536 from rfl] at mX mY
 have P1:(1:Int)≤2^w.toNat:=zi5 _
 have qb:=zwh pB r3
 have qt:=zwh pT r1
 obtain ⟨lo,hlo,ul,pl,n1,n2⟩:=zwt P1 wx wy oX oY oS oT mX mY qb.1 (fun a b=>by
  obtain ⟨k,hk,h⟩:=qb.2 a b
  rcases h with h | h
  ·exact .inl ((zww (.inl rfl) hw hd (.inl h) eS).1 hk)
  ·exact .inr ((zww (.inl rfl) hw hd' (.inr h) eT).1 hk)) r4
 obtain ⟨hi,hhi,uh,ph,n3,n4⟩:=zwu P1 wx wy oX oY oS oT mX mY qt.1 (fun a b=>by
  obtain ⟨k,hk,h⟩:=qt.2 a b
  rcases h with h | h
  ·exact .inl ((zww (.inl rfl) hw hd (.inl h) eS).2 hk)
  ·exact .inr ((zww (.inl rfl) hw hd' (.inr h) eT).2 hk)) r2
 rw [hlo,hhi] at hI
 have P16':(2:Int)^(w+16).toNat=2^w.toNat*65536:=by rw [show (w+16).toNat=w.toNat+16 by omega]; exact P16
 rw [P16'] at hR
 have pv2:((2^w.toNat:Nat):Int)=(2:Int)^w.toNat:=(zak _).symm
 have ll:L lo.natAbs≤70:=zqw (t:=w.toNat) (c:=1) oO oO oO
 have lh:L hi.natAbs≤70:=zqw (t:=w.toNat) (c:=1) oO oO oO
 have lp:L ((2:Int)^w.toNat*65536).natAbs≤70:=zqw (t:=w.toNat) (c:=65536) oO oO oO
 have lq:=zcy ((2:Int)^w.toNat*65536)
 have z1:=ztq sl tl
 have z2:=ztq sh th
 have z3:=ztr sl tl
 have z4:=ztr sh th
 have oLH:lo≤hi:=by omega
 have c1:L (cond i3 (-((2:Int)^w.toNat*65536)) (min sl tl)).natAbs≤300:=by cases i3<;>simp only [cond_true,cond_false]<;>omega
 have c2:L (cond i4 (-((2:Int)^w.toNat*65536)) (min sh th)).natAbs≤300:=by cases i4<;>simp only [cond_true,cond_false]<;>omega
 have c3:L (cond i2 ((2:Int)^w.toNat*65536) (max sl tl)).natAbs≤300:=by cases i2<;>simp only [cond_true,cond_false]<;>omega
 have c4:L (cond i1 ((2:Int)^w.toNat*65536) (max sh th)).natAbs≤300:=by cases i1<;>simp only [cond_true,cond_false]<;>omega
 have hNr:=zq0 lo hi (cond i3 (-((2:Int)^w.toNat*65536)) (min sl tl)) (cond i4 (-((2:Int)^w.toNat*65536)) (min sh th)) (cond i2 ((2:Int)^w.toNat*65536) (max sl tl)) (cond i1 ((2:Int)^w.toNat*65536) (max sh th)) w oO oO oO c1 c2 c3 c4 oLH (by rw [show (2:Int)^16=65536 from rfl]; exact n1) (by rw [show (2:Int)^16=65536 from rfl]; exact n2) (by rw [show (2:Int)^16=65536 from rfl]; exact n3) (by rw [show (2:Int)^16=65536 from rfl]; exact n4)
 exact ⟨lo,hi,_,_,_,_,_,_,_,_,zu3 m ee n f w _ _ _ _ 0 hI,zuj lo hi w oO ul uh,hR,hNr⟩
theorem fitC (m ee n f w:Int)(hw:0≤w∧w≤200)(hm:L (m).natAbs≤20)(he:-440≤ee∧ee≤130)(hd:-4294967296≤dv m ee∧dv m ee≤4294967296)(hn:L (n).natAbs≤20)(hf:-440≤f∧f≤130)(hd':-4294967296≤dv n f∧dv n f≤4294967296)(v1:vdb m ee=true)(v2:vdb n f=true)(t1:topD m ee≤34)(t2:topD n f≤34) :
  ∃ (lo hi:Int) (la lb lc ld ha hb hc hd:Int),Impl Tryz.prog Amb 35 [(wV m ee n f),(.int .i64 w)] (.tup [(wV (mkM lo (-w)) (mkX lo (-w)) (mkM hi (-w)) (mkX hi (-w))),(.int .i64 0)])∧Impl Tryz.prog Amb 42 [(wV (mkM lo (-w)) (mkX lo (-w)) (mkM hi (-w)) (mkX hi (-w)))] (.bool true)∧Impl Tryz.prog Amb 79 [(wV m ee n f),(.int .i64 w),(.bool true)] (.tup [(wV la lb lc ld),(wV ha hb hc hd)])∧Impl Tryz.prog Amb 22 [(wV (mkM lo (-w)) (mkX lo (-w)) (mkM hi (-w)) (mkX hi (-w))),(wV la lb lc ld),(wV ha hb hc hd),(.int .i64 w)] (.bool true):=by
 obtain ⟨tp,bt,x1,x2,y1,y2,hI,⟨wx,eX,lx⟩,⟨wy,eY,ly⟩,pT,pB⟩:=zub m ee n f 1 w (.inr rfl) hw hm he hd hn hf hd'
 obtain ⟨i1,i2,i3,i4,sl,sh,tl,th,hR,⟨⟨k1,k2⟩,k3,k4⟩,eR,⟨r1,r2⟩,r3,r4⟩:=zws m ee n f w hw hm he hd hn hf v1 v2 t1 t2
 have g8:(0:Rat)<1 / 8:=r8.1
 have eS:=(eR (1 / 8) g8).1
 have eT:=(eR (1 / 8) g8).2
 have sc:=zwv (t:=w.toNat) oO
 have sc2:=zwv (t:=w.toNat+16) oO
 have e2:sE*((2^w.toNat:Int):Rat)*((2^16:Int):Rat)=sE*((2^(w.toNat+16):Int):Rat):=by rw [Int.pow_add,Rat.intCast_mul,Rat.mul_assoc]
 have mX:=EnE.meet (n:=16) eX eS (by rw [e2]; grind)
 have mY:=EnE.meet (n:=16) eY eT (by rw [e2]; grind)
 have oX:=zwk (by grind) eX
 have oY:=zwk (by grind) eY
 have oS:=zwk (by grind) eS
 have oT:=zwk (by grind) eT
 have P16:(2:Int)^(w.toNat+16)=2^w.toNat*65536:=by rw [Int.pow_add]; rfl
 rw [P16] at oS oT
 rw [show (2:Int)^16=65536 from rfl] at mX mY
 have P1:(1:Int)≤2^w.toNat:=zi5 _
 have qb:=zwh pB r3
 have qt:=zwh pT r1
 obtain ⟨lo,hlo,ul,pl,n1,n2⟩:=zwt P1 wx wy oX oY oS oT mX mY qb.1 (fun a b=>by
  obtain ⟨k,hk,h⟩:=qb.2 a b
  rcases h with h | h
  ·exact .inl ((zww (.inr rfl) hw hd (.inl h) eS).1 hk)
  ·exact .inr ((zww (.inr rfl) hw hd' (.inr h) eT).1 hk)) r4
 obtain ⟨hi,hhi,uh,ph,n3,n4⟩:=zwu P1 wx wy oX oY oS oT mX mY qt.1 (fun a b=>by
  obtain ⟨k,hk,h⟩:=qt.2 a b
  rcases h with h | h
  ·exact .inl ((zww (.inr rfl) hw hd (.inl h) eS).2 hk)
  ·exact .inr ((zww (.inr rfl) hw hd' (.inr h) eT).2 hk)) r2
 rw [hlo,hhi] at hI
 have P16':(2:Int)^(w+16).toNat=2^w.toNat*65536:=by rw [show (w+16).toNat=w.toNat+16 by omega]; exact P16
 rw [P16'] at hR
 have pv2:((2^w.toNat:Nat):Int)=(2:Int)^w.toNat:=(zak _).symm
 have ll:L lo.natAbs≤70:=zqw (t:=w.toNat) (c:=1) oO oO oO
 have lh:L hi.natAbs≤70:=zqw (t:=w.toNat) (c:=1) oO oO oO
 have lp:L ((2:Int)^w.toNat*65536).natAbs≤70:=zqw (t:=w.toNat) (c:=65536) oO oO oO
 have lq:=zcy ((2:Int)^w.toNat*65536)
 have z1:=ztq sl tl
 have z2:=ztq sh th
 have z3:=ztr sl tl
 have z4:=ztr sh th
 have oLH:lo≤hi:=by omega
 have c1:L (cond i3 (-((2:Int)^w.toNat*65536)) (min sl tl)).natAbs≤300:=by cases i3<;>simp only [cond_true,cond_false]<;>omega
 have c2:L (cond i4 (-((2:Int)^w.toNat*65536)) (min sh th)).natAbs≤300:=by cases i4<;>simp only [cond_true,cond_false]<;>omega
 have c3:L (cond i2 ((2:Int)^w.toNat*65536) (max sl tl)).natAbs≤300:=by cases i2<;>simp only [cond_true,cond_false]<;>omega
 have c4:L (cond i1 ((2:Int)^w.toNat*65536) (max sh th)).natAbs≤300:=by cases i1<;>simp only [cond_true,cond_false]<;>omega
 have hNr:=zq0 lo hi (cond i3 (-((2:Int)^w.toNat*65536)) (min sl tl)) (cond i4 (-((2:Int)^w.toNat*65536)) (min sh th)) (cond i2 ((2:Int)^w.toNat*65536) (max sl tl)) (cond i1 ((2:Int)^w.toNat*65536) (max sh th)) w oO oO oO c1 c2 c3 c4 oLH (by rw [show (2:Int)^16=65536 from rfl]; exact n1) (by rw [show (2:Int)^16=65536 from rfl]; exact n2) (by rw [show (2:Int)^16=65536 from rfl]; exact n3) (by rw [show (2:Int)^16=65536 from rfl]; exact n4)
 exact ⟨lo,hi,_,_,_,_,_,_,_,_,zu4 m ee n f w _ _ _ _ 0 hI,zuj lo hi w oO ul uh,hR,hNr⟩
theorem zwx (m ee n f w:Int)(hw:0≤w∧w≤200)(hm:L (m).natAbs≤20)(he:-440≤ee∧ee≤130)(hd:-4294967296≤dv m ee∧dv m ee≤4294967296)(hn:L (n).natAbs≤20)(hf:-440≤f∧f≤130)(hd':-4294967296≤dv n f∧dv n f≤4294967296)(v1:vdb m ee=true)(v2:vdb n f=true)(t1:topD m ee≤34)(t2:topD n f≤34):Impl Tryz.prog Amb 26 [(wV m ee n f),(.int .i64 w)] (.bool true):=by
 obtain ⟨lo,hi,_,_,_,_,_,_,_,_,a1,a2,a3,a4⟩:=fitS m ee n f w hw hm he hd hn hf hd' v1 v2 t1 t2
 obtain ⟨lo',hi',_,_,_,_,_,_,_,_,b1,b2,b3,b4⟩:=fitC m ee n f w hw hm he hd hn hf hd' v1 v2 t1 t2
 exact zw9 m ee n f w _ _ _ _ _ _ _ _ _ _ _ _ _ _ _ _ _ _ _ _ _ _ _ _ a1 b1 a2 b2 a3 b3 a4 b4
end Go.Proofs.YtcbihoojfakhdaaGreatDoor


namespace Go.Proofs.YtcbihoojfakhdaaGreatDoor
open Go.RowKit
set_option maxRecDepth 100000
set_option maxHeartbeats 4000000
theorem zwy (n_ w be bh z1 z2 p1 p2 s1 s2 m ee n f u1 u2 v1 v2 e1 e2 e3 e4 a1 a2 b1 b2:Int)(c0:(-9223372036854775808:Int)≤n_∧n_≤9223372036854775807)(c1:(-9223372036854775808:Int)≤w∧w≤9223372036854775807)(c2:(-9223372036854775808:Int)≤be∧be≤9223372036854775807)(c3:(-9223372036854775808:Int)≤bh∧bh≤9223372036854775807)(c4:Impl Tryz.prog Amb 23 [] (.bool true))(c5:Impl Tryz.prog Amb 30 [(.int .i64 (((40:Int)+(w%40))+20))] (sV z1 z2))(c6:Impl Tryz.prog Amb 29 [(sV z1 z2),(.int .i64 2)] (sV p1 p2))(c7:Impl Tryz.prog Amb 28 [(sV p1 p2),(.int .i64 ((1:Int)+(n_%40)))] (sV s1 s2))(c8:Impl Tryz.prog Amb 31 [(sV s1 s2),(.int .i64 (((40:Int)+(w%40))+20)),(.int .i64 ((40:Int)+(w%40)))] (wV m ee n f))(c9:Impl Tryz.prog Amb 32 [(.int .i64 (be%((40:Int)+(w%40))))] (.tup [(yV u1 u2),(.int .i64 e1)]))(c10:Impl Tryz.prog Amb 32 [(.int .i64 (bh%((40:Int)+(w%40))))] (.tup [(yV v1 v2),(.int .i64 e2)]))(c11:Impl Tryz.prog Amb 19 [(yV m ee),(yV u1 u2)] (.tup [(yV a1 a2),(.int .i64 e3)]))(c12:Impl Tryz.prog Amb 33 [(yV n f),(yV v1 v2)] (.tup [(yV b1 b2),(.int .i64 e4)]))(c13:Impl Tryz.prog Amb 26 [(wV a1 a2 b1 b2),(.int .i64 (w%30))] (.bool true))(c14:wRem be 3≠0)(c15:wRem bh 3≠0):Impl Tryz.prog Amb 6 [(.int .i64 n_),(.int .i64 w),(.int .i64 be),(.int .i64 bh)] (.bool true):=by
 exact z6e hP hAmb Tryz.func6 (by kernel_rfl) (.lit<|.call (.bool true)<|.lits 3<|.call (.int .i64 (w%40))<|.lit<|.yes<|.lit<|.yes<|.lit<|.call (sV z1 z2)<|.lit<|.call (sV p1 p2)<|.lit<|.call (.int .i64 (n_%40))<|.lit<|.yes<|.lit<|.call (sV s1 s2)<|.lits 3<|.yes<|.lit<|.call (wV m ee n f)<|.lits 2<|.call (.int .i64 (be%((40:Int)+(w%40))))<|.lit<|.call (.tup [(yV u1 u2),(.int .i64 e1)])<|.lits 2<|.call (.int .i64 (bh%((40:Int)+(w%40))))<|.lit<|.call (.tup [(yV v1 v2),(.int .i64 e2)])<|.lits 3<|.yes<|.lits 3<|.call (.tup [(yV a1 a2),(.int .i64 e3)])<|.lits 3<|.yes<|.lits 3<|.call (.tup [(yV b1 b2),(.int .i64 e4)])<|.lits 3<|.call (.int .i64 (w%30))<|.lit<|.call (.bool true)<|.lit<|.ret)
  (z6d (aI True.intro (aI (c4 ) (aI (zoo w 40 oS oS) (have f10:=Int.emod_lt_of_pos w (show (0:Int)<40 by first | omega | assumption); have f9:=Int.emod_nonneg w (show (40:Int)≠0 by first | omega | assumption); aI (z7t oS:(fits .i64 ((40:Int)+(w%40)))=true) (aI (z7t oS:(fits .i64 (((40:Int)+(w%40))+20))=true) (aI (c5 ) (aI (c6 ) (aI (zoo n_ 40 oS oS) (have f8:=Int.emod_lt_of_pos n_ (show (0:Int)<40 by first | omega | assumption); have f7:=Int.emod_nonneg n_ (show (40:Int)≠0 by first | omega | assumption); aI (z7t oS:(fits .i64 ((1:Int)+(n_%40)))=true) (aI (c7 ) (aI (z7t oS:(fits .i64 (((40:Int)+(w%40))+20))=true) (aI (c8 ) (aI (zoo be ((40:Int)+(w%40)) oS oS) (have f6:=Int.emod_lt_of_pos be (show (0:Int)<((40:Int)+(w%40)) by first | omega | assumption); have f5:=Int.emod_nonneg be (show (((40:Int)+(w%40)):Int)≠0 by first | omega | assumption); aI (c9 ) (aI (zoo bh ((40:Int)+(w%40)) oS oS) (have f4:=Int.emod_lt_of_pos bh (show (0:Int)<((40:Int)+(w%40)) by first | omega | assumption); have f3:=Int.emod_nonneg bh (show (((40:Int)+(w%40)):Int)≠0 by first | omega | assumption); aI (c10 ) (aI (z7j c14:(iNe (wRem be (3:Int)) 0)=true) (aI (c11 ) (aI (z7j c15:(iNe (wRem bh (3:Int)) 0)=true) (aI (c12 ) (aI (zoo w 30 oS oS) (have f2:=Int.emod_lt_of_pos w (show (0:Int)<30 by first | omega | assumption); have f1:=Int.emod_nonneg w (show (30:Int)≠0 by first | omega | assumption); aI (c13 ) ((z5w (.bool true))))))))))))))))))))))))) (by kernel_rfl))
theorem zwz (n_ w be bh z1 z2 p1 p2 s1 s2 m ee n f u1 u2 v1 v2 e1 e2 e3 e4 a1 a2 b1 b2:Int)(c0:(-9223372036854775808:Int)≤n_∧n_≤9223372036854775807)(c1:(-9223372036854775808:Int)≤w∧w≤9223372036854775807)(c2:(-9223372036854775808:Int)≤be∧be≤9223372036854775807)(c3:(-9223372036854775808:Int)≤bh∧bh≤9223372036854775807)(c4:Impl Tryz.prog Amb 23 [] (.bool true))(c5:Impl Tryz.prog Amb 30 [(.int .i64 (((40:Int)+(w%40))+20))] (sV z1 z2))(c6:Impl Tryz.prog Amb 29 [(sV z1 z2),(.int .i64 2)] (sV p1 p2))(c7:Impl Tryz.prog Amb 28 [(sV p1 p2),(.int .i64 ((1:Int)+(n_%40)))] (sV s1 s2))(c8:Impl Tryz.prog Amb 31 [(sV s1 s2),(.int .i64 (((40:Int)+(w%40))+20)),(.int .i64 ((40:Int)+(w%40)))] (wV m ee n f))(c9:Impl Tryz.prog Amb 32 [(.int .i64 (be%((40:Int)+(w%40))))] (.tup [(yV u1 u2),(.int .i64 e1)]))(c10:Impl Tryz.prog Amb 32 [(.int .i64 (bh%((40:Int)+(w%40))))] (.tup [(yV v1 v2),(.int .i64 e2)]))(c11:Impl Tryz.prog Amb 19 [(yV m ee),(yV u1 u2)] (.tup [(yV a1 a2),(.int .i64 e3)]))(c12:Impl Tryz.prog Amb 26 [(wV a1 a2 n f),(.int .i64 (w%30))] (.bool true))(c13:wRem be 3≠0)(c14:wRem bh 3=0):Impl Tryz.prog Amb 6 [(.int .i64 n_),(.int .i64 w),(.int .i64 be),(.int .i64 bh)] (.bool true):=by
 exact z6e hP hAmb Tryz.func6 (by kernel_rfl) (.lit<|.call (.bool true)<|.lits 3<|.call (.int .i64 (w%40))<|.lit<|.yes<|.lit<|.yes<|.lit<|.call (sV z1 z2)<|.lit<|.call (sV p1 p2)<|.lit<|.call (.int .i64 (n_%40))<|.lit<|.yes<|.lit<|.call (sV s1 s2)<|.lits 3<|.yes<|.lit<|.call (wV m ee n f)<|.lits 2<|.call (.int .i64 (be%((40:Int)+(w%40))))<|.lit<|.call (.tup [(yV u1 u2),(.int .i64 e1)])<|.lits 2<|.call (.int .i64 (bh%((40:Int)+(w%40))))<|.lit<|.call (.tup [(yV v1 v2),(.int .i64 e2)])<|.lits 3<|.yes<|.lits 3<|.call (.tup [(yV a1 a2),(.int .i64 e3)])<|.lits 3<|.no<|.lits 2<|.call (.int .i64 (w%30))<|.lit<|.call (.bool true)<|.lit<|.ret)
  (z6d (aI True.intro (aI (c4 ) (aI (zoo w 40 oS oS) (have f10:=Int.emod_lt_of_pos w (show (0:Int)<40 by first | omega | assumption); have f9:=Int.emod_nonneg w (show (40:Int)≠0 by first | omega | assumption); aI (z7t oS:(fits .i64 ((40:Int)+(w%40)))=true) (aI (z7t oS:(fits .i64 (((40:Int)+(w%40))+20))=true) (aI (c5 ) (aI (c6 ) (aI (zoo n_ 40 oS oS) (have f8:=Int.emod_lt_of_pos n_ (show (0:Int)<40 by first | omega | assumption); have f7:=Int.emod_nonneg n_ (show (40:Int)≠0 by first | omega | assumption); aI (z7t oS:(fits .i64 ((1:Int)+(n_%40)))=true) (aI (c7 ) (aI (z7t oS:(fits .i64 (((40:Int)+(w%40))+20))=true) (aI (c8 ) (aI (zoo be ((40:Int)+(w%40)) oS oS) (have f6:=Int.emod_lt_of_pos be (show (0:Int)<((40:Int)+(w%40)) by first | omega | assumption); have f5:=Int.emod_nonneg be (show (((40:Int)+(w%40)):Int)≠0 by first | omega | assumption); aI (c9 ) (aI (zoo bh ((40:Int)+(w%40)) oS oS) (have f4:=Int.emod_lt_of_pos bh (show (0:Int)<((40:Int)+(w%40)) by first | omega | assumption); have f3:=Int.emod_nonneg bh (show (((40:Int)+(w%40)):Int)≠0 by first | omega | assumption); aI (c10 ) (aI (z7j c13:(iNe (wRem be (3:Int)) 0)=true) (aI (c11 ) (aI (z7o oO:(iNe (wRem bh (3:Int)) 0)=false) (aI (zoo w 30 oS oS) (have f2:=Int.emod_lt_of_pos w (show (0:Int)<30 by first | omega | assumption); have f1:=Int.emod_nonneg w (show (30:Int)≠0 by first | omega | assumption); aI (c12 ) ((z5w (.bool true)))))))))))))))))))))))) (by kernel_rfl))
theorem zx0 (n_ w be bh z1 z2 p1 p2 s1 s2 m ee n f u1 u2 v1 v2 e1 e2 e3 e4 a1 a2 b1 b2:Int)(c0:(-9223372036854775808:Int)≤n_∧n_≤9223372036854775807)(c1:(-9223372036854775808:Int)≤w∧w≤9223372036854775807)(c2:(-9223372036854775808:Int)≤be∧be≤9223372036854775807)(c3:(-9223372036854775808:Int)≤bh∧bh≤9223372036854775807)(c4:Impl Tryz.prog Amb 23 [] (.bool true))(c5:Impl Tryz.prog Amb 30 [(.int .i64 (((40:Int)+(w%40))+20))] (sV z1 z2))(c6:Impl Tryz.prog Amb 29 [(sV z1 z2),(.int .i64 2)] (sV p1 p2))(c7:Impl Tryz.prog Amb 28 [(sV p1 p2),(.int .i64 ((1:Int)+(n_%40)))] (sV s1 s2))(c8:Impl Tryz.prog Amb 31 [(sV s1 s2),(.int .i64 (((40:Int)+(w%40))+20)),(.int .i64 ((40:Int)+(w%40)))] (wV m ee n f))(c9:Impl Tryz.prog Amb 32 [(.int .i64 (be%((40:Int)+(w%40))))] (.tup [(yV u1 u2),(.int .i64 e1)]))(c10:Impl Tryz.prog Amb 32 [(.int .i64 (bh%((40:Int)+(w%40))))] (.tup [(yV v1 v2),(.int .i64 e2)]))(c11:Impl Tryz.prog Amb 33 [(yV n f),(yV v1 v2)] (.tup [(yV b1 b2),(.int .i64 e4)]))(c12:Impl Tryz.prog Amb 26 [(wV m ee b1 b2),(.int .i64 (w%30))] (.bool true))(c13:wRem be 3=0)(c14:wRem bh 3≠0):Impl Tryz.prog Amb 6 [(.int .i64 n_),(.int .i64 w),(.int .i64 be),(.int .i64 bh)] (.bool true):=by
 exact z6e hP hAmb Tryz.func6 (by kernel_rfl) (.lit<|.call (.bool true)<|.lits 3<|.call (.int .i64 (w%40))<|.lit<|.yes<|.lit<|.yes<|.lit<|.call (sV z1 z2)<|.lit<|.call (sV p1 p2)<|.lit<|.call (.int .i64 (n_%40))<|.lit<|.yes<|.lit<|.call (sV s1 s2)<|.lits 3<|.yes<|.lit<|.call (wV m ee n f)<|.lits 2<|.call (.int .i64 (be%((40:Int)+(w%40))))<|.lit<|.call (.tup [(yV u1 u2),(.int .i64 e1)])<|.lits 2<|.call (.int .i64 (bh%((40:Int)+(w%40))))<|.lit<|.call (.tup [(yV v1 v2),(.int .i64 e2)])<|.lits 3<|.no<|.lits 2<|.yes<|.lits 3<|.call (.tup [(yV b1 b2),(.int .i64 e4)])<|.lits 3<|.call (.int .i64 (w%30))<|.lit<|.call (.bool true)<|.lit<|.ret)
  (z6d (aI True.intro (aI (c4 ) (aI (zoo w 40 oS oS) (have f10:=Int.emod_lt_of_pos w (show (0:Int)<40 by first | omega | assumption); have f9:=Int.emod_nonneg w (show (40:Int)≠0 by first | omega | assumption); aI (z7t oS:(fits .i64 ((40:Int)+(w%40)))=true) (aI (z7t oS:(fits .i64 (((40:Int)+(w%40))+20))=true) (aI (c5 ) (aI (c6 ) (aI (zoo n_ 40 oS oS) (have f8:=Int.emod_lt_of_pos n_ (show (0:Int)<40 by first | omega | assumption); have f7:=Int.emod_nonneg n_ (show (40:Int)≠0 by first | omega | assumption); aI (z7t oS:(fits .i64 ((1:Int)+(n_%40)))=true) (aI (c7 ) (aI (z7t oS:(fits .i64 (((40:Int)+(w%40))+20))=true) (aI (c8 ) (aI (zoo be ((40:Int)+(w%40)) oS oS) (have f6:=Int.emod_lt_of_pos be (show (0:Int)<((40:Int)+(w%40)) by first | omega | assumption); have f5:=Int.emod_nonneg be (show (((40:Int)+(w%40)):Int)≠0 by first | omega | assumption); aI (c9 ) (aI (zoo bh ((40:Int)+(w%40)) oS oS) (have f4:=Int.emod_lt_of_pos bh (show (0:Int)<((40:Int)+(w%40)) by first | omega | assumption); have f3:=Int.emod_nonneg bh (show (((40:Int)+(w%40)):Int)≠0 by first | omega | assumption); aI (c10 ) (aI (z7o oO:(iNe (wRem be (3:Int)) 0)=false) (aI (z7j c14:(iNe (wRem bh (3:Int)) 0)=true) (aI (c11 ) (aI (zoo w 30 oS oS) (have f2:=Int.emod_lt_of_pos w (show (0:Int)<30 by first | omega | assumption); have f1:=Int.emod_nonneg w (show (30:Int)≠0 by first | omega | assumption); aI (c12 ) ((z5w (.bool true)))))))))))))))))))))))) (by kernel_rfl))
theorem zx1 (n_ w be bh z1 z2 p1 p2 s1 s2 m ee n f u1 u2 v1 v2 e1 e2 e3 e4 a1 a2 b1 b2:Int)(c0:(-9223372036854775808:Int)≤n_∧n_≤9223372036854775807)(c1:(-9223372036854775808:Int)≤w∧w≤9223372036854775807)(c2:(-9223372036854775808:Int)≤be∧be≤9223372036854775807)(c3:(-9223372036854775808:Int)≤bh∧bh≤9223372036854775807)(c4:Impl Tryz.prog Amb 23 [] (.bool true))(c5:Impl Tryz.prog Amb 30 [(.int .i64 (((40:Int)+(w%40))+20))] (sV z1 z2))(c6:Impl Tryz.prog Amb 29 [(sV z1 z2),(.int .i64 2)] (sV p1 p2))(c7:Impl Tryz.prog Amb 28 [(sV p1 p2),(.int .i64 ((1:Int)+(n_%40)))] (sV s1 s2))(c8:Impl Tryz.prog Amb 31 [(sV s1 s2),(.int .i64 (((40:Int)+(w%40))+20)),(.int .i64 ((40:Int)+(w%40)))] (wV m ee n f))(c9:Impl Tryz.prog Amb 32 [(.int .i64 (be%((40:Int)+(w%40))))] (.tup [(yV u1 u2),(.int .i64 e1)]))(c10:Impl Tryz.prog Amb 32 [(.int .i64 (bh%((40:Int)+(w%40))))] (.tup [(yV v1 v2),(.int .i64 e2)]))(c11:Impl Tryz.prog Amb 26 [(wV m ee n f),(.int .i64 (w%30))] (.bool true))(c12:wRem be 3=0)(c13:wRem bh 3=0):Impl Tryz.prog Amb 6 [(.int .i64 n_),(.int .i64 w),(.int .i64 be),(.int .i64 bh)] (.bool true):=by
 exact z6e hP hAmb Tryz.func6 (by kernel_rfl) (.lit<|.call (.bool true)<|.lits 3<|.call (.int .i64 (w%40))<|.lit<|.yes<|.lit<|.yes<|.lit<|.call (sV z1 z2)<|.lit<|.call (sV p1 p2)<|.lit<|.call (.int .i64 (n_%40))<|.lit<|.yes<|.lit<|.call (sV s1 s2)<|.lits 3<|.yes<|.lit<|.call (wV m ee n f)<|.lits 2<|.call (.int .i64 (be%((40:Int)+(w%40))))<|.lit<|.call (.tup [(yV u1 u2),(.int .i64 e1)])<|.lits 2<|.call (.int .i64 (bh%((40:Int)+(w%40))))<|.lit<|.call (.tup [(yV v1 v2),(.int .i64 e2)])<|.lits 3<|.no<|.lits 2<|.no<|.lits 2<|.call (.int .i64 (w%30))<|.lit<|.call (.bool true)<|.lit<|.ret)
  (z6d (aI True.intro (aI (c4 ) (aI (zoo w 40 oS oS) (have f10:=Int.emod_lt_of_pos w (show (0:Int)<40 by first | omega | assumption); have f9:=Int.emod_nonneg w (show (40:Int)≠0 by first | omega | assumption); aI (z7t oS:(fits .i64 ((40:Int)+(w%40)))=true) (aI (z7t oS:(fits .i64 (((40:Int)+(w%40))+20))=true) (aI (c5 ) (aI (c6 ) (aI (zoo n_ 40 oS oS) (have f8:=Int.emod_lt_of_pos n_ (show (0:Int)<40 by first | omega | assumption); have f7:=Int.emod_nonneg n_ (show (40:Int)≠0 by first | omega | assumption); aI (z7t oS:(fits .i64 ((1:Int)+(n_%40)))=true) (aI (c7 ) (aI (z7t oS:(fits .i64 (((40:Int)+(w%40))+20))=true) (aI (c8 ) (aI (zoo be ((40:Int)+(w%40)) oS oS) (have f6:=Int.emod_lt_of_pos be (show (0:Int)<((40:Int)+(w%40)) by first | omega | assumption); have f5:=Int.emod_nonneg be (show (((40:Int)+(w%40)):Int)≠0 by first | omega | assumption); aI (c9 ) (aI (zoo bh ((40:Int)+(w%40)) oS oS) (have f4:=Int.emod_lt_of_pos bh (show (0:Int)<((40:Int)+(w%40)) by first | omega | assumption); have f3:=Int.emod_nonneg bh (show (((40:Int)+(w%40)):Int)≠0 by first | omega | assumption); aI (c10 ) (aI (z7o oO:(iNe (wRem be (3:Int)) 0)=false) (aI (z7o oO:(iNe (wRem bh (3:Int)) 0)=false) (aI (zoo w 30 oS oS) (have f2:=Int.emod_lt_of_pos w (show (0:Int)<30 by first | omega | assumption); have f1:=Int.emod_nonneg w (show (30:Int)≠0 by first | omega | assumption); aI (c11 ) ((z5w (.bool true))))))))))))))))))))))) (by kernel_rfl))
theorem zx2 (n_ w:Int):∃ z1 z2 p1 p2 s1 s2 A B:Int,Impl Tryz.prog Amb 30 [(.int .i64 (((40:Int)+(w%40))+20))] (sV z1 z2)∧Impl Tryz.prog Amb 29 [(sV z1 z2),(.int .i64 2)] (sV p1 p2)∧Impl Tryz.prog Amb 28 [(sV p1 p2),(.int .i64 ((1:Int)+(n_%40)))] (sV s1 s2)∧Impl Tryz.prog Amb 31 [(sV s1 s2),(.int .i64 (((40:Int)+(w%40))+20)),(.int .i64 ((40:Int)+(w%40)))] (wV (mkM A (-((40:Int)+(w%40)))) (mkX A (-((40:Int)+(w%40)))) (mkM B (-((40:Int)+(w%40)))) (mkX B (-((40:Int)+(w%40))))) ∧
  (0≤A∧A≤B∧B≤400*2^((40:Int)+(w%40)).toNat):=by
 have w1:=Int.emod_nonneg w (show (40:Int)≠0 by omega)
 have w2:=Int.emod_lt_of_pos w (show (0:Int)<40 by omega)
 have k1:=Int.emod_nonneg n_ (show (40:Int)≠0 by omega)
 have k2:=Int.emod_lt_of_pos n_ (show (0:Int)<40 by omega)
 obtain ⟨z1,z2,p1,p2,hP,hO,rc,⟨q1,q2,_⟩,l1,l2⟩:=zuk (v:=(((40:Int)+(w%40))+20)) oO
 have p12:p1≤p2:=Rat.intCast_le_intCast.1 (Rat.le_trans rc.1 rc.2)
 generalize hk:(1:Int)+(n_%40)=k at *
 have hT:=zkk p1 p2 k oO oO oO
 have lk:=zgp (n:=k) oO
 have m1:=zcx p1 k
 have m2:=zcx p2 k
 have hOut:=zkn (p1*k) (p2*k) (((40:Int)+(w%40))+20) ((40:Int)+(w%40)) oO oO oO
 rw [show ((((40:Int)+(w%40))+20)-((40:Int)+(w%40))).toNat=20 by omega] at hOut
 have e:(2:Int)^(((40:Int)+(w%40))+20).toNat=2^((40:Int)+(w%40)).toNat*1048576:=by
  rw [show (((40:Int)+(w%40))+20).toNat=((40:Int)+(w%40)).toNat+20 by omega,Int.pow_add]; rfl
 rw [e] at q2
 have a0:=Int.mul_nonneg q1 (show 0≤k by omega)
 have a1:=Int.mul_le_mul_of_nonneg_right p12 (show 0≤k by omega)
 have a2:=Int.mul_le_mul q2 (show k≤40 by omega) oO (by have:=zi5 ((40:Int)+(w%40)).toNat; omega)
 have T0:=zi5 ((40:Int)+(w%40)).toNat
 refine ⟨z1,z2,p1,p2,_,_,_,_,hP,hO,hT,hOut,?_,?_,?_⟩
 ·rw [show (2:Int)^20=1048576 from rfl]; omega
 ·rw [show (2:Int)^20=1048576 from rfl]; omega
 ·rw [show (2:Int)^20=1048576 from rfl]; omega
structure EndH (m e:Int):Prop where
 lL:L m.natAbs≤20
 lE:-440≤e
 lV:vdb m e=true
 lD:-1000≤dv m e∧dv m e≤1000
theorem EndH.top {m e:Int}(h:EndH m e):topD m e≤34:=by
 refine Decidable.byContradiction fun hn=>?_
 have hm:m≠0:=fun q=>by
  unfold topD at hn
  rw [if_pos q] at hn
  omega
 have a:=(zq2 (e:=e) hm).2
 have u:dv 1 33≤dv 1 (topD m e-1):=by
  rw [zn7 (m:=1) (e:=topD m e-1) (c:=33) oO,zn9,Int.one_mul]
  have:=zi5 (topD m e-1-33).toNat
  omega
 have d33:dv 1 33=8589934592:=of_decide_eq_true (by kernel_rfl)
 rw [d33] at u
 have d:=h.lD
 rcases (show (m.natAbs:Int)=m∨(m.natAbs:Int)=-m by omega) with q | q
 ·rw [q] at a; grind
 ·rw [q,znd] at a; grind
theorem EndH.hi {m e:Int}(h:EndH m e):e≤130:=by
 have t:=h.top
 rcases zi7 m e with ⟨a,_⟩ | ⟨_,a,_⟩
 ·rcases zhs.1 h.lV with q | q<;>omega
 ·omega
theorem zx3 {m e n f w:Int}(hw:0≤w∧w≤200)(h:EndH m e)(k:EndH n f):Impl Tryz.prog Amb 26 [(wV m e n f),(.int .i64 w)] (.bool true) :=
 zwx m e n f w hw h.lL ⟨h.lE,h.hi⟩ (by have:=h.lD; constructor<;>grind) k.lL ⟨k.lE,k.hi⟩ (by have:=k.lD; constructor<;>grind) h.lV k.lV h.top k.top
theorem zx4 (n_ w be bh:Int)(c0:(-9223372036854775808:Int)≤n_∧n_≤9223372036854775807)(c1:(-9223372036854775808:Int)≤w∧w≤9223372036854775807)(c2:(-9223372036854775808:Int)≤be∧be≤9223372036854775807)(c3:(-9223372036854775808:Int)≤bh∧bh≤9223372036854775807):Impl Tryz.prog Amb 6 [.int .i64 n_,.int .i64 w,.int .i64 be,.int .i64 bh] (.bool true):=by
 have w1:=Int.emod_nonneg w (show (40:Int)≠0 by omega)
 have w2:=Int.emod_lt_of_pos w (show (0:Int)<40 by omega)
 have w3:=Int.emod_nonneg w (show (30:Int)≠0 by omega)
 have w4:=Int.emod_lt_of_pos w (show (0:Int)<30 by omega)
 obtain ⟨z1,z2,p1,p2,s1,s2,Aq,Bq,hP,hO,hT,hOut,a0,ab,b4⟩:=zx2 n_ w
 have b1:=Int.emod_nonneg be (show ((40:Int)+(w%40))≠0 by omega)
 have b2:=Int.emod_lt_of_pos be (show (0:Int)<((40:Int)+(w%40)) by omega)
 have h1:=Int.emod_nonneg bh (show ((40:Int)+(w%40))≠0 by omega)
 have h2:=Int.emod_lt_of_pos bh (show (0:Int)<((40:Int)+(w%40)) by omega)
 have hU:=zjk (be%((40:Int)+(w%40))) oO
 have hV:=zjk (bh%((40:Int)+(w%40))) oO
 have fu:=zjh (p:=be%((40:Int)+(w%40))) oO
 have fv:=zjh (p:=bh%((40:Int)+(w%40))) oO
 rw [fu.2.2.1] at hU
 rw [fv.2.2.1] at hV
 have one:dv 1 0=1:=of_decide_eq_true (by kernel_rfl)
 have unit:∀ {p:Int},0≤p→0≤dv 1 (-p)∧dv 1 (-p)≤1:=fun {p} h=>by
  have a:0≤dv 1 (-p):=zq1.2 (by decide)
  have b:dv 1 (-p)≤dv 1 0:=by
   rw [zn7 (m:=1) (e:=0) (c:=-p) oO,zn9,Int.one_mul]
   have:=zi5 (0 - -p).toNat
   omega
  rw [one] at b
  exact ⟨a,b⟩
 have du:=unit (p:=be%((40:Int)+(w%40))) b1
 have dw:=unit (p:=bh%((40:Int)+(w%40))) h1
 rw [← znj fu.2.2.1] at du
 rw [← znj fv.2.2.1] at dw
 have lu:=fu.2.2.2
 have lv:=fv.2.2.2
 have eu:=fu.2.1
 have ev:=fv.2.1
 clear fu fv
 generalize mkM 1 (-(be%((40:Int)+(w%40))))=u1 at *
 generalize mkX 1 (-(be%((40:Int)+(w%40))))=u2 at *
 generalize mkM 1 (-(bh%((40:Int)+(w%40))))=v1 at *
 generalize mkX 1 (-(bh%((40:Int)+(w%40))))=v2 at *
 generalize hv:((40:Int)+(w%40))=v at *
 have pv2:((2^v.toNat:Nat):Int)=(2:Int)^v.toNat:=(zak _).symm
 have e1024:((2^(v.toNat+10):Nat):Int)=2^v.toNat*1024:=by rw [← zak,Int.pow_add]; rfl
 have lA:L Aq.natAbs≤3:=zjf (n:=v.toNat+10) (by have:=zi5 v.toNat; omega) oO
 have lB:L Bq.natAbs≤3:=zjf (n:=v.toNat+10) (by have:=zi5 v.toNat; omega) oO
 have fA:=zoq (m:=Aq) (e:=-v) oO oO
 have fB:=zoq (m:=Bq) (e:=-v) oO oO
 have i1:=zht (-v) 0
 have i2:iMax (-v) 0≤0:=by unfold iMax; split<;>omega
 have d400:dv (400*2^v.toNat) (-v)=400:=by
  have:dv 400 0=dv (400*2^v.toNat) (-v):=by rw [zn7 (m:=400) (e:=0) (c:=-v) oO,show (0 - -v).toNat=v.toNat by omega]
  rw [← this]; exact of_decide_eq_true (by kernel_rfl)
 have dA:0≤dv (mkM Aq (-v)) (mkX Aq (-v))∧dv (mkM Aq (-v)) (mkX Aq (-v))≤400:=by
  rw [fA.2.2.2.2.2]
  refine ⟨zq1.2 a0,?_⟩
  rw [← d400]; exact zn9.2 oO
 have dB:0≤dv (mkM Bq (-v)) (mkX Bq (-v))∧dv (mkM Bq (-v)) (mkX Bq (-v))≤400:=by
  rw [fB.2.2.2.2.2]
  refine ⟨zq1.2 oO,?_⟩
  rw [← d400]; exact zn9.2 b4
 have eA:EndH (mkM Aq (-v)) (mkX Aq (-v)):=⟨by omega,by omega,fA.2.2.2.2.1,by constructor<;>grind⟩
 have eB:EndH (mkM Bq (-v)) (mkX Bq (-v)):=⟨by omega,by omega,fB.2.2.2.2.1,by constructor<;>grind⟩
 have lA':L (mkM Aq (-v)).natAbs≤3:=by omega
 have lB':L (mkM Bq (-v)).natAbs≤3:=by omega
 have xA:-80≤mkX Aq (-v)∧mkX Aq (-v)≤96:=by omega
 have xB:-80≤mkX Bq (-v)∧mkX Bq (-v)≤96:=by omega
 clear fA fB
 generalize mkM Aq (-v)=m at *
 generalize mkX Aq (-v)=ee at *
 generalize mkM Bq (-v)=n at *
 generalize mkX Bq (-v)=f at *
 have sum:∀ {x e y g:Int},L x.natAbs≤3→(-80≤e∧e≤96)→L y.natAbs≤1→(-80≤g∧g≤0)→(-500≤dv x e∧dv x e≤500)→(-500≤dv y g∧dv y g≤500)→mkE (adS x e y g) (iMin e g)=0∧EndH (mkM (adS x e y g) (iMin e g)) (mkX (adS x e y g) (iMin e g)):=by
  intro x e y g k1 k2 k3 k4 k5 k6
  have sl:=zot (m:=x) (e:=e) (n:=y) (f:=g) (a:=3) (c:=6) k1 oO oO oO
  have j1:=zht e g
  have sf:=zoq (m:=adS x e y g) (e:=iMin e g) oO oO
  have j2:=zht (iMin e g) 0
  refine ⟨sf.1,?_⟩
  have dd:-1000≤dv (mkM (adS x e y g) (iMin e g)) (mkX (adS x e y g) (iMin e g))∧dv (mkM (adS x e y g) (iMin e g)) (mkX (adS x e y g) (iMin e g))≤1000:=by
   rw [sf.2.2.2.2.2,znf]; constructor<;>grind
  exact ⟨by omega,by omega,sf.2.2.2.2.1,dd⟩
 have nu1:L (-u1).natAbs≤1:=by rw [Int.natAbs_neg]; exact lu
 have sS:=sum lA' xA nu1 (g:=u2) oO (by constructor<;>grind) (by rw [znd]; constructor<;>grind)
 have sT:=sum lB' xB lv (g:=v2) oO (by constructor<;>grind) (by constructor<;>grind)
 have hSub:=zj9 m ee u1 u2 oO oO oO oO
 have hAdd:=zj8 n f v1 v2 oO oO oO oO
 rw [sS.1] at hSub
 rw [sT.1] at hAdd
 by_cases p1':wRem be 3=0
 ·by_cases p2':wRem bh 3=0
  ·have hF:=zx3 (w:=w%30) oO eA eB
   subst hv; exact zx1 n_ w be bh z1 z2 p1 p2 _ _ m ee n f u1 u2 v1 v2 0 0 0 0 0 0 0 0 c0 c1 c2 c3 l17_awake hP hO hT hOut hU hV hF p1' p2'
  ·have hF:=zx3 (w:=w%30) oO eA sT.2
   subst hv; exact zx0 n_ w be bh z1 z2 p1 p2 _ _ m ee n f u1 u2 v1 v2 0 0 0 0 0 0 _ _ c0 c1 c2 c3 l17_awake hP hO hT hOut hU hV hAdd hF p1' p2'
 ·by_cases p2':wRem bh 3=0
  ·have hF:=zx3 (w:=w%30) oO sS.2 eB
   subst hv; exact zwz n_ w be bh z1 z2 p1 p2 _ _ m ee n f u1 u2 v1 v2 0 0 0 0 _ _ 0 0 c0 c1 c2 c3 l17_awake hP hO hT hOut hU hV hSub hF p1' p2'
  ·have hF:=zx3 (w:=w%30) oO sS.2 sT.2
   subst hv; exact zwy n_ w be bh z1 z2 p1 p2 _ _ m ee n f u1 u2 v1 v2 0 0 0 0 _ _ _ _ c0 c1 c2 c3 l17_awake hP hO hT hOut hU hV hSub hAdd hF p1' p2'
end Go.Proofs.YtcbihoojfakhdaaGreatDoor

namespace Go.Proofs.YtcbihoojfakhdaaGreatDoor
open Go.ChangeShapes Go.WideShapes Go.ChangeAt Go.RowKit
theorem ownNone:ownKnob Tryz.prog.godebug=none:=by kernel_rfl
theorem gTab:Tryz.prog.globalNamed "math/bits.deBruijn32tab"=some 0:=by kernel_rfl
theorem gTabType:(Tryz.prog.globals[0]?).map (·.type)=some 184:=by kernel_rfl
theorem cellsTab:Tryz.prog.cellsOf 184=32:=by kernel_rfl
theorem cellsU8:Tryz.prog.cellsOf 5=1:=by kernel_rfl
theorem zx5 {W:World}(h:laidMetH Tryz.prog [("math/bits.deBruijn32tab",Rows.laid_math_bits_deBruijn32tab)] W):Amb W:=by
 have t:Lib.TabIs Tryz.prog W "math/bits.deBruijn32tab" .u8 tab32:=Lib.tabIs_of_head (rest:=[]) gTab gTabType Tryz.underlying184 Tryz.underlying5 cellsU8 cellsTab h
 intro i v hi
 have hlt:i<tab32.length:=by
  rcases Nat.lt_or_ge i tab32.length with q | q
  ·exact q
  ·rw [List.getElem?_eq_none q] at hi; cases hi
 have h1:=t.cell gTab i hlt
 rw [List.getD_eq_getElem?_getD,hi] at h1
 exact h1
theorem zx6 {n:Int}(h:(Lit.int .i64 n).wf=true):(-9223372036854775808:Int)≤n∧n≤9223372036854775807:=by
 simp only [Lit.wf,Bool.and_eq_true,decide_eq_true_eq] at h
 simp [IntKind.min,IntKind.max,IntKind.signed,IntKind.bits] at h
 omega
noncomputable def laidWorld (os : Os) : World :=
  { World.holding Tryz.prog os ⟨#[], #[], []⟩ with heap := (World.holding Tryz.prog os ⟨#[], #[], []⟩).heap.modify 0 fun
      | .cells _ t frozen => .cells (tab32.map (Value.int .u8)).toArray t frozen
      | o => o }
theorem zx7 {H:Type}{enc:TypeId × Value→H}{P:Program}{f:Func}{s:ChangeSpec}{apart fresh handsOn again:Bool}{W W':World}{args:Array Value}{v:Value}{ds gs:List (DataW H)}{before pa pv:List MemPlace}
  (hW:DataW.Whole enc P f.params.toList s.vars apart W args.toList ds gs before)
  (hres:∀ (b:Nat) (sp:Nat→Bool) (hd:Bool),DataW.TrodAll enc P W' b sp hd f.resultTypes.toList (v.resultList f.resultTypes.size) (s.fn H (ds ++ gs)).results [])
  (hargs:∀ sp:Nat→Bool,(∀ p∈before,sp p.block=true)→DataW.TrodAll enc P W' 0 sp true f.params.toList args.toList (s.fn H (ds ++ gs)).args pa)
  (hvars:∀ sp:Nat→Bool,(∀ p∈before,sp p.block=true)→DataW.TrodVars enc P W' sp s.vars (s.fn H (ds ++ gs)).vars pv)
  (hps:before=pa ++ pv) (hb:Below W.heap.size W W')
  (hok:∀ (j:Nat) (t:TypeId) (r:Value),f.resultTypes[j]?=some t→(v.resultList f.resultTypes.size)[j]?=some r→Value.okWide P W' .any 0 t r):s.post enc P f apart fresh handsOn again W args v W':=by
 have lt:=hW.lt
 have old:∀ p∈before,(fun b=>decide (b<W.heap.size)) p.block=true:=fun p hp=>decide_eq_true (lt p hp)
 subst hps
 refine ⟨ds,gs,pa ++ pv,[],pa,pv,hW,hres _ _ _,hargs _ old,hvars _ old,hb.frame _,fun _=>?_⟩
 obtain ⟨_,_,_,_,_,hz,hn⟩:=hW
 have h1:=trodAll_append (hargs (fun _=>true) fun _ _=>rfl) (hres 0 (fun _=>true) true)
 refine ⟨hok,_,_,_,⟨_,pv,h1,hvars _ fun _ _=>rfl,rfl,fun b off hp=>?_,fun ha=>?_⟩,fun p hp _=>?_⟩
 ·have hp':MemPlace.cell b off∈pa ++ pv:=by simpa using hp
  rw [hb.frozen (lt _ hp')]
  exact hz b off hp'
 ·simpa using hn ha
 ·simpa using hp
end Go.Proofs.YtcbihoojfakhdaaGreatDoor


namespace Go.Proofs.YtcbihoojfakhdaaGreatDoor.circularTurns
open Go.ChangeShapes Go.WideShapes Go.ChangeAt Go.RowKit
set_option maxRecDepth 100000 in
theorem zx8 (H:Type)(enc:TypeId × Value→H)(W:World)(base:Nat)(args:Array Value)(ds gs:List (DataW H))(before:List MemPlace)
  (hval:∀ (j:Nat) t v,Tryz.f6.params[j]?=some t→args[j]?=some v→Value.okWide Tryz.prog W .any base t v)
  (hW:DataW.Whole enc Tryz.prog Tryz.f6.params.toList Rows.circularTurnsSpec.vars false W args.toList ds gs before) (hL:laidMetH Tryz.prog Rows.circularTurnsRow.laid W) :
  Calls Tryz.prog 6 args W fun e W'=>∃ v,e=.returned v∧Rows.circularTurnsSpec.post enc Tryz.prog Tryz.f6 false true false false W args v W':=by
 have hW':=hW
 obtain ⟨p,q,hA0,hV,rfl,hfz,hnd⟩:=hW
 have hA:DataW.TrodAll enc Tryz.prog W 0 (fun _=>true) true Tryz.f6.params.toList args.toList ds p:=hA0
 rw [Tryz.params6] at hA hval
 obtain ⟨v0,vs0,d0,ds0,p0,q0,hargs0,rfl,rfl,h0,r0⟩:=trodAll_cons hA
 obtain ⟨v1,vs1,d1,ds1,p1,q1,hargs1,rfl,rfl,h1,r1⟩:=trodAll_cons r0
 obtain ⟨v2,vs2,d2,ds2,p2,q2,hargs2,rfl,rfl,h2,r2⟩:=trodAll_cons r1
 obtain ⟨v3,vs3,d3,ds3,p3,q3,hargs3,rfl,rfl,h3,r3⟩:=trodAll_cons r2
 obtain ⟨rfl,rfl,rfl⟩:=trodAll_nil r3
 obtain rfl:args=#[v0,v1,v2,v3]:=by cases args; simp_all
 obtain ⟨rfl,rfl⟩:=trodVars_none hV
 have k0:=h0
 obtain ⟨x0,rfl,rfl,rfl,w0⟩:=open_int Tryz.underlying3 (hval 0 3 v0 rfl rfl) h0
 have b0:=zx6 w0
 have k1:=h1
 obtain ⟨x1,rfl,rfl,rfl,w1⟩:=open_int Tryz.underlying3 (hval 1 3 v1 rfl rfl) h1
 have b1:=zx6 w1
 have k2:=h2
 obtain ⟨x2,rfl,rfl,rfl,w2⟩:=open_int Tryz.underlying3 (hval 2 3 v2 rfl rfl) h2
 have b2:=zx6 w2
 have k3:=h3
 obtain ⟨x3,rfl,rfl,rfl,w3⟩:=open_int Tryz.underlying3 (hval 3 3 v3 rfl rfl) h3
 have b3:=zx6 w3
 clear hA0
 have hlt:=hW'.lt
 have hI:=zx4 x0 x1 x2 x3 b0 b1 b2 b3
 have hC:=hI.2 W (fun _=>True) [.int .i64 x0,.int .i64 x1,.int .i64 x2,.int .i64 x3] (zx5 hL) (fun _ _=>trivial) (.cons .int (.cons .int (.cons .int (.cons .int (.nil)))))
 refine hC.mono fun e W' hh=>?_
 obtain ⟨v,rfl,hv,hb⟩:=hh
 have hv:=hv.bool_inv
 subst hv
 exact ⟨_,rfl,zx7 (pa:=([] ++ ([] ++ ([] ++ ([] ++ []))))) (pv:=[]) hW' (fun _ _ _=>trodAll_cons_mk (shut_bool Tryz.underlying4 _) trodAll_mk0) (fun sp hsp=>(trodAll_cons_mk (shut_int Tryz.underlying3 w0) (trodAll_cons_mk (shut_int Tryz.underlying3 w1) (trodAll_cons_mk (shut_int Tryz.underlying3 w2) (trodAll_cons_mk (shut_int Tryz.underlying3 w3) trodAll_mk0))))) (fun _ _=>rfl) rfl
  hb (ok_one (by kernel_rfl) rfl (okWide_bool_mk Tryz.underlying4 _))⟩
theorem zx9 (os:Os):laidMet Tryz.prog Rows.circularTurnsRow.laid ((laidWorld os).forCall (fun _ _=>0) ⟨#[],#[.int .i64 0,.int .i64 0,.int .i64 0,.int .i64 0],[]⟩).memory :=
 laidMet_of_run' 64 (by kernel_rfl) (by kernel_rfl)
theorem zxa (os:Os){H:Type}(enc:TypeId × Value→H):∃ places,DataW.whole enc Tryz.prog ((laidWorld os).forCall (fun _ _=>0) ⟨#[],#[.int .i64 0,.int .i64 0,.int .i64 0,.int .i64 0],[]⟩).memory Tryz.f6.params.toList Rows.circularTurnsSpec.vars false #[Value.int .i64 0,Value.int .i64 0,Value.int .i64 0,Value.int .i64 0].toList 64=some ([.lit (.int .i64 0),.lit (.int .i64 0),.lit (.int .i64 0),.lit (.int .i64 0)],[],places) :=
 ⟨[],by kernel_rfl⟩
set_option maxRecDepth 100000 in
theorem zxb (os:Os)(started:os.Started)(H:Type)(enc:TypeId × Value→H)(F:Stop.Interp) :
  ReturnsInHanded {} Tryz.checked os 6 .any ((OpenSpec.ofChange Rows.circularTurnsSpec).preRow enc Tryz.prog Tryz.f6 Rows.circularTurnsRow.domain false Rows.circularTurnsRow.laid) (((OpenSpec.ofChange Rows.circularTurnsSpec).at F).post enc Tryz.prog Tryz.f6 false true false false):=by
 obtain ⟨places,hx⟩:=zxa os enc
 refine returnsInHanded_of_row (C:=Tryz.checked) (s:=OpenSpec.ofChange Rows.circularTurnsSpec) ownNone started (by kernel_rfl) Tryz.func6
  (witness_row_at (enc:=enc) (C:=Tryz.checked) false (laidWorld os) #[.int .i64 0,.int .i64 0,.int .i64 0,.int .i64 0] rfl (by kernel_rfl) (by kernel_rfl) (by kernel_rfl)
   (OpenSpec.preRow_of_cond 64 hx (by kernel_rfl) (fun k hk=>by cases hk) (by kernel_rfl) (zx9 os))) ?_
 intro W base args ds gs before hval hW _ _ _ hL _ _
 exact zx8 H enc W base args ds gs before hval hW hL
end Go.Proofs.YtcbihoojfakhdaaGreatDoor.circularTurns
