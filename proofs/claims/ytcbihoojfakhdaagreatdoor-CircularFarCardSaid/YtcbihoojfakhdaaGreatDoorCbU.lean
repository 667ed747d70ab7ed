/-
  Lower layers: what functions of the program compute, and zyt facts. Conditions: as the theorems say.
-/
import Derived.Test.YtcbihoojfakhdaaGreatDoorCbT
set_option linter.unusedVariables false
set_option linter.unusedSimpArgs false
namespace Go.Proofs.YtcbihoojfakhdaaGreatDoor
open Go.RowKit
set_option maxRecDepth 100000
set_option maxHeartbeats 4000000
theorem zw5 {m e:Int}{H vv:Nat}(hV:3≤vv)(h:topD m e+2≤(H:Int))(h3:2≤H):(-1≤4*dv m (e-(H:Int))∧4*dv m (e-(H:Int))≤1)∧4*(flr (dv m (e-(H:Int))) vv).natAbs≤2^vv∧4*(cei (dv m (e-(H:Int))) vv).natAbs≤2^vv:=by
 have ab:-1≤4*dv m (e-(H:Int))∧4*dv m (e-(H:Int))≤1:=by
  by_cases hm:m=0
  ·rw [hm,znb]; constructor<;>grind
  ·have t:=(zqo (e:=e-(H:Int)) hm).1
   have tt:topD m (e-(H:Int))=topD m e-(H:Int):=by unfold topD; rw [if_neg hm,if_neg hm]; omega
   have u:dv 1 (topD m (e-(H:Int)))≤dv 1 (-2):=by
    rw [zn7 (m:=1) (e:=-2) (c:=topD m (e-(H:Int))) oO,zn9,Int.one_mul]
    have:=zi5 (-2-topD m (e-(H:Int))).toNat
    omega
   have w:4*dv 1 (-2)=1:=of_decide_eq_true (by kernel_rfl)
   have t2:=zv4 t u
   clear t u tt
   generalize dv 1 (-2)=z at *
   rcases (show (m.natAbs:Int)=m∨(m.natAbs:Int)=-m by omega) with q | q
   ·have n0:0≤dv m (e-(H:Int)):=zqn.2 oO
    rw [q] at t2
    clear q
    generalize dv m (e-(H:Int))=y at *
    constructor<;>grind
   ·have n0:0≤dv (-m) (e-(H:Int)):=zqn.2 oO
    rw [q] at t2
    rw [znd] at t2 n0
    clear q
    generalize dv m (e-(H:Int))=y at *
    constructor<;>grind
 generalize dv m (e-(H:Int))=x at *
 have s1:=zpm x vv
 have s2:=zpn x vv
 have P:(0:Rat)<((2^vv:Int):Rat):=Rat.intCast_pos.2 (zi5 vv)
 have m1:=Rat.mul_le_mul_of_nonneg_right ab.1 (Rat.le_of_lt P)
 have m2:=Rat.mul_le_mul_of_nonneg_right ab.2 (Rat.le_of_lt P)
 have p8:(2:Int)^vv=4*2^(vv-2):=by
  have:vv=2+(vv-2):=by omega
  rw [this,Int.pow_add,show 2+(vv-2)-2=vv-2 by omega]; rfl
 have pn:((2^vv:Nat):Int)=(2:Int)^vv:=(zaj _).symm
 have k1:-(4*2^(vv-2))<4*(flr x vv+1):=by
  refine Rat.intCast_lt_intCast.1 ?_
  rw [← p8,Rat.intCast_neg,Rat.intCast_mul,Rat.intCast_add]
  show -((2^vv:Int):Rat)<4*(((flr x vv:Int):Rat)+1)
  grind
 have k2:4*(cei x vv-1)<4*2^(vv-2):=by
  refine Rat.intCast_lt_intCast.1 ?_
  rw [← p8,Rat.intCast_mul,Rat.intCast_sub]
  show 4*(((cei x vv:Int):Rat)-1)<((2^vv:Int):Rat)
  grind
 have k3:=(zpo x vv).2
 refine ⟨ab,?_,?_⟩<;>omega
theorem zw6 {p1 p2:Nat→Int}{B n:Nat}(h:∀ j,j≤n→(p1 j).natAbs≤B∧(p2 j).natAbs≤B):∀ i,2*i≤n+1→((csL p1 p2 i).natAbs≤i*B∧(csH p1 p2 i).natAbs≤i*B)∧(2*i≤n→(snL p1 p2 i).natAbs≤i*B∧(snH p1 p2 i).natAbs≤i*B)
 | 0,_=>by show ((0:Int).natAbs≤0*B∧(0:Int).natAbs≤0*B)∧(_→(0:Int).natAbs≤0*B∧(0:Int).natAbs≤0*B); omega
 | i+1,hi=>by
  have a:=zw6 h i oO
  have b:=h (2*i) oO
  have e:(i+1)*B=i*B+B:=Nat.succ_mul i B
  unfold csL csH snL snH
  rw [e]
  by_cases q:i%2=0
  ·rw [if_pos q,if_pos q,if_pos q,if_pos q]
   refine ⟨by omega,fun z=>?_⟩
   have c:=h (2*i+1) oO
   have a:=a.2 oO
   omega
  ·rw [if_neg q,if_neg q,if_neg q,if_neg q]
   refine ⟨by omega,fun z=>?_⟩
   have c:=h (2*i+1) oO
   have a:=a.2 oO
   omega
theorem zw7 {vv:Nat}{v xa xb:Int}(vn:v.toNat=vv)(v0:0≤v)(hV:3≤vv∧vv≤600)(h1:4*xa.natAbs≤2^vv)(h2:4*xb.natAbs≤2^vv)(hy:xa≤xb)(hw:xb-xa≤1) :
  ∃ nn:Nat,(((reLo (2^vv) xa xb) nn).natAbs≤1∧((reHi (2^vv) xa xb) nn).natAbs≤1)∧nn≤vv∧(∀ j,j≤nn→Impl Tryz.prog Amb 74 [(sV ((reLo (2^vv) xa xb) j) ((reHi (2^vv) xa xb) j))] (.bool (decide (nn≤j))))∧(∀ j,j<nn→Impl Tryz.prog Amb 99 [(sV ((reLo (2^vv) xa xb) j) ((reHi (2^vv) xa xb) j))] (sV (-((reHi (2^vv) xa xb) j)) (-((reLo (2^vv) xa xb) j))))∧(∀ i,i%2=0→2*i<nn→Impl Tryz.prog Amb 47 [(sV (csL (reLo (2^vv) xa xb) (reHi (2^vv) xa xb) i) (csH (reLo (2^vv) xa xb) (reHi (2^vv) xa xb) i)),(sV ((reLo (2^vv) xa xb) (2*i)) ((reHi (2^vv) xa xb) (2*i)))] (sV (csL (reLo (2^vv) xa xb) (reHi (2^vv) xa xb) (i+1)) (csH (reLo (2^vv) xa xb) (reHi (2^vv) xa xb) (i+1))))∧(∀ i,i%2=1→2*i<nn→Impl Tryz.prog Amb 47 [(sV (csL (reLo (2^vv) xa xb) (reHi (2^vv) xa xb) i) (csH (reLo (2^vv) xa xb) (reHi (2^vv) xa xb) i)),(sV (-((reHi (2^vv) xa xb) (2*i))) (-((reLo (2^vv) xa xb) (2*i))))] (sV (csL (reLo (2^vv) xa xb) (reHi (2^vv) xa xb) (i+1)) (csH (reLo (2^vv) xa xb) (reHi (2^vv) xa xb) (i+1))))∧(∀ i,i%2=0→2*i+1<nn→Impl Tryz.prog Amb 47 [(sV (snL (reLo (2^vv) xa xb) (reHi (2^vv) xa xb) i) (snH (reLo (2^vv) xa xb) (reHi (2^vv) xa xb) i)),(sV ((reLo (2^vv) xa xb) (2*i+1)) ((reHi (2^vv) xa xb) (2*i+1)))] (sV (snL (reLo (2^vv) xa xb) (reHi (2^vv) xa xb) (i+1)) (snH (reLo (2^vv) xa xb) (reHi (2^vv) xa xb) (i+1))))∧(∀ i,i%2=1→2*i+1<nn→Impl Tryz.prog Amb 47 [(sV (snL (reLo (2^vv) xa xb) (reHi (2^vv) xa xb) i) (snH (reLo (2^vv) xa xb) (reHi (2^vv) xa xb) i)),(sV (-((reHi (2^vv) xa xb) (2*i+1))) (-((reLo (2^vv) xa xb) (2*i+1))))] (sV (snL (reLo (2^vv) xa xb) (reHi (2^vv) xa xb) (i+1)) (snH (reLo (2^vv) xa xb) (reHi (2^vv) xa xb) (i+1))))∧(∀ j,j<nn→Impl Tryz.prog Amb 75 [(sV ((reLo (2^vv) xa xb) j) ((reHi (2^vv) xa xb) j)),(sV xa xb),(.int .i64 v)] (sV ((mlo (2^vv) xa xb) j) ((mhi (2^vv) xa xb) j)))∧(∀ (j:Nat) (kk:Int),j<nn→kk=(j:Int)+1→Impl Tryz.prog Amb 29 [(sV ((mlo (2^vv) xa xb) j) ((mhi (2^vv) xa xb) j)),(.int .i64 kk)] (sV ((reLo (2^vv) xa xb) (j+1)) ((reHi (2^vv) xa xb) (j+1))))∧(nn≤10000) ∧
   Impl Tryz.prog Amb 76 [(sV (snL (reLo (2^vv) xa xb) (reHi (2^vv) xa xb) (nn / 2)) (snH (reLo (2^vv) xa xb) (reHi (2^vv) xa xb) (nn / 2))),(.int .i64 3)] (sV (snL (reLo (2^vv) xa xb) (reHi (2^vv) xa xb) (nn / 2)-3) (snH (reLo (2^vv) xa xb) (reHi (2^vv) xa xb) (nn / 2)+3))∧Impl Tryz.prog Amb 76 [(sV (csL (reLo (2^vv) xa xb) (reHi (2^vv) xa xb) ((nn+1) / 2)) (csH (reLo (2^vv) xa xb) (reHi (2^vv) xa xb) ((nn+1) / 2))),(.int .i64 3)] (sV (csL (reLo (2^vv) xa xb) (reHi (2^vv) xa xb) ((nn+1) / 2)-3) (csH (reLo (2^vv) xa xb) (reHi (2^vv) xa xb) ((nn+1) / 2)+3)) ∧
   ((csL (reLo (2^vv) xa xb) (reHi (2^vv) xa xb) ((nn+1) / 2)≤csH (reLo (2^vv) xa xb) (reHi (2^vv) xa xb) ((nn+1) / 2)∧csH (reLo (2^vv) xa xb) (reHi (2^vv) xa xb) ((nn+1) / 2)-csL (reLo (2^vv) xa xb) (reHi (2^vv) xa xb) ((nn+1) / 2)≤2000)∧(snL (reLo (2^vv) xa xb) (reHi (2^vv) xa xb) (nn / 2)≤snH (reLo (2^vv) xa xb) (reHi (2^vv) xa xb) (nn / 2)∧snH (reLo (2^vv) xa xb) (reHi (2^vv) xa xb) (nn / 2)-snL (reLo (2^vv) xa xb) (reHi (2^vv) xa xb) (nn / 2)≤2000)):=by
 obtain ⟨nn,n1,n2,n3⟩:=zvq (v:=vv) (y1:=xa) (y2:=xb) oO oO
 have pa:∀ j,j≤nn→((reLo (2^vv) xa xb) j).natAbs≤1*2^vv∧((reHi (2^vv) xa xb) j).natAbs≤1*2^vv:=fun j hj=>by
  have a:=zvp (v:=vv) (y1:=xa) (y2:=xb) oO oO j oO
  have b:2^(vv-j)≤1*2^vv:=by rw [Nat.one_mul]; exact Nat.pow_le_pow_right oO oO
  exact ⟨Nat.le_trans a.1 b,Nat.le_trans a.2 b⟩
 have pl:∀ j,j≤nn→L ((reLo (2^vv) xa xb) j).natAbs≤70∧L ((reHi (2^vv) xa xb) j).natAbs≤70:=fun j hj=>by
  have a:=pa j hj
  exact ⟨zrl (t:=vv) (c:=1) a.1 oO oO,zrl (t:=vv) (c:=1) a.2 oO oO⟩
 have ml:∀ j,j≤nn→L ((mlo (2^vv) xa xb) j).natAbs≤70∧L ((mhi (2^vv) xa xb) j).natAbs≤70:=fun j hj=>by
  have a:=pa j hj
  have r:=zpu (c:=xa) (d:=xb) (C:=1*2^vv) (B:=1*2^vv) (S:=2^vv) (zi5 vv) a.1 a.2 oO oO (Nat.le_of_eq (by rw [zpv]))
  exact ⟨zrl (t:=vv) (c:=1) r.1 oO oO,zrl (t:=vv) (c:=1) r.2 oO oO⟩
 have xl:L xa.natAbs≤70∧L xb.natAbs≤70:=⟨zrl (t:=vv) (c:=1) oO oO oO,zrl (t:=vv) (c:=1) oO oO oO⟩
 have ca:=zw6 (p1:=(reLo (2^vv) xa xb)) (p2:=(reHi (2^vv) xa xb)) (B:=1*2^vv) (n:=nn) pa
 have cw:=zvu (p1:=(reLo (2^vv) xa xb)) (p2:=(reHi (2^vv) xa xb)) (n:=nn) (fun j hj=>by
  have a:=zvs h1 h2 hy hw j oO
  exact ⟨a.2,a.1⟩)
 have cl:∀ i,2*i≤nn+1→L (csL (reLo (2^vv) xa xb) (reHi (2^vv) xa xb) i).natAbs≤70∧L (csH (reLo (2^vv) xa xb) (reHi (2^vv) xa xb) i).natAbs≤70:=fun i hi=>by
  have a:=(ca i hi).1
  have m:=Nat.mul_le_mul_right (1*2^vv) (show i≤1000 by omega)
  rw [Nat.one_mul] at a m
  exact ⟨zrl (t:=vv) (c:=1000) oO oO oO,zrl (t:=vv) (c:=1000) oO oO oO⟩
 have sl:∀ i,2*i≤nn→L (snL (reLo (2^vv) xa xb) (reHi (2^vv) xa xb) i).natAbs≤70∧L (snH (reLo (2^vv) xa xb) (reHi (2^vv) xa xb) i).natAbs≤70:=fun i hi=>by
  have a:=(ca i oO).2 hi
  have m:=Nat.mul_le_mul_right (1*2^vv) (show i≤1000 by omega)
  rw [Nat.one_mul] at a m
  exact ⟨zrl (t:=vv) (c:=1000) oO oO oO,zrl (t:=vv) (c:=1000) oO oO oO⟩
 refine ⟨nn,n2,n1,fun j hj=>?_,fun j hj=>?_,fun i he hi=>?_,fun i he hi=>?_,fun i he hi=>?_,fun i he hi=>?_,fun j hj=>?_,fun j kk hj hq=>?_,by omega,?_,?_,?_,?_⟩
 ·have a:=pl j hj
  refine zp3 (congrArg V.bool (decide_eq_decide.2 ?_)) (zkm ((reLo (2^vv) xa xb) j) ((reHi (2^vv) xa xb) j) oO oO)
  constructor
  ·intro q
   exact Decidable.byContradiction fun hn=>n3 j oO q
  ·intro q
   rw [show j=nn by omega]; exact n2
 ·have a:=pl j oO
  exact zki ((reLo (2^vv) xa xb) j) ((reHi (2^vv) xa xb) j) oO oO
 ·have a:=cl i oO
  have b:=pl (2*i) oO
  exact zp3 (zu8 (if_pos he).symm (if_pos he).symm) (zkh (csL (reLo (2^vv) xa xb) (reHi (2^vv) xa xb) i) (csH (reLo (2^vv) xa xb) (reHi (2^vv) xa xb) i) ((reLo (2^vv) xa xb) (2*i)) ((reHi (2^vv) xa xb) (2*i)) oO oO oO oO)
 ·have a:=cl i oO
  have b:=pl (2*i) oO
  have k1:=zcx ((reLo (2^vv) xa xb) (2*i))
  have k2:=zcx ((reHi (2^vv) xa xb) (2*i))
  have he:¬ i%2=0:=by omega
  exact zp3 (zu8 (if_neg he).symm (if_neg he).symm) (zkh (csL (reLo (2^vv) xa xb) (reHi (2^vv) xa xb) i) (csH (reLo (2^vv) xa xb) (reHi (2^vv) xa xb) i) (-((reHi (2^vv) xa xb) (2*i))) (-((reLo (2^vv) xa xb) (2*i))) oO oO oO oO)
 ·have a:=sl i oO
  have b:=pl (2*i+1) oO
  exact zp3 (zu8 (if_pos he).symm (if_pos he).symm) (zkh (snL (reLo (2^vv) xa xb) (reHi (2^vv) xa xb) i) (snH (reLo (2^vv) xa xb) (reHi (2^vv) xa xb) i) ((reLo (2^vv) xa xb) (2*i+1)) ((reHi (2^vv) xa xb) (2*i+1)) oO oO oO oO)
 ·have a:=sl i oO
  have b:=pl (2*i+1) oO
  have k1:=zcx ((reLo (2^vv) xa xb) (2*i+1))
  have k2:=zcx ((reHi (2^vv) xa xb) (2*i+1))
  have he:¬ i%2=0:=by omega
  exact zp3 (zu8 (if_neg he).symm (if_neg he).symm) (zkh (snL (reLo (2^vv) xa xb) (reHi (2^vv) xa xb) i) (snH (reLo (2^vv) xa xb) (reHi (2^vv) xa xb) i) (-((reHi (2^vv) xa xb) (2*i+1))) (-((reLo (2^vv) xa xb) (2*i+1))) oO oO oO oO)
 ·have a:=pl j oO
  have h:=zqk ((reLo (2^vv) xa xb) j) ((reHi (2^vv) xa xb) j) xa xb v oO oO oO oO oO
  rw [vn] at h
  exact h
 ·subst hq
  have a:=ml j oO
  exact zkl ((mlo (2^vv) xa xb) j) ((mhi (2^vv) xa xb) j) ((j:Int)+1) oO oO oO
 ·have a:=sl (nn / 2) oO
  exact zkg _ _ 3 oO oO oO
 ·have a:=cl ((nn+1) / 2) oO
  exact zkg _ _ 3 oO oO oO
 ·have a:=(cw ((nn+1) / 2) oO).1
  omega
 ·have a:=(cw (nn / 2) oO).2 oO
  omega
theorem zw8 (m e w:Int)(hL:L (m).natAbs≤20)(he:-1000≤e∧e≤200)(hw:0≤w∧w≤200)(ht:topD m e≤34) :
  ∃ a1 b1 a2 b2:Int,Impl Tryz.prog Amb 140 [(yV m e),(.int .i64 w)] (.tup [(wV (mkM a1 (-(w+16))) (mkX a1 (-(w+16))) (mkM b1 (-(w+16))) (mkX b1 (-(w+16)))),(wV (mkM a2 (-(w+16))) (mkX a2 (-(w+16))) (mkM b2 (-(w+16))) (mkX b2 (-(w+16))))])∧((L a1.natAbs≤75∧L b1.natAbs≤75)∧L a2.natAbs≤75∧L b2.natAbs≤75)∧(a1≤b1∧a2≤b2) ∧
   ∀ g:Rat,0<g→EnE (SN (dv m e)) (w.toNat+16) a1 b1 g∧EnE (CS (dv m e)) (w.toNat+16) a2 b2 g:=by
 have hTop:=zj4 m e oO oO
 have im:=zeh 0 (topD m e)
 have tr:=zi7 m e
 obtain ⟨H,hH⟩:∃ H:Nat,(H:Int)=((iMax (0:Int) (topD m e))+2):=⟨(((iMax (0:Int) (topD m e))+2)).toNat,by omega⟩
 obtain ⟨v,hv⟩:∃ v:Int,v=((w+60)+((4:Int)*((iMax (0:Int) (topD m e))+2))):=⟨_,rfl⟩
 obtain ⟨vv,vn⟩:∃ vv:Nat,v.toNat=vv:=⟨_,rfl⟩
 have v0:0≤v:=by omega
 have vV:v=(vv:Int):=by omega
 have hS:=zja m e ((0:Int)-(H:Int)) oO oO oO
 have mf:=zp9 (m:=m) (e:=e+((0:Int)-(H:Int))) oO oO
 have i1:=zht (e+((0:Int)-(H:Int))) 0
 have i2:iMax (e+((0:Int)-(H:Int))) 0≤200:=by unfold iMax; split<;>omega
 rw [mf.1] at hS
 have ed:e+((0:Int)-(H:Int))=e-(H:Int):=by omega
 have sm:=zw5 (m:=m) (e:=e) (H:=H) (vv:=vv) oO oO oO
 have hx:dv (mkM m (e+((0:Int)-(H:Int)))) (mkX m (e+((0:Int)-(H:Int))))=dv m (e-(H:Int)):=by rw [mf.2.2.2.2.2,ed]
 rw [← hx] at sm
 have hA:=zqj (mkM m (e+((0:Int)-(H:Int)))) (mkX m (e+((0:Int)-(H:Int)))) v oO oO mf.2.2.2.2.1 oO
 have sc1:=(zpm (dv m (e-(H:Int))) vv).1
 have sc2:=(zpn (dv m (e-(H:Int))) vv).1
 have fc:=zpo (dv m (e-(H:Int))) vv
 rw [hx] at hA sm
 rw [← vV] at sc1 sc2 sm fc
 have dd:dbl (dv m (e-(H:Int))) H=dv m e:=by
  rw [zrh,zqq m e (H:Int),zn4]
 generalize mkM m (e+((0:Int)-(H:Int)))=ma at *
 generalize mkX m (e+((0:Int)-(H:Int)))=mb at *
 obtain ⟨ab,s1,s2⟩:=sm
 generalize dv m (e-(H:Int))=x at *
 generalize flr x v=xa at *
 generalize cei x v=xb at *
 obtain ⟨nn,t1,t2,c0,c1,c2,c3,c4,c5,c6,c7,c8,w1,w2,⟨d1,d2⟩,d3,d4⟩:=zw7 vn v0 oO s1 s2 fc.2 oO
 have hO:=zkf 1 v oO oO
 rw [vn,Int.one_mul] at hO
 have hZ:=zkf 0 v oO oO
 rw [Int.zero_mul] at hZ
 have cw:=fun K (hK:nn+1≤K)=>zvv (p1:=(reLo (2^vv) xa xb)) (p2:=(reHi (2^vv) xa xb)) (x:=x) (T:=((2^vv:Int):Rat)) (Rat.intCast_pos.2 (zi5 vv)) (fun j=>zs0 (zi5 vv) sc1 sc2 j) (by grind) (by grind) t1.1 t1.2 (K:=K) hK
 obtain ⟨z,hz⟩:∃ z:Sq,z=⟨snL (reLo (2^vv) xa xb) (reHi (2^vv) xa xb) (nn / 2)-3,snH (reLo (2^vv) xa xb) (reHi (2^vv) xa xb) (nn / 2)+3,csL (reLo (2^vv) xa xb) (reHi (2^vv) xa xb) ((nn+1) / 2)-3,csH (reLo (2^vv) xa xb) (reHi (2^vv) xa xb) ((nn+1) / 2)+3⟩:=⟨_,rfl⟩
 have z1:z.s1=snL (reLo (2^vv) xa xb) (reHi (2^vv) xa xb) (nn / 2)-3:=by rw [hz]
 have z2:z.s2=snH (reLo (2^vv) xa xb) (reHi (2^vv) xa xb) (nn / 2)+3:=by rw [hz]
 have z3:z.c1=csL (reLo (2^vv) xa xb) (reHi (2^vv) xa xb) ((nn+1) / 2)-3:=by rw [hz]
 have z4:z.c2=csH (reLo (2^vv) xa xb) (reHi (2^vv) xa xb) ((nn+1) / 2)+3:=by rw [hz]
 rw [← z1,← z2] at w1
 rw [← z3,← z4] at w2
 have en:∀ K,nn+1≤K→((z.s1:Rat)≤SN x K*((2^vv:Int):Rat)∧SN x K*((2^vv:Int):Rat)≤(z.s2:Rat))∧((z.c1:Rat)≤CS x K*((2^vv:Int):Rat)∧CS x K*((2^vv:Int):Rat)≤(z.c2:Rat)):=fun K hK=>by
  have q:=cw K hK
  rw [z1,z2,z3,z4]
  exact ⟨q.2,q.1⟩
 have p16:(16:Int)^H*2048*4≤2^vv:=by
  have a:(16:Int)^H*2048*4=2^(4*H+13):=by
   rw [Int.pow_add,Int.pow_mul,show (2:Int)^4=16 from rfl,show (2:Int)^13=2048*4 from rfl,Int.mul_assoc]
  rw [a,zaj,zaj]
  exact Int.ofNat_le.2 (Nat.pow_le_pow_right oO oO)
 have bd:=zvy (T:=2^vv) (z:=z) (x:=x) (N0:=nn+1) (h:=H) (W:=2048) (zi5 vv) oO p16 en oO oO
 have pv2:((2^vv:Nat):Int)=(2:Int)^vv:=(zaj _).symm
 have zl:∀ i,i≤H→((L (rD (2^vv) z i).s1.natAbs≤70∧L (rD (2^vv) z i).s2.natAbs≤70)∧(L (rD (2^vv) z i).c1.natAbs≤70∧L (rD (2^vv) z i).c2.natAbs≤70))∧((L ((fun i=>rm1 (rD (2^vv) z i).s1 (rD (2^vv) z i).s2 (rD (2^vv) z i).c1 (rD (2^vv) z i).c2 (2^vv)) i).natAbs≤70∧L ((fun i=>rm2 (rD (2^vv) z i).s1 (rD (2^vv) z i).s2 (rD (2^vv) z i).c1 (rD (2^vv) z i).c2 (2^vv)) i).natAbs≤70)∧(L ((fun i=>rm1 (rD (2^vv) z i).s1 (rD (2^vv) z i).s2 (rD (2^vv) z i).s1 (rD (2^vv) z i).s2 (2^vv)) i).natAbs≤70∧L ((fun i=>rm2 (rD (2^vv) z i).s1 (rD (2^vv) z i).s2 (rD (2^vv) z i).s1 (rD (2^vv) z i).s2 (2^vv)) i).natAbs≤70)):=fun i hi=>by
  have b:=bd i hi
  have r:=zpu (a:=(rD (2^vv) z i).s1) (b:=(rD (2^vv) z i).s2) (c:=(rD (2^vv) z i).c1) (d:=(rD (2^vv) z i).c2) (B:=2*2^vv) (S:=2*2^vv) (C:=4*2^vv) (zi5 vv) oO oO oO oO (by rw [zpv]; grind)
  have r':=zpu (a:=(rD (2^vv) z i).s1) (b:=(rD (2^vv) z i).s2) (c:=(rD (2^vv) z i).s1) (d:=(rD (2^vv) z i).s2) (B:=2*2^vv) (S:=2*2^vv) (C:=4*2^vv) (zi5 vv) oO oO oO oO (by rw [zpv]; grind)
  exact ⟨⟨⟨zrl (t:=vv) (c:=2) oO oO oO,zrl (t:=vv) (c:=2) oO oO oO⟩,zrl (t:=vv) (c:=2) oO oO oO,zrl (t:=vv) (c:=2) oO oO oO⟩,
   ⟨zrl (t:=vv) (c:=4) r.1 oO oO,zrl (t:=vv) (c:=4) r.2 oO oO⟩,zrl (t:=vv) (c:=4) r'.1 oO oO,zrl (t:=vv) (c:=4) r'.2 oO oO⟩
 have oL:L ((2:Int)^vv).natAbs≤70:=zrl (t:=vv) (c:=1) oO oO oO
 have hB:Impl Tryz.prog Amb 198 [(yV m e),(.int .i64 v),(.int .i64 (H:Int))] (.tup [(sV ((rD (2^vv) z H).s1) ((rD (2^vv) z H).s2)),(sV ((rD (2^vv) z H).c1) ((rD (2^vv) z H).c2))]):=by
  refine zw3 nn H m e (H:Int) v ma mb xa xb (2^vv) (2^vv) (reLo (2^vv) xa xb) (reHi (2^vv) xa xb) (mlo (2^vv) xa xb) (mhi (2^vv) xa xb) (fun i=>(rD (2^vv) z i).s1) (fun i=>(rD (2^vv) z i).s2) (fun i=>(rD (2^vv) z i).c1) (fun i=>(rD (2^vv) z i).c2) (fun i=>rm1 (rD (2^vv) z i).s1 (rD (2^vv) z i).s2 (rD (2^vv) z i).c1 (rD (2^vv) z i).c2 (2^vv)) (fun i=>rm2 (rD (2^vv) z i).s1 (rD (2^vv) z i).s2 (rD (2^vv) z i).c1 (rD (2^vv) z i).c2 (2^vv)) (fun i=>rm1 (rD (2^vv) z i).s1 (rD (2^vv) z i).s2 (rD (2^vv) z i).s1 (rD (2^vv) z i).s2 (2^vv)) (fun i=>rm2 (rD (2^vv) z i).s1 (rD (2^vv) z i).s2 (rD (2^vv) z i).s1 (rD (2^vv) z i).s2 (2^vv)) (fun i=>rm1 (rD (2^vv) z i).s1 (rD (2^vv) z i).s2 (rD (2^vv) z i).s1 (rD (2^vv) z i).s2 (2^vv)*2) (fun i=>rm2 (rD (2^vv) z i).s1 (rD (2^vv) z i).s2 (rD (2^vv) z i).s1 (rD (2^vv) z i).s2 (2^vv)*2) hS hA hZ hO c0 c1 c2 c3 c4 c5 c6 c7 c8 w1 w2 (fun i hi=>?_) (fun i hi=>?_) hO (fun i hi=>?_) (fun i hi=>?_) (fun i hi=>?_) oO oO rfl
  ·have l:=zl i oO
   have h:=zqk (rD (2^vv) z i).s1 (rD (2^vv) z i).s2 (rD (2^vv) z i).c1 (rD (2^vv) z i).c2 v oO oO oO oO oO
   rw [vn] at h
   exact h
  ·have l:=(zl i oO).2
   exact zkk ((fun i=>rm1 (rD (2^vv) z i).s1 (rD (2^vv) z i).s2 (rD (2^vv) z i).c1 (rD (2^vv) z i).c2 (2^vv)) i) ((fun i=>rm2 (rD (2^vv) z i).s1 (rD (2^vv) z i).s2 (rD (2^vv) z i).c1 (rD (2^vv) z i).c2 (2^vv)) i) 2 oO oO oO
  ·have l:=zl i oO
   have h:=zqk (rD (2^vv) z i).s1 (rD (2^vv) z i).s2 (rD (2^vv) z i).s1 (rD (2^vv) z i).s2 v oO oO oO oO oO
   rw [vn] at h
   exact h
  ·have l:=(zl i oO).2
   exact zkk ((fun i=>rm1 (rD (2^vv) z i).s1 (rD (2^vv) z i).s2 (rD (2^vv) z i).s1 (rD (2^vv) z i).s2 (2^vv)) i) ((fun i=>rm2 (rD (2^vv) z i).s1 (rD (2^vv) z i).s2 (rD (2^vv) z i).s1 (rD (2^vv) z i).s2 (2^vv)) i) 2 oO oO oO
  ·have l:=(zl i oO).2.2
   have l2:L (2:Int).natAbs≤1:=zk7 2 (by decide)
   have k1:=zcw ((fun i=>rm1 (rD (2^vv) z i).s1 (rD (2^vv) z i).s2 (rD (2^vv) z i).s1 (rD (2^vv) z i).s2 (2^vv)) i) 2
   have k2:=zcw ((fun i=>rm2 (rD (2^vv) z i).s1 (rD (2^vv) z i).s2 (rD (2^vv) z i).s1 (rD (2^vv) z i).s2 (2^vv)) i) 2
   exact zkj (2^vv) (2^vv) ((fun i=>rm1 (rD (2^vv) z i).s1 (rD (2^vv) z i).s2 (rD (2^vv) z i).s1 (rD (2^vv) z i).s2 (2^vv)*2) i) ((fun i=>rm2 (rD (2^vv) z i).s1 (rD (2^vv) z i).s2 (rD (2^vv) z i).s1 (rD (2^vv) z i).s2 (2^vv)*2) i) oO oO (by show L ((fun i=>rm1 (rD (2^vv) z i).s1 (rD (2^vv) z i).s2 (rD (2^vv) z i).s1 (rD (2^vv) z i).s2 (2^vv)) i*2).natAbs≤_; omega) (by show L ((fun i=>rm2 (rD (2^vv) z i).s1 (rD (2^vv) z i).s2 (rD (2^vv) z i).s1 (rD (2^vv) z i).s2 (2^vv)) i*2).natAbs≤_; omega)
 have bH:=bd H (Nat.le_refl _)
 have lH:=(zl H (Nat.le_refl _)).1
 obtain ⟨G,hG⟩:∃ G:Nat,vv=(w.toNat+16)+G:=⟨vv-(w.toNat+16),by omega⟩
 have hgg:(v-(w+16)).toNat=G:=by omega
 have o1:=zkn (rD (2^vv) z H).s1 (rD (2^vv) z H).s2 v (w+16) oO oO oO
 have o2:=zkn (rD (2^vv) z H).c1 (rD (2^vv) z H).c2 v (w+16) oO oO oO
 rw [hgg] at o1 o2
 have u1:=zgy (rD (2^vv) z H).s1 G
 have u2:=zcx (rD (2^vv) z H).s2
 have u3:=zgy (-(rD (2^vv) z H).s2) G
 have u4:=zcx (-(rD (2^vv) z H).s2 / 2^G)
 have u5:=zgy (rD (2^vv) z H).c1 G
 have u6:=zcx (rD (2^vv) z H).c2
 have u7:=zgy (-(rD (2^vv) z H).c2) G
 have u8:=zcx (-(rD (2^vv) z H).c2 / 2^G)
 have lims:=zvx x H
 rw [dd] at lims
 have encl:∀ K,nn+1≤K→_:=fun K hK=>zvw (zi5 vv) (en K hK).1 (en K hK).2 H
 have eS:EnE (fun K=>(uD x H K).1) (w.toNat+16) ((rD (2^vv) z H).s1 / 2^G) (-(-(rD (2^vv) z H).s2 / 2^G)) 0:=⟨nn+1,fun K hK=>by
  have q:=zpz hG (encl K hK).1.1 (encl K hK).1.2
  constructor<;>grind⟩
 have eC:EnE (fun K=>(uD x H K).2) (w.toNat+16) ((rD (2^vv) z H).c1 / 2^G) (-(-(rD (2^vv) z H).c2 / 2^G)) 0:=⟨nn+1,fun K hK=>by
  have q:=zpz hG (encl K hK).2.1 (encl K hK).2.2
  constructor<;>grind⟩
 have oS:=zpz hG (encl (nn+1) (Nat.le_refl _)).1.1 (encl (nn+1) (Nat.le_refl _)).1.2
 have oC:=zpz hG (encl (nn+1) (Nat.le_refl _)).2.1 (encl (nn+1) (Nat.le_refl _)).2.2
 rw [hv] at hB o1 o2
 rw [hH] at hB
 exact ⟨_,_,_,_,zw4 m e w (topD m e) _ _ _ _ _ _ _ _ _ _ _ _ oO oO hTop hB o1 o2,⟨⟨by omega,by omega⟩,by omega,by omega⟩,⟨Rat.intCast_le_intCast.1 (Rat.le_trans oS.1 oS.2),Rat.intCast_le_intCast.1 (Rat.le_trans oC.1 oC.2)⟩,fun g hg=>⟨eS.of_lim lims.1 hg,eC.of_lim lims.2 hg⟩⟩
end Go.Proofs.YtcbihoojfakhdaaGreatDoor

namespace Go.Proofs.YtcbihoojfakhdaaGreatDoor
open Go.RowKit
set_option maxRecDepth 100000
set_option maxHeartbeats 2000000
def r01_Uint_0_mk (a:Nat)(x:(Int)⊕(Int)):St:=Sum.elim (fun (x:Int)=>⟨mkS 26 [(4,(.val (.int .u64 0))),(7,(.val (N a))),(8,(.val (.int .i64 ((lim a).length:Int)))),(9,(.val (.int .i64 0)))],[]⟩) (fun (x:Int)=>⟨mkS 26 [(4,(.val (.int .u64 x))),(7,(.val (N a))),(8,(.val (.int .i64 ((lim a).length:Int)))),(9,(.val (.int .i64 1)))],[]⟩) x
def r01_Uint_0_I (a:Nat)(x:(Int)⊕(Int)):Prop:=Sum.elim (fun (x:Int)=>x=0) (fun (x:Int)=>x=(a:Int)) x
def r01_Uint_0_mu (_:Nat)(x:(Int)⊕(Int)):Nat:=Sum.elim (fun (x:Int)=>1) (fun (x:Int)=>0) x
def r01_Uint_0_ex (_:Nat)(y:Int):Ex × St:=(.exit 0,⟨mkS 26 [(4,(.val (.int .u64 y)))],[]⟩)
def r01_Uint_0_J (a:Nat)(y:Int):Prop:=y=(a:Int)
abbrev r01_Uint_0_N (a:Nat):=NX (r01_Uint_0_mk a) (r01_Uint_0_I a) (r01_Uint_0_mu a) (r01_Uint_0_ex a) (r01_Uint_0_J a)
theorem zw9 (a:Nat)(c0:a<4294967296)(c1:L a≤1)(x0:(Int)⊕(Int))(hI:r01_Uint_0_I a x0):LoopOk Tryz.prog Amb (loopN Tryz.f234 0) (r01_Uint_0_mk a x0) (fun e st_=>∃ y,r01_Uint_0_J a y∧r01_Uint_0_ex a y=(e,st_)) :=
 z6m hP hAmb ⟨[4,7,8,9],0,[]⟩ (r01_Uint_0_mk a) (r01_Uint_0_I a) (r01_Uint_0_mu a) (r01_Uint_0_ex a) (r01_Uint_0_J a) x0 hI (Sum.elim (fun i=>.lit<|.both (.yes<|.yes<|.lits 3<|.yes<|.lit<|.yes<|.lit<|.yes<|.lit<|.yes<|.lit<|.yes<|.lit<|.yes<|.fin2 ⟨[4,7,8,9],0,[]⟩) (.fin2 ⟨[4],0,[]⟩)) (fun sm=>.lit<|.no<|.fin2 ⟨[4],0,[]⟩)) (by
  rintro (i | sm) hI
  ·skip
   have hI:i=0:=hI
   have h1:=hI
   have e0:=z8g a
   have l1:=c1
   have g0:=z89 (limbs a) 0
   have g1:=z8a (z6y a) 0
   exact z6d (aI True.intro (aI (fun (h101:(iLt 0 ((lim a).length:Int))=true)=>have _gh101:=z73 h101; aI (z7o (by first | omega | (simp only [Int.pow_zero]; omega)):(inB (0:Int) ((lim a).length))=true) (aI (ld_L (by first | omega | (simp only [Int.pow_zero]; omega)):(Nat.blt 0 (lim a).length && isIntK .u32 (nth (lim a) 0 .unk))=true) (aI (z7t (by first | omega | (simp only [Int.pow_zero]; omega)):(fits .u64 (gi (limbs a) 0))=true) (aI tT (aI tT (aI (z7t (by first | omega | (simp only [Int.pow_zero]; omega)):(fits .u64 ((gi (limbs a) 0)*2^0))=true) (aI (z7t (by first | omega | (simp only [Int.pow_zero]; omega)):(fits .u64 ((0:Int)+((gi (limbs a) 0)*2^0)))=true) (aI tT (aI tT ((z6j (Sum.inr ((0:Int)+((gi (limbs a) 0)*2^0))) (show ((0:Int)+((gi (limbs a) 0)*2^0))=(a:Int) from (by rw [← zmm (show L a=1 by omega)]; omega)) (show 0<1 by omega):r01_Uint_0_N a (Sum.inl i) .normal (r01_Uint_0_mk a (Sum.inr ((0:Int)+((gi (limbs a) 0)*2^0))))))))))))))) (fun (h102:(iLt 0 ((lim a).length:Int))=false)=>have _gh102:=z74 h102; aI tT ((z6k 0 ((r01_Uint_0_ex a (0:Int)).2) (0:Int) (show (0:Int)=(a:Int) from (show (0:Int)=(a:Int) by rw [show a=0 from Decidable.byContradiction fun h=>by have:=z8i h; omega]; rfl)) rfl:r01_Uint_0_N a (Sum.inl i) (.exit 0) ((r01_Uint_0_ex a (0:Int)).2)))))) (by kernel_rfl)
  ·skip
   have hI:sm=(a:Int):=hI
   have h1:=hI
   have e0:=z8g a
   have l1:=c1
   exact z6d (aI True.intro (aI (z7k oO:(iLt 1 ((lim a).length:Int))=false) (aI tT ((z6k 0 ((r01_Uint_0_ex a sm).2) sm (show sm=(a:Int) from show sm=(a:Int) from h1) rfl:r01_Uint_0_N a (Sum.inr sm) (.exit 0) ((r01_Uint_0_ex a sm).2)))))) (by kernel_rfl))
theorem zwa (a:Nat)(c0:a<4294967296):Impl Tryz.prog Amb 234 [(N a)] (.tup [(.int .u64 (a:Int)),(.bool true)]):=by
 exact z6e hP hAmb Tryz.func234 (by kernel_rfl) (.loop ⟨[4,7,8,9],0,[]⟩ ((r01_Uint_0_mk a (Sum.inl (0:Int)))) (Int) (r01_Uint_0_ex a) (r01_Uint_0_J a) (fun y=>.lit<|.ret))
  (z6d (aI True.intro (aI tT (aI (rfl:(r01_Uint_0_mk a (Sum.inl (0:Int)))=(r01_Uint_0_mk a (Sum.inl (0:Int)))) (aI (zw9 a c0 (L_le (n:=a) (k:=1) (by rw [Nat.pow_one]; exact c0)) (Sum.inl (0:Int)) (show (0:Int)=0 from rfl)) (fun y (hJ:r01_Uint_0_J a y)=>have hJ:y=(a:Int):=hJ; have hY:=hJ; (z5x (by rw [hY]):vsub (.tup [(.int .u64 y),(.bool true)]) (.tup [(.int .u64 (a:Int)),(.bool true)]))))))) (by kernel_rfl))
theorem zwb (x:Int)(c0:-4294967295≤x∧x≤4294967295):Impl Tryz.prog Amb 199 [(zV x)] (.tup [(.int .i64 x),(.bool true)]):=by
 have wz:=zqt (x:=x)
 exact z6e hP hAmb Tryz.func199 (by kernel_rfl) (.lits 2<|.call (.tup [(.int .u64 (x.natAbs:Int)),(.bool true)])<|.lits 7<|.both (.lits 5<|.no<|.lits 3<|.both (.lits 5<|.no<|.lit<|.yes<|.lit<|.no<|.lit<|.no<|.lit<|.ret) (.lits 6<|.no<|.lit<|.yes<|.lit<|.ret)) (.lits 8<|.both (.lits 5<|.no<|.lit<|.yes<|.lit<|.no<|.lit<|.no<|.lit<|.ret) (.lits 6<|.no<|.lit<|.yes<|.lit<|.ret)))
  (z6d (aI True.intro (aI (zwa x.natAbs oO) (aI (fun (h1:(!(decide (x<0)))=true)=>have _gh1:=of_decide_eq_false (z7p h1); aI (z7m oO:(iGt (x.natAbs:Int) 9223372036854775807)=false) (aI (fun (h2:(decide (x<0))=true)=>have _gh2:=of_decide_eq_true h2; aI (z7m oO:(iGt (x.natAbs:Int) 9223372036854775808)=false) (aI (h2:(decide (x<0))=true) ((False.elim oO:vsub (.tup [(.int .i64 (IntKind.wrap .i64 (IntKind.wrap .u64 ((0:Int)-(x.natAbs:Int))))),(.bool true)]) (.tup [(.int .i64 x),(.bool true)]))))) (fun (h3:(decide (x<0))=false)=>have _gh3:=of_decide_eq_false h3; aI (h3:(decide (x<0))=false) (aI (z7s oO:(fits .i64 (x.natAbs:Int))=true) ((z5x (by rw [show (x.natAbs:Int)=x by omega]):vsub (.tup [(.int .i64 (x.natAbs:Int)),(.bool true)]) (.tup [(.int .i64 x),(.bool true)]))))))) (fun (h4:(!(decide (x<0)))=false)=>have _gh4:=of_decide_eq_true (z7q h4); aI (fun (h5:(decide (x<0))=true)=>have _gh5:=of_decide_eq_true h5; aI (z7m oO:(iGt (x.natAbs:Int) 9223372036854775808)=false) (aI (h5:(decide (x<0))=true) ((z5x (by rw [wz oO oO]):vsub (.tup [(.int .i64 (IntKind.wrap .i64 (IntKind.wrap .u64 ((0:Int)-(x.natAbs:Int))))),(.bool true)]) (.tup [(.int .i64 x),(.bool true)]))))) (fun (h6:(decide (x<0))=false)=>have _gh6:=of_decide_eq_false h6; aI (h6:(decide (x<0))=false) (aI (z7s oO:(fits .i64 (x.natAbs:Int))=true) ((False.elim oO:vsub (.tup [(.int .i64 (x.natAbs:Int)),(.bool true)]) (.tup [(.int .i64 x),(.bool true)]))))))))) (by kernel_rfl))
end Go.Proofs.YtcbihoojfakhdaaGreatDoor
