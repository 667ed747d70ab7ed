/-
  Lower layers: what functions of the program compute, and zyt facts. Conditions: as the theorems say.
-/
import Derived.Test.YtcbihoojfakhdaaGreatDoorCbM
set_option linter.unusedVariables false
set_option linter.unusedSimpArgs false
namespace Go.Proofs.YtcbihoojfakhdaaGreatDoor
open Go.RowKit
set_option maxRecDepth 100000
theorem zji (p:Int)(c0:(-9223372036854775808:Int)≤p∧p≤9223372036854775807):Impl Tryz.prog Amb 89 [(.int .i64 p)] (.bool (decide ((-2048:Int)≤p∧p≤8192))):=by
 exact z6e hP hAmb Tryz.func89 (by kernel_rfl) (.lit<|.both (.lits 4<|.ret) (.lits 3<|.ret))
  (z6d (aI True.intro (aI (fun (h1:(iGe p (-2048))=true)=>have _gh1:=z79 h1; (z5x (congrArg V.bool (zjc oO)):vsub (.bool (iLe p 8192)) (.bool (decide ((-2048:Int)≤p∧p≤8192))))) (fun (h2:(iGe p (-2048))=false)=>have _gh2:=z7a h2; (z5x (congrArg V.bool (decide_eq_false oO).symm):vsub (.bool false) (.bool (decide ((-2048:Int)≤p∧p≤8192))))))) (by kernel_rfl))
theorem zjj (m e p:Int)(c0:L (m).natAbs≤16777216)(c1:(-9223372036854775808:Int)≤p∧p≤9223372036854775807):Impl Tryz.prog Amb 41 [(yV m e),(.int .i64 p)] (.bool (decide (((-2048:Int)≤p∧p≤8192)∧(m=0∨-p≤e)))):=by
 have e0:=z8g m.natAbs
 have e1:=zcy m.natAbs
 have s0:=zi6 m
 exact z6e hP hAmb Tryz.func41 (by kernel_rfl) (.lit<|.call (.bool (decide ((-2048:Int)≤p∧p≤8192)))<|.both (.lits 7<|.both (.lits 8<|.ret) (.lits 5<|.yes<|.lits 6<|.ret)) (.lits 8<|.ret))
  (z6d (aI True.intro (aI (zji p oA) (aI (fun (h1:(decide ((-2048:Int)≤p∧p≤8192))=true)=>have _gh1:=of_decide_eq_true h1; aI (fun (h2:(iEq ((lim m.natAbs).length:Int) 0)=true)=>have _gh2:=z7b h2; (z5x (congrArg V.bool ((decide_eq_true oO).symm)):vsub (.bool true) (.bool (decide (((-2048:Int)≤p∧p≤8192)∧(m=0∨-p≤e)))))) (fun (h3:(iEq ((lim m.natAbs).length:Int) 0)=false)=>have _gh3:=z7c h3; aI (z7s oA:(fits .i64 ((0:Int)-p))=true) ((z5x (congrArg V.bool (on_3 oO oO)):vsub (.bool (iGe e ((0:Int)-p))) (.bool (decide (((-2048:Int)≤p∧p≤8192)∧(m=0∨-p≤e)))))))) (fun (h4:(decide ((-2048:Int)≤p∧p≤8192))=false)=>have _gh4:=of_decide_eq_false h4; (z5x (congrArg V.bool ((decide_eq_false oO).symm)):vsub (.bool false) (.bool (decide (((-2048:Int)≤p∧p≤8192)∧(m=0∨-p≤e))))))))) (by kernel_rfl))
theorem zjk (p:Int)(c0:(-2048:Int)≤p∧p≤8192):Impl Tryz.prog Amb 32 [(.int .i64 p)] (.tup [(yV (mkM (1:Int) (-p)) (mkX (1:Int) (-p))),(.int .i64 (mkE (1:Int) (-p)))]):=by
 have l1:=L_le (n:=1) (k:=1) (by decide)
 exact z6e hP hAmb Tryz.func32 (by kernel_rfl) (.lit<|.call (.bool (decide ((-2048:Int)≤p∧p≤8192)))<|.lit<|.no<|.lit<|.call (zV (1:Int))<|.lit<|.yes<|.lit<|.call (.tup [(yV (mkM (1:Int) ((0:Int)-p)) (mkX (1:Int) ((0:Int)-p))),(.int .i64 (mkE (1:Int) ((0:Int)-p)))])<|.lits 2<|.ret)
  (z6d (aI True.intro (aI (zji p oA) (aI (zjd oO:(!(decide ((-2048:Int)≤p∧p≤8192)))=false) (aI (zhd 1 oA) (have f2:=(zgo oA:L (1:Int).natAbs≤2); aI (z7s oA:(fits .i64 ((0:Int)-p))=true) (aI (zj2 (1:Int) ((0:Int)-p) oA oA) (have f1:=zhz (1:Int) ((0:Int)-p); (z5x (by first | rfl | simp_all):vsub (.tup [(yV (mkM (1:Int) ((0:Int)-p)) (mkX (1:Int) ((0:Int)-p))),(.int .i64 (mkE (1:Int) ((0:Int)-p)))]) (.tup [(yV (mkM (1:Int) (-p)) (mkX (1:Int) (-p))),(.int .i64 (mkE (1:Int) (-p)))]))))))))) (by kernel_rfl))
theorem zjl (m e n f:Int)(c0:L (m).natAbs≤8192)(c1:L (n).natAbs≤8192):Impl Tryz.prog Amb 40 [(wV m e n f)] (.bool (ivB m e n f)):=by
 have v0:=zjg m e
 have v1:=zjg n f
 exact z6e hP hAmb Tryz.func40 (by kernel_rfl) (.lits 2<|.call (.bool (vdb m e))<|.both (.lits 4<|.call (.bool (vdb n f))<|.lit<|.both (.lits 7<|.call (.int .i64 (cmpD m e n f))<|.lits 4<|.ret) (.lits 7<|.ret)) (.lits 11<|.ret))
  (z6d (aI True.intro (aI (zj1 m e (by first | omega | (have:=v0 (by assumption); have:=v1 (by assumption); omega))) (aI (fun (h1:(vdb m e)=true)=>aI (zj1 n f (by first | omega | (have:=v0 (by assumption); have:=v1 (by assumption); omega))) (aI (fun (h2:(vdb n f)=true)=>aI (zj7 m e n f (by first | omega | (have:=v0 (by assumption); have:=v1 (by assumption); omega)) (by first | omega | (have:=v0 (by assumption); have:=v1 (by assumption); omega)) (by first | omega | (have:=v0 (by assumption); have:=v1 (by assumption); omega)) (by first | omega | (have:=v0 (by assumption); have:=v1 (by assumption); omega))) (have f3:=zi9 m e n f; (z5x (congrArg V.bool (iv_1 (by assumption) (by assumption))):vsub (.bool (iLe (cmpD m e n f) 0)) (.bool (ivB m e n f))))) (fun (h4:(vdb n f)=false)=>(z5x (congrArg V.bool (iv_3 (by assumption))):vsub (.bool false) (.bool (ivB m e n f)))))) (fun (h5:(vdb m e)=false)=>(z5x (congrArg V.bool (iv_2 (by assumption))):vsub (.bool false) (.bool (ivB m e n f))))))) (by kernel_rfl))
theorem zjm (m e n f p g q h:Int)(c0:L (m).natAbs≤8192)(c1:L (n).natAbs≤8192)(c2:(-65536:Int)≤e∧e≤65536)(c3:(-65536:Int)≤f∧f≤65536)(c4:L (p).natAbs≤8192)(c5:L (q).natAbs≤8192)(c6:(-65536:Int)≤g∧g≤65536)(c7:(-65536:Int)≤h∧h≤65536):Impl Tryz.prog Amb 95 [(wV m e n f),(wV p g q h)] (.bool (decide ((cmpD p g m e)≤0∧(cmpD n f q h)≤0))):=by
 exact z6e hP hAmb Tryz.func95 (by kernel_rfl) (.lits 3<|.call (.int .i64 (cmpD p g m e))<|.lit<|.both (.lits 7<|.call (.int .i64 (cmpD n f q h))<|.lits 4<|.ret) (.lits 7<|.ret))
  (z6d (aI True.intro (aI (zj7 p g m e oA oA oA oA) (have f4:=zi9 p g m e; aI (fun (h1:(iLe (cmpD p g m e) 0)=true)=>have _gh1:=z75 h1; aI (zj7 n f q h oA oA oA oA) (have f2:=zi9 n f q h; (z5x (congrArg V.bool (wi_1 oO)):vsub (.bool (iLe (cmpD n f q h) 0)) (.bool (decide ((cmpD p g m e)≤0∧(cmpD n f q h)≤0)))))) (fun (h3:(iLe (cmpD p g m e) 0)=false)=>have _gh3:=z76 h3; (z5x (congrArg V.bool ((decide_eq_false oO).symm)):vsub (.bool false) (.bool (decide ((cmpD p g m e)≤0∧(cmpD n f q h)≤0)))))))) (by kernel_rfl))
theorem zjn (m e n f:Int)(c0:L (m).natAbs≤16777216)(c1:L (n).natAbs≤16777216):Impl Tryz.prog Amb 77 [(yV m e),(yV n f)] (.bool (decide (e=f∧m=n))):=by
 exact z6e hP hAmb Tryz.func77 (by kernel_rfl) (.lits 3<|.both (.lits 7<|.call (.bool (decide (m=n)))<|.lits 2<|.ret) (.lits 6<|.ret))
  (z6d (aI True.intro (aI (fun (h1:(iEq e f)=true)=>have _gh1:=z7b h1; aI (zhl m n oA oA) ((z5x (congrArg V.bool (sm_1 oO)):vsub (.bool (decide (m=n))) (.bool (decide (e=f∧m=n)))))) (fun (h2:(iEq e f)=false)=>have _gh2:=z7c h2; (z5x (congrArg V.bool ((decide_eq_false oO).symm)):vsub (.bool false) (.bool (decide (e=f∧m=n))))))) (by kernel_rfl))
theorem zjo (m e n f p g q h:Int)(c0:L (m).natAbs≤16777216)(c1:L (n).natAbs≤16777216)(c2:L (p).natAbs≤16777216)(c3:L (q).natAbs≤16777216):Impl Tryz.prog Amb 37 [(wV m e n f),(wV p g q h)] (.bool (decide ((e=g∧m=p)∧(f=h∧n=q)))):=by
 exact z6e hP hAmb Tryz.func37 (by kernel_rfl) (.lits 3<|.call (.bool (decide (e=g∧m=p)))<|.both (.lits 7<|.call (.bool (decide (f=h∧n=q)))<|.lits 2<|.ret) (.lits 6<|.ret))
  (z6d (aI True.intro (aI (zjn m e p g oA oA) (aI (fun (h1:(decide (e=g∧m=p))=true)=>have _gh1:=of_decide_eq_true h1; aI (zjn n f q h oA oA) ((z5x (congrArg V.bool (sm_2 oO)):vsub (.bool (decide (f=h∧n=q))) (.bool (decide ((e=g∧m=p)∧(f=h∧n=q))))))) (fun (h2:(decide (e=g∧m=p))=false)=>have _gh2:=of_decide_eq_false h2; (z5x (congrArg V.bool ((decide_eq_false oO).symm)):vsub (.bool false) (.bool (decide ((e=g∧m=p)∧(f=h∧n=q))))))))) (by kernel_rfl))
end Go.Proofs.YtcbihoojfakhdaaGreatDoor

namespace Go.Proofs.YtcbihoojfakhdaaGreatDoor
theorem zjp (a b:Int):L (min a b).natAbs≤max (L a.natAbs) (L b.natAbs):=by
 rcases Int.le_total a b with h | h
 ·rw [Int.min_eq_left h]; omega
 ·rw [Int.min_eq_right h]; omega
theorem zjq (a b:Int):L (max a b).natAbs≤max (L a.natAbs) (L b.natAbs):=by
 rcases Int.le_total a b with h | h
 ·rw [Int.max_eq_right h]; omega
 ·rw [Int.max_eq_left h]; omega
theorem zjr {a b:Nat}(h:a≤1):iLe (cmpN b 1) 0=decide (a≤1∧b≤1):=by
 have:=zeg b 1
 unfold iLe
 by_cases q:b≤1
 ·rw [decide_eq_true (show cmpN b 1≤0 by omega),decide_eq_true]; exact ⟨h,q⟩
 ·rw [decide_eq_false (show ¬ cmpN b 1≤0 by omega),decide_eq_false]; omega
theorem zjs {a b:Nat}(h:1<a):false=decide (a≤1∧b≤1):=by rw [decide_eq_false]; omega
theorem zjt {m n:Int}{B:Nat}(hn:1≤n)(h:m.natAbs≤B):(Int.fdiv m n).natAbs≤B:=by
 rw [Int.fdiv_eq_ediv_of_nonneg _ (by omega)]
 have hB:(B:Int)*1≤(B:Int)*n:=Int.mul_le_mul_of_nonneg_left (by omega) (by omega)
 have h1:-(B:Int)≤m / n:=(Int.le_ediv_iff_mul_le (by omega)).2 (by rw [Int.neg_mul]; omega)
 have h2:m / n<(B:Int)+1:=(Int.ediv_lt_iff_lt_mul (by omega)).2 (by rw [Int.add_mul]; omega)
 omega
theorem zju {m n:Int}{B:Nat}(hn:2≤n)(h:m.natAbs≤2*B):(Int.fdiv m n).natAbs≤B:=by
 rw [Int.fdiv_eq_ediv_of_nonneg _ (by omega)]
 have hB:(B:Int)*2≤(B:Int)*n:=Int.mul_le_mul_of_nonneg_left (by omega) (by omega)
 have h1:-(B:Int)≤m / n:=(Int.le_ediv_iff_mul_le (by omega)).2 (by rw [Int.neg_mul]; omega)
 have h2:m / n<(B:Int)+1:=(Int.ediv_lt_iff_lt_mul (by omega)).2 (by rw [Int.add_mul]; omega)
 omega
theorem zjv {a b:Int}{B:Nat}(h:a.natAbs≤B)(k:b.natAbs≤B):(min a b).natAbs≤B:=by
 rcases Int.le_total a b with q | q
 ·rw [Int.min_eq_left q]; exact h
 ·rw [Int.min_eq_right q]; exact k
theorem zjw {a b:Int}{B:Nat}(h:a.natAbs≤B)(k:b.natAbs≤B):(max a b).natAbs≤B:=by
 rcases Int.le_total a b with q | q
 ·rw [Int.max_eq_right q]; exact k
 ·rw [Int.max_eq_left q]; exact h
theorem zjx {a b n:Int}{B:Nat}(hn:1≤n)(h:a.natAbs≤B)(k:b.natAbs≤B):(Int.fdiv (min a b) n).natAbs≤B∧(-(Int.fdiv (-(max a b)) n)).natAbs≤B:=by
 refine ⟨zjt hn (zjv h k),?_⟩
 rw [Int.natAbs_neg]
 exact zjt hn (by rw [Int.natAbs_neg]; exact zjw h k)
theorem zjy {a b n:Int}{B:Nat}(hn:2≤n)(h:a.natAbs≤2*B)(k:b.natAbs≤2*B):(Int.fdiv (min a b) n).natAbs≤B∧(-(Int.fdiv (-(max a b)) n)).natAbs≤B:=by
 refine ⟨zju hn (zjv h k),?_⟩
 rw [Int.natAbs_neg]
 exact zju hn (by rw [Int.natAbs_neg]; exact zjw h k)
theorem zjz {k:Int}(h:0≤k):wRem k (2:Int)=k%2:=Int.tmod_eq_emod_of_nonneg h
def atanG (n:Int):Nat→Int→Int→Int→Int→Int→Int × Int
 | 0,_,_,_,a,b=>(a,b)
 | f+1,k,lo,hi,a,b =>
  if lo.natAbs≤1∧hi.natAbs≤1 then (a,b) else
  if k%2=1 then atanG n f (k+1) (Int.fdiv (min (Int.fdiv (min lo hi) n) (-(Int.fdiv (-(max lo hi)) n))) n) (-(Int.fdiv (-(max (Int.fdiv (min lo hi) n) (-(Int.fdiv (-(max lo hi)) n)))) n))
   (a+-(-(Int.fdiv (-(max lo hi)) (2*k+1)))) (b+-(Int.fdiv (min lo hi) (2*k+1)))
  else atanG n f (k+1) (Int.fdiv (min (Int.fdiv (min lo hi) n) (-(Int.fdiv (-(max lo hi)) n))) n) (-(Int.fdiv (-(max (Int.fdiv (min lo hi) n) (-(Int.fdiv (-(max lo hi)) n)))) n))
   (a+(Int.fdiv (min lo hi) (2*k+1))) (b+(-(Int.fdiv (-(max lo hi)) (2*k+1))))
def atanT (n v:Int):Int × Int:=atanG n (v.toNat+2) 0 (Int.fdiv (min ((1:Int)*2^v.toNat) ((1:Int)*2^v.toNat)) n) (-(Int.fdiv (-(max ((1:Int)*2^v.toNat) ((1:Int)*2^v.toNat))) n)) ((0:Int)*2^v.toNat) ((0:Int)*2^v.toNat)
def AtInv (n F:Int)(T:Int × Int)(f k lo hi a b A:Int):Prop :=
 0≤f∧0≤k∧k+f=F∧atanG n (f.toNat+1) k lo hi a b=T∧lo.natAbs≤2^f.toNat∧hi.natAbs≤2^f.toNat∧L lo.natAbs≤A+4*k∧L hi.natAbs≤A+4*k∧L a.natAbs≤A+4*k+2∧L b.natAbs≤A+4*k+2
theorem zk0 {f:Int}(h:0≤f-1):2^f.toNat=2*2^(f-1).toNat:=by
 rw [show f.toNat=(f-1).toNat+1 by omega,Nat.pow_succ,Nat.mul_comm]
theorem zk1 {f:Int}{x y:Nat}(h:0≤f)(hx:x≤2^f.toNat)(hy:y≤2^f.toNat)(hn:¬ (x≤1∧y≤1)):1≤f:=by
 refine Decidable.byContradiction fun q=>hn ?_
 have:f.toNat=0:=by omega
 rw [this] at hx hy
 exact ⟨hx,hy⟩
theorem zk2 {n F:Int}{T:Int × Int}{f k lo hi a b A:Int}(h:AtInv n F T f k lo hi a b A)(ht:lo.natAbs≤1∧hi.natAbs≤1):a=T.1∧b=T.2:=by
 obtain ⟨h1,h2,h3,h4,_⟩:=h
 rw [atanG,if_pos ht] at h4
 rw [← h4]; exact ⟨rfl,rfl⟩
theorem zk3 {n F:Int}{T:Int × Int}{f k lo hi a b A:Int}(hn:2≤n)(h:AtInv n F T f k lo hi a b A)(ht:¬ (lo.natAbs≤1∧hi.natAbs≤1))(x y:Int)
  (hxy:(wRem k (2:Int)=1∧x=a+-(-(Int.fdiv (-(max lo hi)) (2*k+1)))∧y=b+-(Int.fdiv (min lo hi) (2*k+1)))∨(wRem k (2:Int)≠1∧x=a+(Int.fdiv (min lo hi) (2*k+1))∧y=b+(-(Int.fdiv (-(max lo hi)) (2*k+1))))) :
  AtInv n F T (f-1) (k+1) (Int.fdiv (min (Int.fdiv (min lo hi) n) (-(Int.fdiv (-(max lo hi)) n))) n) (-(Int.fdiv (-(max (Int.fdiv (min lo hi) n) (-(Int.fdiv (-(max lo hi)) n)))) n)) x y A:=by
 obtain ⟨h1,h2,h3,h4,h5,h6,h7,h8,h9,h10⟩:=h
 have hf:=zk1 h1 h5 h6 ht
 rw [zjz h2] at hxy
 rw [zk0 (by omega)] at h5 h6
 obtain ⟨b1,b2⟩:=zjy hn h5 h6
 obtain ⟨b3,b4⟩:=zjx (show 1≤n by omega) b1 b2
 have l1:=zjp lo hi
 have l2:=zjq lo hi
 have l3:=zcx (max lo hi)
 have l4:=zh6 (min lo hi) n
 have l5:=zh6 (-(max lo hi)) n
 have l6:=zcx (Int.fdiv (-(max lo hi)) n)
 have l7:=zjp (Int.fdiv (min lo hi) n) (-(Int.fdiv (-(max lo hi)) n))
 have l8:=zjq (Int.fdiv (min lo hi) n) (-(Int.fdiv (-(max lo hi)) n))
 have l9:=zcx (max (Int.fdiv (min lo hi) n) (-(Int.fdiv (-(max lo hi)) n)))
 have l10:=zh6 (min (Int.fdiv (min lo hi) n) (-(Int.fdiv (-(max lo hi)) n))) n
 have l11:=zh6 (-(max (Int.fdiv (min lo hi) n) (-(Int.fdiv (-(max lo hi)) n)))) n
 have l12:=zcx (Int.fdiv (-(max (Int.fdiv (min lo hi) n) (-(Int.fdiv (-(max lo hi)) n)))) n)
 have l13:=zh6 (min lo hi) (2*k+1)
 have l14:=zh6 (-(max lo hi)) (2*k+1)
 have l15:=zcx (Int.fdiv (-(max lo hi)) (2*k+1))
 have l16:=zcx (Int.fdiv (min lo hi) (2*k+1))
 have l17:=zcx (-(Int.fdiv (-(max lo hi)) (2*k+1)))
 have hfn:f.toNat=(f-1).toNat+1:=by omega
 rw [atanG,if_neg ht,hfn] at h4
 refine ⟨by omega,by omega,by omega,?_,b3,b4,by omega,by omega,?_,?_⟩
 ·rcases hxy with ⟨q,rfl,rfl⟩ | ⟨q,rfl,rfl⟩
  ·rw [if_pos q] at h4; exact h4
  ·rw [if_neg q] at h4; exact h4
 all_goals
  rcases hxy with ⟨q,rfl,rfl⟩ | ⟨q,rfl,rfl⟩
  ·have:=zcv a (-(-(Int.fdiv (-(max lo hi)) (2*k+1))))
   have:=zcv b (-(Int.fdiv (min lo hi) (2*k+1)))
   omega
  ·have:=zcv a (Int.fdiv (min lo hi) (2*k+1))
   have:=zcv b (-(Int.fdiv (-(max lo hi)) (2*k+1)))
   omega
theorem zk4 (k:Nat):L ((1:Int)*2^k).natAbs≤k / 32+1:=by
 rw [Int.one_mul,Int.natAbs_pow]; exact z8q k
theorem zk5 {n v:Int}(hn:2≤n)(hv:0≤v):AtInv n (v+1) (atanT n v) (v+1) 0 (Int.fdiv (min ((1:Int)*2^v.toNat) ((1:Int)*2^v.toNat)) n) (-(Int.fdiv (-(max ((1:Int)*2^v.toNat) ((1:Int)*2^v.toNat))) n)) ((0:Int)*2^v.toNat) ((0:Int)*2^v.toNat) (v / 32+2):=by
 have hb:((1:Int)*2^v.toNat).natAbs≤2^(v+1).toNat:=by
  rw [Int.one_mul,Int.natAbs_pow,show (v+1).toNat=v.toNat+1 by omega,Nat.pow_succ]
  show 2^v.toNat≤_
  omega
 obtain ⟨b1,b2⟩:=zjx (show 1≤n by omega) hb hb
 have l0:=zk4 v.toNat
 have l1:=zjp ((1:Int)*2^v.toNat) ((1:Int)*2^v.toNat)
 have l2:=zjq ((1:Int)*2^v.toNat) ((1:Int)*2^v.toNat)
 have l3:=zcx (max ((1:Int)*2^v.toNat) ((1:Int)*2^v.toNat))
 have l4:=zh6 (min ((1:Int)*2^v.toNat) ((1:Int)*2^v.toNat)) n
 have l5:=zh6 (-(max ((1:Int)*2^v.toNat) ((1:Int)*2^v.toNat))) n
 have l6:=zcx (Int.fdiv (-(max ((1:Int)*2^v.toNat) ((1:Int)*2^v.toNat))) n)
 have z:L ((0:Int)*2^v.toNat).natAbs=0:=by rw [Int.zero_mul]; exact L_zero
 refine ⟨by omega,by omega,by omega,?_,b1,b2,by omega,by omega,by omega,by omega⟩
 rw [show (v+1).toNat+1=v.toNat+2 by omega]; rfl
theorem zk6 {n F:Int}{T:Int × Int}{f k lo hi a b A:Int}(h:AtInv n F T f k lo hi a b A):0≤k∧k≤F∧L lo.natAbs≤A+4*F∧L hi.natAbs≤A+4*F∧L a.natAbs≤A+4*F+2∧L b.natAbs≤A+4*F+2:=by
 obtain ⟨h1,h2,h3,h4,h5,h6,h7,h8,h9,h10⟩:=h
 omega
def eG:Nat→Int→Int→Int→Int→Int→Int × Int
 | 0,_,_,_,a,b=>(a,b)
 | f+1,k,lo,hi,a,b =>
  if lo.natAbs≤1∧hi.natAbs≤1 then (a,b) else
  eG f (k+1) (Int.fdiv (min lo hi) k) (-(Int.fdiv (-(max lo hi)) k)) (a+(Int.fdiv (min lo hi) k)) (b+(-(Int.fdiv (-(max lo hi)) k)))
def eT (v:Int):Int × Int:=eG (v.toNat+2) 1 ((1:Int)*2^v.toNat) ((1:Int)*2^v.toNat) ((1:Int)*2^v.toNat) ((1:Int)*2^v.toNat)
theorem at_T {n F:Int}{T:Int × Int}{A:Int}(hn:2≤n):∀ (m:Nat) (f k lo hi a b:Int),f.toNat=m→AtInv n F T f k lo hi a b A→L T.1.natAbs≤A+4*F+2∧L T.2.natAbs≤A+4*F+2
 | m,f,k,lo,hi,a,b,hm,h=>by
  have hb:=zk6 h
  by_cases ht:lo.natAbs≤1∧hi.natAbs≤1
  ·obtain ⟨e1,e2⟩:=zk2 h ht
   rw [← e1,← e2]; exact ⟨hb.2.2.2.2.1,hb.2.2.2.2.2⟩
  ·have hf:=zk1 h.1 h.2.2.2.2.1 h.2.2.2.2.2.1 ht
   cases m with
   | zero=>omega
   | succ m =>
    by_cases hq:wRem k (2:Int)=1
    ·exact at_T hn m _ _ _ _ _ _ (by omega) (zk3 hn h ht _ _ (.inl ⟨hq,rfl,rfl⟩))
    ·exact at_T hn m _ _ _ _ _ _ (by omega) (zk3 hn h ht _ _ (.inr ⟨hq,rfl,rfl⟩))
theorem zk7 (n:Nat)(h:n<4294967296):L n≤1:=L_le (by simpa using h)
theorem zk8 {n v:Int}(hn:2≤n)(hv:0≤v∧v≤1500):L ((atanT n v).1-2).natAbs≤6100∧L ((atanT n v).2+2).natAbs≤6100:=by
 have h:=at_T hn _ _ _ _ _ _ _ rfl (zk5 hn hv.1)
 have l0:=zk7 (2:Int).natAbs (by decide)
 have l1:=zgr (atanT n v).1 2
 have l2:=zcv (atanT n v).2 2
 omega
end Go.Proofs.YtcbihoojfakhdaaGreatDoor

namespace Go.Proofs.YtcbihoojfakhdaaGreatDoor
open Go.RowKit
set_option maxRecDepth 100000
theorem zk9 (x n:Int)(c0:L (x).natAbs≤16384)(c1:L (n).natAbs≤16384)(c2:n≠0):Impl Tryz.prog Amb 149 [(zV x),(zV n),(.bool false)] (zV (Int.fdiv x n)):=by
 have l0:=zcx x
 exact z6e hP hAmb Tryz.func149 (by kernel_rfl) (.lits 4<|.call (.tup [(zV (Int.fdiv x n)),(zV (x-(Int.fdiv x n)*n)),(.bool true)])<|.lits 5<|.ret)
  (z6d (aI True.intro (aI (zho x n oO oO oO) (have f1:=zh6 x n; (z5w (zV (Int.fdiv x n)))))) (by kernel_rfl))
theorem zka (x n:Int)(c0:L (x).natAbs≤16384)(c1:L (n).natAbs≤16384)(c2:n≠0):Impl Tryz.prog Amb 149 [(zV x),(zV n),(.bool true)] (zV (-(Int.fdiv (-x) n))):=by
 have l0:=zcx x
 exact z6e hP hAmb Tryz.func149 (by kernel_rfl) (.lits 3<|.call (zV (-x))<|.lits 2<|.call (.tup [(zV (Int.fdiv (-x) n)),(zV ((-x)-(Int.fdiv (-x) n)*n)),(.bool true)])<|.lits 2<|.call (zV (-(Int.fdiv (-x) n)))<|.lits 2<|.ret)
  (z6d (aI True.intro (aI (zhg x oO) (have f3:=zcx x; aI (zho (-x) n oO oO oO) (have f2:=zh6 (-x) n; aI (zhg (Int.fdiv (-x) n) oO) (have f1:=zcx (Int.fdiv (-x) n); (z5w (zV (-(Int.fdiv (-x) n))))))))) (by kernel_rfl))
def r13_hull2_0_mk (a b n:Int)(x:(Int × Int)⊕((Int × Int)⊕(Int × Int))):St:=Sum.elim (fun (x:Int × Int)=>⟨mkS 39 [(3,(.own 0 0)),(4,(.own 1 0)),(5,(.own 2 0)),(6,(.own 3 0)),(15,(.val (.sl 2 [(V.bool (decide (a<0))),(N a.natAbs),(V.bool (decide (b<0))),(N b.natAbs)]))),(16,(.val (.int .i64 2))),(17,(.val (.int .i64 0)))],[⟨true,false,[(V.bool (decide (n<0))),(N n.natAbs)]⟩,⟨true,false,[(V.bool false),V.nil,(V.bool false),V.nil]⟩,⟨true,false,[(V.bool (decide (x.1<0))),(N x.1.natAbs)]⟩,⟨true,false,[(V.bool (decide (x.2<0))),(N x.2.natAbs)]⟩]⟩) (fun (x:(Int × Int)⊕(Int × Int))=>Sum.elim (fun (x:Int × Int)=>⟨mkS 39 [(3,(.own 0 0)),(4,(.own 1 0)),(5,(.own 2 0)),(6,(.own 3 0)),(15,(.val (.sl 2 [(V.bool (decide (a<0))),(N a.natAbs),(V.bool (decide (b<0))),(N b.natAbs)]))),(16,(.val (.int .i64 2))),(17,(.val (.int .i64 1)))],[⟨true,false,[(V.bool (decide (n<0))),(N n.natAbs)]⟩,⟨true,false,[(V.bool false),V.nil,(V.bool false),V.nil]⟩,⟨true,false,[(V.bool (decide (x.1<0))),(N x.1.natAbs)]⟩,⟨true,false,[(V.bool (decide (x.2<0))),(N x.2.natAbs)]⟩]⟩) (fun (x:Int × Int)=>⟨mkS 39 [(3,(.own 0 0)),(4,(.own 1 0)),(5,(.own 2 0)),(6,(.own 3 0)),(15,(.val (.sl 2 [(V.bool (decide (a<0))),(N a.natAbs),(V.bool (decide (b<0))),(N b.natAbs)]))),(16,(.val (.int .i64 2))),(17,(.val (.int .i64 2)))],[⟨true,false,[(V.bool (decide (n<0))),(N n.natAbs)]⟩,⟨true,false,[(V.bool false),V.nil,(V.bool false),V.nil]⟩,⟨true,false,[(V.bool (decide (x.1<0))),(N x.1.natAbs)]⟩,⟨true,false,[(V.bool (decide (x.2<0))),(N x.2.natAbs)]⟩]⟩) x) x
def r13_hull2_0_I (a b _:Int)(x:(Int × Int)⊕((Int × Int)⊕(Int × Int))):Prop:=Sum.elim (fun (x:Int × Int)=>x.1=a∧x.2=a) (fun (x:(Int × Int)⊕(Int × Int))=>Sum.elim (fun (x:Int × Int)=>x.1=a∧x.2=a) (fun (x:Int × Int)=>x.1=(min a b)∧x.2=(max a b)) x) x
def r13_hull2_0_mu (_ _ _:Int)(x:(Int × Int)⊕((Int × Int)⊕(Int × Int))):Nat:=Sum.elim (fun (x:Int × Int)=>2) (fun (x:(Int × Int)⊕(Int × Int))=>Sum.elim (fun (x:Int × Int)=>1) (fun (x:Int × Int)=>0) x) x
def r13_hull2_0_ex (_ _ n:Int)(y:Int × Int):Ex × St:=(.exit 0,⟨mkS 39 [(3,(.own 0 0)),(4,(.own 1 0)),(5,(.own 2 0)),(6,(.own 3 0))],[⟨true,false,[(V.bool (decide (n<0))),(N n.natAbs)]⟩,⟨true,false,[(V.bool false),V.nil,(V.bool false),V.nil]⟩,⟨true,false,[(V.bool (decide (y.1<0))),(N y.1.natAbs)]⟩,⟨true,false,[(V.bool (decide (y.2<0))),(N y.2.natAbs)]⟩]⟩)
def r13_hull2_0_J (a b _:Int)(y:Int × Int):Prop:=y.1=(min a b)∧y.2=(max a b)
abbrev r13_hull2_0_N (a b n:Int):=NX (r13_hull2_0_mk a b n) (r13_hull2_0_I a b n) (r13_hull2_0_mu a b n) (r13_hull2_0_ex a b n) (r13_hull2_0_J a b n)
theorem zkb (a b n:Int)(c0:L a.natAbs≤8192)(c1:L b.natAbs≤8192)(x0:(Int × Int)⊕((Int × Int)⊕(Int × Int)))(hI:r13_hull2_0_I a b n x0):LoopOk Tryz.prog Amb (loopN Tryz.f85 0) (r13_hull2_0_mk a b n x0) (fun e st_=>∃ y,r13_hull2_0_J a b n y∧r13_hull2_0_ex a b n y=(e,st_)) :=
 z6m hP hAmb ⟨[3,4,5,6,15,16,17],4,[]⟩ (r13_hull2_0_mk a b n) (r13_hull2_0_I a b n) (r13_hull2_0_mu a b n) (r13_hull2_0_ex a b n) (r13_hull2_0_J a b n) x0 hI (Sum.elim (fun (p,q)=>.lits 8<|.call (.int .i64 (cmpI a p))<|.lit<|.both (.lits 5<|.call (.int .i64 (cmpI a q))<|.lit<|.both (.lits 3<|.yes<|.fin2 ⟨[3,4,5,6,15,16,17],4,[]⟩) (.lit<|.yes<|.fin2 ⟨[3,4,5,6,15,16,17],4,[]⟩)) (.lits 3<|.call (.int .i64 (cmpI a q))<|.lit<|.both (.lits 3<|.yes<|.fin2 ⟨[3,4,5,6,15,16,17],4,[]⟩) (.lit<|.yes<|.fin2 ⟨[3,4,5,6,15,16,17],4,[]⟩))) (Sum.elim (fun (p,q)=>.lits 8<|.call (.int .i64 (cmpI b p))<|.lit<|.both (.lits 5<|.call (.int .i64 (cmpI b q))<|.lit<|.both (.lits 3<|.yes<|.fin2 ⟨[3,4,5,6,15,16,17],4,[]⟩) (.lit<|.yes<|.fin2 ⟨[3,4,5,6,15,16,17],4,[]⟩)) (.lits 3<|.call (.int .i64 (cmpI b q))<|.lit<|.both (.lits 3<|.yes<|.fin2 ⟨[3,4,5,6,15,16,17],4,[]⟩) (.lit<|.yes<|.fin2 ⟨[3,4,5,6,15,16,17],4,[]⟩))) (fun (p,q)=>.lits 2<|.fin2 ⟨[3,4,5,6],4,[]⟩))) (by
  rintro (⟨p,q⟩ | ⟨p,q⟩ | ⟨p,q⟩) hI
  ·skip
   have hI:p=a∧q=a:=hI
   obtain ⟨h1,h2⟩:=hI
   subst p
   subst q
   have l1:=zjp a b
   have m1:=zjq a b
   exact z6d (aI True.intro (aI (zhk a a oO oO) (have f109:=zgs a a; aI (fun (h101:(iLt (cmpI a a) 0)=true)=>have _gh101:=z73 h101; aI (zhk a a oO oO) (have f104:=zgs a a; aI (fun (h102:(iGt (cmpI a a) 0)=true)=>have _gh102:=z77 h102; aI tT (aI tT ((z6j (Sum.inr (Sum.inl (a,a))) (show a=a∧a=a from ⟨by omega,by omega⟩) (show (1:Nat)<2 by omega):r13_hull2_0_N a b n (Sum.inl (a,a)) .normal (r13_hull2_0_mk a b n (Sum.inr (Sum.inl (a,a)))))))) (fun (h103:(iGt (cmpI a a) 0)=false)=>have _gh103:=z78 h103; aI tT (aI tT ((z6j (Sum.inr (Sum.inl (a,a))) (show a=a∧a=a from ⟨by omega,by omega⟩) (show (1:Nat)<2 by omega):r13_hull2_0_N a b n (Sum.inl (a,a)) .normal (r13_hull2_0_mk a b n (Sum.inr (Sum.inl (a,a)))))))))) (fun (h105:(iLt (cmpI a a) 0)=false)=>have _gh105:=z74 h105; aI (zhk a a oO oO) (have f108:=zgs a a; aI (fun (h106:(iGt (cmpI a a) 0)=true)=>have _gh106:=z77 h106; aI tT (aI tT ((z6j (Sum.inr (Sum.inl (a,a))) (show a=a∧a=a from ⟨by omega,by omega⟩) (show (1:Nat)<2 by omega):r13_hull2_0_N a b n (Sum.inl (a,a)) .normal (r13_hull2_0_mk a b n (Sum.inr (Sum.inl (a,a)))))))) (fun (h107:(iGt (cmpI a a) 0)=false)=>have _gh107:=z78 h107; aI tT (aI tT ((z6j (Sum.inr (Sum.inl (a,a))) (show a=a∧a=a from ⟨by omega,by omega⟩) (show (1:Nat)<2 by omega):r13_hull2_0_N a b n (Sum.inl (a,a)) .normal (r13_hull2_0_mk a b n (Sum.inr (Sum.inl (a,a))))))))))))) (by kernel_rfl)
  ·skip
   have hI:p=a∧q=a:=hI
   obtain ⟨h1,h2⟩:=hI
   subst p
   subst q
   have l1:=zjp a b
   have m1:=zjq a b
   exact z6d (aI True.intro (aI (zhk b a oO oO) (have f109:=zgs b a; aI (fun (h101:(iLt (cmpI b a) 0)=true)=>have _gh101:=z73 h101; aI (zhk b a oO oO) (have f104:=zgs b a; aI (fun (h102:(iGt (cmpI b a) 0)=true)=>have _gh102:=z77 h102; aI tT (aI tT ((z6j (Sum.inr (Sum.inr (b,b))) (show b=(min a b)∧b=(max a b) from ⟨by omega,by omega⟩) (show (0:Nat)<1 by omega):r13_hull2_0_N a b n (Sum.inr (Sum.inl (a,a))) .normal (r13_hull2_0_mk a b n (Sum.inr (Sum.inr (b,b)))))))) (fun (h103:(iGt (cmpI b a) 0)=false)=>have _gh103:=z78 h103; aI tT (aI tT ((z6j (Sum.inr (Sum.inr (b,a))) (show b=(min a b)∧a=(max a b) from ⟨by omega,by omega⟩) (show (0:Nat)<1 by omega):r13_hull2_0_N a b n (Sum.inr (Sum.inl (a,a))) .normal (r13_hull2_0_mk a b n (Sum.inr (Sum.inr (b,a)))))))))) (fun (h105:(iLt (cmpI b a) 0)=false)=>have _gh105:=z74 h105; aI (zhk b a oO oO) (have f108:=zgs b a; aI (fun (h106:(iGt (cmpI b a) 0)=true)=>have _gh106:=z77 h106; aI tT (aI tT ((z6j (Sum.inr (Sum.inr (a,b))) (show a=(min a b)∧b=(max a b) from ⟨by omega,by omega⟩) (show (0:Nat)<1 by omega):r13_hull2_0_N a b n (Sum.inr (Sum.inl (a,a))) .normal (r13_hull2_0_mk a b n (Sum.inr (Sum.inr (a,b)))))))) (fun (h107:(iGt (cmpI b a) 0)=false)=>have _gh107:=z78 h107; aI tT (aI tT ((z6j (Sum.inr (Sum.inr (a,a))) (show a=(min a b)∧a=(max a b) from ⟨by omega,by omega⟩) (show (0:Nat)<1 by omega):r13_hull2_0_N a b n (Sum.inr (Sum.inl (a,a))) .normal (r13_hull2_0_mk a b n (Sum.inr (Sum.inr (a,a))))))))))))) (by kernel_rfl)
  ·skip
   have hI:p=(min a b)∧q=(max a b):=hI
   obtain ⟨h1,h2⟩:=hI
   subst p
   subst q
   have l1:=zjp a b
   have m1:=zjq a b
   exact z6d (aI True.intro (aI tT ((z6k 0 ((r13_hull2_0_ex a b n ((min a b),(max a b))).2) ((min a b),(max a b)) (show (min a b)=(min a b)∧(max a b)=(max a b) from ⟨rfl,rfl⟩) rfl:r13_hull2_0_N a b n (Sum.inr (Sum.inr ((min a b),(max a b)))) (.exit 0) ((r13_hull2_0_ex a b n ((min a b),(max a b))).2))))) (by kernel_rfl))
theorem zkc (a b n:Int)(c0:L (a).natAbs≤8192)(c1:L (b).natAbs≤8192)(c2:L (n).natAbs≤8192)(c3:n≠0):Impl Tryz.prog Amb 85 [(.sl 2 [(V.bool (decide (a<0))),(N a.natAbs),(V.bool (decide (b<0))),(N b.natAbs)]),(zV n)] (sV (Int.fdiv (min a b) n) (-(Int.fdiv (-(max a b)) n))):=by
 have l1:=zjp a b
 have m1:=zjq a b
 exact z6e hP hAmb Tryz.func85 (by kernel_rfl) (.lits 4<|.loop ⟨[3,4,5,6,15,16,17],4,[]⟩ ((r13_hull2_0_mk a b n (Sum.inl (a,a)))) (Int × Int) (r13_hull2_0_ex a b n) (r13_hull2_0_J a b n) (fun y=>.lits 3<|.call (zV (Int.fdiv y.1 n))<|.lits 3<|.call (zV (-(Int.fdiv (-y.2) n)))<|.lits 3<|.ret))
  (z6d (aI True.intro (aI tT (aI (rfl:(r13_hull2_0_mk a b n (Sum.inl (a,a)))=(r13_hull2_0_mk a b n (Sum.inl (a,a)))) (aI (zkb a b n c0 c1 (Sum.inl (a,a)) (show a=a∧a=a from ⟨rfl,rfl⟩)) (fun y (hJ:r13_hull2_0_J a b n y)=>have hJ:y.1=(min a b)∧y.2=(max a b):=hJ; have ⟨q1,q2⟩:=hJ; have q3:L y.1.natAbs=L ((min a b)).natAbs:=(by rw [q1]); have q4:L y.2.natAbs=L ((max a b)).natAbs:=(by rw [q2]); aI (zk9 y.1 n oO oO oO) (have f8:=zcx (Int.fdiv (-y.1) n); have f7:=zcx y.1; have f6:=zh6 (-y.1) n; have f5:=zh6 y.1 n; aI (zka y.2 n oO oO oO) (have f4:=zcx (Int.fdiv (-y.2) n); have f3:=zcx y.2; have f2:=zh6 (-y.2) n; have f1:=zh6 y.2 n; (by rw [q1,q2]; exact z5w _:vsub (sV (Int.fdiv y.1 n) (-(Int.fdiv (-y.2) n))) (sV (Int.fdiv (min a b) n) (-(Int.fdiv (-(max a b)) n))))))))))) (by kernel_rfl))
def r13_hull4_0_mk (a b c d n:Int)(x:(Int × Int)⊕((Int × Int)⊕((Int × Int)⊕((Int × Int)⊕(Int × Int))))):St:=Sum.elim (fun (x:Int × Int)=>⟨mkS 39 [(3,(.own 0 0)),(4,(.own 1 0)),(5,(.own 2 0)),(6,(.own 3 0)),(15,(.val (.sl 2 [(V.bool (decide (a<0))),(N a.natAbs),(V.bool (decide (b<0))),(N b.natAbs),(V.bool (decide (c<0))),(N c.natAbs),(V.bool (decide (d<0))),(N d.natAbs)]))),(16,(.val (.int .i64 4))),(17,(.val (.int .i64 0)))],[⟨true,false,[(V.bool (decide (n<0))),(N n.natAbs)]⟩,⟨true,false,[(V.bool false),V.nil,(V.bool false),V.nil]⟩,⟨true,false,[(V.bool (decide (x.1<0))),(N x.1.natAbs)]⟩,⟨true,false,[(V.bool (decide (x.2<0))),(N x.2.natAbs)]⟩]⟩) (fun (x:(Int × Int)⊕((Int × Int)⊕((Int × Int)⊕(Int × Int))))=>Sum.elim (fun (x:Int × Int)=>⟨mkS 39 [(3,(.own 0 0)),(4,(.own 1 0)),(5,(.own 2 0)),(6,(.own 3 0)),(15,(.val (.sl 2 [(V.bool (decide (a<0))),(N a.natAbs),(V.bool (decide (b<0))),(N b.natAbs),(V.bool (decide (c<0))),(N c.natAbs),(V.bool (decide (d<0))),(N d.natAbs)]))),(16,(.val (.int .i64 4))),(17,(.val (.int .i64 1)))],[⟨true,false,[(V.bool (decide (n<0))),(N n.natAbs)]⟩,⟨true,false,[(V.bool false),V.nil,(V.bool false),V.nil]⟩,⟨true,false,[(V.bool (decide (x.1<0))),(N x.1.natAbs)]⟩,⟨true,false,[(V.bool (decide (x.2<0))),(N x.2.natAbs)]⟩]⟩) (fun (x:(Int × Int)⊕((Int × Int)⊕(Int × Int)))=>Sum.elim (fun (x:Int × Int)=>⟨mkS 39 [(3,(.own 0 0)),(4,(.own 1 0)),(5,(.own 2 0)),(6,(.own 3 0)),(15,(.val (.sl 2 [(V.bool (decide (a<0))),(N a.natAbs),(V.bool (decide (b<0))),(N b.natAbs),(V.bool (decide (c<0))),(N c.natAbs),(V.bool (decide (d<0))),(N d.natAbs)]))),(16,(.val (.int .i64 4))),(17,(.val (.int .i64 2)))],[⟨true,false,[(V.bool (decide (n<0))),(N n.natAbs)]⟩,⟨true,false,[(V.bool false),V.nil,(V.bool false),V.nil]⟩,⟨true,false,[(V.bool (decide (x.1<0))),(N x.1.natAbs)]⟩,⟨true,false,[(V.bool (decide (x.2<0))),(N x.2.natAbs)]⟩]⟩) (fun (x:(Int × Int)⊕(Int × Int))=>Sum.elim (fun (x:Int × Int)=>⟨mkS 39 [(3,(.own 0 0)),(4,(.own 1 0)),(5,(.own 2 0)),(6,(.own 3 0)),(15,(.val (.sl 2 [(V.bool (decide (a<0))),(N a.natAbs),(V.bool (decide (b<0))),(N b.natAbs),(V.bool (decide (c<0))),(N c.natAbs),(V.bool (decide (d<0))),(N d.natAbs)]))),(16,(.val (.int .i64 4))),(17,(.val (.int .i64 3)))],[⟨true,false,[(V.bool (decide (n<0))),(N n.natAbs)]⟩,⟨true,false,[(V.bool false),V.nil,(V.bool false),V.nil]⟩,⟨true,false,[(V.bool (decide (x.1<0))),(N x.1.natAbs)]⟩,⟨true,false,[(V.bool (decide (x.2<0))),(N x.2.natAbs)]⟩]⟩) (fun (x:Int × Int)=>⟨mkS 39 [(3,(.own 0 0)),(4,(.own 1 0)),(5,(.own 2 0)),(6,(.own 3 0)),(15,(.val (.sl 2 [(V.bool (decide (a<0))),(N a.natAbs),(V.bool (decide (b<0))),(N b.natAbs),(V.bool (decide (c<0))),(N c.natAbs),(V.bool (decide (d<0))),(N d.natAbs)]))),(16,(.val (.int .i64 4))),(17,(.val (.int .i64 4)))],[⟨true,false,[(V.bool (decide (n<0))),(N n.natAbs)]⟩,⟨true,false,[(V.bool false),V.nil,(V.bool false),V.nil]⟩,⟨true,false,[(V.bool (decide (x.1<0))),(N x.1.natAbs)]⟩,⟨true,false,[(V.bool (decide (x.2<0))),(N x.2.natAbs)]⟩]⟩) x) x) x) x
def r13_hull4_0_I (a b c d _:Int)(x:(Int × Int)⊕((Int × Int)⊕((Int × Int)⊕((Int × Int)⊕(Int × Int))))):Prop:=Sum.elim (fun (x:Int × Int)=>x.1=a∧x.2=a) (fun (x:(Int × Int)⊕((Int × Int)⊕((Int × Int)⊕(Int × Int))))=>Sum.elim (fun (x:Int × Int)=>x.1=a∧x.2=a) (fun (x:(Int × Int)⊕((Int × Int)⊕(Int × Int)))=>Sum.elim (fun (x:Int × Int)=>x.1=(min a b)∧x.2=(max a b)) (fun (x:(Int × Int)⊕(Int × Int))=>Sum.elim (fun (x:Int × Int)=>x.1=(min (min a b) c)∧x.2=(max (max a b) c)) (fun (x:Int × Int)=>x.1=(min (min (min a b) c) d)∧x.2=(max (max (max a b) c) d)) x) x) x) x
def r13_hull4_0_mu (_ _ _ _ _:Int)(x:(Int × Int)⊕((Int × Int)⊕((Int × Int)⊕((Int × Int)⊕(Int × Int))))):Nat:=Sum.elim (fun (x:Int × Int)=>4) (fun (x:(Int × Int)⊕((Int × Int)⊕((Int × Int)⊕(Int × Int))))=>Sum.elim (fun (x:Int × Int)=>3) (fun (x:(Int × Int)⊕((Int × Int)⊕(Int × Int)))=>Sum.elim (fun (x:Int × Int)=>2) (fun (x:(Int × Int)⊕(Int × Int))=>Sum.elim (fun (x:Int × Int)=>1) (fun (x:Int × Int)=>0) x) x) x) x
def r13_hull4_0_ex (_ _ _ _ n:Int)(y:Int × Int):Ex × St:=(.exit 0,⟨mkS 39 [(3,(.own 0 0)),(4,(.own 1 0)),(5,(.own 2 0)),(6,(.own 3 0))],[⟨true,false,[(V.bool (decide (n<0))),(N n.natAbs)]⟩,⟨true,false,[(V.bool false),V.nil,(V.bool false),V.nil]⟩,⟨true,false,[(V.bool (decide (y.1<0))),(N y.1.natAbs)]⟩,⟨true,false,[(V.bool (decide (y.2<0))),(N y.2.natAbs)]⟩]⟩)
def r13_hull4_0_J (a b c d _:Int)(y:Int × Int):Prop:=y.1=(min (min (min a b) c) d)∧y.2=(max (max (max a b) c) d)
abbrev r13_hull4_0_N (a b c d n:Int):=NX (r13_hull4_0_mk a b c d n) (r13_hull4_0_I a b c d n) (r13_hull4_0_mu a b c d n) (r13_hull4_0_ex a b c d n) (r13_hull4_0_J a b c d n)
theorem zkd (a b c d n:Int)(c0:L a.natAbs≤8192)(c1:L b.natAbs≤8192)(c2:L c.natAbs≤8192)(c3:L d.natAbs≤8192)(x0:(Int × Int)⊕((Int × Int)⊕((Int × Int)⊕((Int × Int)⊕(Int × Int)))))(hI:r13_hull4_0_I a b c d n x0):LoopOk Tryz.prog Amb (loopN Tryz.f85 0) (r13_hull4_0_mk a b c d n x0) (fun e st_=>∃ y,r13_hull4_0_J a b c d n y∧r13_hull4_0_ex a b c d n y=(e,st_)) :=
 z6m hP hAmb ⟨[3,4,5,6,15,16,17],4,[]⟩ (r13_hull4_0_mk a b c d n) (r13_hull4_0_I a b c d n) (r13_hull4_0_mu a b c d n) (r13_hull4_0_ex a b c d n) (r13_hull4_0_J a b c d n) x0 hI (Sum.elim (fun (p,q)=>.lits 8<|.call (.int .i64 (cmpI a p))<|.lit<|.both (.lits 5<|.call (.int .i64 (cmpI a q))<|.lit<|.both (.lits 3<|.yes<|.fin2 ⟨[3,4,5,6,15,16,17],4,[]⟩) (.lit<|.yes<|.fin2 ⟨[3,4,5,6,15,16,17],4,[]⟩)) (.lits 3<|.call (.int .i64 (cmpI a q))<|.lit<|.both (.lits 3<|.yes<|.fin2 ⟨[3,4,5,6,15,16,17],4,[]⟩) (.lit<|.yes<|.fin2 ⟨[3,4,5,6,15,16,17],4,[]⟩))) (Sum.elim (fun (p,q)=>.lits 8<|.call (.int .i64 (cmpI b p))<|.lit<|.both (.lits 5<|.call (.int .i64 (cmpI b q))<|.lit<|.both (.lits 3<|.yes<|.fin2 ⟨[3,4,5,6,15,16,17],4,[]⟩) (.lit<|.yes<|.fin2 ⟨[3,4,5,6,15,16,17],4,[]⟩)) (.lits 3<|.call (.int .i64 (cmpI b q))<|.lit<|.both (.lits 3<|.yes<|.fin2 ⟨[3,4,5,6,15,16,17],4,[]⟩) (.lit<|.yes<|.fin2 ⟨[3,4,5,6,15,16,17],4,[]⟩))) (Sum.elim (fun (p,q)=>.lits 8<|.call (.int .i64 (cmpI c p))<|.lit<|.both (.lits 5<|.call (.int .i64 (cmpI c q))<|.lit<|.both (.lits 3<|.yes<|.fin2 ⟨[3,4,5,6,15,16,17],4,[]⟩) (.lit<|.yes<|.fin2 ⟨[3,4,5,6,15,16,17],4,[]⟩)) (.lits 3<|.call (.int .i64 (cmpI c q))<|.lit<|.both (.lits 3<|.yes<|.fin2 ⟨[3,4,5,6,15,16,17],4,[]⟩) (.lit<|.yes<|.fin2 ⟨[3,4,5,6,15,16,17],4,[]⟩))) (Sum.elim (fun (p,q)=>.lits 8<|.call (.int .i64 (cmpI d p))<|.lit<|.both (.lits 5<|.call (.int .i64 (cmpI d q))<|.lit<|.both (.lits 3<|.yes<|.fin2 ⟨[3,4,5,6,15,16,17],4,[]⟩) (.lit<|.yes<|.fin2 ⟨[3,4,5,6,15,16,17],4,[]⟩)) (.lits 3<|.call (.int .i64 (cmpI d q))<|.lit<|.both (.lits 3<|.yes<|.fin2 ⟨[3,4,5,6,15,16,17],4,[]⟩) (.lit<|.yes<|.fin2 ⟨[3,4,5,6,15,16,17],4,[]⟩))) (fun (p,q)=>.lits 2<|.fin2 ⟨[3,4,5,6],4,[]⟩))))) (by
  rintro (⟨p,q⟩ | ⟨p,q⟩ | ⟨p,q⟩ | ⟨p,q⟩ | ⟨p,q⟩) hI
  ·skip
   have hI:p=a∧q=a:=hI
   obtain ⟨h1,h2⟩:=hI
   subst p
   subst q
   have l1:=zjp a b
   have m1:=zjq a b
   have l2:=zjp (min a b) c
   have m2:=zjq (max a b) c
   have l3:=zjp (min (min a b) c) d
   have m3:=zjq (max (max a b) c) d
   exact z6d (aI True.intro (aI (zhk a a oO oO) (have f109:=zgs a a; aI (fun (h101:(iLt (cmpI a a) 0)=true)=>have _gh101:=z73 h101; aI (zhk a a oO oO) (have f104:=zgs a a; aI (fun (h102:(iGt (cmpI a a) 0)=true)=>have _gh102:=z77 h102; aI tT (aI tT ((z6j (Sum.inr (Sum.inl (a,a))) (show a=a∧a=a from ⟨by omega,by omega⟩) (show (3:Nat)<4 by omega):r13_hull4_0_N a b c d n (Sum.inl (a,a)) .normal (r13_hull4_0_mk a b c d n (Sum.inr (Sum.inl (a,a)))))))) (fun (h103:(iGt (cmpI a a) 0)=false)=>have _gh103:=z78 h103; aI tT (aI tT ((z6j (Sum.inr (Sum.inl (a,a))) (show a=a∧a=a from ⟨by omega,by omega⟩) (show (3:Nat)<4 by omega):r13_hull4_0_N a b c d n (Sum.inl (a,a)) .normal (r13_hull4_0_mk a b c d n (Sum.inr (Sum.inl (a,a)))))))))) (fun (h105:(iLt (cmpI a a) 0)=false)=>have _gh105:=z74 h105; aI (zhk a a oO oO) (have f108:=zgs a a; aI (fun (h106:(iGt (cmpI a a) 0)=true)=>have _gh106:=z77 h106; aI tT (aI tT ((z6j (Sum.inr (Sum.inl (a,a))) (show a=a∧a=a from ⟨by omega,by omega⟩) (show (3:Nat)<4 by omega):r13_hull4_0_N a b c d n (Sum.inl (a,a)) .normal (r13_hull4_0_mk a b c d n (Sum.inr (Sum.inl (a,a)))))))) (fun (h107:(iGt (cmpI a a) 0)=false)=>have _gh107:=z78 h107; aI tT (aI tT ((z6j (Sum.inr (Sum.inl (a,a))) (show a=a∧a=a from ⟨by omega,by omega⟩) (show (3:Nat)<4 by omega):r13_hull4_0_N a b c d n (Sum.inl (a,a)) .normal (r13_hull4_0_mk a b c d n (Sum.inr (Sum.inl (a,a))))))))))))) (by kernel_rfl)
  ·skip
   have hI:p=a∧q=a:=hI
   obtain ⟨h1,h2⟩:=hI
   subst p
   subst q
   have l1:=zjp a b
   have m1:=zjq a b
   have l2:=zjp (min a b) c
   have m2:=zjq (max a b) c
   have l3:=zjp (min (min a b) c) d
   have m3:=zjq (max (max a b) c) d
   exact z6d (aI True.intro (aI (zhk b a oO oO) (have f109:=zgs b a; aI (fun (h101:(iLt (cmpI b a) 0)=true)=>have _gh101:=z73 h101; aI (zhk b a oO oO) (have f104:=zgs b a; aI (fun (h102:(iGt (cmpI b a) 0)=true)=>have _gh102:=z77 h102; aI tT (aI tT ((z6j (Sum.inr (Sum.inr (Sum.inl (b,b)))) (show b=(min a b)∧b=(max a b) from ⟨by omega,by omega⟩) (show (2:Nat)<3 by omega):r13_hull4_0_N a b c d n (Sum.inr (Sum.inl (a,a))) .normal (r13_hull4_0_mk a b c d n (Sum.inr (Sum.inr (Sum.inl (b,b))))))))) (fun (h103:(iGt (cmpI b a) 0)=false)=>have _gh103:=z78 h103; aI tT (aI tT ((z6j (Sum.inr (Sum.inr (Sum.inl (b,a)))) (show b=(min a b)∧a=(max a b) from ⟨by omega,by omega⟩) (show (2:Nat)<3 by omega):r13_hull4_0_N a b c d n (Sum.inr (Sum.inl (a,a))) .normal (r13_hull4_0_mk a b c d n (Sum.inr (Sum.inr (Sum.inl (b,a))))))))))) (fun (h105:(iLt (cmpI b a) 0)=false)=>have _gh105:=z74 h105; aI (zhk b a oO oO) (have f108:=zgs b a; aI (fun (h106:(iGt (cmpI b a) 0)=true)=>have _gh106:=z77 h106; aI tT (aI tT ((z6j (Sum.inr (Sum.inr (Sum.inl (a,b)))) (show a=(min a b)∧b=(max a b) from ⟨by omega,by omega⟩) (show (2:Nat)<3 by omega):r13_hull4_0_N a b c d n (Sum.inr (Sum.inl (a,a))) .normal (r13_hull4_0_mk a b c d n (Sum.inr (Sum.inr (Sum.inl (a,b))))))))) (fun (h107:(iGt (cmpI b a) 0)=false)=>have _gh107:=z78 h107; aI tT (aI tT ((z6j (Sum.inr (Sum.inr (Sum.inl (a,a)))) (show a=(min a b)∧a=(max a b) from ⟨by omega,by omega⟩) (show (2:Nat)<3 by omega):r13_hull4_0_N a b c d n (Sum.inr (Sum.inl (a,a))) .normal (r13_hull4_0_mk a b c d n (Sum.inr (Sum.inr (Sum.inl (a,a)))))))))))))) (by kernel_rfl)
  ·skip
   have hI:p=(min a b)∧q=(max a b):=hI
   obtain ⟨h1,h2⟩:=hI
   subst p
   subst q
   have l1:=zjp a b
   have m1:=zjq a b
   have l2:=zjp (min a b) c
   have m2:=zjq (max a b) c
   have l3:=zjp (min (min a b) c) d
   have m3:=zjq (max (max a b) c) d
   exact z6d (aI True.intro (aI (zhk c (min a b) oO oO) (have f109:=zgs c (min a b); aI (fun (h101:(iLt (cmpI c (min a b)) 0)=true)=>have _gh101:=z73 h101; aI (zhk c (max a b) oO oO) (have f104:=zgs c (max a b); aI (fun (h102:(iGt (cmpI c (max a b)) 0)=true)=>have _gh102:=z77 h102; aI tT (aI tT ((z6j (Sum.inr (Sum.inr (Sum.inr (Sum.inl (c,c))))) (show c=(min (min a b) c)∧c=(max (max a b) c) from ⟨by omega,by omega⟩) (show (1:Nat)<2 by omega):r13_hull4_0_N a b c d n (Sum.inr (Sum.inr (Sum.inl ((min a b),(max a b))))) .normal (r13_hull4_0_mk a b c d n (Sum.inr (Sum.inr (Sum.inr (Sum.inl (c,c)))))))))) (fun (h103:(iGt (cmpI c (max a b)) 0)=false)=>have _gh103:=z78 h103; aI tT (aI tT ((z6j (Sum.inr (Sum.inr (Sum.inr (Sum.inl (c,(max a b)))))) (show c=(min (min a b) c)∧(max a b)=(max (max a b) c) from ⟨by omega,by omega⟩) (show (1:Nat)<2 by omega):r13_hull4_0_N a b c d n (Sum.inr (Sum.inr (Sum.inl ((min a b),(max a b))))) .normal (r13_hull4_0_mk a b c d n (Sum.inr (Sum.inr (Sum.inr (Sum.inl (c,(max a b))))))))))))) (fun (h105:(iLt (cmpI c (min a b)) 0)=false)=>have _gh105:=z74 h105; aI (zhk c (max a b) oO oO) (have f108:=zgs c (max a b); aI (fun (h106:(iGt (cmpI c (max a b)) 0)=true)=>have _gh106:=z77 h106; aI tT (aI tT ((z6j (Sum.inr (Sum.inr (Sum.inr (Sum.inl ((min a b),c))))) (show (min a b)=(min (min a b) c)∧c=(max (max a b) c) from ⟨by omega,by omega⟩) (show (1:Nat)<2 by omega):r13_hull4_0_N a b c d n (Sum.inr (Sum.inr (Sum.inl ((min a b),(max a b))))) .normal (r13_hull4_0_mk a b c d n (Sum.inr (Sum.inr (Sum.inr (Sum.inl ((min a b),c)))))))))) (fun (h107:(iGt (cmpI c (max a b)) 0)=false)=>have _gh107:=z78 h107; aI tT (aI tT ((z6j (Sum.inr (Sum.inr (Sum.inr (Sum.inl ((min a b),(max a b)))))) (show (min a b)=(min (min a b) c)∧(max a b)=(max (max a b) c) from ⟨by omega,by omega⟩) (show (1:Nat)<2 by omega):r13_hull4_0_N a b c d n (Sum.inr (Sum.inr (Sum.inl ((min a b),(max a b))))) .normal (r13_hull4_0_mk a b c d n (Sum.inr (Sum.inr (Sum.inr (Sum.inl ((min a b),(max a b)))))))))))))))) (by kernel_rfl)
  ·skip
   have hI:p=(min (min a b) c)∧q=(max (max a b) c):=hI
   obtain ⟨h1,h2⟩:=hI
   subst p
   subst q
   have l1:=zjp a b
   have m1:=zjq a b
   have l2:=zjp (min a b) c
   have m2:=zjq (max a b) c
   have l3:=zjp (min (min a b) c) d
   have m3:=zjq (max (max a b) c) d
   exact z6d (aI True.intro (aI (zhk d (min (min a b) c) oO oO) (have f109:=zgs d (min (min a b) c); aI (fun (h101:(iLt (cmpI d (min (min a b) c)) 0)=true)=>have _gh101:=z73 h101; aI (zhk d (max (max a b) c) oO oO) (have f104:=zgs d (max (max a b) c); aI (fun (h102:(iGt (cmpI d (max (max a b) c)) 0)=true)=>have _gh102:=z77 h102; aI tT (aI tT ((z6j (Sum.inr (Sum.inr (Sum.inr (Sum.inr (d,d))))) (show d=(min (min (min a b) c) d)∧d=(max (max (max a b) c) d) from ⟨by omega,by omega⟩) (show (0:Nat)<1 by omega):r13_hull4_0_N a b c d n (Sum.inr (Sum.inr (Sum.inr (Sum.inl ((min (min a b) c),(max (max a b) c)))))) .normal (r13_hull4_0_mk a b c d n (Sum.inr (Sum.inr (Sum.inr (Sum.inr (d,d)))))))))) (fun (h103:(iGt (cmpI d (max (max a b) c)) 0)=false)=>have _gh103:=z78 h103; aI tT (aI tT ((z6j (Sum.inr (Sum.inr (Sum.inr (Sum.inr (d,(max (max a b) c)))))) (show d=(min (min (min a b) c) d)∧(max (max a b) c)=(max (max (max a b) c) d) from ⟨by omega,by omega⟩) (show (0:Nat)<1 by omega):r13_hull4_0_N a b c d n (Sum.inr (Sum.inr (Sum.inr (Sum.inl ((min (min a b) c),(max (max a b) c)))))) .normal (r13_hull4_0_mk a b c d n (Sum.inr (Sum.inr (Sum.inr (Sum.inr (d,(max (max a b) c))))))))))))) (fun (h105:(iLt (cmpI d (min (min a b) c)) 0)=false)=>have _gh105:=z74 h105; aI (zhk d (max (max a b) c) oO oO) (have f108:=zgs d (max (max a b) c); aI (fun (h106:(iGt (cmpI d (max (max a b) c)) 0)=true)=>have _gh106:=z77 h106; aI tT (aI tT ((z6j (Sum.inr (Sum.inr (Sum.inr (Sum.inr ((min (min a b) c),d))))) (show (min (min a b) c)=(min (min (min a b) c) d)∧d=(max (max (max a b) c) d) from ⟨by omega,by omega⟩) (show (0:Nat)<1 by omega):r13_hull4_0_N a b c d n (Sum.inr (Sum.inr (Sum.inr (Sum.inl ((min (min a b) c),(max (max a b) c)))))) .normal (r13_hull4_0_mk a b c d n (Sum.inr (Sum.inr (Sum.inr (Sum.inr ((min (min a b) c),d)))))))))) (fun (h107:(iGt (cmpI d (max (max a b) c)) 0)=false)=>have _gh107:=z78 h107; aI tT (aI tT ((z6j (Sum.inr (Sum.inr (Sum.inr (Sum.inr ((min (min a b) c),(max (max a b) c)))))) (show (min (min a b) c)=(min (min (min a b) c) d)∧(max (max a b) c)=(max (max (max a b) c) d) from ⟨by omega,by omega⟩) (show (0:Nat)<1 by omega):r13_hull4_0_N a b c d n (Sum.inr (Sum.inr (Sum.inr (Sum.inl ((min (min a b) c),(max (max a b) c)))))) .normal (r13_hull4_0_mk a b c d n (Sum.inr (Sum.inr (Sum.inr (Sum.inr ((min (min a b) c),(max (max a b) c)))))))))))))))) (by kernel_rfl)
  ·skip
   have hI:p=(min (min (min a b) c) d)∧q=(max (max (max a b) c) d):=hI
   obtain ⟨h1,h2⟩:=hI
   subst p
   subst q
   have l1:=zjp a b
   have m1:=zjq a b
   have l2:=zjp (min a b) c
   have m2:=zjq (max a b) c
   have l3:=zjp (min (min a b) c) d
   have m3:=zjq (max (max a b) c) d
   exact z6d (aI True.intro (aI tT ((z6k 0 ((r13_hull4_0_ex a b c d n ((min (min (min a b) c) d),(max (max (max a b) c) d))).2) ((min (min (min a b) c) d),(max (max (max a b) c) d)) (show (min (min (min a b) c) d)=(min (min (min a b) c) d)∧(max (max (max a b) c) d)=(max (max (max a b) c) d) from ⟨rfl,rfl⟩) rfl:r13_hull4_0_N a b c d n (Sum.inr (Sum.inr (Sum.inr (Sum.inr ((min (min (min a b) c) d),(max (max (max a b) c) d)))))) (.exit 0) ((r13_hull4_0_ex a b c d n ((min (min (min a b) c) d),(max (max (max a b) c) d))).2))))) (by kernel_rfl))
theorem zke (a b c d n:Int)(c0:L (a).natAbs≤8192)(c1:L (b).natAbs≤8192)(c2:L (c).natAbs≤8192)(c3:L (d).natAbs≤8192)(c4:L (n).natAbs≤8192)(c5:n≠0):Impl Tryz.prog Amb 85 [(.sl 2 [(V.bool (decide (a<0))),(N a.natAbs),(V.bool (decide (b<0))),(N b.natAbs),(V.bool (decide (c<0))),(N c.natAbs),(V.bool (decide (d<0))),(N d.natAbs)]),(zV n)] (sV (Int.fdiv (min (min (min a b) c) d) n) (-(Int.fdiv (-(max (max (max a b) c) d)) n))):=by
 have l1:=zjp a b
 have m1:=zjq a b
 have l2:=zjp (min a b) c
 have m2:=zjq (max a b) c
 have l3:=zjp (min (min a b) c) d
 have m3:=zjq (max (max a b) c) d
 exact z6e hP hAmb Tryz.func85 (by kernel_rfl) (.lits 4<|.loop ⟨[3,4,5,6,15,16,17],4,[]⟩ ((r13_hull4_0_mk a b c d n (Sum.inl (a,a)))) (Int × Int) (r13_hull4_0_ex a b c d n) (r13_hull4_0_J a b c d n) (fun y=>.lits 3<|.call (zV (Int.fdiv y.1 n))<|.lits 3<|.call (zV (-(Int.fdiv (-y.2) n)))<|.lits 3<|.ret))
  (z6d (aI True.intro (aI tT (aI (rfl:(r13_hull4_0_mk a b c d n (Sum.inl (a,a)))=(r13_hull4_0_mk a b c d n (Sum.inl (a,a)))) (aI (zkd a b c d n c0 c1 c2 c3 (Sum.inl (a,a)) (show a=a∧a=a from ⟨rfl,rfl⟩)) (fun y (hJ:r13_hull4_0_J a b c d n y)=>have hJ:y.1=(min (min (min a b) c) d)∧y.2=(max (max (max a b) c) d):=hJ; have ⟨q1,q2⟩:=hJ; have q3:L y.1.natAbs=L ((min (min (min a b) c) d)).natAbs:=(by rw [q1]); have q4:L y.2.natAbs=L ((max (max (max a b) c) d)).natAbs:=(by rw [q2]); aI (zk9 y.1 n oO oO oO) (have f8:=zcx (Int.fdiv (-y.1) n); have f7:=zcx y.1; have f6:=zh6 (-y.1) n; have f5:=zh6 y.1 n; aI (zka y.2 n oO oO oO) (have f4:=zcx (Int.fdiv (-y.2) n); have f3:=zcx y.2; have f2:=zh6 (-y.2) n; have f1:=zh6 y.2 n; (by rw [q1,q2]; exact z5w _:vsub (sV (Int.fdiv y.1 n) (-(Int.fdiv (-y.2) n))) (sV (Int.fdiv (min (min (min a b) c) d) n) (-(Int.fdiv (-(max (max (max a b) c) d)) n))))))))))) (by kernel_rfl))
theorem zkf (n v:Int)(c0:(-9223372036854775808:Int)≤n∧n≤9223372036854775807)(c1:(0:Int)≤v∧v≤100000):Impl Tryz.prog Amb 73 [(.int .i64 n),(.int .i64 v)] (sV (n*2^(v).toNat) (n*2^(v).toNat)):=by
 exact z6e hP hAmb Tryz.func73 (by kernel_rfl) (.lit<|.call (zV n)<|.lit<|.call (zV (n*2^(v).toNat))<|.lits 6<|.ret)
  (z6d (aI True.intro (aI (zhd n oO) (have f2:=(zgo oO:L (n:Int).natAbs≤2); aI (zhm n v oO oO) (have f1:=zgw n (v).toNat; (z5w (sV (n*2^(v).toNat) (n*2^(v).toNat))))))) (by kernel_rfl))
theorem zkg (a b n:Int)(c0:L (a).natAbs≤32768)(c1:L (b).natAbs≤32768)(c2:(-9223372036854775808:Int)≤n∧n≤9223372036854775807):Impl Tryz.prog Amb 76 [(sV a b),(.int .i64 n)] (sV (a-n) (b+n)):=by
 exact z6e hP hAmb Tryz.func76 (by kernel_rfl) (.lits 2<|.call (zV n)<|.lit<|.call (zV (a-n))<|.lits 2<|.call (zV n)<|.lit<|.call (zV (b+n))<|.lits 3<|.ret)
  (z6d (aI True.intro (aI (zhd n oO) (have f4:=(zgo oO:L (n:Int).natAbs≤2); aI (zhi a n oO oO) (have f3:=zgr a n; aI (zhd n oO) (have f2:=(zgo oO:L (n:Int).natAbs≤2); aI (zhh b n oO oO) (have f1:=zcv b n; (z5w (sV (a-n) (b+n))))))))) (by kernel_rfl))
theorem zkh (a b c d:Int)(c0:L (a).natAbs≤32768)(c1:L (b).natAbs≤32768)(c2:L (c).natAbs≤32768)(c3:L (d).natAbs≤32768):Impl Tryz.prog Amb 47 [(sV a b),(sV c d)] (sV (a+c) (b+d)):=by
 exact z6e hP hAmb Tryz.func47 (by kernel_rfl) (.lits 3<|.call (zV (a+c))<|.lits 3<|.call (zV (b+d))<|.lits 3<|.ret)
  (z6d (aI True.intro (aI (zhh a c oO oO) (have f2:=zcv a c; aI (zhh b d oO oO) (have f1:=zcv b d; (z5w (sV (a+c) (b+d))))))) (by kernel_rfl))
theorem zki (a b:Int)(c0:L (a).natAbs≤32768)(c1:L (b).natAbs≤32768):Impl Tryz.prog Amb 99 [(sV a b)] (sV (-b) (-a)):=by
 exact z6e hP hAmb Tryz.func99 (by kernel_rfl) (.lits 2<|.call (zV (-b))<|.lits 2<|.call (zV (-a))<|.lits 3<|.ret)
  (z6d (aI True.intro (aI (zhg b oO) (have f2:=zcx b; aI (zhg a oO) (have f1:=zcx a; (z5w (sV (-b) (-a))))))) (by kernel_rfl))
theorem zkj (a b c d:Int)(c0:L (a).natAbs≤32768)(c1:L (b).natAbs≤32768)(c2:L (c).natAbs≤32768)(c3:L (d).natAbs≤32768):Impl Tryz.prog Amb 46 [(sV a b),(sV c d)] (sV (a+(-d)) (b+(-c))):=by
 exact z6e hP hAmb Tryz.func46 (by kernel_rfl) (.lits 3<|.call (sV (-d) (-c))<|.lit<|.call (sV (a+(-d)) (b+(-c)))<|.lits 2<|.ret)
  (z6d (aI True.intro (aI (zki c d oO oO) (have f4:=zcx d; have f3:=zcx c; aI (zkh a b (-d) (-c) oO oO oO oO) (have f2:=zcv b (-c); have f1:=zcv a (-d); (z5w (sV (a+(-d)) (b+(-c)))))))) (by kernel_rfl))
theorem zkk (a b n:Int)(c0:L (a).natAbs≤32768)(c1:L (b).natAbs≤32768)(c2:(-9223372036854775808:Int)≤n∧n≤9223372036854775807):Impl Tryz.prog Amb 28 [(sV a b),(.int .i64 n)] (sV (a*n) (b*n)):=by
 exact z6e hP hAmb Tryz.func28 (by kernel_rfl) (.lit<|.call (zV n)<|.lits 4<|.call (zV (a*n))<|.lits 3<|.call (zV (b*n))<|.lits 3<|.ret)
  (z6d (aI True.intro (aI (zhd n oO) (have f3:=(zgo oO:L (n:Int).natAbs≤2); aI (zhj a n oO oO) (have f2:=zcw a n; aI (zhj b n oO oO) (have f1:=zcw b n; (z5w (sV (a*n) (b*n)))))))) (by kernel_rfl))
theorem zkl (a b n:Int)(c0:L (a).natAbs≤8192)(c1:L (b).natAbs≤8192)(c2:(0:Int)<n∧n≤9223372036854775807):Impl Tryz.prog Amb 29 [(sV a b),(.int .i64 n)] (sV (Int.fdiv (min a b) n) (-(Int.fdiv (-(max a b)) n))):=by
 exact z6e hP hAmb Tryz.func29 (by kernel_rfl) (.lits 3<|.call (zV n)<|.lit<|.call (sV (Int.fdiv (min a b) n) (-(Int.fdiv (-(max a b)) n)))<|.lits 2<|.ret)
  (z6d (aI True.intro (aI (zhd n oO) (have f7:=(zgo oO:L (n:Int).natAbs≤2); aI (zkc a b n oO oO oO oO) (have f6:=zcx (Int.fdiv (-(max a b)) n); have f5:=zcx (max a b); have f4:=zh6 (-(max a b)) n; have f3:=zh6 (min a b) n; have f2:=zjq a b; have f1:=zjp a b; (z5w (sV (Int.fdiv (min a b) n) (-(Int.fdiv (-(max a b)) n)))))))) (by kernel_rfl))
theorem zkm (a b:Int)(c0:L (a).natAbs≤32768)(c1:L (b).natAbs≤32768):Impl Tryz.prog Amb 74 [(sV a b)] (.bool (decide ((a).natAbs≤1∧(b).natAbs≤1))):=by
 have l1:=L_le (n:=1) (k:=1) (by decide)
 have k0:=zeg a.natAbs 1
 have k1:=zeg b.natAbs 1
 have t1:(1:Int).toNat=1:=rfl
 exact z6e hP hAmb Tryz.func74 (by kernel_rfl) (.lit<|.call (N 1)<|.lits 2<|.call (.int .i64 (cmpN a.natAbs 1))<|.lit<|.both (.lits 6<|.call (.int .i64 (cmpN b.natAbs 1))<|.lits 4<|.ret) (.lits 7<|.ret))
  (z6d (aI True.intro (aI (zfy 1 oO) (aI (zfv a.natAbs 1 oO oO) (have f4:=zeg a.natAbs 1; aI (fun (h1:(iLe (cmpN a.natAbs 1) 0)=true)=>have _gh1:=z75 h1; aI (zfv b.natAbs 1 oO oO) (have f2:=zeg b.natAbs 1; (z5x (congrArg V.bool (zjr oO)):vsub (.bool (iLe (cmpN b.natAbs 1) 0)) (.bool (decide ((a).natAbs≤1∧(b).natAbs≤1)))))) (fun (h3:(iLe (cmpN a.natAbs 1) 0)=false)=>have _gh3:=z76 h3; (z5x (congrArg V.bool (zjs oO)):vsub (.bool false) (.bool (decide ((a).natAbs≤1∧(b).natAbs≤1))))))))) (by kernel_rfl))
theorem zkn (a b v w:Int)(c0:L (a).natAbs≤32768)(c1:L (b).natAbs≤32768)(c2:(0:Int)≤w∧w≤v∧v≤1000000):Impl Tryz.prog Amb 31 [(sV a b),(.int .i64 v),(.int .i64 w)] (wV (mkM (a / 2^(v-w).toNat) (-w)) (mkX (a / 2^(v-w).toNat) (-w)) (mkM (-(-b / 2^(v-w).toNat)) (-w)) (mkX (-(-b / 2^(v-w).toNat)) (-w))):=by
 exact z6e hP hAmb Tryz.func31 (by kernel_rfl) (.lits 2<|.yes<|.lit<|.call (zV (a / 2^((v-w)).toNat))<|.lit<|.yes<|.lit<|.call (.tup [(yV (mkM (a / 2^((v-w)).toNat) ((0:Int)-w)) (mkX (a / 2^((v-w)).toNat) ((0:Int)-w))),(.int .i64 (mkE (a / 2^((v-w)).toNat) ((0:Int)-w)))])<|.lits 3<|.call (zV (-b))<|.lit<|.yes<|.lit<|.call (zV ((-b) / 2^((v-w)).toNat))<|.lit<|.call (zV (-((-b) / 2^((v-w)).toNat)))<|.lit<|.yes<|.lit<|.call (.tup [(yV (mkM (-((-b) / 2^((v-w)).toNat)) ((0:Int)-w)) (mkX (-((-b) / 2^((v-w)).toNat)) ((0:Int)-w))),(.int .i64 (mkE (-((-b) / 2^((v-w)).toNat)) ((0:Int)-w)))])<|.lits 6<|.ret)
  (z6d (aI True.intro (aI (z7s oO:(fits .i64 (v-w))=true) (aI (zhn a (v-w) oO oO) (have f6:=zgy a ((v-w)).toNat; aI (z7s oO:(fits .i64 ((0:Int)-w))=true) (aI (zj2 (a / 2^((v-w)).toNat) ((0:Int)-w) oO oO) (have f5:=zhz (a / 2^((v-w)).toNat) ((0:Int)-w); aI (zhg b oO) (have f4:=zcx b; aI (z7s oO:(fits .i64 (v-w))=true) (aI (zhn (-b) (v-w) oO oO) (have f3:=zgy (-b) ((v-w)).toNat; aI (zhg ((-b) / 2^((v-w)).toNat) oO) (have f2:=zcx ((-b) / 2^((v-w)).toNat); aI (z7s oO:(fits .i64 ((0:Int)-w))=true) (aI (zj2 (-((-b) / 2^((v-w)).toNat)) ((0:Int)-w) oO oO) (have f1:=zhz (-((-b) / 2^((v-w)).toNat)) ((0:Int)-w); (z5x (by first | rfl | simp_all):vsub (wV (mkM (a / 2^((v-w)).toNat) ((0:Int)-w)) (mkX (a / 2^((v-w)).toNat) ((0:Int)-w)) (mkM (-((-b) / 2^((v-w)).toNat)) ((0:Int)-w)) (mkX (-((-b) / 2^((v-w)).toNat)) ((0:Int)-w))) (wV (mkM (a / 2^(v-w).toNat) (-w)) (mkX (a / 2^(v-w).toNat) (-w)) (mkM (-(-b / 2^(v-w).toNat)) (-w)) (mkX (-(-b / 2^(v-w).toNat)) (-w)))))))))))))))) (by kernel_rfl))
end Go.Proofs.YtcbihoojfakhdaaGreatDoor

namespace Go.Proofs.YtcbihoojfakhdaaGreatDoor
open Go.RowKit
set_option maxRecDepth 100000
def r13_atan_0_mk (n _:Int)(x:Int × Int × Int × Int × Int × Int):St:=⟨mkS 40 [(0,(.val (.int .i64 n))),(4,(.own 0 0)),(5,(.own 1 0)),(6,(.own 2 0)),(7,(.val (.int .i64 x.2.1)))],[⟨true,false,[(V.bool false),V.nil,(V.bool false),V.nil]⟩,⟨true,false,[(V.bool (decide (x.2.2.1<0))),(N x.2.2.1.natAbs),(V.bool (decide (x.2.2.2.1<0))),(N x.2.2.2.1.natAbs)]⟩,⟨true,false,[(V.bool (decide (x.2.2.2.2.1<0))),(N x.2.2.2.2.1.natAbs),(V.bool (decide (x.2.2.2.2.2<0))),(N x.2.2.2.2.2.natAbs)]⟩]⟩
def r13_atan_0_I (n v:Int)(x:Int × Int × Int × Int × Int × Int):Prop:=AtInv n (v+1) (atanT n v) x.1 x.2.1 x.2.2.1 x.2.2.2.1 x.2.2.2.2.1 x.2.2.2.2.2 (v / 32+2)
def r13_atan_0_mu (_ _:Int)(x:Int × Int × Int × Int × Int × Int):Nat:=(x.1).toNat
def r13_atan_0_ex (_ _:Int)(y:Int × Int):Ex × St:=(.exit 0,⟨mkS 40 [(4,(.own 0 0)),(6,(.own 1 0))],[⟨true,false,[(V.bool false),V.nil,(V.bool false),V.nil]⟩,⟨true,false,[(V.bool (decide (y.1<0))),(N y.1.natAbs),(V.bool (decide (y.2<0))),(N y.2.natAbs)]⟩]⟩)
def r13_atan_0_J (n v:Int)(y:Int × Int):Prop:=y.1=(atanT n v).1∧y.2=(atanT n v).2∧L y.1.natAbs≤7000∧L y.2.natAbs≤7000
abbrev r13_atan_0_N (n v:Int):=NX (r13_atan_0_mk n v) (r13_atan_0_I n v) (r13_atan_0_mu n v) (r13_atan_0_ex n v) (r13_atan_0_J n v)
theorem zko (n v:Int)(c0:(2:Int)≤n∧n≤1000000)(c1:(0:Int)≤v∧v≤1500)(x0:Int × Int × Int × Int × Int × Int)(hI:r13_atan_0_I n v x0):LoopOk Tryz.prog Amb (loopN Tryz.f86 0) (r13_atan_0_mk n v x0) (fun e st_=>∃ y,r13_atan_0_J n v y∧r13_atan_0_ex n v y=(e,st_)) :=
 z6m hP hAmb ⟨[0,4,5,6,7],3,[]⟩ (r13_atan_0_mk n v) (r13_atan_0_I n v) (r13_atan_0_mu n v) (r13_atan_0_ex n v) (r13_atan_0_J n v) x0 hI (fun (f,k,lo,hi,a,b)=>.lits 2<|.call (.bool (decide ((lo).natAbs≤1∧(hi).natAbs≤1)))<|.lit<|.both (.lits 2<|.yes<|.lit<|.yes<|.lit<|.call (sV (Int.fdiv (min lo hi) (((2:Int)*k)+1)) (-(Int.fdiv (-(max lo hi)) (((2:Int)*k)+1))))<|.lits 3<|.both (.lits 2<|.call (sV (-(-(Int.fdiv (-(max lo hi)) (((2:Int)*k)+1)))) (-(Int.fdiv (min lo hi) (((2:Int)*k)+1))))<|.lits 4<|.call (sV (a+(-(-(Int.fdiv (-(max lo hi)) (((2:Int)*k)+1))))) (b+(-(Int.fdiv (min lo hi) (((2:Int)*k)+1)))))<|.lits 3<|.call (sV (Int.fdiv (min lo hi) n) (-(Int.fdiv (-(max lo hi)) n)))<|.lit<|.call (sV (Int.fdiv (min (Int.fdiv (min lo hi) n) (-(Int.fdiv (-(max lo hi)) n))) n) (-(Int.fdiv (-(max (Int.fdiv (min lo hi) n) (-(Int.fdiv (-(max lo hi)) n)))) n)))<|.lits 2<|.yes<|.fin2 ⟨[0,4,5,6,7],3,[]⟩) (.lits 3<|.call (sV (a+(Int.fdiv (min lo hi) (((2:Int)*k)+1))) (b+(-(Int.fdiv (-(max lo hi)) (((2:Int)*k)+1)))))<|.lits 3<|.call (sV (Int.fdiv (min lo hi) n) (-(Int.fdiv (-(max lo hi)) n)))<|.lit<|.call (sV (Int.fdiv (min (Int.fdiv (min lo hi) n) (-(Int.fdiv (-(max lo hi)) n))) n) (-(Int.fdiv (-(max (Int.fdiv (min lo hi) n) (-(Int.fdiv (-(max lo hi)) n)))) n)))<|.lits 2<|.yes<|.fin2 ⟨[0,4,5,6,7],3,[]⟩)) (.fin3 ⟨[4,6],[0,2]⟩)) (by
  rintro ⟨f,k,lo,hi,a,b⟩ hI
  have hI:AtInv n (v+1) (atanT n v) f k lo hi a b (v / 32+2):=hI
  have h1:=hI
  have hb:=zk6 h1
  have h0:=h1.1
  exact z6d (aI True.intro (aI (zkm lo hi oO oO) (aI (fun (h101:(!(decide ((lo).natAbs≤1∧(hi).natAbs≤1)))=true)=>have _gh101:=of_decide_eq_false (z7p h101); aI (z7s oO:(fits .i64 ((2:Int)*k))=true) (aI (z7s oO:(fits .i64 (((2:Int)*k)+1))=true) (aI (zkl lo hi (((2:Int)*k)+1) oO oO oO) (have f139:=zcx (Int.fdiv (-(max lo hi)) (((2:Int)*k)+1)); have f138:=zcx (max lo hi); have f137:=zh6 (-(max lo hi)) (((2:Int)*k)+1); have f136:=zh6 (min lo hi) (((2:Int)*k)+1); have f135:=zjq lo hi; have f134:=zjp lo hi; aI (fun (h102:(iEq (wRem k (2:Int)) 1)=true)=>have _gh102:=z7b h102; aI (zki (Int.fdiv (min lo hi) (((2:Int)*k)+1)) (-(Int.fdiv (-(max lo hi)) (((2:Int)*k)+1))) oO oO) (have f118:=zcx (-(Int.fdiv (-(max lo hi)) (((2:Int)*k)+1))); have f117:=zcx (Int.fdiv (min lo hi) (((2:Int)*k)+1)); aI (zkh a b (-(-(Int.fdiv (-(max lo hi)) (((2:Int)*k)+1)))) (-(Int.fdiv (min lo hi) (((2:Int)*k)+1))) oO oO oO oO) (have f116:=zcv b (-(Int.fdiv (min lo hi) (((2:Int)*k)+1))); have f115:=zcv a (-(-(Int.fdiv (-(max lo hi)) (((2:Int)*k)+1)))); aI (zkl lo hi n oO oO oO) (have f114:=zcx (Int.fdiv (-(max lo hi)) n); have f113:=zcx (max lo hi); have f112:=zh6 (-(max lo hi)) n; have f111:=zh6 (min lo hi) n; have f110:=zjq lo hi; have f109:=zjp lo hi; aI (zkl (Int.fdiv (min lo hi) n) (-(Int.fdiv (-(max lo hi)) n)) n oO oO oO) (have f108:=zcx (Int.fdiv (-(max (Int.fdiv (min lo hi) n) (-(Int.fdiv (-(max lo hi)) n)))) n); have f107:=zcx (max (Int.fdiv (min lo hi) n) (-(Int.fdiv (-(max lo hi)) n))); have f106:=zh6 (-(max (Int.fdiv (min lo hi) n) (-(Int.fdiv (-(max lo hi)) n)))) n; have f105:=zh6 (min (Int.fdiv (min lo hi) n) (-(Int.fdiv (-(max lo hi)) n))) n; have f104:=zjq (Int.fdiv (min lo hi) n) (-(Int.fdiv (-(max lo hi)) n)); have f103:=zjp (Int.fdiv (min lo hi) n) (-(Int.fdiv (-(max lo hi)) n)); aI (z7s oO:(fits .i64 (k+1))=true) (aI tT ((z6j ((f-1),(k+1),(Int.fdiv (min (Int.fdiv (min lo hi) n) (-(Int.fdiv (-(max lo hi)) n))) n),(-(Int.fdiv (-(max (Int.fdiv (min lo hi) n) (-(Int.fdiv (-(max lo hi)) n)))) n)),(a+(-(-(Int.fdiv (-(max lo hi)) (((2:Int)*k)+1))))),(b+(-(Int.fdiv (min lo hi) (((2:Int)*k)+1))))) (show AtInv n (v+1) (atanT n v) (f-1) (k+1) (Int.fdiv (min (Int.fdiv (min lo hi) n) (-(Int.fdiv (-(max lo hi)) n))) n) (-(Int.fdiv (-(max (Int.fdiv (min lo hi) n) (-(Int.fdiv (-(max lo hi)) n)))) n)) (a+(-(-(Int.fdiv (-(max lo hi)) (((2:Int)*k)+1))))) (b+(-(Int.fdiv (min lo hi) (((2:Int)*k)+1)))) (v / 32+2) from zk3 oO h1 (by assumption) _ _ (by first | exact .inl ⟨by assumption,rfl,rfl⟩ | exact .inr ⟨by assumption,rfl,rfl⟩)) (show (f-1).toNat<f.toNat by have:=zk1 h1.1 h1.2.2.2.2.1 h1.2.2.2.2.2.1 (by assumption); omega):r13_atan_0_N n v (f,k,lo,hi,a,b) .normal (r13_atan_0_mk n v ((f-1),(k+1),(Int.fdiv (min (Int.fdiv (min lo hi) n) (-(Int.fdiv (-(max lo hi)) n))) n),(-(Int.fdiv (-(max (Int.fdiv (min lo hi) n) (-(Int.fdiv (-(max lo hi)) n)))) n)),(a+(-(-(Int.fdiv (-(max lo hi)) (((2:Int)*k)+1))))),(b+(-(Int.fdiv (min lo hi) (((2:Int)*k)+1)))))))))))))) (fun (h119:(iEq (wRem k (2:Int)) 1)=false)=>have _gh119:=z7c h119; aI (zkh a b (Int.fdiv (min lo hi) (((2:Int)*k)+1)) (-(Int.fdiv (-(max lo hi)) (((2:Int)*k)+1))) oO oO oO oO) (have f133:=zcv b (-(Int.fdiv (-(max lo hi)) (((2:Int)*k)+1))); have f132:=zcv a (Int.fdiv (min lo hi) (((2:Int)*k)+1)); aI (zkl lo hi n oO oO oO) (have f131:=zcx (Int.fdiv (-(max lo hi)) n); have f130:=zcx (max lo hi); have f129:=zh6 (-(max lo hi)) n; have f128:=zh6 (min lo hi) n; have f127:=zjq lo hi; have f126:=zjp lo hi; aI (zkl (Int.fdiv (min lo hi) n) (-(Int.fdiv (-(max lo hi)) n)) n oO oO oO) (have f125:=zcx (Int.fdiv (-(max (Int.fdiv (min lo hi) n) (-(Int.fdiv (-(max lo hi)) n)))) n); have f124:=zcx (max (Int.fdiv (min lo hi) n) (-(Int.fdiv (-(max lo hi)) n))); have f123:=zh6 (-(max (Int.fdiv (min lo hi) n) (-(Int.fdiv (-(max lo hi)) n)))) n; have f122:=zh6 (min (Int.fdiv (min lo hi) n) (-(Int.fdiv (-(max lo hi)) n))) n; have f121:=zjq (Int.fdiv (min lo hi) n) (-(Int.fdiv (-(max lo hi)) n)); have f120:=zjp (Int.fdiv (min lo hi) n) (-(Int.fdiv (-(max lo hi)) n)); aI (z7s oO:(fits .i64 (k+1))=true) (aI tT ((z6j ((f-1),(k+1),(Int.fdiv (min (Int.fdiv (min lo hi) n) (-(Int.fdiv (-(max lo hi)) n))) n),(-(Int.fdiv (-(max (Int.fdiv (min lo hi) n) (-(Int.fdiv (-(max lo hi)) n)))) n)),(a+(Int.fdiv (min lo hi) (((2:Int)*k)+1))),(b+(-(Int.fdiv (-(max lo hi)) (((2:Int)*k)+1))))) (show AtInv n (v+1) (atanT n v) (f-1) (k+1) (Int.fdiv (min (Int.fdiv (min lo hi) n) (-(Int.fdiv (-(max lo hi)) n))) n) (-(Int.fdiv (-(max (Int.fdiv (min lo hi) n) (-(Int.fdiv (-(max lo hi)) n)))) n)) (a+(Int.fdiv (min lo hi) (((2:Int)*k)+1))) (b+(-(Int.fdiv (-(max lo hi)) (((2:Int)*k)+1)))) (v / 32+2) from zk3 oO h1 (by assumption) _ _ (by first | exact .inl ⟨by assumption,rfl,rfl⟩ | exact .inr ⟨by assumption,rfl,rfl⟩)) (show (f-1).toNat<f.toNat by have:=zk1 h1.1 h1.2.2.2.2.1 h1.2.2.2.2.2.1 (by assumption); omega):r13_atan_0_N n v (f,k,lo,hi,a,b) .normal (r13_atan_0_mk n v ((f-1),(k+1),(Int.fdiv (min (Int.fdiv (min lo hi) n) (-(Int.fdiv (-(max lo hi)) n))) n),(-(Int.fdiv (-(max (Int.fdiv (min lo hi) n) (-(Int.fdiv (-(max lo hi)) n)))) n)),(a+(Int.fdiv (min lo hi) (((2:Int)*k)+1))),(b+(-(Int.fdiv (-(max lo hi)) (((2:Int)*k)+1))))))))))))))))) (fun (h140:(!(decide ((lo).natAbs≤1∧(hi).natAbs≤1)))=false)=>have _gh140:=of_decide_eq_true (z7q h140); aI tT ((z6k 0 ((r13_atan_0_ex n v (a,b)).2) (a,b) (show a=(atanT n v).1∧b=(atanT n v).2∧L a.natAbs≤7000∧L b.natAbs≤7000 from ⟨(zk2 h1 (by assumption)).1,(zk2 h1 (by assumption)).2,by omega,by omega⟩) rfl:r13_atan_0_N n v (f,k,lo,hi,a,b) (.exit 0) ((r13_atan_0_ex n v (a,b)).2))))))) (by kernel_rfl))
theorem zkp (n v:Int)(c0:(2:Int)≤n∧n≤1000000)(c1:(0:Int)≤v∧v≤1500):Impl Tryz.prog Amb 86 [(.int .i64 n),(.int .i64 v)] (sV ((atanT n v).1-2) ((atanT n v).2+2)):=by
 exact z6e hP hAmb Tryz.func86 (by kernel_rfl) (.lit<|.call (sV ((1:Int)*2^(v).toNat) ((1:Int)*2^(v).toNat))<|.lit<|.call (sV (Int.fdiv (min ((1:Int)*2^(v).toNat) ((1:Int)*2^(v).toNat)) n) (-(Int.fdiv (-(max ((1:Int)*2^(v).toNat) ((1:Int)*2^(v).toNat))) n)))<|.lits 2<|.call (sV ((0:Int)*2^(v).toNat) ((0:Int)*2^(v).toNat))<|.lit<|.loop ⟨[0,4,5,6,7],3,[]⟩ ((r13_atan_0_mk n v ((v+1),0,(Int.fdiv (min ((1:Int)*2^(v).toNat) ((1:Int)*2^(v).toNat)) n),(-(Int.fdiv (-(max ((1:Int)*2^(v).toNat) ((1:Int)*2^(v).toNat))) n)),((0:Int)*2^(v).toNat),((0:Int)*2^(v).toNat)))) (Int × Int) (r13_atan_0_ex n v) (r13_atan_0_J n v) (fun y=>.lits 2<|.call (sV (y.1-2) (y.2+2))<|.lits 2<|.ret))
  (z6d (aI True.intro (aI (zkf 1 v oO oO) (have f13:=(zgo oO:L (1:Int).natAbs≤2); have f12:=zgw (1:Int) (v).toNat; aI (zkl ((1:Int)*2^(v).toNat) ((1:Int)*2^(v).toNat) n oO oO oO) (have f11:=zcx (Int.fdiv (-(max ((1:Int)*2^(v).toNat) ((1:Int)*2^(v).toNat))) n); have f10:=zcx (max ((1:Int)*2^(v).toNat) ((1:Int)*2^(v).toNat)); have f9:=zh6 (-(max ((1:Int)*2^(v).toNat) ((1:Int)*2^(v).toNat))) n; have f8:=zh6 (min ((1:Int)*2^(v).toNat) ((1:Int)*2^(v).toNat)) n; have f7:=zjq ((1:Int)*2^(v).toNat) ((1:Int)*2^(v).toNat); have f6:=zjp ((1:Int)*2^(v).toNat) ((1:Int)*2^(v).toNat); aI (zkf 0 v oO oO) (have f5:=(zgo oO:L (0:Int).natAbs≤2); have f4:=zgw (0:Int) (v).toNat; aI tT (aI (rfl:(r13_atan_0_mk n v ((v+1),0,(Int.fdiv (min ((1:Int)*2^(v).toNat) ((1:Int)*2^(v).toNat)) n),(-(Int.fdiv (-(max ((1:Int)*2^(v).toNat) ((1:Int)*2^(v).toNat))) n)),((0:Int)*2^(v).toNat),((0:Int)*2^(v).toNat)))=(r13_atan_0_mk n v ((v+1),0,(Int.fdiv (min ((1:Int)*2^(v).toNat) ((1:Int)*2^(v).toNat)) n),(-(Int.fdiv (-(max ((1:Int)*2^(v).toNat) ((1:Int)*2^(v).toNat))) n)),((0:Int)*2^(v).toNat),((0:Int)*2^(v).toNat)))) (aI (zko n v c0 c1 ((v+1),0,(Int.fdiv (min ((1:Int)*2^(v).toNat) ((1:Int)*2^(v).toNat)) n),(-(Int.fdiv (-(max ((1:Int)*2^(v).toNat) ((1:Int)*2^(v).toNat))) n)),((0:Int)*2^(v).toNat),((0:Int)*2^(v).toNat)) (show AtInv n (v+1) (atanT n v) (v+1) 0 (Int.fdiv (min ((1:Int)*2^(v).toNat) ((1:Int)*2^(v).toNat)) n) (-(Int.fdiv (-(max ((1:Int)*2^(v).toNat) ((1:Int)*2^(v).toNat))) n)) ((0:Int)*2^(v).toNat) ((0:Int)*2^(v).toNat) (v / 32+2) from (zk5 oO oO))) (fun y (hJ:r13_atan_0_J n v y)=>have hJ:y.1=(atanT n v).1∧y.2=(atanT n v).2∧L y.1.natAbs≤7000∧L y.2.natAbs≤7000:=hJ; have ⟨q1,q2,q3,q4⟩:=hJ; aI (zkg y.1 y.2 2 oO oO oO) (have f3:=(zgo oO:L (2:Int).natAbs≤2); have f2:=zcv y.2 2; have f1:=zgr y.1 2; (by rw [q1,q2]; exact z5w _:vsub (sV (y.1-2) (y.2+2)) (sV ((atanT n v).1-2) ((atanT n v).2+2)))))))))))) (by kernel_rfl))
theorem zkq (v:Int)(c0:(0:Int)≤v∧v≤1500):Impl Tryz.prog Amb 30 [(.int .i64 v)] (sV ((((atanT 5 v).1-2)*16)+(-(((atanT 239 v).2+2)*4))) ((((atanT 5 v).2+2)*16)+(-(((atanT 239 v).1-2)*4)))):=by
 exact z6e hP hAmb Tryz.func30 (by kernel_rfl) (.lit<|.call (sV ((atanT 5 v).1-2) ((atanT 5 v).2+2))<|.lit<|.call (sV (((atanT 5 v).1-2)*16) (((atanT 5 v).2+2)*16))<|.lit<|.call (sV ((atanT 239 v).1-2) ((atanT 239 v).2+2))<|.lit<|.call (sV (((atanT 239 v).1-2)*4) (((atanT 239 v).2+2)*4))<|.lit<|.call (sV ((((atanT 5 v).1-2)*16)+(-(((atanT 239 v).2+2)*4))) ((((atanT 5 v).2+2)*16)+(-(((atanT 239 v).1-2)*4))))<|.lits 2<|.ret)
  (z6d (aI True.intro (aI (zkp 5 v oO oO) (have f12:=zk8 (n:=5) (v:=v) oO oO; aI (zkk ((atanT 5 v).1-2) ((atanT 5 v).2+2) 16 oO oO oO) (have f11:=(zgo oO:L (16:Int).natAbs≤2); have f10:=zcw ((atanT 5 v).2+2) 16; have f9:=zcw ((atanT 5 v).1-2) 16; aI (zkp 239 v oO oO) (have f8:=zk8 (n:=239) (v:=v) oO oO; aI (zkk ((atanT 239 v).1-2) ((atanT 239 v).2+2) 4 oO oO oO) (have f7:=(zgo oO:L (4:Int).natAbs≤2); have f6:=zcw ((atanT 239 v).2+2) 4; have f5:=zcw ((atanT 239 v).1-2) 4; aI (zkj (((atanT 5 v).1-2)*16) (((atanT 5 v).2+2)*16) (((atanT 239 v).1-2)*4) (((atanT 239 v).2+2)*4) oO oO oO oO) (have f4:=zcx (((atanT 239 v).1-2)*4); have f3:=zcx (((atanT 239 v).2+2)*4); have f2:=zcv (((atanT 5 v).2+2)*16) (-(((atanT 239 v).1-2)*4)); have f1:=zcv (((atanT 5 v).1-2)*16) (-(((atanT 239 v).2+2)*4)); (z5w (sV ((((atanT 5 v).1-2)*16)+(-(((atanT 239 v).2+2)*4))) ((((atanT 5 v).2+2)*16)+(-(((atanT 239 v).1-2)*4)))))))))))) (by kernel_rfl))
end Go.Proofs.YtcbihoojfakhdaaGreatDoor

namespace Go.Proofs.YtcbihoojfakhdaaGreatDoor
theorem zkr {s:List D}{h:List Box}(b:Nat)(x y:Box)(hb:h[b]?=some x)(ha:y.alive=x.alive)(hf:y.frozen=x.frozen)(hl:y.cells.length=x.cells.length)
  (hr:∀ (w:World) (S:Nat→Prop) (l:List Value),RdL w S l x.cells→RdL w S l y.cells):Weak ⟨s,h⟩ ⟨s,h.set b y⟩:=by
 intro w0 S0 a w ρ ok
 have hbl:b<h.length:=z2g hb
 have hget:∀ (i:Nat) (z:Box),(h.set b y)[i]?=some z→∃ u:Box,h[i]?=some u∧z.alive=u.alive∧z.frozen=u.frozen∧z.cells.length=u.cells.length∧∀ (w:World) (S:Nat→Prop) (l:List Value),RdL w S l u.cells→RdL w S l z.cells:=by
  intro i z hz
  rw [List.getElem?_set] at hz
  split at hz
  ·rename_i e
   subst e
   (try rw [if_pos hbl] at hz)
   cases hz
   exact ⟨x,hb,ha,hf,hl,hr⟩
  ·exact ⟨z,hz,rfl,rfl,rfl,fun _ _ _ q=>q⟩
 have hstab:∀ c,stab S0 ρ h c→stab S0 ρ (h.set b y) c:=fun c hc=>⟨hc.1,fun i z hz za zf hi=>by
  obtain ⟨u,hu,ua,uf,_⟩:=hget i z hz
  exact hc.2 i u hu (ua ▸ za) (uf ▸ zf) hi⟩
 have hls:Lasts w w (stab S0 ρ h) (stab S0 ρ (h.set b y)):=⟨Nat.le_refl _,fun c _ hc=>⟨hstab c hc,rfl⟩⟩
 refine ⟨ρ,⟨ok.ok.below,by simpa using ok.ok.heap.len,ok.ok.heap.low,?_,?_⟩,ok.size,fun t=>(ok.slots t).lasts hls (fun _ _ _ q=>q) (fun _ _ q=>q),ok.defers⟩
 ·intro i j p q β hp hq pa qa hi hj
  obtain ⟨p',hp',pa',_⟩:=hget i p hp
  obtain ⟨q',hq',qa',_⟩:=hget j q hq
  exact ok.ok.heap.inj i j p' q' β hp' hq' (pa' ▸ pa) (qa' ▸ qa) hi hj
 ·intro i z β hz za hi
  obtain ⟨u,hu,ua,_,ul,ur⟩:=hget i z hz
  obtain ⟨vs,t,h1,h2,h3⟩:=ok.ok.heap.box i u β hu (ua ▸ za) hi
  exact ⟨vs,t,h1,by rw [ul]; exact h2,by rw [ul]; exact ur _ _ _ (h3.lasts hls)⟩
theorem zks {w:World}{S:Nat→Prop}{l:List Value}(h:RdL w S l [.bool false,.nil]):RdL w S l [.bool (decide ((0:Int)<0)),N (0:Int).natAbs]:=by
 cases h with | cons h1 h=>cases h with | cons h2 h=>cases h with | nil =>
  refine .cons (by simpa using h1) (.cons ?_ .nil)
  have:N (0:Int).natAbs=.sl 1 []:=by simp [N,lim,limbs_zero,U]
  rw [this]
  cases h2
  exact .nilsl
def arcG (n:Nat)(g:Bool):Nat→Int→Nat→Int→Int × Int
 | 0,k,_,s=>(k,s)
 | f+1,k,p,s=>if p=0 then (k,s) else arcG n g f (k+1) (p / n / n) (s+sgn (g && decide (k%2=1)) (p / (2*k+1).toNat))
def arcT (n:Int)(g:Bool)(s:Int):Int × Int:=arcG n.toNat g (s.toNat+2) 0 (1*2^s.toNat / n.toNat) 0
def ArcInv (n:Int)(g:Bool)(s:Int)(T:Int × Int)(f k:Int)(p:Nat)(a:Int):Prop :=
 0≤f∧0≤k∧k+f=s+1∧arcG n.toNat g (f.toNat+1) k p a=T∧p<2^f.toNat∧L p≤s / 32+2∧L a.natAbs≤s / 32+2+k
theorem zkt {n:Int}{g:Bool}{s:Int}{T:Int × Int}{f k a:Int}{p:Nat}(h:ArcInv n g s T f k p a)(hp:p=0):k=T.1∧a=T.2:=by
 obtain ⟨h1,h2,h3,h4,_⟩:=h
 rw [arcG,if_pos hp] at h4
 rw [← h4]; exact ⟨rfl,rfl⟩
theorem zku {n:Int}{g:Bool}{s:Int}{T:Int × Int}{f k a:Int}{p:Nat}(h:ArcInv n g s T f k p a)(hp:p≠0):1≤f:=by
 obtain ⟨h1,h2,h3,h4,h5,_⟩:=h
 refine Decidable.byContradiction fun q=>?_
 rw [show f.toNat=0 by omega] at h5
 omega
theorem zkv {n:Int}{g:Bool}{s:Int}{T:Int × Int}{f k a:Int}{p:Nat}(hn:2≤n)(h:ArcInv n g s T f k p a)(hp:p≠0){b:Bool}(hb:b=(g && decide (k%2=1))) :
  ArcInv n g s T (f-1) (k+1) (p / n.toNat / n.toNat) (a+sgn b (p / (2*k+1).toNat)):=by
 have hf:=zku h hp
 obtain ⟨h1,h2,h3,h4,h5,h6,h7⟩:=h
 have hfn:f.toNat=(f-1).toNat+1:=by omega
 rw [arcG,if_neg hp,hfn] at h4
 rw [hfn,Nat.pow_succ] at h5
 have d1:p / n.toNat≤p / 2:=Nat.div_le_div_left (by omega) (by omega)
 have d2:p / n.toNat / n.toNat≤p / n.toNat:=Nat.div_le_self _ _
 have l1:=z8h (Nat.le_trans d2 (Nat.le_trans d1 (Nat.div_le_self p 2)))
 have l2:=z8o p (2*k+1).toNat
 have l3:=zgm b (p / (2*k+1).toNat)
 have l4:=zcv a (sgn b (p / (2*k+1).toNat))
 refine ⟨by omega,by omega,by omega,by rw [hb]; exact h4,by omega,by omega,by omega⟩
theorem zkw {n:Int}{g:Bool}{s:Int}(hs:0≤s):ArcInv n g s (arcT n g s) (s+1) 0 (1*2^s.toNat / n.toNat) 0:=by
 have l0:=z8q s.toNat
 have l1:=z8o (1*2^s.toNat) n.toNat
 rw [Nat.one_mul] at l1 ⊢
 have d:2^s.toNat / n.toNat≤2^s.toNat:=Nat.div_le_self _ _
 have e:2^s.toNat<2^(s+1).toNat:=Nat.pow_lt_pow_right (by omega) (by omega)
 refine ⟨by omega,by omega,by omega,?_,by omega,by omega,by simp [L_zero]; omega⟩
 unfold arcT
 rw [show (s+1).toNat+1=s.toNat+2 by omega,Nat.one_mul]
theorem zkx {n:Int}{g:Bool}{s:Int}{T:Int × Int}{f k a:Int}{p:Nat}(h:ArcInv n g s T f k p a):0≤k∧k≤s+1∧L p≤s / 32+2∧L a.natAbs≤s / 32+3+s:=by
 obtain ⟨h1,h2,h3,h4,h5,h6,h7⟩:=h; omega
theorem zky {n:Int}{g:Bool}{s:Int}{T:Int × Int}(hn:2≤n):∀ (m:Nat) (f k:Int) (p:Nat) (a:Int),f.toNat=m→ArcInv n g s T f k p a→0≤T.1∧T.1≤s+1∧L T.2.natAbs≤s / 32+3+s
 | m,f,k,p,a,hm,h=>by
  have hb:=zkx h
  by_cases ht:p=0
  ·obtain ⟨e1,e2⟩:=zkt h ht
   rw [← e1,← e2]; exact ⟨hb.1,hb.2.1,hb.2.2.2⟩
  ·have hf:=zku h ht
   cases m with
   | zero=>omega
   | succ m=>exact zky hn m _ _ _ _ (by omega) (zkv hn h ht rfl)
theorem zkz {n:Int}(g:Bool){s:Int}(hn:2≤n)(hs:0≤s∧s≤6000):0≤(arcT n g s).1∧(arcT n g s).1≤s+1∧L ((arcT n g s).2-3*((arcT n g s).1+2)).natAbs≤s / 32+7+s∧L ((arcT n g s).2+3*((arcT n g s).1+2)).natAbs≤s / 32+7+s:=by
 have h:=zky hn _ _ _ _ _ rfl (zkw (n:=n) (g:=g) hs.1)
 have l0:=zgo (n:=3*((arcT n g s).1+2)) (by omega)
 have l1:=zgr (arcT n g s).2 (3*((arcT n g s).1+2))
 have l2:=zcv (arcT n g s).2 (3*((arcT n g s).1+2))
 omega
def epG:Nat→Int→Nat→Nat→Int × Nat
 | 0,k,_,s=>(k,s)
 | f+1,k,p,s=>if p=0 then (k,s) else epG f (k+1) (p / k.toNat) (s+p / k.toNat)
def epT (s:Int):Int × Nat:=epG (s.toNat+3) 1 (1*2^s.toNat) (1*2^s.toNat)
theorem zl0 {k:Int}(h:0≤k):iEq (wRem k (2:Int)) 1=(true && decide (k%2=1)):=by
 rw [zjz h]; unfold iEq; by_cases q:k%2=1<;>simp [q]
theorem zl1 (k:Int):false=(false && decide (k%2=1)):=rfl
theorem zl2 {x k:Nat}(h:x<2^k):nbits x≤k:=by
 by_cases hx:x=0
 ·rw [hx]; simp [nbits]
 ·have h1:=zba hx
  have h2:=zbb hx
  have:=(Nat.pow_lt_pow_iff_right (a:=2) (by omega)).1 (Nat.lt_of_le_of_lt h1 h)
  omega
def onB (m e p:Int):Bool:=decide (((-2048:Int)≤p∧p≤8192)∧(m=0∨-p≤e))
end Go.Proofs.YtcbihoojfakhdaaGreatDoor

namespace Go.Proofs.YtcbihoojfakhdaaGreatDoor
open Go.RowKit
set_option maxRecDepth 100000
theorem zl3 (a:Int)(c0:L (a).natAbs≤65536):Impl Tryz.prog Amb 209 [(zV a)] (sV a a):=by
 exact z6e hP hAmb Tryz.func209 (by kernel_rfl) (.lits 5<|.ret)
  (z6d (aI True.intro ((z5w (sV a a)))) (by kernel_rfl))
theorem zl4 (x n:Int)(c0:L (x).natAbs≤65536)(c1:(0:Int)≤n∧n≤1048576):Impl Tryz.prog Amb 210 [(zV x),(.int .i64 n)] (zV (-(-x / 2^(n).toNat))):=by
 exact z6e hP hAmb Tryz.func210 (by kernel_rfl) (.lits 2<|.call (zV (-x))<|.lit<|.call (zV ((-x) / 2^(n).toNat))<|.lit<|.call (zV (-((-x) / 2^(n).toNat)))<|.lits 2<|.ret)
  (z6d (aI True.intro (aI (zdf x oO) (have f3:=zcx x; aI (zdl (-x) n oO oO) (have f2:=zgy (-x) (n).toNat; aI (zdf ((-x) / 2^(n).toNat) oO) (have f1:=zcx ((-x) / 2^(n).toNat); (z5x (by first | rfl | simp_all):vsub (zV (-((-x) / 2^(n).toNat))) (zV (-(-x / 2^(n).toNat))))))))) (by kernel_rfl))
theorem zl5 (a b n:Int)(c0:L (a).natAbs≤65536)(c1:L (b).natAbs≤65536)(c2:(0:Int)≤n∧n≤1048576):Impl Tryz.prog Amb 162 [(sV a b),(.int .i64 n)] (sV (a / 2^(n).toNat) (-(-b / 2^(n).toNat))):=by
 exact z6e hP hAmb Tryz.func162 (by kernel_rfl) (.lits 2<|.call (zV (a / 2^(n).toNat))<|.lits 2<|.call (zV (-(-b / 2^(n).toNat)))<|.lits 3<|.ret)
  (z6d (aI True.intro (aI (zdl a n oO oO) (have f4:=zgy a (n).toNat; aI (zl4 b n oO oO) (have f3:=zcx (-b / 2^(n).toNat); have f2:=zgy (-b) (n).toNat; have f1:=zcx b; (z5w (sV (a / 2^(n).toNat) (-(-b / 2^(n).toNat)))))))) (by kernel_rfl))
theorem zl6 (a b:Int)(c0:L (a).natAbs≤65536)(c1:L (b).natAbs≤65536):Impl Tryz.prog Amb 207 [(sV a b)] (sV (-b) (-a)):=by
 exact z6e hP hAmb Tryz.func207 (by kernel_rfl) (.lits 2<|.call (zV (-b))<|.lits 2<|.call (zV (-a))<|.lits 3<|.ret)
  (z6d (aI True.intro (aI (zdf b oO) (have f2:=zcx b; aI (zdf a oO) (have f1:=zcx a; (z5w (sV (-b) (-a))))))) (by kernel_rfl))
theorem zl7 (a b c d:Int)(c0:L (a).natAbs≤65536)(c1:L (b).natAbs≤65536)(c2:L (c).natAbs≤65536)(c3:L (d).natAbs≤65536):Impl Tryz.prog Amb 179 [(sV a b),(sV c d)] (sV (a+c) (b+d)):=by
 exact z6e hP hAmb Tryz.func179 (by kernel_rfl) (.lits 3<|.call (zV (a+c))<|.lits 3<|.call (zV (b+d))<|.lits 3<|.ret)
  (z6d (aI True.intro (aI (zdh a c oO oO) (have f2:=zcv a c; aI (zdh b d oO oO) (have f1:=zcv b d; (z5w (sV (a+c) (b+d))))))) (by kernel_rfl))
theorem zl8 (a b c d:Int)(c0:L (a).natAbs≤65536)(c1:L (b).natAbs≤65536)(c2:L (c).natAbs≤65536)(c3:L (d).natAbs≤65536):Impl Tryz.prog Amb 164 [(sV a b),(sV c d)] (sV (a+(-d)) (b+(-c))):=by
 exact z6e hP hAmb Tryz.func164 (by kernel_rfl) (.lits 3<|.call (sV (-d) (-c))<|.lit<|.call (sV (a+(-d)) (b+(-c)))<|.lits 2<|.ret)
  (z6d (aI True.intro (aI (zl6 c d oO oO) (have f4:=zcx d; have f3:=zcx c; aI (zl7 a b (-d) (-c) oO oO oO oO) (have f2:=zcv b (-c); have f1:=zcv a (-d); (z5w (sV (a+(-d)) (b+(-c)))))))) (by kernel_rfl))
theorem zl9 (a b n:Int)(c0:L (a).natAbs≤65536)(c1:L (b).natAbs≤65536)(c2:L (n).natAbs≤65536):Impl Tryz.prog Amb 208 [(sV a b),(zV n)] (sV (a-n) (b+n)):=by
 exact z6e hP hAmb Tryz.func208 (by kernel_rfl) (.lits 3<|.call (zV (a-n))<|.lits 3<|.call (zV (b+n))<|.lits 3<|.ret)
  (z6d (aI True.intro (aI (zdi a n oO oO) (have f2:=zgr a n; aI (zdh b n oO oO) (have f1:=zcv b n; (z5w (sV (a-n) (b+n))))))) (by kernel_rfl))
theorem zla (a b n:Int)(c0:L (a).natAbs≤65536)(c1:L (b).natAbs≤65536)(c2:(0:Int)≤n∧n≤9223372036854775807):Impl Tryz.prog Amb 165 [(sV a b),(.int .i64 n)] (sV (a*n) (b*n)):=by
 exact z6e hP hAmb Tryz.func165 (by kernel_rfl) (.lit<|.call (zV n)<|.lits 2<|.no<|.lits 3<|.call (zV (a*n))<|.lits 3<|.call (zV (b*n))<|.lits 3<|.ret)
  (z6d (aI True.intro (aI (zdc n oO) (have f3:=(zgo oO:L (n:Int).natAbs≤2); aI (z7k oO:(iLt n 0)=false) (aI (zdj a n oO oO) (have f2:=zcw a n; aI (zdj b n oO oO) (have f1:=zcw b n; (z5w (sV (a*n) (b*n))))))))) (by kernel_rfl))
theorem zlb (a b:Int)(c0:L (a).natAbs≤65536)(c1:L (b).natAbs≤65536):Impl Tryz.prog Amb 193 [(sV a b)] (zV (b-a)):=by
 exact z6e hP hAmb Tryz.func193 (by kernel_rfl) (.lits 3<|.call (zV (b-a))<|.lits 2<|.ret)
  (z6d (aI True.intro (aI (zdi b a oO oO) (have f1:=zgr b a; (z5w (zV (b-a)))))) (by kernel_rfl))
def fx_Arc1_0_mk (n _:Int)(x:Int × Int × Nat × Int):St:=⟨mkS 71 [(0,(.val (.int .u32 n))),(2,(.val (.bool true))),(6,(.own 0 0)),(7,(.val (N x.2.2.1))),(10,(.own 1 0)),(11,(.val (.int .i64 x.2.1)))],[⟨true,false,[(V.bool false),V.nil,(V.bool false),V.nil]⟩,⟨true,false,[(V.bool (decide (x.2.2.2<0))),(N x.2.2.2.natAbs)]⟩]⟩
def fx_Arc1_0_I (n s:Int)(x:Int × Int × Nat × Int):Prop:=ArcInv n true s (arcT n true s) x.1 x.2.1 x.2.2.1 x.2.2.2
def fx_Arc1_0_mu (_ _:Int)(x:Int × Int × Nat × Int):Nat:=(x.1).toNat
def fx_Arc1_0_ex (_ _:Int)(y:Int × Int):Ex × St:=(.exit 0,⟨mkS 71 [(6,(.own 0 0)),(10,(.own 1 0)),(11,(.val (.int .i64 y.1)))],[⟨true,false,[(V.bool false),V.nil,(V.bool false),V.nil]⟩,⟨true,false,[(V.bool (decide (y.2<0))),(N y.2.natAbs)]⟩]⟩)
def fx_Arc1_0_J (n s:Int)(y:Int × Int):Prop:=y.1=(arcT n true s).1∧y.2=(arcT n true s).2∧0≤y.1∧y.1≤s+1∧L y.2.natAbs≤6400
abbrev fx_Arc1_0_N (n s:Int):=NX (fx_Arc1_0_mk n s) (fx_Arc1_0_I n s) (fx_Arc1_0_mu n s) (fx_Arc1_0_ex n s) (fx_Arc1_0_J n s)
theorem zlc (n s:Int)(c0:(2:Int)≤n∧n<4294967296)(c1:(0:Int)≤s∧s≤6000)(x0:Int × Int × Nat × Int)(hI:fx_Arc1_0_I n s x0):LoopOk Tryz.prog Amb (loopN Tryz.f178 0) (fx_Arc1_0_mk n s x0) (fun e st_=>∃ y,fx_Arc1_0_J n s y∧fx_Arc1_0_ex n s y=(e,st_)) :=
 z6m hP hAmb ⟨[0,2,6,7,10,11],2,[]⟩ (fx_Arc1_0_mk n s) (fx_Arc1_0_I n s) (fx_Arc1_0_mu n s) (fx_Arc1_0_ex n s) (fx_Arc1_0_J n s) x0 hI (fun (f,k,p,a)=>.lit<|.both (.lit<|.yes<|.lit<|.yes<|.lit<|.yes<|.lit<|.call (.tup [(N (p / ((((2:Int)*k)+1)).toNat)),(.int .u32 ((p%((((2:Int)*k)+1)).toNat:Nat):Int)),(.bool true)])<|.lits 8<|.call (zV (sgn (iEq (wRem k (2:Int)) 1) (p / ((((2:Int)*k)+1)).toNat)))<|.lit<|.call (zV (a+(sgn (iEq (wRem k (2:Int)) 1) (p / ((((2:Int)*k)+1)).toNat))))<|.lits 2<|.call (.tup [(N (p / (n).toNat)),(.int .u32 ((p%(n).toNat:Nat):Int)),(.bool true)])<|.lit<|.call (.tup [(N ((p / (n).toNat) / (n).toNat)),(.int .u32 (((p / (n).toNat)%(n).toNat:Nat):Int)),(.bool true)])<|.lit<|.yes<|.fin2 ⟨[0,2,6,7,10,11],2,[]⟩) (.fin2 ⟨[6,10,11],2,[]⟩)) (by
  rintro ⟨f,k,p,a⟩ hI
  have hI:ArcInv n true s (arcT n true s) f k p a:=hI
  have h1:=hI
  have hb:=zkx h1
  have h0:=h1.1
  have e0:=z8g p
  have e1:=zcy p
  exact z6d (aI True.intro (aI (fun (h101:(iGt ((lim p).length:Int) 0)=true)=>have _gh101:=z77 h101; aI (z7s oO:(fits .i64 ((2:Int)*k))=true) (aI (z7s oO:(fits .i64 (((2:Int)*k)+1))=true) (aI (z7u oO:(fits .u32 (((2:Int)*k)+1))=true) (aI (zcl p (((2:Int)*k)+1) oO oO) (have f106:=z8o p ((((2:Int)*k)+1)).toNat; aI (zdb (iEq (wRem k (2:Int)) 1) (p / ((((2:Int)*k)+1)).toNat) oO) (have f105:=zgm (iEq (wRem k (2:Int)) 1) (p / ((((2:Int)*k)+1)).toNat); aI (zdh a (sgn (iEq (wRem k (2:Int)) 1) (p / ((((2:Int)*k)+1)).toNat)) oO oO) (have f104:=zcv a (sgn (iEq (wRem k (2:Int)) 1) (p / ((((2:Int)*k)+1)).toNat)); aI (zcl p n oO oO) (have f103:=z8o p (n).toNat; aI (zcl (p / (n).toNat) n oO oO) (have f102:=z8o (p / (n).toNat) (n).toNat; aI (z7s oO:(fits .i64 (k+1))=true) (aI tT ((z6j ((f-1),(k+1),((p / (n).toNat) / (n).toNat),(a+(sgn (iEq (wRem k (2:Int)) 1) (p / ((((2:Int)*k)+1)).toNat)))) (show ArcInv n true s (arcT n true s) (f-1) (k+1) ((p / (n).toNat) / (n).toNat) (a+(sgn (iEq (wRem k (2:Int)) 1) (p / ((((2:Int)*k)+1)).toNat))) from zkv oO h1 oO (by first | exact zl0 oO | exact zl1 _)) (show (f-1).toNat<f.toNat by have:=zku h1 oO; omega):fx_Arc1_0_N n s (f,k,p,a) .normal (fx_Arc1_0_mk n s ((f-1),(k+1),((p / (n).toNat) / (n).toNat),(a+(sgn (iEq (wRem k (2:Int)) 1) (p / ((((2:Int)*k)+1)).toNat))))))))))))))))) (fun (h107:(iGt ((lim p).length:Int) 0)=false)=>have _gh107:=z78 h107; aI tT ((z6k 0 ((fx_Arc1_0_ex n s (k,a)).2) (k,a) (show k=(arcT n true s).1∧a=(arcT n true s).2∧0≤k∧k≤s+1∧L a.natAbs≤6400 from ⟨(zkt h1 oO).1,(zkt h1 oO).2,by omega,by omega,by omega⟩) rfl:fx_Arc1_0_N n s (f,k,p,a) (.exit 0) ((fx_Arc1_0_ex n s (k,a)).2)))))) (by kernel_rfl))
theorem zld (n s:Int)(c0:(2:Int)≤n∧n<4294967296)(c1:(0:Int)≤s∧s≤6000):Impl Tryz.prog Amb 178 [(.int .u32 n),(.int .i64 s),(.bool true)] (sV ((arcT n true s).2-(3*((arcT n true s).1+2))) ((arcT n true s).2+(3*((arcT n true s).1+2)))):=by
 have l0:=zk7 1 (by decide)
 have l1:=z8q s.toNat
 have l2:=z8r 1 s.toNat
 exact z6e hP hAmb Tryz.func178 (by kernel_rfl) (.lit<|.call (N 1)<|.lit<|.call (N (1*2^(s).toNat))<|.lit<|.call (.tup [(N ((1*2^(s).toNat) / (n).toNat)),(.int .u32 (((1*2^(s).toNat)%(n).toNat:Nat):Int)),(.bool true)])<|.lits 2<|.loop ⟨[0,2,6,7,10,11],2,[]⟩ ((⟨mkS 71 [(0,(.val (.int .u32 n))),(2,(.val (.bool true))),(6,(.own 0 0)),(7,(.val (N ((1*2^(s).toNat) / (n).toNat)))),(10,(.own 1 0)),(11,(.val (.int .i64 0)))],[⟨true,false,[(V.bool false),V.nil,(V.bool false),V.nil]⟩,⟨true,false,[(V.bool false),V.nil]⟩]⟩:St)) (Int × Int) (fx_Arc1_0_ex n s) (fx_Arc1_0_J n s) (fun y=>.lits 2<|.call (sV y.2 y.2)<|.lit<|.yes<|.lit<|.yes<|.lit<|.call (zV ((3:Int)*(y.1+2)))<|.lit<|.call (sV (y.2-((3:Int)*(y.1+2))) (y.2+((3:Int)*(y.1+2))))<|.lits 2<|.ret))
  (z6d (aI True.intro (aI (za5 1 oO) (aI (zbz 1 s oO oO) (have f5:=z8r 1 (s).toNat; aI (zcl (1*2^(s).toNat) n oO oO) (have f4:=z8o (1*2^(s).toNat) (n).toNat; aI tT (aI (rfl:(⟨mkS 71 [(0,(.val (.int .u32 n))),(2,(.val (.bool true))),(6,(.own 0 0)),(7,(.val (N ((1*2^(s).toNat) / (n).toNat)))),(10,(.own 1 0)),(11,(.val (.int .i64 0)))],[⟨true,false,[(V.bool false),V.nil,(V.bool false),V.nil]⟩,⟨true,false,[(V.bool false),V.nil]⟩]⟩:St)=(⟨mkS 71 [(0,(.val (.int .u32 n))),(2,(.val (.bool true))),(6,(.own 0 0)),(7,(.val (N ((1*2^(s).toNat) / (n).toNat)))),(10,(.own 1 0)),(11,(.val (.int .i64 0)))],[⟨true,false,[(V.bool false),V.nil,(V.bool false),V.nil]⟩,⟨true,false,[(V.bool false),V.nil]⟩]⟩:St)) (aI (LoopOk.weak (zkr 1 ⟨true,false,[.bool false,.nil]⟩ ⟨true,false,[.bool (decide ((0:Int)<0)),N (0:Int).natAbs]⟩ rfl rfl rfl rfl (fun _ _ _ h=>zks h):Weak (⟨mkS 71 [(0,(.val (.int .u32 n))),(2,(.val (.bool true))),(6,(.own 0 0)),(7,(.val (N ((1*2^(s).toNat) / (n).toNat)))),(10,(.own 1 0)),(11,(.val (.int .i64 0)))],[⟨true,false,[(V.bool false),V.nil,(V.bool false),V.nil]⟩,⟨true,false,[(V.bool false),V.nil]⟩]⟩:St) (fx_Arc1_0_mk n s ((s+1),0,((1*2^(s).toNat) / (n).toNat),0))) (zlc n s c0 c1 ((s+1),0,((1*2^(s).toNat) / (n).toNat),0) (show ArcInv n true s (arcT n true s) (s+1) 0 ((1*2^(s).toNat) / (n).toNat) 0 from (zkw oO)))) (fun y (hJ:fx_Arc1_0_J n s y)=>have hJ:y.1=(arcT n true s).1∧y.2=(arcT n true s).2∧0≤y.1∧y.1≤s+1∧L y.2.natAbs≤6400:=hJ; have ⟨q1,q2,q3,q4,q5⟩:=hJ; aI (zl3 y.2 oO) (aI (z7s oO:(fits .i64 (y.1+2))=true) (aI (z7s oO:(fits .i64 ((3:Int)*(y.1+2)))=true) (aI (zdc ((3:Int)*(y.1+2)) oO) (have f3:=(zgo oO:L (((3:Int)*(y.1+2)):Int).natAbs≤2); aI (zl9 y.2 y.2 ((3:Int)*(y.1+2)) oO oO oO) (have f2:=zcv y.2 ((3:Int)*(y.1+2)); have f1:=zgr y.2 ((3:Int)*(y.1+2)); (by rw [← q1,← q2]; exact z5w _:vsub (sV (y.2-((3:Int)*(y.1+2))) (y.2+((3:Int)*(y.1+2)))) (sV ((arcT n true s).2-(3*((arcT n true s).1+2))) ((arcT n true s).2+(3*((arcT n true s).1+2)))))))))))))))))) (by kernel_rfl))
theorem zle (s:Int)(c0:(0:Int)≤s∧s≤6000):Impl Tryz.prog Amb 117 [(.int .i64 s)] (sV ((((arcT 5 true s).2-(3*((arcT 5 true s).1+2)))*16)+(-(((arcT 239 true s).2+(3*((arcT 239 true s).1+2)))*4))) ((((arcT 5 true s).2+(3*((arcT 5 true s).1+2)))*16)+(-(((arcT 239 true s).2-(3*((arcT 239 true s).1+2)))*4)))):=by
 exact z6e hP hAmb Tryz.func117 (by kernel_rfl) (.lit<|.call (sV ((arcT 5 true s).2-(3*((arcT 5 true s).1+2))) ((arcT 5 true s).2+(3*((arcT 5 true s).1+2))))<|.lit<|.call (sV (((arcT 5 true s).2-(3*((arcT 5 true s).1+2)))*16) (((arcT 5 true s).2+(3*((arcT 5 true s).1+2)))*16))<|.lit<|.call (sV ((arcT 239 true s).2-(3*((arcT 239 true s).1+2))) ((arcT 239 true s).2+(3*((arcT 239 true s).1+2))))<|.lit<|.call (sV (((arcT 239 true s).2-(3*((arcT 239 true s).1+2)))*4) (((arcT 239 true s).2+(3*((arcT 239 true s).1+2)))*4))<|.lit<|.call (sV ((((arcT 5 true s).2-(3*((arcT 5 true s).1+2)))*16)+(-(((arcT 239 true s).2+(3*((arcT 239 true s).1+2)))*4))) ((((arcT 5 true s).2+(3*((arcT 5 true s).1+2)))*16)+(-(((arcT 239 true s).2-(3*((arcT 239 true s).1+2)))*4))))<|.lits 2<|.ret)
  (z6d (aI True.intro (aI (zld 5 s oO oO) (have f12:=zkz (n:=5) true (s:=s) oO oO; aI (zla ((arcT 5 true s).2-(3*((arcT 5 true s).1+2))) ((arcT 5 true s).2+(3*((arcT 5 true s).1+2))) 16 oO oO oO) (have f11:=(zgo oO:L (16:Int).natAbs≤2); have f10:=zcw ((arcT 5 true s).2+(3*((arcT 5 true s).1+2))) 16; have f9:=zcw ((arcT 5 true s).2-(3*((arcT 5 true s).1+2))) 16; aI (zld 239 s oO oO) (have f8:=zkz (n:=239) true (s:=s) oO oO; aI (zla ((arcT 239 true s).2-(3*((arcT 239 true s).1+2))) ((arcT 239 true s).2+(3*((arcT 239 true s).1+2))) 4 oO oO oO) (have f7:=(zgo oO:L (4:Int).natAbs≤2); have f6:=zcw ((arcT 239 true s).2+(3*((arcT 239 true s).1+2))) 4; have f5:=zcw ((arcT 239 true s).2-(3*((arcT 239 true s).1+2))) 4; aI (zl8 (((arcT 5 true s).2-(3*((arcT 5 true s).1+2)))*16) (((arcT 5 true s).2+(3*((arcT 5 true s).1+2)))*16) (((arcT 239 true s).2-(3*((arcT 239 true s).1+2)))*4) (((arcT 239 true s).2+(3*((arcT 239 true s).1+2)))*4) oO oO oO oO) (have f4:=zcx (((arcT 239 true s).2-(3*((arcT 239 true s).1+2)))*4); have f3:=zcx (((arcT 239 true s).2+(3*((arcT 239 true s).1+2)))*4); have f2:=zcv (((arcT 5 true s).2+(3*((arcT 5 true s).1+2)))*16) (-(((arcT 239 true s).2-(3*((arcT 239 true s).1+2)))*4)); have f1:=zcv (((arcT 5 true s).2-(3*((arcT 5 true s).1+2)))*16) (-(((arcT 239 true s).2+(3*((arcT 239 true s).1+2)))*4)); (z5w (sV ((((arcT 5 true s).2-(3*((arcT 5 true s).1+2)))*16)+(-(((arcT 239 true s).2+(3*((arcT 239 true s).1+2)))*4))) ((((arcT 5 true s).2+(3*((arcT 5 true s).1+2)))*16)+(-(((arcT 239 true s).2-(3*((arcT 239 true s).1+2)))*4)))))))))))) (by kernel_rfl))
def piLo (s:Int):Int:=((((arcT 5 true s).2-(3*((arcT 5 true s).1+2)))*16)+(-(((arcT 239 true s).2+(3*((arcT 239 true s).1+2)))*4)))
def piHi (s:Int):Int:=((((arcT 5 true s).2+(3*((arcT 5 true s).1+2)))*16)+(-(((arcT 239 true s).2-(3*((arcT 239 true s).1+2)))*4)))
def eLo (s:Int):Int:=((sgn false (epT s).2)-(3*((epT s).1+2)))
def eHi (s:Int):Int:=((sgn false (epT s).2)+(3*((epT s).1+2)))
theorem zlf {s:Int}(h:0≤s∧s≤6000):L (piLo s).natAbs≤s+s / 32+10∧L (piHi s).natAbs≤s+s / 32+10∧nbits (piHi s-piLo s).natAbs≤24:=by
 have a:=zkz (n:=5) true (s:=s) oO h
 have b:=zkz (n:=239) true (s:=s) oO h
 have l0:=zk7 (16:Int).natAbs (by decide)
 have l1:=zk7 (4:Int).natAbs (by decide)
 have l2:=zcw ((arcT 5 true s).2-3*((arcT 5 true s).1+2)) 16
 have l3:=zcw ((arcT 5 true s).2+3*((arcT 5 true s).1+2)) 16
 have l4:=zcw ((arcT 239 true s).2-3*((arcT 239 true s).1+2)) 4
 have l5:=zcw ((arcT 239 true s).2+3*((arcT 239 true s).1+2)) 4
 have l6:=zcx (((arcT 239 true s).2+3*((arcT 239 true s).1+2))*4)
 have l7:=zcx (((arcT 239 true s).2-3*((arcT 239 true s).1+2))*4)
 have l8:=zcv (((arcT 5 true s).2-3*((arcT 5 true s).1+2))*16) (-(((arcT 239 true s).2+3*((arcT 239 true s).1+2))*4))
 have l9:=zcv (((arcT 5 true s).2+3*((arcT 5 true s).1+2))*16) (-(((arcT 239 true s).2-3*((arcT 239 true s).1+2))*4))
 refine ⟨by unfold piLo; omega,by unfold piHi; omega,zl2 ?_⟩
 unfold piHi piLo
 omega
end Go.Proofs.YtcbihoojfakhdaaGreatDoor
