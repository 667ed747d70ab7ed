/-
  Lower layers: what functions of the program compute, and zyt facts. Conditions: as the theorems say.
-/
import Derived.Test.YtcbihoojfakhdaaGreatDoorCbI
set_option linter.unusedVariables false
set_option linter.unusedSimpArgs false
namespace Go.Proofs.YtcbihoojfakhdaaGreatDoor
theorem zdm (a:Nat)(i:Nat):gi (limbs a) i=((a / 4294967296^i%4294967296:Nat):Int):=by rw [z6q,zaw]
theorem zdn (a i:Nat):a%4294967296^(i+1)=a%4294967296^i+4294967296^i*(a / 4294967296^i%4294967296):=by
 rw [Nat.pow_succ,Nat.mod_mul]
theorem zdo {a k:Nat}(h:L a≤k):a%4294967296^k=a:=Nat.mod_eq_of_lt (Nat.lt_of_lt_of_le (L_lt a) (Nat.pow_le_pow_right (by omega) h))
theorem zdp (l:List Nat)(d:Int)(h:0≤d):U l ++ [V.int .u32 d]=U (l ++ [d.toNat]):=by
 rw [← z6t]; simp [U]; omega
theorem zdq (l:List Nat)(d:Nat):val (l ++ [d])=val l+4294967296^l.length*d:=by rw [z6z]; simp [val]
theorem zdr {l:List Nat}(h:Dig l){d:Nat}(hd:d<4294967296):Dig (l ++ [d]):=z85 h fun x hx=>by simp at hx; omega
theorem zds (i:Nat):0<(4294967296:Nat)^i:=Nat.pow_pos (by omega)
theorem zdt (a b n:Nat)(ha:L a≤n)(hb:L b≤n):a / 4294967296^n=b / 4294967296^n:=by
 rw [Nat.div_eq_of_lt (Nat.lt_of_lt_of_le (L_lt a) (Nat.pow_le_pow_right (by omega) ha)),Nat.div_eq_of_lt (Nat.lt_of_lt_of_le (L_lt b) (Nat.pow_le_pow_right (by omega) hb))]
theorem zdu (a i:Nat):a / 4294967296^i=a / 4294967296^(i+1)*4294967296+a / 4294967296^i%4294967296:=by
 rw [Nat.pow_succ,← Nat.div_div_eq_div_mul]; omega
theorem zdv {a b i:Nat}(h:a / 4294967296^(i+1)=b / 4294967296^(i+1))(hd:gi (limbs a) i=gi (limbs b) i):a / 4294967296^i=b / 4294967296^i:=by
 rw [zdm,zdm] at hd
 rw [zdu a,zdu b]; omega
theorem zdw {a b i:Nat}(h:a / 4294967296^(i+1)=b / 4294967296^(i+1))(hd:gi (limbs a) i<gi (limbs b) i):a<b:=by
 rw [zdm,zdm] at hd
 have h1:=zdu a i
 have h2:=zdu b i
 refine Decidable.byContradiction fun hn=>?_
 have:=Nat.div_le_div_right (c:=4294967296^i) (Nat.not_lt.1 hn)
 omega
theorem zdx {a b:Nat}(h:a / 4294967296^0=b / 4294967296^0):a=b:=by simpa using h
def RAdd (a b:Nat)(i c:Int)(l:List Nat):Prop :=
 0≤i∧0≤c∧c≤1∧l.length=i.toNat∧Dig l∧val l+4294967296^i.toNat*c.toNat=a%4294967296^i.toNat+b%4294967296^i.toNat
theorem zdy (a b:Nat):RAdd a b 0 0 []:=⟨by omega,by omega,by omega,rfl,(fun _ h=>nomatch h),by simp [val,Nat.mod_one]⟩
theorem zdz {a b:Nat}{i c s:Int}{l:List Nat}(h:RAdd a b i c l)(hs:s=c+gi (limbs a) i.toNat+gi (limbs b) i.toNat) :
  RAdd a b (i+1) (Int.fdiv s (2^32)) (l ++ [(IntKind.wrap .u32 s).toNat]):=by
 obtain ⟨h0,h1,h2,h3,h4,h5⟩:=h
 rw [zdm,zdm] at hs
 rw [z7v,z9c]
 have da:=Nat.mod_lt (a / 4294967296^i.toNat) (show 0<4294967296 by omega)
 have db:=Nat.mod_lt (b / 4294967296^i.toNat) (show 0<4294967296 by omega)
 have hi:(i+1).toNat=i.toNat+1:=by omega
 refine ⟨by omega,by omega,by omega,by simp; omega,zdr h4 (by omega),?_⟩
 rw [hi,zdn,zdn,zdq,h3,Nat.pow_succ]
 generalize hx:a / 4294967296^i.toNat%4294967296=x at *
 generalize hy:b / 4294967296^i.toNat%4294967296=y at *
 have e1:(s%4294967296).toNat+4294967296*(s / 4294967296).toNat=c.toNat+x+y:=by omega
 generalize (4294967296:Nat)^i.toNat=p at *
 calc _=val l+p*((s%4294967296).toNat+4294967296*(s / 4294967296).toNat):=by rw [Nat.mul_add,Nat.mul_assoc]; omega
  _=val l+p*c.toNat+p*x+p*y:=by rw [e1,Nat.mul_add,Nat.mul_add]; omega
  _=_:=by omega
theorem ze0 {a b:Nat}{i c:Int}{l:List Nat}(h:RAdd a b i c l)(ha:L a<i)(hb:L b<i):Dig l∧l.length=i.toNat∧val l=a+b:=by
 obtain ⟨h0,h1,h2,h3,h4,h5⟩:=h
 refine ⟨h4,h3,?_⟩
 rw [zdo (by omega),zdo (by omega)] at h5
 have la:a<4294967296^(i.toNat-1):=Nat.lt_of_lt_of_le (L_lt a) (Nat.pow_le_pow_right (by omega) (by omega))
 have lb:b<4294967296^(i.toNat-1):=Nat.lt_of_lt_of_le (L_lt b) (Nat.pow_le_pow_right (by omega) (by omega))
 have e:2*4294967296^(i.toNat-1)≤(4294967296:Nat)^i.toNat:=by
  obtain ⟨k,hk⟩:∃ k,i.toNat=k+1:=⟨i.toNat-1,by omega⟩
  rw [hk,Nat.add_sub_cancel,Nat.pow_succ,Nat.mul_comm]
  exact Nat.mul_le_mul_left _ (by omega)
 generalize (4294967296:Nat)^(i.toNat-1)=p at *
 generalize (4294967296:Nat)^i.toNat=q at *
 have:c.toNat=0:=by
  refine Decidable.byContradiction fun hn=>?_
  have:q*1≤q*c.toNat:=Nat.mul_le_mul_left _ (by omega)
  omega
 rw [this] at h5
 omega
def RSub (a b:Nat)(i c:Int)(l:List Nat):Prop :=
 0≤i∧0≤c∧c≤1∧l.length=i.toNat∧Dig l∧val l+b%4294967296^i.toNat=a%4294967296^i.toNat+4294967296^i.toNat*c.toNat
theorem ze1 (a b:Nat):RSub a b 0 0 []:=⟨by omega,by omega,by omega,rfl,(fun _ h=>nomatch h),by simp [val,Nat.mod_one]⟩
theorem ze2 {a b:Nat}{i c c' x y:Int}{l:List Nat}(h:RSub a b i c l)(hy:y=gi (limbs b) i.toNat+c)
  (hx:(gi (limbs a) i.toNat<y∧x=gi (limbs a) i.toNat+4294967296∧c'=1)∨(y≤gi (limbs a) i.toNat∧x=gi (limbs a) i.toNat∧c'=0)) :
  RSub a b (i+1) c' (l ++ [(IntKind.wrap .u32 (x-y)).toNat]):=by
 obtain ⟨h0,h1,h2,h3,h4,h5⟩:=h
 rw [zdm] at hy hx
 rw [z7v]
 have da:=Nat.mod_lt (a / 4294967296^i.toNat) (show 0<4294967296 by omega)
 have db:=Nat.mod_lt (b / 4294967296^i.toNat) (show 0<4294967296 by omega)
 have hi:(i+1).toNat=i.toNat+1:=by omega
 refine ⟨by omega,by omega,by omega,by simp; omega,zdr h4 (by omega),?_⟩
 rw [hi,zdn,zdn,zdq,h3,Nat.pow_succ]
 generalize hx:a / 4294967296^i.toNat%4294967296=p at *
 generalize hy:b / 4294967296^i.toNat%4294967296=q at *
 have e1:((x-y)%4294967296).toNat+q+c.toNat=p+4294967296*c'.toNat:=by omega
 generalize (4294967296:Nat)^i.toNat=B at *
 have e2:B*((x-y)%4294967296).toNat+B*q+B*c.toNat=B*p+B*4294967296*c'.toNat:=by
  rw [← Nat.mul_add,← Nat.mul_add,e1,Nat.mul_add,Nat.mul_assoc]
 omega
theorem ze3 {a b:Nat}{i c:Int}{l:List Nat}(h:RSub a b i c l)(ha:L a≤i)(hab:b≤a):Dig l∧l.length=i.toNat∧val l=a-b:=by
 obtain ⟨h0,h1,h2,h3,h4,h5⟩:=h
 refine ⟨h4,h3,?_⟩
 have:=z8h hab
 rw [zdo (by omega),zdo (by omega)] at h5
 have hl:=z71 h4
 rw [h3] at hl
 generalize (4294967296:Nat)^i.toNat=p at *
 have:c.toNat=0:=by
  refine Decidable.byContradiction fun hn=>?_
  have:p*1≤p*c.toNat:=Nat.mul_le_mul_left _ (by omega)
  omega
 rw [this] at h5
 omega
theorem ze4 {d c:Int}{r:Nat}(hd:0≤d∧d<4294967296)(hr:r<32)(hc:0≤c∧c<2^r):wOr .u64 (d*2^r) c=d*2^r+c:=by
 obtain ⟨d,rfl⟩:=Int.eq_ofNat_of_zero_le hd.1
 obtain ⟨c,rfl⟩:=Int.eq_ofNat_of_zero_le hc.1
 have hc':c<2^r:=by have:=hc.2; rw [zaj] at this; omega
 have hd':d<4294967296:=by omega
 have hb:=zak hd' hr
 rw [zaj,← Int.natCast_mul]
 unfold wOr
 show IntKind.wrap .u64 (BitVec.ofInt 64 _ ||| BitVec.ofInt 64 _).toNat=_
 rw [BitVec.toNat_or,zb2 (by omega),zb2 (by omega),z7w]
 have hp:2^r≤2^31:=Nat.pow_le_pow_right (by omega) (by omega)
 rw [Int.toNat_natCast,Int.toNat_natCast,Nat.mod_eq_of_lt (by omega),Nat.mod_eq_of_lt (by omega),Nat.or_comm,Nat.mul_comm d,zal hc']
 rw [Nat.mul_comm (2^r) d] at *
 omega
def RShl (a n:Nat)(i c:Int)(l:List Nat):Prop :=
 0≤i∧0≤c∧c<2^(n%32)∧l.length=n / 32+i.toNat∧Dig l∧val l+4294967296^(n / 32+i.toNat)*c.toNat=a%4294967296^i.toNat*2^n
theorem ze5 (a n:Nat):RShl a n 0 0 (List.replicate (n / 32) 0):=by
 refine ⟨by omega,by omega,?_,by simp,z86 _,by simp [z70,Nat.mod_one]⟩
 rw [zaj]; have:=Nat.pow_pos (n:=n%32) (show 0<2 by omega); omega
theorem ze6 {a n:Nat}{i c x:Int}{l:List Nat}(h:RShl a n i c l)(hx:x=gi (limbs a) i.toNat*2^(n%32)+c) :
  RShl a n (i+1) (Int.fdiv x (2^32)) (l ++ [(IntKind.wrap .u32 x).toNat]):=by
 obtain ⟨h0,h1,h2,h3,h4,h5⟩:=h
 rw [zdm] at hx
 rw [z7v,z9c]
 have hi:(i+1).toNat=i.toNat+1:=by omega
 have da:=Nat.mod_lt (a / 4294967296^i.toNat) (show 0<4294967296 by omega)
 rw [zaj] at h2 hx
 have hp:0<2^(n%32):=Nat.pow_pos (by omega)
 have hpp:(4294967296:Nat)^(n / 32)*2^(n%32)=2^n:=by rw [zag,← Nat.pow_add,show 32*(n / 32)+n%32=n by omega]
 have e3:(4294967296:Nat)^(n / 32+i.toNat)=4294967296^(n / 32)*4294967296^i.toNat:=Nat.pow_add ..
 generalize hd:a / 4294967296^i.toNat%4294967296=d at *
 have hxn:x=((d*2^(n%32)+c.toNat:Nat):Int):=by rw [hx]; push_cast; omega
 have hxb:d*2^(n%32)+c.toNat<4294967296*2^(n%32):=by
  have:(d+1)*2^(n%32)≤4294967296*2^(n%32):=Nat.mul_le_mul_right _ (by omega)
  rw [Nat.add_mul] at this
  omega
 generalize hX:d*2^(n%32)+c.toNat=X at *
 have hq:X / 4294967296<2^(n%32):=Nat.div_lt_of_lt_mul hxb
 refine ⟨by omega,by omega,by rw [zaj]; omega,by simp; omega,zdr h4 (by omega),?_⟩
 rw [hi,zdn,hd,zdq,h3,show n / 32+(i.toNat+1)=n / 32+i.toNat+1 by omega,Nat.pow_succ]
 have e1:(x%4294967296).toNat+4294967296*(x / 4294967296).toNat=X:=by omega
 have e2:(4294967296:Nat)^(n / 32+i.toNat)*(x%4294967296).toNat+4294967296^(n / 32+i.toNat)*4294967296*(x / 4294967296).toNat=4294967296^(n / 32+i.toNat)*X:=by
  rw [← e1,Nat.mul_add,Nat.mul_assoc]
 rw [Nat.add_assoc,e2,← hX,Nat.mul_add,Nat.add_mul,← h5]
 have e4:4294967296^(n / 32+i.toNat)*(d*2^(n%32))=4294967296^i.toNat*d*2^n:=by
  rw [e3,← hpp]
  simp only [Nat.mul_comm,Nat.mul_left_comm,Nat.mul_assoc]
 omega
theorem ze7 {a n:Nat}{i c:Int}{l:List Nat}(h:RShl a n i c l)(ha:L a<i):Dig l∧l.length=n / 32+i.toNat∧val l=a*2^n:=by
 obtain ⟨h0,h1,h2,h3,h4,h5⟩:=h
 refine ⟨h4,h3,?_⟩
 rw [zdo (by omega)] at h5
 have la:a<4294967296^(i.toNat-1):=Nat.lt_of_lt_of_le (L_lt a) (Nat.pow_le_pow_right (by omega) (by omega))
 have hpp:(2:Nat)^n≤4294967296^(n / 32+1):=by rw [zag]; exact Nat.pow_le_pow_right (by omega) (by omega)
 have e:(4294967296:Nat)^(n / 32+i.toNat)=4294967296^(i.toNat-1)*4294967296^(n / 32+1):=by rw [← Nat.pow_add,show i.toNat-1+(n / 32+1)=n / 32+i.toNat by omega]
 have hlt:a*2^n<4294967296^(n / 32+i.toNat):=by
  rw [e]
  exact Nat.lt_of_lt_of_le ((Nat.mul_lt_mul_right (Nat.pow_pos (by omega))).2 la) (Nat.mul_le_mul_left _ hpp)
 generalize (4294967296:Nat)^(n / 32+i.toNat)=p at *
 have:c.toNat=0:=by
  refine Decidable.byContradiction fun hn=>?_
  have:p*1≤p*c.toNat:=Nat.mul_le_mul_left _ (by omega)
  omega
 rw [this] at h5
 omega
def RShr (a n:Nat)(i:Int)(l:List Nat):Prop :=
 (n / 32:Nat)≤i∧l.length=i.toNat-n / 32∧Dig l∧val l=a / 2^n%4294967296^(i.toNat-n / 32)
theorem ze8 (a n:Nat):RShr a n ((n / 32:Nat):Int) []:=⟨by omega,by simp,(fun _ h=>nomatch h),by simp [val,Nat.mod_one]⟩
theorem ze9 {n:Int}(h:0≤n)(x:Int):Int.fdiv x (2^(min (wRem n (32:Int)).toNat (IntKind.bits .u64)))=x / ((2^(n.toNat%32):Nat):Int):=by
 rw [zam h,zat]
theorem zea {a:Nat}{n i x:Int}{l:List Nat}(hn:0≤n)(h:RShr a n.toNat i l)
  (hx:x=wOr .u64 (gi (limbs a) i.toNat) (gi (limbs a) (i+1).toNat*2^32)) :
  RShr a n.toNat (i+1) (l ++ [(IntKind.wrap .u32 (Int.fdiv x (2^(min (wRem n (32:Int)).toNat (IntKind.bits .u64))))).toNat]):=by
 obtain ⟨h1,h2,h3,h4⟩:=h
 have hi:(i+1).toNat=i.toNat+1:=by omega
 rw [zb4,hi,z6q,z6q] at hx
 have hd:=zay a n.toNat (i.toNat-n.toNat / 32)
 have hk:i.toNat-n.toNat / 32+n.toNat / 32=i.toNat:=by omega
 rw [hk] at hd
 rw [ze9 hn]
 have hw:(IntKind.wrap .u32 (x / ((2^(n.toNat%32):Nat):Int))).toNat=a / 2^n.toNat / 4294967296^(i.toNat-n.toNat / 32)%4294967296:=by
  rw [hd,hx]
  generalize (limbs a).getD i.toNat 0=y
  generalize (limbs a).getD (i.toNat+1) 0=z
  rw [z7v,show (y:Int)+(z:Int)*4294967296=((y+z*4294967296:Nat):Int) by omega]
  generalize y+z*4294967296=Y
  rw [← Int.natCast_ediv]
  omega
 rw [hw]
 refine ⟨by omega,by simp; omega,zdr h3 (Nat.mod_lt _ (by omega)),?_⟩
 rw [hi,show i.toNat+1-n.toNat / 32=i.toNat-n.toNat / 32+1 by omega,zdn,zdq,h2,h4]
theorem zeb {a n:Nat}{i:Int}{l:List Nat}(h:RShr a n i l)(ha:L a≤i):Dig l∧l.length=i.toNat-n / 32∧val l=a / 2^n:=by
 obtain ⟨h1,h2,h3,h4⟩:=h
 refine ⟨h3,h2,?_⟩
 rw [h4]
 refine Nat.mod_eq_of_lt (Nat.div_lt_of_lt_mul ?_)
 have:(4294967296:Nat)^i.toNat≤2^n*4294967296^(i.toNat-n / 32):=by
  rw [zag,zag,← Nat.pow_add]
  exact Nat.pow_le_pow_right (by omega) (by omega)
 exact Nat.lt_of_lt_of_le (Nat.lt_of_lt_of_le (L_lt a) (Nat.pow_le_pow_right (by omega) (by omega))) this
theorem zec {l:List Nat}(h:Dig l){y:Int}(hy:y=((limbs (val l)).length:Int)):List.take ((y-0).toNat) (List.drop 0 (U l))=lim (val l):=by rw [hy]; exact z8v h
theorem zed {l:List Nat}(h:Dig l){y:Int}(hy:y=((limbs (val l)).length:Int)):(List.take ((y-0).toNat) (List.drop 0 (U l))).all isCell=true:=by rw [zec h hy]; exact z6u _
theorem zee {l:List Nat}(h:Dig l){y:Int}(hy:y=((limbs (val l)).length:Int)):(List.take ((y-0).toNat) (List.drop 0 (U l))).length=L (val l):=by rw [zec h hy,z8g]
theorem zef {c:List V}{n:Nat}(h:c=lim n):V.sl 1 (List.take (0+c.length) (List.drop 0 (([]:List V) ++ c)))=N n:=by rw [h]; simp [N]
theorem zeg (a b:Nat):(cmpN a b=-1∧a<b)∨(cmpN a b=1∧b<a)∨(cmpN a b=0∧a=b):=by
 unfold cmpN
 split
 ·exact .inl ⟨rfl,by assumption⟩
 ·split
  ·exact .inr (.inl ⟨rfl,by assumption⟩)
  ·exact .inr (.inr ⟨rfl,by omega⟩)
theorem zeh (a b:Int):a≤iMax a b∧b≤iMax a b∧(iMax a b=a∨iMax a b=b):=by
 unfold iMax; split<;>omega
theorem zei (a:Nat):L a=0∨gi (limbs a) (L a-1)≠0:=by
 by_cases h:a=0
 ·exact .inl (by rw [h,L_zero])
 ·refine .inr ?_
  have h1:=z8i h
  have h2:=z8j h
  have h3:=L_lt a
  rw [zdm]
  have e:(4294967296:Nat)^L a=4294967296^(L a-1)*4294967296:=by
   obtain ⟨k,hk⟩:∃ k,L a=k+1:=⟨L a-1,by omega⟩
   rw [hk,Nat.add_sub_cancel,Nat.pow_succ]
  rw [e] at h3
  have h4:a / 4294967296^(L a-1)<4294967296:=Nat.div_lt_of_lt_mul h3
  rw [Nat.mod_eq_of_lt h4]
  have:0<a / 4294967296^(L a-1):=Nat.div_pos h2 (zds _)
  omega
theorem zej (a:Nat)(h:0<L a):gi (limbs a) ((L a:Int)-1).toNat≠0:=by
 have:=zei a
 rw [show ((L a:Int)-1).toNat=L a-1 by omega]
 omega
theorem zek (x:Int):0≤IntKind.wrap .u32 x:=by rw [z7v]; omega
theorem zel (d:Int)(h:0≤d) : [V.int .u32 d]=U ([d.toNat]:List Nat):=by simp [U]; omega
theorem zem {r:Nat}(hr:r<32){c:Int}(h:c<2^r):c<4294967296:=by
 rw [zaj] at h
 have:=Nat.pow_le_pow_right (show 0<2 by omega) (Nat.le_of_lt hr)
 omega
theorem zen (a i:Nat):a.testBit i=decide (a / 2^i%2=1):=by
 rw [Nat.testBit_eq_decide_div_mod_eq]
theorem bit1 {a:Nat}{i:Int}(h:0≤i):iEq (wRem (Int.fdiv (gi (limbs a) (Int.tdiv i (32:Int)).toNat) (2^(min (wRem i (32:Int)).toNat (IntKind.bits .u64)))) 2) 1=a.testBit i.toNat:=by
 rw [ze9 h,zah h,show (i / 32).toNat=i.toNat / 32 by omega,zbf,z6q]
 rw [← Int.natCast_ediv]
 generalize (limbs a).getD (i.toNat / 32) 0 / 2^(i.toNat%32)=x
 unfold wRem iEq
 rw [Int.tmod_eq_emod_of_nonneg (by omega)]
 by_cases hx:x%2=1
 ·rw [show ((x:Int)%2)=1 by omega]; simp [hx]
 ·rw [show ((x:Int)%2)=0 by omega]; simp [hx]
theorem zeo {a:Nat}{n:Int}(h0:0<n)(h:a<2^n.toNat)(hb:a.testBit (n-1).toNat=false):a<2^(n-1).toNat:=by
 rw [zen] at hb
 have hb:=of_decide_eq_false hb
 obtain ⟨k,hk⟩:∃ k,n.toNat=k+1:=⟨n.toNat-1,by omega⟩
 rw [hk,Nat.pow_succ] at h
 have e:(n-1).toNat=k:=by omega
 rw [e] at hb ⊢
 refine Decidable.byContradiction fun hn=>hb ?_
 have h1:a / 2^k<2:=Nat.div_lt_of_lt_mul h
 have h2:0<a / 2^k:=Nat.div_pos (by omega) (Nat.pow_pos (by omega))
 omega
theorem zep {a:Nat}{n:Int}(h0:0≤n)(h:a<2^n.toNat)(hb:n≤0∨a.testBit (n-1).toNat=true):n=(nbits a:Int):=by
 by_cases hn:n≤0
 ·have:n=0:=by omega
  subst this
  have:a=0:=by simpa using h
  subst this
  rfl
 ·have hb:=hb.resolve_left hn
  rw [zen] at hb
  have hb:=of_decide_eq_true hb
  obtain ⟨k,hk⟩:∃ k,n.toNat=k+1:=⟨n.toNat-1,by omega⟩
  have e:(n-1).toNat=k:=by omega
  rw [e] at hb
  rw [hk] at h
  have h2:2^k≤a:=by
   refine Decidable.byContradiction fun q=>?_
   rw [Nat.div_eq_of_lt (by omega)] at hb
   cases hb
  rw [zb8 h2 h]
  omega
theorem zeq {a:Nat}{i:Int}(h0:0≤i)(h:a%2^i.toNat=0)(hb:a.testBit i.toNat=false):a%2^(i+1).toNat=0:=by
 rw [zen] at hb
 have hb:=of_decide_eq_false hb
 rw [show (i+1).toNat=i.toNat+1 by omega,Nat.pow_succ,Nat.mod_mul,h]
 have:a / 2^i.toNat%2=0:=by omega
 rw [this,Nat.mul_zero]
theorem zer {a:Nat}{i:Int}(h0:0≤i)(h:a%2^i.toNat=0)(hb:a.testBit i.toNat=true):i=(tz a:Int):=by
 rw [zen] at hb
 rw [zbs h (of_decide_eq_true hb)]
 omega
theorem zes {a:Nat}(h:a%2^(32*L a)=0):tz a=0:=by
 have:=L_lt a
 rw [zag] at this
 rw [Nat.mod_eq_of_lt this] at h
 rw [h,tz,if_pos rfl]
theorem zet (a:Nat):nbits a≤32*L a:=by
 by_cases h:a=0
 ·rw [h]; simp [nbits]
 ·have h1:=zba h
  have h2:=L_lt a
  rw [zag] at h2
  have:nbits a-1<32*L a:=(Nat.pow_lt_pow_iff_right (by omega)).1 (Nat.lt_of_le_of_lt h1 h2)
  omega
theorem zeu {a:Nat}(h:a≠0):tz a<nbits a:=by
 obtain ⟨h1,h2⟩:=zbr h
 have h3:=zb9 a
 have:2^tz a≤a:=by
  refine Decidable.byContradiction fun q=>?_
  rw [Nat.div_eq_of_lt (by omega)] at h2
  cases h2
 exact (Nat.pow_lt_pow_iff_right (by omega)).1 (Nat.lt_of_le_of_lt this h3)
theorem tz_L (a:Nat):tz a≤32*L a:=by
 by_cases h:a=0
 ·rw [h]; simp [tz]
 ·have:=zeu h; have:=zet a; omega
def RSm (a:Nat)(m c0 i c:Int)(l:List Nat):Prop :=
 0≤i∧0≤c∧c<4294967296∧l.length=i.toNat∧Dig l∧val l+4294967296^i.toNat*c.toNat=a%4294967296^i.toNat*m.toNat+c0.toNat
theorem zev (a:Nat)(m:Int){c0:Int}(h:0≤c0∧c0<4294967296):RSm a m c0 0 c0 []:=⟨by omega,by omega,by omega,rfl,(fun _ h=>nomatch h),by simp [val,Nat.mod_one]⟩
theorem zew {x m c:Int}(hx:0≤x∧x<4294967296)(hm:0≤m∧m<4294967296)(hc:0≤c∧c<4294967296):0≤x*m∧c+x*m<18446744073709551616∧x*m≤18446744065119617025∧(c+x*m) / 4294967296<4294967296:=by
 have h1:x*m≤4294967295*m:=Int.mul_le_mul_of_nonneg_right (by omega) hm.1
 have h2:0≤x*m:=Int.mul_nonneg hx.1 hm.1
 omega
theorem zex {a:Nat}{m c0 i c s:Int}{l:List Nat}(h:RSm a m c0 i c l)(hm:0≤m∧m<4294967296)(hs:s=c+gi (limbs a) i.toNat*m) :
  RSm a m c0 (i+1) (Int.fdiv s (2^32)) (l ++ [(IntKind.wrap .u32 s).toNat]):=by
 obtain ⟨h0,h1,h2,h3,h4,h5⟩:=h
 have g0:=z89 (limbs a) i.toNat
 have g1:=z8a (z6y a) i.toNat
 have hb:=zew ⟨g0,g1⟩ hm ⟨h1,h2⟩
 rw [zdm] at hs hb
 rw [z7v,z9c]
 have hi:(i+1).toNat=i.toNat+1:=by omega
 refine ⟨by omega,by omega,by omega,by simp; omega,zdr h4 (by omega),?_⟩
 rw [hi,zdn,zdq,h3,Nat.pow_succ]
 generalize hx:a / 4294967296^i.toNat%4294967296=x at *
 have hsn:s=((c.toNat+x*m.toNat:Nat):Int):=by rw [hs]; push_cast; rw [Int.toNat_of_nonneg h1,Int.toNat_of_nonneg hm.1]
 have e1:(s%4294967296).toNat+4294967296*(s / 4294967296).toNat=c.toNat+x*m.toNat:=by omega
 generalize (4294967296:Nat)^i.toNat=p at *
 have e2:p*(s%4294967296).toNat+p*4294967296*(s / 4294967296).toNat=p*c.toNat+p*(x*m.toNat):=by
  rw [Nat.mul_assoc,← Nat.mul_add,e1,Nat.mul_add]
 rw [Nat.add_mul,Nat.mul_assoc p x]
 omega
theorem zey {a:Nat}{m c0 i c:Int}{l:List Nat}(h:RSm a m c0 i c l)(ha:i=(L a:Int))(hm:0≤m∧m<4294967296):Dig (l ++ [c.toNat])∧(l ++ [c.toNat]).length=L a+1∧val (l ++ [c.toNat])=a*m.toNat+c0.toNat∧0≤c∧c<4294967296:=by
 obtain ⟨h0,h1,h2,h3,h4,h5⟩:=h
 refine ⟨zdr h4 (by omega),by simp; omega,?_,h1,h2⟩
 rw [zdq,h3,h5,zdo (by omega)]
theorem zez {x:Int}(h:0≤x∧x<4294967296):IntKind.wrap .u32 x=x:=by rw [z7v]; omega
theorem zf0 {c:List V}{l:List Nat}{x:Int}(h:c=U l)(hx:0≤x∧x<4294967296):c ++ [V.int .u32 (IntKind.wrap .u32 x)]=U (l ++ [x.toNat]):=by
 rw [zez hx,h,zdp _ _ hx.1]
theorem zf1 {x:Int}(hx:0≤x∧x<4294967296) : [V.int .u32 (IntKind.wrap .u32 x)]=U [x.toNat]:=by rw [zez hx,zel _ hx.1]
theorem zf2 {x:Int}(hx:0≤x∧x<4294967296):Dig [x.toNat]:=fun d hd=>by simp at hd; omega
theorem zf3 {a m:Nat}(h:a=0){c:Int}(hc:0≤c∧c<4294967296):val [c.toNat]=a*m+c.toNat:=by rw [h]; simp [val]
theorem zf4 {b r:Nat}{m w:Int}(h:w=m)(hc:cmpN (b*w.toNat+0) r≤0):b*m.toNat≤r:=by
 subst h
 have:=zeg (b*w.toNat+0) r
 simp only [Nat.add_zero] at this hc
 omega
theorem zf5 {b r:Nat}{m w:Int}(h:w=m)(h1:1≤m)(hc:0<cmpN (b*w.toNat+0) r):r<b*((m-1).toNat+1):=by
 subst h
 have:=zeg (b*w.toNat+0) r
 simp only [Nat.add_zero] at this hc
 rw [show (w-1).toNat+1=w.toNat by omega]
 omega
theorem zf6 {b r:Nat}{x:Int}(h0:0≤x)(h1:b*x.toNat≤r)(h2:r<b*(x.toNat+1)):x=((r / b:Nat):Int):=by
 have:r / b=x.toNat:=Nat.div_eq_of_lt_le (by rw [Nat.mul_comm]; exact h1) (by rw [Nat.mul_comm]; exact h2)
 rw [this]; omega
theorem zf7 (a:Nat)(m:Int)(hm:m.toNat<4294967296:=by omega):L (a*m.toNat+0)≤L a+2:=by
 have h2:=z8m a m.toNat
 have h3:L m.toNat≤1:=L_le (by simpa using hm)
 rw [Nat.add_zero]
 omega
def RDiv (a b:Nat)(i:Int)(r:Nat)(l:List Nat):Prop :=
 -1≤i∧i<L a∧l.length=L a∧Dig l∧r<b∧∃ Q,val l=4294967296^(i+1).toNat*Q∧Q*b+r=a / 4294967296^(i+1).toNat
theorem zf8 {a b:Nat}(hb:0<b):RDiv a b ((L a:Int)-1) 0 (List.replicate (L a) 0):=by
 refine ⟨by omega,by omega,by simp,z86 _,hb,0,by simp [z70],?_⟩
 rw [show ((L a:Int)-1+1).toNat=L a by omega,Nat.div_eq_of_lt (L_lt a)]
 simp
theorem zf9 {l:List Nat}{i:Nat}(d:Nat)(hi:i<l.length)(h0:l.getD i 0=0):val (l.set i d)=val l+4294967296^i*d:=by
 have h1:=z8w (l.set i d) i (by simpa using hi)
 have h2:=z8w l i hi
 have e1:(l.set i d).take i=l.take i:=z93 l d (Nat.le_refl _)
 have e2:(l.set i d).drop (i+1)=l.drop (i+1):=by
  apply List.ext_getElem?
  intro k
  rw [List.getElem?_drop,List.getElem?_drop,List.getElem?_set,if_neg (by omega)]
 rw [e1,e2,z94 l d hi] at h1
 rw [h0] at h2
 rw [h1,h2,Nat.mul_add,Nat.mul_add]
 omega
theorem zfa (a i:Nat):a / 4294967296^i=4294967296*(a / 4294967296^(i+1))+a / 4294967296^i%4294967296:=by
 rw [Nat.pow_succ,← Nat.div_div_eq_div_mul]; omega
theorem zfb {a b r R:Nat}{i:Int}{l:List Nat}(h:RDiv a b i r l)(hR:R=(gi (limbs a) i.toNat).toNat+4294967296*r)(hi:0≤i)(hlt:R<b):RDiv a b (i-1) R l:=by
 obtain ⟨h0,h1,h2,h3,h4,Q,h5,h6⟩:=h
 rw [zdm,Int.toNat_natCast] at hR
 have e1:(i+1).toNat=i.toNat+1:=by omega
 have e2:(i-1+1).toNat=i.toNat:=by omega
 rw [e1] at h5 h6
 refine ⟨by omega,by omega,h2,h3,hlt,4294967296*Q,?_,?_⟩
 ·rw [e2,h5,Nat.pow_succ,Nat.mul_assoc]
 ·rw [e2,zfa a,← h6,hR,Nat.mul_add,Nat.mul_assoc]
  omega
theorem zfc {a b r R:Nat}{i d v:Int}{l:List Nat}(h:RDiv a b i r l)(hR:R=(gi (limbs a) i.toNat).toNat+4294967296*r)(hi:0≤i)(hge:b≤R)(hd:v=d∧d=((R / b:Nat):Int)) :
  RDiv a b (i-1) (R-(b*v.toNat+0)) (l.set i.toNat d.toNat):=by
 obtain ⟨h0,h1,h2,h3,h4,Q,h5,h6⟩:=h
 have g1:=z8a (z6y a) i.toNat
 have g0:=z89 (limbs a) i.toNat
 obtain ⟨rfl,rfl⟩:=hd
 rw [Int.toNat_natCast]
 have hRb:R<b*4294967296:=by
  have:r+1≤b:=h4
  have:=Nat.mul_le_mul_left 4294967296 this
  omega
 have hq:R / b<4294967296:=Nat.div_lt_of_lt_mul hRb
 have hdm:=Nat.div_add_mod R b
 have hml:=Nat.mod_lt R (show 0<b by omega)
 rw [zdm,Int.toNat_natCast] at hR
 have e1:(i+1).toNat=i.toNat+1:=by omega
 have e2:(i-1+1).toNat=i.toNat:=by omega
 rw [e1] at h5 h6
 have hz:l.getD i.toNat 0=0:=by
  rw [zav l _ h3,h5,Nat.pow_succ,Nat.mul_assoc,Nat.mul_div_cancel_left _ (zds _),Nat.mul_mod_right]
 refine ⟨by omega,by omega,by simpa using h2,z87 h3 hq _,by omega,4294967296*Q+R / b,?_,?_⟩
 ·rw [e2,zf9 _ (by omega) hz,h5,Nat.pow_succ,Nat.mul_assoc,Nat.mul_add]
 ·rw [e2,zfa a,← h6,Nat.add_mul,Nat.mul_add,Nat.mul_assoc,Nat.mul_comm (R / b) b]
  omega
theorem zfd {a b r:Nat}{i:Int}{l:List Nat}(h:RDiv a b i r l)(hi:i<0):Dig l∧l.length=L a∧val l=a / b∧r=a%b:=by
 obtain ⟨h0,h1,h2,h3,h4,Q,h5,h6⟩:=h
 have e1:(i+1).toNat=0:=by omega
 rw [e1] at h5 h6
 simp only [Nat.pow_zero,Nat.one_mul,Nat.div_one] at h5 h6
 have hq:a / b=Q:=by
  rw [← h6,Nat.mul_comm,Nat.mul_add_div (by omega),Nat.div_eq_of_lt h4,Nat.add_zero]
 refine ⟨h3,h2,by rw [h5,hq],?_⟩
 rw [← h6,Nat.mul_comm,Nat.mul_add_mod,Nat.mod_eq_of_lt h4]
theorem zfe (l:List Nat){i:Nat}{x:Int}(h:0≤x):List.set (U l) (0+i) (.int .u32 x)=U (l.set i x.toNat):=by rw [Nat.zero_add]; exact z90 l i x h
theorem zff {l:List Nat}{k k':Nat}{x:Int}(hk:k=k')(h:k<l.length):(Nat.blt k (List.set (U l) k' (.int .u32 x)).length && isIntK .u32 (nth (List.set (U l) k' (.int .u32 x)) k .unk))=true:=by
 subst hk
 refine z7r (z0o.2 (by simpa [z6n] using h)) ?_
 rw [z08,List.getElem?_set,if_pos rfl,if_pos (by rw [z6n]; exact h)]
 rfl
theorem zfg {l:List Nat}{k k':Nat}{x:Int}(hk:k=k')(h:k<l.length):intV (nth (List.set (U l) k' (.int .u32 x)) k .unk)=x:=by
 subst hk
 rw [z08,List.getElem?_set,if_pos rfl,if_pos (by rw [z6n]; exact h)]
 rfl
theorem zfh {r:Nat}{x:Int}(h:0≤x):List.take (1+(lim r).length) (List.drop 0 ([V.int .u32 x] ++ lim r))=U (x.toNat::limbs r):=by
 rw [List.take_of_length_le (by simp; omega)]
 simp [U,lim]
 omega
theorem zfi {x:Int}(h0:0≤x)(h1:x<4294967296)(r:Nat):Dig (x.toNat::limbs r):=fun d hd=>by
 rcases List.mem_cons.1 hd with rfl | hd
 ·omega
 ·exact z6y r d hd
theorem zfj {r b:Nat}(h:r<b*4294967296):r / b<4294967296:=Nat.div_lt_of_lt_mul h
theorem zfk {b R:Nat}{v:Int}(h:v=((R / b:Nat):Int)):b*v.toNat+0≤R:=by
 rw [h,Int.toNat_natCast,Nat.add_zero]
 exact Nat.mul_div_le R b
theorem zfl {a b r R:Nat}{i:Int}{l:List Nat}(h:RDiv a b i r l)(hR:R=(gi (limbs a) i.toNat).toNat+4294967296*r):R<b*4294967296:=by
 obtain ⟨h0,h1,h2,h3,h4,Q,h5,h6⟩:=h
 have g1:=z8a (z6y a) i.toNat
 have g0:=z89 (limbs a) i.toNat
 have:r+1≤b:=h4
 have:=Nat.mul_le_mul_left 4294967296 this
 omega
theorem zfm {l:List Nat}(h:Dig l):L (val l)≤l.length:=z8d h
end Go.Proofs.YtcbihoojfakhdaaGreatDoor
