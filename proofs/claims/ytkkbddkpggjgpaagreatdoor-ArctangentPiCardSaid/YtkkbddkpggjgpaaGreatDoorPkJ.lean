/-
  Lower layers: what functions of the program compute, and plain facts. Conditions: as the theorems say.
-/
import Derived.Test.YtkkbddkpggjgpaaGreatDoorPkI
set_option linter.unusedVariables false
set_option linter.unusedSimpArgs false
namespace Go.Proofs.YtkkbddkpggjgpaaGreatDoor
theorem gi_digit (a:Nat)(i:Nat):gi (limbs a) i=((a / 4294967296^i%4294967296:Nat):Int):=by rw[gi_eq,limb_eq]
theorem mod_succ (a i:Nat):a%4294967296^(i+1)=a%4294967296^i+4294967296^i*(a / 4294967296^i%4294967296):=by
 rw[Nat.pow_succ,Nat.mod_mul]
theorem mod_all {a k:Nat}(h:L a≤k):a%4294967296^k=a:=Nat.mod_eq_of_lt (Nat.lt_of_lt_of_le (L_lt a) (Nat.pow_le_pow_right (by omega) h))
theorem U_snoc (l:List Nat)(d:Int)(h:0≤d):U l ++ [V.int .u32 d]=U (l ++ [d.toNat]):=by
 rw[← U_append];simp [U];omega
theorem val_snoc (l:List Nat)(d:Nat):val (l ++ [d])=val l+4294967296^l.length*d:=by rw[val_append];simp [val]
theorem dig_snoc {l:List Nat}(h:Dig l){d:Nat}(hd:d<4294967296):Dig (l ++ [d]):=dig_append h fun x hx=>by simp at hx;omega
theorem pow_pos' (i:Nat):0<(4294967296:Nat)^i:=Nat.pow_pos (by omega)
theorem rcmp_init (a b n:Nat)(ha:L a≤n)(hb:L b≤n):a / 4294967296^n=b / 4294967296^n:=by
 rw[Nat.div_eq_of_lt (Nat.lt_of_lt_of_le (L_lt a) (Nat.pow_le_pow_right (by omega) ha)),Nat.div_eq_of_lt (Nat.lt_of_lt_of_le (L_lt b) (Nat.pow_le_pow_right (by omega) hb))]
theorem div_split (a i:Nat):a / 4294967296^i=a / 4294967296^(i+1)*4294967296+a / 4294967296^i%4294967296:=by
 rw[Nat.pow_succ,← Nat.div_div_eq_div_mul];omega
theorem rcmp_step {a b i:Nat}(h:a / 4294967296^(i+1)=b / 4294967296^(i+1))(hd:gi (limbs a) i=gi (limbs b) i):a / 4294967296^i=b / 4294967296^i:=by
 rw[gi_digit,gi_digit] at hd
 rw[div_split a,div_split b];omega
theorem rcmp_lt {a b i:Nat}(h:a / 4294967296^(i+1)=b / 4294967296^(i+1))(hd:gi (limbs a) i<gi (limbs b) i):a<b:=by
 rw[gi_digit,gi_digit] at hd
 have h1:=div_split a i
 have h2:=div_split b i
 refine Decidable.byContradiction fun hn=>?_
 have:=Nat.div_le_div_right (c:=4294967296^i) (Nat.not_lt.1 hn)
 omega
theorem rcmp_end {a b:Nat}(h:a / 4294967296^0=b / 4294967296^0):a=b:=by simpa using h
def RAdd (a b:Nat)(i c:Int)(l:List Nat):Prop :=
 0≤i∧0≤c∧c≤1∧l.length=i.toNat∧Dig l∧val l+4294967296^i.toNat*c.toNat=a%4294967296^i.toNat+b%4294967296^i.toNat
theorem radd_init (a b:Nat):RAdd a b 0 0 []:=⟨by omega,by omega,by omega,rfl,(fun _ h=>nomatch h),by simp [val,Nat.mod_one]⟩
theorem radd_next {a b:Nat}{i c s:Int}{l:List Nat}(h:RAdd a b i c l)(hs:s=c+gi (limbs a) i.toNat+gi (limbs b) i.toNat) :
  RAdd a b (i+1) (Int.fdiv s (2^32)) (l ++ [(IntKind.wrap .u32 s).toNat]):=by
 obtain⟨h0,h1,h2,h3,h4,h5⟩:=h
 rw[gi_digit,gi_digit] at hs
 rw[wrap_u32,fdiv_B]
 have da:=Nat.mod_lt (a / 4294967296^i.toNat) (show 0<4294967296 by omega)
 have db:=Nat.mod_lt (b / 4294967296^i.toNat) (show 0<4294967296 by omega)
 have hi:(i+1).toNat=i.toNat+1:=by omega
 refine⟨by omega,by omega,by omega,by simp;omega,dig_snoc h4 (by omega),?_⟩
 rw[hi,mod_succ,mod_succ,val_snoc,h3,Nat.pow_succ]
 generalize hx:a / 4294967296^i.toNat%4294967296=x at *
 generalize hy:b / 4294967296^i.toNat%4294967296=y at *
 have e1:(s%4294967296).toNat+4294967296*(s / 4294967296).toNat=c.toNat+x+y:=by omega
 generalize (4294967296:Nat)^i.toNat=p at *
 calc _=val l+p*((s%4294967296).toNat+4294967296*(s / 4294967296).toNat):=by rw[Nat.mul_add,Nat.mul_assoc];omega
  _=val l+p*c.toNat+p*x+p*y:=by rw[e1,Nat.mul_add,Nat.mul_add];omega
  _=_:=by omega
theorem radd_end {a b:Nat}{i c:Int}{l:List Nat}(h:RAdd a b i c l)(ha:L a<i)(hb:L b<i):Dig l∧l.length=i.toNat∧val l=a+b:=by
 obtain⟨h0,h1,h2,h3,h4,h5⟩:=h
 refine⟨h4,h3,?_⟩
 rw[mod_all (by omega),mod_all (by omega)] at h5
 have la:a<4294967296^(i.toNat-1):=Nat.lt_of_lt_of_le (L_lt a) (Nat.pow_le_pow_right (by omega) (by omega))
 have lb:b<4294967296^(i.toNat-1):=Nat.lt_of_lt_of_le (L_lt b) (Nat.pow_le_pow_right (by omega) (by omega))
 have e:2*4294967296^(i.toNat-1)≤(4294967296:Nat)^i.toNat:=by
  obtain⟨k,hk⟩:∃ k,i.toNat=k+1:=⟨i.toNat-1,by omega⟩
  rw[hk,Nat.add_sub_cancel,Nat.pow_succ,Nat.mul_comm]
  exact Nat.mul_le_mul_left _ (by omega)
 generalize (4294967296:Nat)^(i.toNat-1)=p at *
 generalize (4294967296:Nat)^i.toNat=q at *
 have:c.toNat=0:=by
  refine Decidable.byContradiction fun hn=>?_
  have:q*1≤q*c.toNat:=Nat.mul_le_mul_left _ (by omega)
  omega
 rw[this] at h5
 omega
def RSub (a b:Nat)(i c:Int)(l:List Nat):Prop :=
 0≤i∧0≤c∧c≤1∧l.length=i.toNat∧Dig l∧val l+b%4294967296^i.toNat=a%4294967296^i.toNat+4294967296^i.toNat*c.toNat
theorem rsub_init (a b:Nat):RSub a b 0 0 []:=⟨by omega,by omega,by omega,rfl,(fun _ h=>nomatch h),by simp [val,Nat.mod_one]⟩
theorem rsub_next {a b:Nat}{i c c' x y:Int}{l:List Nat}(h:RSub a b i c l)(hy:y=gi (limbs b) i.toNat+c)
  (hx:(gi (limbs a) i.toNat<y∧x=gi (limbs a) i.toNat+4294967296∧c'=1)∨(y≤gi (limbs a) i.toNat∧x=gi (limbs a) i.toNat∧c'=0)) :
  RSub a b (i+1) c' (l ++ [(IntKind.wrap .u32 (x-y)).toNat]):=by
 obtain⟨h0,h1,h2,h3,h4,h5⟩:=h
 rw[gi_digit] at hy hx
 rw[wrap_u32]
 have da:=Nat.mod_lt (a / 4294967296^i.toNat) (show 0<4294967296 by omega)
 have db:=Nat.mod_lt (b / 4294967296^i.toNat) (show 0<4294967296 by omega)
 have hi:(i+1).toNat=i.toNat+1:=by omega
 refine⟨by omega,by omega,by omega,by simp;omega,dig_snoc h4 (by omega),?_⟩
 rw[hi,mod_succ,mod_succ,val_snoc,h3,Nat.pow_succ]
 generalize hx:a / 4294967296^i.toNat%4294967296=p at *
 generalize hy:b / 4294967296^i.toNat%4294967296=q at *
 have e1:((x-y)%4294967296).toNat+q+c.toNat=p+4294967296*c'.toNat:=by omega
 generalize (4294967296:Nat)^i.toNat=B at *
 have e2:B*((x-y)%4294967296).toNat+B*q+B*c.toNat=B*p+B*4294967296*c'.toNat:=by
  rw[← Nat.mul_add,← Nat.mul_add,e1,Nat.mul_add,Nat.mul_assoc]
 omega
theorem rsub_end {a b:Nat}{i c:Int}{l:List Nat}(h:RSub a b i c l)(ha:L a≤i)(hab:b≤a):Dig l∧l.length=i.toNat∧val l=a-b:=by
 obtain⟨h0,h1,h2,h3,h4,h5⟩:=h
 refine⟨h4,h3,?_⟩
 have:=L_mono hab
 rw[mod_all (by omega),mod_all (by omega)] at h5
 have hl:=val_lt h4
 rw[h3] at hl
 generalize (4294967296:Nat)^i.toNat=p at *
 have:c.toNat=0:=by
  refine Decidable.byContradiction fun hn=>?_
  have:p*1≤p*c.toNat:=Nat.mul_le_mul_left _ (by omega)
  omega
 rw[this] at h5
 omega
theorem or_lo {d c:Int}{r:Nat}(hd:0≤d∧d<4294967296)(hr:r<32)(hc:0≤c∧c<2^r):wOr .u64 (d*2^r) c=d*2^r+c:=by
 obtain⟨d,rfl⟩:=Int.eq_ofNat_of_zero_le hd.1
 obtain⟨c,rfl⟩:=Int.eq_ofNat_of_zero_le hc.1
 have hc':c<2^r:=by have:=hc.2;rw[pow_cast] at this;omega
 have hd':d<4294967296:=by omega
 have hb:=shl_bound hd' hr
 rw[pow_cast,← Int.natCast_mul]
 unfold wOr
 show IntKind.wrap .u64 (BitVec.ofInt 64 _ ||| BitVec.ofInt 64 _).toNat=_
 rw[BitVec.toNat_or,ofInt64 (by omega),ofInt64 (by omega),wrap_u64]
 have hp:2^r≤2^31:=Nat.pow_le_pow_right (by omega) (by omega)
 rw[Int.toNat_natCast,Int.toNat_natCast,Nat.mod_eq_of_lt (by omega),Nat.mod_eq_of_lt (by omega),Nat.or_comm,Nat.mul_comm d,or_add hc']
 rw[Nat.mul_comm (2^r) d] at *
 omega
def RShl (a n:Nat)(i c:Int)(l:List Nat):Prop :=
 0≤i∧0≤c∧c<2^(n%32)∧l.length=n / 32+i.toNat∧Dig l∧val l+4294967296^(n / 32+i.toNat)*c.toNat=a%4294967296^i.toNat*2^n
theorem rshl_init (a n:Nat):RShl a n 0 0 (List.replicate (n / 32) 0):=by
 refine⟨by omega,by omega,?_,by simp,dig_rep _,by simp [val_rep,Nat.mod_one]⟩
 rw[pow_cast];have:=Nat.pow_pos (n:=n%32) (show 0<2 by omega);omega
theorem rshl_next {a n:Nat}{i c x:Int}{l:List Nat}(h:RShl a n i c l)(hx:x=gi (limbs a) i.toNat*2^(n%32)+c) :
  RShl a n (i+1) (Int.fdiv x (2^32)) (l ++ [(IntKind.wrap .u32 x).toNat]):=by
 obtain⟨h0,h1,h2,h3,h4,h5⟩:=h
 rw[gi_digit] at hx
 rw[wrap_u32,fdiv_B]
 have hi:(i+1).toNat=i.toNat+1:=by omega
 have da:=Nat.mod_lt (a / 4294967296^i.toNat) (show 0<4294967296 by omega)
 rw[pow_cast] at h2 hx
 have hp:0<2^(n%32):=Nat.pow_pos (by omega)
 have hpp:(4294967296:Nat)^(n / 32)*2^(n%32)=2^n:=by rw[B_pow,← Nat.pow_add,show 32*(n / 32)+n%32=n by omega]
 have e3:(4294967296:Nat)^(n / 32+i.toNat)=4294967296^(n / 32)*4294967296^i.toNat:=Nat.pow_add ..
 generalize hd:a / 4294967296^i.toNat%4294967296=d at *
 have hxn:x=((d*2^(n%32)+c.toNat:Nat):Int):=by rw[hx];push_cast;omega
 have hxb:d*2^(n%32)+c.toNat<4294967296*2^(n%32):=by
  have:(d+1)*2^(n%32)≤4294967296*2^(n%32):=Nat.mul_le_mul_right _ (by omega)
  rw[Nat.add_mul] at this
  omega
 generalize hX:d*2^(n%32)+c.toNat=X at *
 have hq:X / 4294967296<2^(n%32):=Nat.div_lt_of_lt_mul hxb
 refine⟨by omega,by omega,by rw[pow_cast];omega,by simp;omega,dig_snoc h4 (by omega),?_⟩
 rw[hi,mod_succ,hd,val_snoc,h3,show n / 32+(i.toNat+1)=n / 32+i.toNat+1 by omega,Nat.pow_succ]
 have e1:(x%4294967296).toNat+4294967296*(x / 4294967296).toNat=X:=by omega
 have e2:(4294967296:Nat)^(n / 32+i.toNat)*(x%4294967296).toNat+4294967296^(n / 32+i.toNat)*4294967296*(x / 4294967296).toNat=4294967296^(n / 32+i.toNat)*X:=by
  rw[← e1,Nat.mul_add,Nat.mul_assoc]
 rw[Nat.add_assoc,e2,← hX,Nat.mul_add,Nat.add_mul,← h5]
 have e4:4294967296^(n / 32+i.toNat)*(d*2^(n%32))=4294967296^i.toNat*d*2^n:=by
  rw[e3,← hpp]
  simp only [Nat.mul_comm,Nat.mul_left_comm,Nat.mul_assoc]
 omega
theorem rshl_end {a n:Nat}{i c:Int}{l:List Nat}(h:RShl a n i c l)(ha:L a<i):Dig l∧l.length=n / 32+i.toNat∧val l=a*2^n:=by
 obtain⟨h0,h1,h2,h3,h4,h5⟩:=h
 refine⟨h4,h3,?_⟩
 rw[mod_all (by omega)] at h5
 have la:a<4294967296^(i.toNat-1):=Nat.lt_of_lt_of_le (L_lt a) (Nat.pow_le_pow_right (by omega) (by omega))
 have hpp:(2:Nat)^n≤4294967296^(n / 32+1):=by rw[B_pow];exact Nat.pow_le_pow_right (by omega) (by omega)
 have e:(4294967296:Nat)^(n / 32+i.toNat)=4294967296^(i.toNat-1)*4294967296^(n / 32+1):=by rw[← Nat.pow_add,show i.toNat-1+(n / 32+1)=n / 32+i.toNat by omega]
 have hlt:a*2^n<4294967296^(n / 32+i.toNat):=by
  rw[e]
  exact Nat.lt_of_lt_of_le ((Nat.mul_lt_mul_right (Nat.pow_pos (by omega))).2 la) (Nat.mul_le_mul_left _ hpp)
 generalize (4294967296:Nat)^(n / 32+i.toNat)=p at *
 have:c.toNat=0:=by
  refine Decidable.byContradiction fun hn=>?_
  have:p*1≤p*c.toNat:=Nat.mul_le_mul_left _ (by omega)
  omega
 rw[this] at h5
 omega
def RShr (a n:Nat)(i:Int)(l:List Nat):Prop :=
 (n / 32:Nat)≤i∧l.length=i.toNat-n / 32∧Dig l∧val l=a / 2^n%4294967296^(i.toNat-n / 32)
theorem rshr_init (a n:Nat):RShr a n ((n / 32:Nat):Int) []:=⟨by omega,by simp,(fun _ h=>nomatch h),by simp [val,Nat.mod_one]⟩
theorem fdiv_min {n:Int}(h:0≤n)(x:Int):Int.fdiv x (2^(min (wRem n (32:Int)).toNat (IntKind.bits .u64)))=x / ((2^(n.toNat%32):Nat):Int):=by
 rw[min_rest h,fdiv_pow]
theorem rshr_next {a:Nat}{n i x:Int}{l:List Nat}(hn:0≤n)(h:RShr a n.toNat i l)
  (hx:x=wOr .u64 (gi (limbs a) i.toNat) (gi (limbs a) (i+1).toNat*2^32)) :
  RShr a n.toNat (i+1) (l ++ [(IntKind.wrap .u32 (Int.fdiv x (2^(min (wRem n (32:Int)).toNat (IntKind.bits .u64))))).toNat]):=by
 obtain⟨h1,h2,h3,h4⟩:=h
 have hi:(i+1).toNat=i.toNat+1:=by omega
 rw[wOr_gi,hi,gi_eq,gi_eq] at hx
 have hd:=shr_digit a n.toNat (i.toNat-n.toNat / 32)
 have hk:i.toNat-n.toNat / 32+n.toNat / 32=i.toNat:=by omega
 rw[hk] at hd
 rw[fdiv_min hn]
 have hw:(IntKind.wrap .u32 (x / ((2^(n.toNat%32):Nat):Int))).toNat=a / 2^n.toNat / 4294967296^(i.toNat-n.toNat / 32)%4294967296:=by
  rw[hd,hx]
  generalize (limbs a).getD i.toNat 0=y
  generalize (limbs a).getD (i.toNat+1) 0=z
  rw[wrap_u32,show (y:Int)+(z:Int)*4294967296=((y+z*4294967296:Nat):Int) by omega]
  generalize y+z*4294967296=Y
  rw[← Int.natCast_ediv]
  omega
 rw[hw]
 refine⟨by omega,by simp;omega,dig_snoc h3 (Nat.mod_lt _ (by omega)),?_⟩
 rw[hi,show i.toNat+1-n.toNat / 32=i.toNat-n.toNat / 32+1 by omega,mod_succ,val_snoc,h2,h4]
theorem rshr_end {a n:Nat}{i:Int}{l:List Nat}(h:RShr a n i l)(ha:L a≤i):Dig l∧l.length=i.toNat-n / 32∧val l=a / 2^n:=by
 obtain⟨h1,h2,h3,h4⟩:=h
 refine⟨h3,h2,?_⟩
 rw[h4]
 refine Nat.mod_eq_of_lt (Nat.div_lt_of_lt_mul ?_)
 have:(4294967296:Nat)^i.toNat≤2^n*4294967296^(i.toNat-n / 32):=by
  rw[B_pow,B_pow,← Nat.pow_add]
  exact Nat.pow_le_pow_right (by omega) (by omega)
 exact Nat.lt_of_lt_of_le (Nat.lt_of_lt_of_le (L_lt a) (Nat.pow_le_pow_right (by omega) (by omega))) this
theorem trim_cut {l:List Nat}(h:Dig l){y:Int}(hy:y=((limbs (val l)).length:Int)):List.take ((y-0).toNat) (List.drop 0 (U l))=lim (val l):=by rw[hy];exact cut_lim h
theorem trim_cells {l:List Nat}(h:Dig l){y:Int}(hy:y=((limbs (val l)).length:Int)):(List.take ((y-0).toNat) (List.drop 0 (U l))).all isCell=true:=by rw[trim_cut h hy];exact U_cells _
theorem trim_len {l:List Nat}(h:Dig l){y:Int}(hy:y=((limbs (val l)).length:Int)):(List.take ((y-0).toNat) (List.drop 0 (U l))).length=L (val l):=by rw[trim_cut h hy,L_len]
theorem trim_ret {c:List V}{n:Nat}(h:c=lim n):V.sl 1 (List.take (0+c.length) (List.drop 0 (([]:List V) ++ c)))=N n:=by rw[h];simp [N]
theorem cmpN_range (a b:Nat):(cmpN a b=-1∧a<b)∨(cmpN a b=1∧b<a)∨(cmpN a b=0∧a=b):=by
 unfold cmpN
 split
 ·exact .inl ⟨rfl,by assumption⟩
 ·split
  ·exact .inr (.inl ⟨rfl,by assumption⟩)
  ·exact .inr (.inr ⟨rfl,by omega⟩)
theorem iMax_range (a b:Int):a≤iMax a b∧b≤iMax a b∧(iMax a b=a∨iMax a b=b):=by
 unfold iMax;split<;>omega
theorem L_top (a:Nat):L a=0∨gi (limbs a) (L a-1)≠0:=by
 by_cases h:a=0
 ·exact .inl (by rw[h,L_zero])
 ·refine .inr ?_
  have h1:=L_pos h
  have h2:=L_low h
  have h3:=L_lt a
  rw[gi_digit]
  have e:(4294967296:Nat)^L a=4294967296^(L a-1)*4294967296:=by
   obtain⟨k,hk⟩:∃ k,L a=k+1:=⟨L a-1,by omega⟩
   rw[hk,Nat.add_sub_cancel,Nat.pow_succ]
  rw[e] at h3
  have h4:a / 4294967296^(L a-1)<4294967296:=Nat.div_lt_of_lt_mul h3
  rw[Nat.mod_eq_of_lt h4]
  have:0<a / 4294967296^(L a-1):=Nat.div_pos h2 (pow_pos' _)
  omega
theorem gi_top (a:Nat)(h:0<L a):gi (limbs a) ((L a:Int)-1).toNat≠0:=by
 have:=L_top a
 rw[show ((L a:Int)-1).toNat=L a-1 by omega]
 omega
theorem wrap_nn (x:Int):0≤IntKind.wrap .u32 x:=by rw[wrap_u32];omega
theorem U_one (d:Int)(h:0≤d) : [V.int .u32 d]=U ([d.toNat]:List Nat):=by simp [U];omega
theorem shl_c {r:Nat}(hr:r<32){c:Int}(h:c<2^r):c<4294967296:=by
 rw[pow_cast] at h
 have:=Nat.pow_le_pow_right (show 0<2 by omega) (Nat.le_of_lt hr)
 omega
theorem testBit_mod (a i:Nat):a.testBit i=decide (a / 2^i%2=1):=by
 rw[Nat.testBit_eq_decide_div_mod_eq]
theorem bit1 {a:Nat}{i:Int}(h:0≤i):iEq (wRem (Int.fdiv (gi (limbs a) (Int.tdiv i (32:Int)).toNat) (2^(min (wRem i (32:Int)).toNat (IntKind.bits .u64)))) 2) 1=a.testBit i.toNat:=by
 rw[fdiv_min h,tdiv32 h,show (i / 32).toNat=i.toNat / 32 by omega,bit_limb,gi_eq]
 rw[← Int.natCast_ediv]
 generalize (limbs a).getD (i.toNat / 32) 0 / 2^(i.toNat%32)=x
 unfold wRem iEq
 rw[Int.tmod_eq_emod_of_nonneg (by omega)]
 by_cases hx:x%2=1
 ·rw[show ((x:Int)%2)=1 by omega];simp [hx]
 ·rw[show ((x:Int)%2)=0 by omega];simp [hx]
theorem bits1_step {a:Nat}{n:Int}(h0:0<n)(h:a<2^n.toNat)(hb:a.testBit (n-1).toNat=false):a<2^(n-1).toNat:=by
 rw[testBit_mod] at hb
 have hb:=of_decide_eq_false hb
 obtain⟨k,hk⟩:∃ k,n.toNat=k+1:=⟨n.toNat-1,by omega⟩
 rw[hk,Nat.pow_succ] at h
 have e:(n-1).toNat=k:=by omega
 rw[e] at hb ⊢
 refine Decidable.byContradiction fun hn=>hb ?_
 have h1:a / 2^k<2:=Nat.div_lt_of_lt_mul h
 have h2:0<a / 2^k:=Nat.div_pos (by omega) (Nat.pow_pos (by omega))
 omega
theorem bits1_end {a:Nat}{n:Int}(h0:0≤n)(h:a<2^n.toNat)(hb:n≤0∨a.testBit (n-1).toNat=true):n=(nbits a:Int):=by
 by_cases hn:n≤0
 ·have:n=0:=by omega
  subst this
  have:a=0:=by simpa using h
  subst this
  rfl
 ·have hb:=hb.resolve_left hn
  rw[testBit_mod] at hb
  have hb:=of_decide_eq_true hb
  obtain⟨k,hk⟩:∃ k,n.toNat=k+1:=⟨n.toNat-1,by omega⟩
  have e:(n-1).toNat=k:=by omega
  rw[e] at hb
  rw[hk] at h
  have h2:2^k≤a:=by
   refine Decidable.byContradiction fun q=>?_
   rw[Nat.div_eq_of_lt (by omega)] at hb
   cases hb
  rw[nbits_of h2 h]
  omega
theorem zer1_step {a:Nat}{i:Int}(h0:0≤i)(h:a%2^i.toNat=0)(hb:a.testBit i.toNat=false):a%2^(i+1).toNat=0:=by
 rw[testBit_mod] at hb
 have hb:=of_decide_eq_false hb
 rw[show (i+1).toNat=i.toNat+1 by omega,Nat.pow_succ,Nat.mod_mul,h]
 have:a / 2^i.toNat%2=0:=by omega
 rw[this,Nat.mul_zero]
theorem zer1_hit {a:Nat}{i:Int}(h0:0≤i)(h:a%2^i.toNat=0)(hb:a.testBit i.toNat=true):i=(tz a:Int):=by
 rw[testBit_mod] at hb
 rw[tz_unique h (of_decide_eq_true hb)]
 omega
theorem zer1_end {a:Nat}(h:a%2^(32*L a)=0):tz a=0:=by
 have:=L_lt a
 rw[B_pow] at this
 rw[Nat.mod_eq_of_lt this] at h
 rw[h,tz,if_pos rfl]
theorem nbits_L (a:Nat):nbits a≤32*L a:=by
 by_cases h:a=0
 ·rw[h];simp [nbits]
 ·have h1:=nbits_le h
  have h2:=L_lt a
  rw[B_pow] at h2
  have:nbits a-1<32*L a:=(Nat.pow_lt_pow_iff_right (by omega)).1 (Nat.lt_of_le_of_lt h1 h2)
  omega
theorem tz_lt {a:Nat}(h:a≠0):tz a<nbits a:=by
 obtain⟨h1,h2⟩:=tz_spec h
 have h3:=nbits_lt a
 have:2^tz a≤a:=by
  refine Decidable.byContradiction fun q=>?_
  rw[Nat.div_eq_of_lt (by omega)] at h2
  cases h2
 exact (Nat.pow_lt_pow_iff_right (by omega)).1 (Nat.lt_of_le_of_lt this h3)
theorem tz_L (a:Nat):tz a≤32*L a:=by
 by_cases h:a=0
 ·rw[h];simp [tz]
 ·have:=tz_lt h;have:=nbits_L a;omega
def RSm (a:Nat)(m c0 i c:Int)(l:List Nat):Prop :=
 0≤i∧0≤c∧c<4294967296∧l.length=i.toNat∧Dig l∧val l+4294967296^i.toNat*c.toNat=a%4294967296^i.toNat*m.toNat+c0.toNat
theorem rsm_init (a:Nat)(m:Int){c0:Int}(h:0≤c0∧c0<4294967296):RSm a m c0 0 c0 []:=⟨by omega,by omega,by omega,rfl,(fun _ h=>nomatch h),by simp [val,Nat.mod_one]⟩
theorem mul_bound2 {x m c:Int}(hx:0≤x∧x<4294967296)(hm:0≤m∧m<4294967296)(hc:0≤c∧c<4294967296):0≤x*m∧c+x*m<18446744073709551616∧x*m≤18446744065119617025∧(c+x*m) / 4294967296<4294967296:=by
 have h1:x*m≤4294967295*m:=Int.mul_le_mul_of_nonneg_right (by omega) hm.1
 have h2:0≤x*m:=Int.mul_nonneg hx.1 hm.1
 omega
theorem rsm_next {a:Nat}{m c0 i c s:Int}{l:List Nat}(h:RSm a m c0 i c l)(hm:0≤m∧m<4294967296)(hs:s=c+gi (limbs a) i.toNat*m) :
  RSm a m c0 (i+1) (Int.fdiv s (2^32)) (l ++ [(IntKind.wrap .u32 s).toNat]):=by
 obtain⟨h0,h1,h2,h3,h4,h5⟩:=h
 have g0:=gi_nonneg (limbs a) i.toNat
 have g1:=gi_lt (dig_limbs a) i.toNat
 have hb:=mul_bound2 ⟨g0,g1⟩ hm ⟨h1,h2⟩
 rw[gi_digit] at hs hb
 rw[wrap_u32,fdiv_B]
 have hi:(i+1).toNat=i.toNat+1:=by omega
 refine⟨by omega,by omega,by omega,by simp;omega,dig_snoc h4 (by omega),?_⟩
 rw[hi,mod_succ,val_snoc,h3,Nat.pow_succ]
 generalize hx:a / 4294967296^i.toNat%4294967296=x at *
 have hsn:s=((c.toNat+x*m.toNat:Nat):Int):=by rw[hs];push_cast;rw[Int.toNat_of_nonneg h1,Int.toNat_of_nonneg hm.1]
 have e1:(s%4294967296).toNat+4294967296*(s / 4294967296).toNat=c.toNat+x*m.toNat:=by omega
 generalize (4294967296:Nat)^i.toNat=p at *
 have e2:p*(s%4294967296).toNat+p*4294967296*(s / 4294967296).toNat=p*c.toNat+p*(x*m.toNat):=by
  rw[Nat.mul_assoc,← Nat.mul_add,e1,Nat.mul_add]
 rw[Nat.add_mul,Nat.mul_assoc p x]
 omega
theorem rsm_end {a:Nat}{m c0 i c:Int}{l:List Nat}(h:RSm a m c0 i c l)(ha:i=(L a:Int))(hm:0≤m∧m<4294967296):Dig (l ++ [c.toNat])∧(l ++ [c.toNat]).length=L a+1∧val (l ++ [c.toNat])=a*m.toNat+c0.toNat∧0≤c∧c<4294967296:=by
 obtain⟨h0,h1,h2,h3,h4,h5⟩:=h
 refine⟨dig_snoc h4 (by omega),by simp;omega,?_,h1,h2⟩
 rw[val_snoc,h3,h5,mod_all (by omega)]
theorem wrap_self {x:Int}(h:0≤x∧x<4294967296):IntKind.wrap .u32 x=x:=by rw[wrap_u32];omega
theorem U_snoc_w {c:List V}{l:List Nat}{x:Int}(h:c=U l)(hx:0≤x∧x<4294967296):c ++ [V.int .u32 (IntKind.wrap .u32 x)]=U (l ++ [x.toNat]):=by
 rw[wrap_self hx,h,U_snoc _ _ hx.1]
theorem U_one_w {x:Int}(hx:0≤x∧x<4294967296) : [V.int .u32 (IntKind.wrap .u32 x)]=U [x.toNat]:=by rw[wrap_self hx,U_one _ hx.1]
theorem dig_one {x:Int}(hx:0≤x∧x<4294967296):Dig [x.toNat]:=fun d hd=>by simp at hd;omega
theorem sm_nil {a m:Nat}(h:a=0){c:Int}(hc:0≤c∧c<4294967296):val [c.toNat]=a*m+c.toNat:=by rw[h];simp [val]
theorem fits_le {b r:Nat}{m w:Int}(h:w=m)(hc:cmpN (b*w.toNat+0) r≤0):b*m.toNat≤r:=by
 subst h
 have:=cmpN_range (b*w.toNat+0) r
 simp only [Nat.add_zero] at this hc
 omega
theorem fits_gt {b r:Nat}{m w:Int}(h:w=m)(h1:1≤m)(hc:0<cmpN (b*w.toNat+0) r):r<b*((m-1).toNat+1):=by
 subst h
 have:=cmpN_range (b*w.toNat+0) r
 simp only [Nat.add_zero] at this hc
 rw[show (w-1).toNat+1=w.toNat by omega]
 omega
theorem fits_end {b r:Nat}{x:Int}(h0:0≤x)(h1:b*x.toNat≤r)(h2:r<b*(x.toNat+1)):x=((r / b:Nat):Int):=by
 have:r / b=x.toNat:=Nat.div_eq_of_lt_le (by rw[Nat.mul_comm];exact h1) (by rw[Nat.mul_comm];exact h2)
 rw[this];omega
theorem L_small0 (a:Nat)(m:Int)(hm:m.toNat<4294967296:=by omega):L (a*m.toNat+0)≤L a+2:=by
 have h2:=L_mul a m.toNat
 have h3:L m.toNat≤1:=L_le (by simpa using hm)
 rw[Nat.add_zero]
 omega
def RDiv (a b:Nat)(i:Int)(r:Nat)(l:List Nat):Prop :=
 -1≤i∧i<L a∧l.length=L a∧Dig l∧r<b∧∃ Q,val l=4294967296^(i+1).toNat*Q∧Q*b+r=a / 4294967296^(i+1).toNat
theorem rdiv_init {a b:Nat}(hb:0<b):RDiv a b ((L a:Int)-1) 0 (List.replicate (L a) 0):=by
 refine⟨by omega,by omega,by simp,dig_rep _,hb,0,by simp [val_rep],?_⟩
 rw[show ((L a:Int)-1+1).toNat=L a by omega,Nat.div_eq_of_lt (L_lt a)]
 simp
theorem set_val_all {l:List Nat}{i:Nat}(d:Nat)(hi:i<l.length)(h0:l.getD i 0=0):val (l.set i d)=val l+4294967296^i*d:=by
 have h1:=at_split (l.set i d) i (by simpa using hi)
 have h2:=at_split l i hi
 have e1:(l.set i d).take i=l.take i:=set_take_ge l d (Nat.le_refl _)
 have e2:(l.set i d).drop (i+1)=l.drop (i+1):=by
  apply List.ext_getElem?
  intro k
  rw[List.getElem?_drop,List.getElem?_drop,List.getElem?_set,if_neg (by omega)]
 rw[e1,e2,set_getD l d hi] at h1
 rw[h0] at h2
 rw[h1,h2,Nat.mul_add,Nat.mul_add]
 omega
theorem div_step (a i:Nat):a / 4294967296^i=4294967296*(a / 4294967296^(i+1))+a / 4294967296^i%4294967296:=by
 rw[Nat.pow_succ,← Nat.div_div_eq_div_mul];omega
theorem rdiv_no {a b r R:Nat}{i:Int}{l:List Nat}(h:RDiv a b i r l)(hR:R=(gi (limbs a) i.toNat).toNat+4294967296*r)(hi:0≤i)(hlt:R<b):RDiv a b (i-1) R l:=by
 obtain⟨h0,h1,h2,h3,h4,Q,h5,h6⟩:=h
 rw[gi_digit,Int.toNat_natCast] at hR
 have e1:(i+1).toNat=i.toNat+1:=by omega
 have e2:(i-1+1).toNat=i.toNat:=by omega
 rw[e1] at h5 h6
 refine⟨by omega,by omega,h2,h3,hlt,4294967296*Q,?_,?_⟩
 ·rw[e2,h5,Nat.pow_succ,Nat.mul_assoc]
 ·rw[e2,div_step a,← h6,hR,Nat.mul_add,Nat.mul_assoc]
  omega
theorem rdiv_yes {a b r R:Nat}{i d v:Int}{l:List Nat}(h:RDiv a b i r l)(hR:R=(gi (limbs a) i.toNat).toNat+4294967296*r)(hi:0≤i)(hge:b≤R)(hd:v=d∧d=((R / b:Nat):Int)) :
  RDiv a b (i-1) (R-(b*v.toNat+0)) (l.set i.toNat d.toNat):=by
 obtain⟨h0,h1,h2,h3,h4,Q,h5,h6⟩:=h
 have g1:=gi_lt (dig_limbs a) i.toNat
 have g0:=gi_nonneg (limbs a) i.toNat
 obtain⟨rfl,rfl⟩:=hd
 rw[Int.toNat_natCast]
 have hRb:R<b*4294967296:=by
  have:r+1≤b:=h4
  have:=Nat.mul_le_mul_left 4294967296 this
  omega
 have hq:R / b<4294967296:=Nat.div_lt_of_lt_mul hRb
 have hdm:=Nat.div_add_mod R b
 have hml:=Nat.mod_lt R (show 0<b by omega)
 rw[gi_digit,Int.toNat_natCast] at hR
 have e1:(i+1).toNat=i.toNat+1:=by omega
 have e2:(i-1+1).toNat=i.toNat:=by omega
 rw[e1] at h5 h6
 have hz:l.getD i.toNat 0=0:=by
  rw[digit_eq l _ h3,h5,Nat.pow_succ,Nat.mul_assoc,Nat.mul_div_cancel_left _ (pow_pos' _),Nat.mul_mod_right]
 refine⟨by omega,by omega,by simpa using h2,dig_set h3 hq _,by omega,4294967296*Q+R / b,?_,?_⟩
 ·rw[e2,set_val_all _ (by omega) hz,h5,Nat.pow_succ,Nat.mul_assoc,Nat.mul_add]
 ·rw[e2,div_step a,← h6,Nat.add_mul,Nat.mul_add,Nat.mul_assoc,Nat.mul_comm (R / b) b]
  omega
theorem rdiv_end {a b r:Nat}{i:Int}{l:List Nat}(h:RDiv a b i r l)(hi:i<0):Dig l∧l.length=L a∧val l=a / b∧r=a%b:=by
 obtain⟨h0,h1,h2,h3,h4,Q,h5,h6⟩:=h
 have e1:(i+1).toNat=0:=by omega
 rw[e1] at h5 h6
 simp only [Nat.pow_zero,Nat.one_mul,Nat.div_one] at h5 h6
 have hq:a / b=Q:=by
  rw[← h6,Nat.mul_comm,Nat.mul_add_div (by omega),Nat.div_eq_of_lt h4,Nat.add_zero]
 refine⟨h3,h2,by rw[h5,hq],?_⟩
 rw[← h6,Nat.mul_comm,Nat.mul_add_mod,Nat.mod_eq_of_lt h4]
theorem U_set0 (l:List Nat){i:Nat}{x:Int}(h:0≤x):List.set (U l) (0+i) (.int .u32 x)=U (l.set i x.toNat):=by rw[Nat.zero_add];exact U_setI l i x h
theorem ldset_ok {l:List Nat}{k k':Nat}{x:Int}(hk:k=k')(h:k<l.length):(Nat.blt k (List.set (U l) k' (.int .u32 x)).length && isIntK .u32 (nth (List.set (U l) k' (.int .u32 x)) k .unk))=true:=by
 subst hk
 refine and_mk (blt_iff.2 (by simpa [U_len] using h)) ?_
 rw[nth_eq,List.getElem?_set,if_pos rfl,if_pos (by rw[U_len];exact h)]
 rfl
theorem ldset_eq {l:List Nat}{k k':Nat}{x:Int}(hk:k=k')(h:k<l.length):intV (nth (List.set (U l) k' (.int .u32 x)) k .unk)=x:=by
 subst hk
 rw[nth_eq,List.getElem?_set,if_pos rfl,if_pos (by rw[U_len];exact h)]
 rfl
theorem U_cons_take {r:Nat}{x:Int}(h:0≤x):List.take (1+(lim r).length) (List.drop 0 ([V.int .u32 x] ++ lim r))=U (x.toNat::limbs r):=by
 rw[List.take_of_length_le (by simp;omega)]
 simp [U,lim]
 omega
theorem dig_cons {x:Int}(h0:0≤x)(h1:x<4294967296)(r:Nat):Dig (x.toNat::limbs r):=fun d hd=>by
 rcases List.mem_cons.1 hd with rfl | hd
 ·omega
 ·exact dig_limbs r d hd
theorem div_lt_B {r b:Nat}(h:r<b*4294967296):r / b<4294967296:=Nat.div_lt_of_lt_mul h
theorem rdiv_le {b R:Nat}{v:Int}(h:v=((R / b:Nat):Int)):b*v.toNat+0≤R:=by
 rw[h,Int.toNat_natCast,Nat.add_zero]
 exact Nat.mul_div_le R b
theorem rdiv_lt {a b r R:Nat}{i:Int}{l:List Nat}(h:RDiv a b i r l)(hR:R=(gi (limbs a) i.toNat).toNat+4294967296*r):R<b*4294967296:=by
 obtain⟨h0,h1,h2,h3,h4,Q,h5,h6⟩:=h
 have g1:=gi_lt (dig_limbs a) i.toNat
 have g0:=gi_nonneg (limbs a) i.toNat
 have:r+1≤b:=h4
 have:=Nat.mul_le_mul_left 4294967296 this
 omega
theorem L_val {l:List Nat}(h:Dig l):L (val l)≤l.length:=limbs_len_le h
end Go.Proofs.YtkkbddkpggjgpaaGreatDoor
