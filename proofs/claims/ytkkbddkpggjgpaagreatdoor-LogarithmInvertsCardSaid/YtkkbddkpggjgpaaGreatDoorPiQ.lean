/-
  Lower layers: what functions of the program compute, and plain facts. Conditions: as the theorems say.
-/
import Derived.Test.YtkkbddkpggjgpaaGreatDoorPiP
set_option linter.unusedVariables false
set_option linter.unusedSimpArgs false
namespace Go.Proofs.YtkkbddkpggjgpaaGreatDoor
open Go.RowKit
set_option maxRecDepth 100000
set_option maxHeartbeats 2000000
theorem dbl_mono {v:Rat}(hv:0≤v){h:Nat}:∀ k i,i+k=h→dbl v i≤dbl v h
 | 0,i,e=>by rw[Nat.add_zero] at e;rw[e];exact Rat.le_refl
 | k+1,i,e=>by
  have a:=dbl_mono hv (h:=h) k (i+1) oO
  have b:=dbl_nonneg hv i
  have c:dbl v (i+1)=dbl v i+dbl v i:=rfl
  grind
theorem ex_sums {T v1 v2:Int}{nn:Nat}{v:Rat}(hT:16≤T)(hv1:0≤v1)(h12:v1≤v2)(h8:8*v2≤T)(e1:(v1:Rat)≤v*(T:Rat))(e2:v*(T:Rat)≤(v2:Rat))(hv0:0≤v) :
  (((saS (fun j=>(exM T v1 v2 T j).1) nn):Int):Rat)≤EP v (nn+1)*(T:Rat)∧(∀ K,EP v K*(T:Rat)≤(((saS (fun j=>(exM T v1 v2 T j).2) nn+(exM T v1 v2 T nn).2):Int):Rat))∧7*(saS (fun j=>(exM T v1 v2 T j).2) nn-saS (fun j=>(exM T v1 v2 T j).1) nn)≤32*(v2-v1)+32*(nn:Int):=by
 have T0:(0:Rat)<(T:Rat):=Rat.intCast_pos.2 oO
 have v1R:(0:Rat)≤(v1:Rat):=Rat.intCast_nonneg.2 hv1
 have nxt:=fun j=>exm_next hT hv1 h12 h8 j
 have v8:8*v≤1:=by
  have a:(8:Rat)*(v2:Rat)≤(T:Rat):=by
   have:=Rat.intCast_le_intCast.2 h8
   rw[Rat.intCast_mul] at this;exact this
  refine Rat.le_of_mul_le_mul_right (c:=(T:Rat)) ?_ T0
  grind
 have vD:(0:Rat)≤(v2:Rat)-(v1:Rat):=by have:=Rat.intCast_le_intCast.2 h12;grind
 have z0:(exM T v1 v2 T 0).1=T∧(exM T v1 v2 T 0).2=T:=⟨rfl,rfl⟩
 have L1:=lowT (p:=(fun j=>(exM T v1 v2 T j).1)) (T:=(T:Rat)) (v1:=(v1:Rat)) (v:=v) (n:=nn) T0 Rat.le_refl v1R e1 hv0 (fun j _=>by
  have a:=Rat.intCast_le_intCast.2 (nxt j).1.1
  simp only [Rat.intCast_mul] at a;exact a)
 have H1:=highT (p:=(fun j=>(exM T v1 v2 T j).2)) (T:=(T:Rat)) (v2:=(v2:Rat)) (v:=v) (n:=nn) T0 Rat.le_refl e2 hv0 (fun j _=>by
  have a:=Rat.intCast_le_intCast.2 (nxt j).2.1.1
  simp only [Rat.intCast_mul] at a;exact a)
 have SL:=sumLow (p:=(fun j=>(exM T v1 v2 T j).1)) (s:=saS (fun j=>(exM T v1 v2 T j).1)) (n:=nn) rfl (fun j _=>rfl) L1 nn (Nat.le_refl _)
 have SH:=sumHigh (p:=(fun j=>(exM T v1 v2 T j).2)) (s:=saS (fun j=>(exM T v1 v2 T j).2)) (n:=nn) rfl (fun j _=>rfl) H1 nn (Nat.le_refl _)
 have HL:=H1 nn (Nat.le_refl _)
 have W:=sumWidth (p:=(fun j=>(exM T v1 v2 T j).1)) (q:=(fun j=>(exM T v1 v2 T j).2)) (s:=saS (fun j=>(exM T v1 v2 T j).1)) (r:=saS (fun j=>(exM T v1 v2 T j).2)) (T:=(T:Rat)) (v1:=(v1:Rat)) (v2:=(v2:Rat)) (v:=v) (n:=nn) T0 (by
   have:=Rat.intCast_le_intCast.2 h8
   rw[Rat.intCast_mul] at this;exact this) (Rat.intCast_le_intCast.2 h12) hv0 rfl (fun j _=>rfl) rfl (fun j _=>rfl) rfl L1 H1
  (fun j _=>by
   have a:=Rat.intCast_le_intCast.2 (nxt j).1.2
   simp only [Rat.intCast_mul,Rat.intCast_add] at a;exact a)
  (fun j _=>by
   have a:=Rat.intCast_le_intCast.2 (nxt j).2.1.2
   simp only [Rat.intCast_mul,Rat.intCast_sub] at a;exact a) nn (Nat.le_refl _)
 have LL:=L1 nn (Nat.le_refl _)
 refine⟨SL,fun K=>?_,?_⟩
 ·have t:=EP_tail hv0 (n:=nn) (Rat.le_trans (show 2*v≤1 by grind) (show (1:Rat)≤(nx nn:Rat) from nx_mono (a:=0) oO)) K
  have m:=Rat.mul_le_mul_of_nonneg_right t (Rat.le_of_lt T0)
  rw[Rat.intCast_add]
  have HL:tE v nn*(T:Rat)≤(((exM T v1 v2 T nn).2:Int):Rat):=HL
  grind
 ·have f:=EP_four hv0 (show 10*v≤11 by grind) nn
  have m:=Rat.mul_le_mul_of_nonneg_right f vD
  refine Rat.intCast_le_intCast.1 ?_
  simp only [Rat.intCast_mul,Rat.intCast_add,Rat.intCast_sub]
  have HL:tE v nn*(T:Rat)≤(((exM T v1 v2 T nn).2:Int):Rat):=HL
  have LL:(((exM T v1 v2 T nn).1:Int):Rat)≤tE v nn*(T:Rat):=LL
  have W:7*(((saS (fun j=>(exM T v1 v2 T j).2) nn:Int):Rat)-((saS (fun j=>(exM T v1 v2 T j).1) nn:Int):Rat))+((((exM T v1 v2 T nn).2:Int):Rat)-(((exM T v1 v2 T nn).1:Int):Rat))≤8*(EP v nn*((v2:Rat)-(v1:Rat)))+32*(nn:Rat):=W
  have c7:((7:Int):Rat)=7:=rfl
  have c32:((32:Int):Rat)=32:=rfl
  have cn:(((nn:Int)):Rat)=(nn:Rat):=rfl
  rw[c7,c32,cn]
  grind
theorem ex_plain {T v1 v2 K0:Int}{h nn:Nat}{v:Rat}(hT:16≤T)(hv1:0≤v1)(h12:v1≤v2)(h8:8*v2≤T)(e1:(v1:Rat)≤v*(T:Rat))(e2:v*(T:Rat)≤(v2:Rat))(hv0:0≤v)(hx:10*dbl v h≤11)
  (hl:(exM T v1 v2 T nn).2≤8) (hK:5*(v2-v1)+5*(nn:Int)+8≤K0) (hm:2*(2^h*(K0+10))≤T) :
  (∀ i,i≤h→(T≤(sqS (saS (fun j=>(exM T v1 v2 T j).1) nn) (saS (fun j=>(exM T v1 v2 T j).2) nn+(exM T v1 v2 T nn).2) T i).1∧(sqS (saS (fun j=>(exM T v1 v2 T j).1) nn) (saS (fun j=>(exM T v1 v2 T j).2) nn+(exM T v1 v2 T nn).2) T i).1≤4*T)∧T≤(sqS (saS (fun j=>(exM T v1 v2 T j).1) nn) (saS (fun j=>(exM T v1 v2 T j).2) nn+(exM T v1 v2 T nn).2) T i).2∧(sqS (saS (fun j=>(exM T v1 v2 T j).1) nn) (saS (fun j=>(exM T v1 v2 T j).2) nn+(exM T v1 v2 T nn).2) T i).2≤8*T)∧(∃ N,(((sqS (saS (fun j=>(exM T v1 v2 T j).1) nn) (saS (fun j=>(exM T v1 v2 T j).2) nn+(exM T v1 v2 T nn).2) T h).1:Int):Rat)≤EP (dbl v h) N*(T:Rat))∧(∀ K,EP (dbl v h) K*(T:Rat)≤(((sqS (saS (fun j=>(exM T v1 v2 T j).1) nn) (saS (fun j=>(exM T v1 v2 T j).2) nn+(exM T v1 v2 T nn).2) T h).2:Int):Rat))∧(sqS (saS (fun j=>(exM T v1 v2 T j).1) nn) (saS (fun j=>(exM T v1 v2 T j).2) nn+(exM T v1 v2 T nn).2) T h).2-(sqS (saS (fun j=>(exM T v1 v2 T j).1) nn) (saS (fun j=>(exM T v1 v2 T j).2) nn+(exM T v1 v2 T nn).2) T h).1≤8*(2^h*(K0+10)):=by
 obtain⟨SL,SH,W⟩:=ex_sums (nn:=nn) hT hv1 h12 h8 e1 e2 hv0
 have T0:(0:Rat)<(T:Rat):=Rat.intCast_pos.2 oO
 have f1:=saS_le (p:=(fun j=>(exM T v1 v2 T j).1)) (T:=T) (fun j=>by have:=exm_facts hT hv1 h12 h8 j;exact⟨this.1,this.2.1⟩) nn
 have f2:=saS_le (p:=(fun j=>(exM T v1 v2 T j).2)) (T:=T) (fun j=>by have:=exm_facts hT hv1 h12 h8 j;exact⟨this.2.2.1,this.2.2.2⟩) nn
 have f3:=(exm_facts hT hv1 h12 h8 nn).2.2.1
 have f1:T≤(saS (fun j=>(exM T v1 v2 T j).1) nn):=f1.2.2
 have f2:T≤(saS (fun j=>(exM T v1 v2 T j).2) nn+(exM T v1 v2 T nn).2):=by have:=f2.2.2;have:T≤saS (fun j=>(exM T v1 v2 T j).2) nn:=this;omega
 have w:(saS (fun j=>(exM T v1 v2 T j).2) nn+(exM T v1 v2 T nn).2)≤(saS (fun j=>(exM T v1 v2 T j).1) nn)+K0:=by omega
 generalize (saS (fun j=>(exM T v1 v2 T j).1) nn)=fa at *
 generalize (saS (fun j=>(exM T v1 v2 T j).2) nn+(exM T v1 v2 T nn).2)=fb at *
 have TI:0<T:=by omega
 have ge:=fun i=>sqS_ge (a:=fa) (b:=fb) TI f1 f2 i
 have sf:=fun i=>sqS_facts (a:=fa) (b:=fb) TI i
 have geR1:∀ i,(T:Rat)≤(((sqS fa fb T i).1:Int):Rat):=fun i=>Rat.intCast_le_intCast.2 (ge i).1
 have geR2:∀ i,(T:Rat)≤(((sqS fa fb T i).2:Int):Rat):=fun i=>Rat.intCast_le_intCast.2 (ge i).2
 have lo:=sqLow (a:=fun i=>(sqS fa fb T i).1) (T:=(T:Rat)) (v:=v) (K:=nn+1) (h:=h) T0 hv0 (fun i _=>Rat.le_trans (Rat.le_of_lt T0) (geR1 i)) SL (fun i _=>by
  have a:=Rat.intCast_le_intCast.2 (sf i).1
  simp only [Rat.intCast_mul] at a;exact a)
 have hi:=sqHigh (b:=fun i=>(sqS fa fb T i).2) (T:=(T:Rat)) (v:=v) (h:=h) T0 hv0 SH (fun i _=>by
  have a:=Rat.intCast_le_intCast.2 (sf i).2.2.1
  simp only [Rat.intCast_mul] at a;exact a)
 have four:∀ i,i≤h→(((sqS fa fb T i).1:Int):Rat)≤4*(T:Rat):=fun i hi=>by
  have a:=lo i hi
  have b:=dbl_mono hv0 (h:=h) (h-i) i oO
  have c:=EP_four (dbl_nonneg hv0 i) (show 10*dbl v i≤11 by grind) (2^i*(nn+1))
  exact Rat.le_trans a (Rat.mul_le_mul_of_nonneg_right c (Rat.le_of_lt T0))
 have u0:(0:Rat)<(T:Rat)⁻¹:=Rat.inv_pos.2 T0
 have uT:(T:Rat)⁻¹*(T:Rat)=1:=Rat.inv_mul_cancel _ (by grind)
 have p0:=two_pos h
 have K00:0≤K0:=by omega
 have kT:K0≤T:=by
  have:=Int.mul_le_mul_of_nonneg_right (show (1:Int)≤2^h by omega) (show 0≤K0+10 by omega)
  omega
 have mR:∀ i,i≤h→2*(((2^i:Nat):Rat)*(((K0:Rat)+10)*(T:Rat)⁻¹))≤1:=fun i hi=>by
  have a:2*((((2^i:Nat):Int):Rat)*((K0:Rat)+10))≤(T:Rat):=by
   have q:2*(((2^i:Nat):Int)*(K0+10))≤T:=by
    have:=Int.mul_le_mul_of_nonneg_right (Int.ofNat_le.2 (Nat.pow_le_pow_right (n:=2) oO hi)) (show 0≤K0+10 by omega)
    rw[pow_cast] at hm
    omega
   have:=Rat.intCast_le_intCast.2 q
   simp only [Rat.intCast_mul,Rat.intCast_add] at this
   exact this
  have b:=Rat.mul_le_mul_of_nonneg_right a (Rat.le_of_lt u0)
  have c:(((2^i:Nat):Int):Rat)=((2^i:Nat):Rat):=rfl
  rw[c] at b
  grind
 have wid:∀ i,i≤h→(((sqS fa fb T i).2:Int):Rat)≤(((sqS fa fb T i).1:Int):Rat)*(1+2*(((2^i:Nat):Rat)*(((K0:Rat)+10)*(T:Rat)⁻¹))):=fun i hi =>
  sqWidth (a:=fun i=>(sqS fa fb T i).1) (b:=fun i=>(sqS fa fb T i).2) (T:=(T:Rat)) (u:=(T:Rat)⁻¹) (K0:=(K0:Rat)) (h:=i) (Rat.intCast_le_intCast.2 (show (3:Int)≤T by omega)) u0 uT (fun i _=>geR1 i) (fun i _=>geR2 i)
   (fun i _=>by
    have a:=Rat.intCast_le_intCast.2 (Int.le_of_lt (sf i).2.1)
    simp only [Rat.intCast_mul,Rat.intCast_add] at a;exact a)
   (fun i _=>by
    have a:=Rat.intCast_le_intCast.2 (sf i).2.2.2
    simp only [Rat.intCast_mul,Rat.intCast_sub] at a;exact a)
   (Rat.intCast_nonneg.2 K00) (Rat.intCast_le_intCast.2 kT) (by
    have a:=Rat.intCast_le_intCast.2 w
    rw[Rat.intCast_add] at a;exact a) (mR i hi)
 refine⟨fun i hi'=>⟨⟨(ge i).1,?_⟩,(ge i).2,?_⟩,⟨_,lo h (Nat.le_refl _)⟩,hi h (Nat.le_refl _),?_⟩
 ·refine Rat.intCast_le_intCast.1 ?_
  rw[Rat.intCast_mul];exact four i hi'
 ·refine Rat.intCast_le_intCast.1 ?_
  rw[Rat.intCast_mul,show ((8:Int):Rat)=8 from rfl]
  have a:=wid i hi'
  have b:=Rat.mul_le_mul_of_nonneg_left (mR i hi') (Rat.le_trans (Rat.le_of_lt T0) (geR1 i))
  have c:=four i hi'
  grind
 ·refine Rat.intCast_le_intCast.1 ?_
  have a:=wid h (Nat.le_refl _)
  have c:=four h (Nat.le_refl _)
  have q0:(0:Rat)≤2*(((2^h:Nat):Rat)*(((K0:Rat)+10)*(T:Rat)⁻¹)):=by
   have k0:(0:Rat)≤(K0:Rat):=Rat.intCast_nonneg.2 K00
   have:=Rat.mul_nonneg (Rat.natCast_nonneg (a:=2^h)) (Rat.mul_nonneg (show (0:Rat)≤(K0:Rat)+10 by grind) (Rat.le_of_lt u0))
   grind
  have m:=Rat.mul_le_mul_of_nonneg_right c q0
  have e:4*(T:Rat)*(2*(((2^h:Nat):Rat)*(((K0:Rat)+10)*(T:Rat)⁻¹)))=8*(((2^h:Nat):Rat)*((K0:Rat)+10)):=by grind
  rw[e] at m
  rw[pow_cast]
  simp only [Rat.intCast_mul,Rat.intCast_add,Rat.intCast_sub]
  have c8:((8:Int):Rat)=8:=rfl
  have c10:((10:Int):Rat)=10:=rfl
  have cp:(((2^h:Nat):Int):Rat)=((2^h:Nat):Rat):=rfl
  rw[c8,c10,cp]
  grind
end Go.Proofs.YtkkbddkpggjgpaaGreatDoor

namespace Go.Proofs.YtkkbddkpggjgpaaGreatDoor
open Go.RowKit
set_option maxRecDepth 100000
set_option maxHeartbeats 2000000
theorem shl_half (x:Int)(h:Nat):x*2^(h+24) / 2^h=x*16777216∧-(-(x*2^(h+24)) / 2^h)=x*16777216:=by
 have e:x*2^(h+24)=x*16777216*2^h:=by
  rw[Int.pow_add,show (2:Int)^24=16777216 from rfl,Int.mul_comm (2^h),Int.mul_assoc]
 have p:=two_pos h
 rw[e]
 constructor
 ·exact Int.mul_ediv_cancel _ oO
 ·rw[← Int.neg_mul,Int.mul_ediv_cancel _ oO];omega
theorem hh_of (sc:Int)(hs:0≤sc∧sc≤9000):∃ hh:Int,(4≤hh∧hh≤100)∧(∀ i:Int,4≤i→i<hh→i*i<sc)∧sc≤hh*hh:=by
 obtain⟨n,h1,h2,h3⟩:=least (P:=fun n:Nat=>sc≤((n:Int)+4)*((n:Int)+4)) (n:=96) (show sc≤(((96:Nat):Int)+4)*(((96:Nat):Int)+4) by omega)
 refine⟨(n:Int)+4,by omega,fun i a b=>?_,h2⟩
 obtain⟨j,hj⟩:∃ j:Nat,(j:Int)+4=i:=⟨(i-4).toNat,by omega⟩
 have:=h3 j oO
 rw[hj] at this
 omega
theorem fx_expE (x1 x2 sc:Int)(x:Rat)(hs:0≤sc∧sc≤9000)(e1:(x1:Rat)≤x*((2^sc.toNat:Int):Rat))(e2:x*((2^sc.toNat:Int):Rat)≤(x2:Rat))(hx1:0≤x1)(hx2:10*x2≤11*2^sc.toNat)(hW:16*(x2-x1+1)≤2^sc.toNat) :
  ∃ r1 r2:Int,Impl Tryz.prog Amb 219 [(sV x1 x2),(.int .i64 sc)] (sV r1 r2)∧Encl (EP x) sc.toNat r1 r2∧r2-r1≤40*(x2-x1)+4∧(0≤r1∧r2≤9*2^sc.toNat):=by
 obtain⟨hh,h4,h5,h6⟩:=hh_of sc hs
 obtain⟨h,hh_⟩:∃ h:Nat,(h:Int)=hh:=⟨hh.toNat,by omega⟩
 have hhn:hh.toNat=h:=by omega
 have tn:((sc+hh)+24).toNat=sc.toNat+h+24:=by omega
 have tsn:(((sc+hh)+24)-sc).toNat=h+24:=by omega
 have P0:=two_pos sc.toNat
 have Q0:=two_pos h
 have Q16:(16:Int)≤2^h:=by
  have:=Int.ofNat_le.2 (Nat.pow_le_pow_right (n:=2) oO (show 4≤h by omega))
  rw[← pow_cast,← pow_cast] at this
  exact this
 have TF:(2:Int)^((sc+hh)+24).toNat=2^sc.toNat*2^h*16777216:=by
  rw[tn,Int.pow_add,Int.pow_add];rfl
 have PQ:=Int.mul_le_mul_of_nonneg_left Q16 (Int.le_of_lt P0)
 have x12:x1≤x2:=Rat.intCast_le_intCast.1 (Rat.le_trans e1 e2)
 have hT16:(16:Int)≤(2^((sc+hh)+24).toNat):=by rw[TF];omega
 have h8:8*(x2*16777216)≤(2^((sc+hh)+24).toNat):=by rw[TF];omega
 have hv1:0≤(x1*16777216):=by omega
 have h12:(x1*16777216)≤(x2*16777216):=by omega
 -- the number of terms
 obtain⟨nn,n1,n2,n3⟩:=sum_end (q:=(fun i=>(exM (2^((sc+hh)+24).toNat) (x1*16777216) (x2*16777216) (2^((sc+hh)+24).toNat) i).2)) (t:=((sc+hh)+24).toNat) oO rfl (fun j _=>(exm_next hT16 hv1 h12 h8 j).2.2.1)
 have hl:(exM (2^((sc+hh)+24).toNat) (x1*16777216) (x2*16777216) (2^((sc+hh)+24).toNat) nn).2≤8:=by
  have:=(n3 (nn-1) oO).2 oO
  rw[show nn-1+1=nn by omega] at this
  have:(exM (2^((sc+hh)+24).toNat) (x1*16777216) (x2*16777216) (2^((sc+hh)+24).toNat) nn).2<8:=this
  omega
 -- the argument of the sum
 have PR:(0:Rat)<((2^sc.toNat:Int):Rat):=Rat.intCast_pos.2 P0
 have QR:(0:Rat)<((2^h:Int):Rat):=Rat.intCast_pos.2 Q0
 have TR:(((2^((sc+hh)+24).toNat):Int):Rat)=((2^sc.toNat:Int):Rat)*((2^h:Int):Rat)*16777216:=by rw[TF,Rat.intCast_mul,Rat.intCast_mul];rfl
 have x0:0≤x:=by
  refine Rat.le_of_mul_le_mul_right (c:=((2^sc.toNat:Int):Rat)) ?_ PR
  rw[Rat.zero_mul]
  exact Rat.le_trans (Rat.intCast_nonneg.2 hx1) e1
 have x11:10*x≤11:=by
  refine Rat.le_of_mul_le_mul_right (c:=((2^sc.toNat:Int):Rat)) ?_ PR
  have:=Rat.intCast_le_intCast.2 hx2
  simp only [Rat.intCast_mul] at this
  have:(10:Rat)*(x2:Rat)≤11*((2^sc.toNat:Int):Rat):=this
  grind
 have vq:x / ((2^h:Int):Rat)*((2^h:Int):Rat)=x:=Rat.div_mul_cancel (by grind)
 have v0:0≤x / ((2^h:Int):Rat):=by rw[Rat.div_def];exact Rat.mul_nonneg x0 (Rat.le_of_lt (Rat.inv_pos.2 QR))
 generalize hv:x / ((2^h:Int):Rat)=v at *
 have dv_:dbl v h=x:=by rw[dbl_pow];exact vq
 have g1:(((x1*16777216):Int):Rat)≤v*(((2^((sc+hh)+24).toNat):Int):Rat):=by
  rw[TR,Rat.intCast_mul,show ((16777216:Int):Rat)=16777216 from rfl]
  have e:v*(((2^sc.toNat:Int):Rat)*((2^h:Int):Rat)*16777216)=x*((2^sc.toNat:Int):Rat)*16777216:=by rw[← vq];grind
  rw[e];exact Rat.mul_le_mul_of_nonneg_right e1 (by decide)
 have g2:v*(((2^((sc+hh)+24).toNat):Int):Rat)≤(((x2*16777216):Int):Rat):=by
  rw[TR,Rat.intCast_mul,show ((16777216:Int):Rat)=16777216 from rfl]
  have e:v*(((2^sc.toNat:Int):Rat)*((2^h:Int):Rat)*16777216)=x*((2^sc.toNat:Int):Rat)*16777216:=by rw[← vq];grind
  rw[e];exact Rat.mul_le_mul_of_nonneg_right e2 (by decide)
 have hm:2*(2^h*((5*((x2*16777216)-(x1*16777216))+5*(nn:Int)+8)+10))≤(2^((sc+hh)+24).toNat):=by
  have a:2*((5*((x2*16777216)-(x1*16777216))+5*(nn:Int)+8)+10)≤2^sc.toNat*16777216:=by omega
  have b:=Int.mul_le_mul_of_nonneg_left a (Int.le_of_lt Q0)
  rw[TF]
  have c1:(2:Int)^h*(2*((5*((x2*16777216)-(x1*16777216))+5*(nn:Int)+8)+10))=2*(2^h*((5*((x2*16777216)-(x1*16777216))+5*(nn:Int)+8)+10)):=by rw[← Int.mul_assoc,Int.mul_comm (2^h) 2,Int.mul_assoc]
  have c2:(2:Int)^h*(2^sc.toNat*16777216)=2^sc.toNat*2^h*16777216:=by rw[← Int.mul_assoc,Int.mul_comm (2^h)]
  omega
 have R:=ex_plain (h:=h) (nn:=nn) (K0:=5*((x2*16777216)-(x1*16777216))+5*(nn:Int)+8) hT16 hv1 h12 h8 g1 g2 v0 (by rw[dv_];exact x11) hl (Int.le_refl _) hm
 rw[dv_] at R
 obtain⟨sz,⟨N,lo⟩,hi,wd⟩:=R
 have ef:=fun j=>exm_facts hT16 hv1 h12 h8 j
 have en:=fun j=>exm_next hT16 hv1 h12 h8 j
 have s1:=fun j=>saS_le (p:=(fun i=>(exM (2^((sc+hh)+24).toNat) (x1*16777216) (x2*16777216) (2^((sc+hh)+24).toNat) i).1)) (T:=(2^((sc+hh)+24).toNat)) (fun j=>⟨(ef j).1,(ef j).2.1⟩) j
 have s2:=fun j=>saS_le (p:=(fun i=>(exM (2^((sc+hh)+24).toNat) (x1*16777216) (x2*16777216) (2^((sc+hh)+24).toNat) i).2)) (T:=(2^((sc+hh)+24).toNat)) (fun j=>⟨(ef j).2.2.1,(ef j).2.2.2⟩) j
 have sT:∀ j:Nat,j≤nn→((j:Int)+1)*(2^((sc+hh)+24).toNat)≤10000*(2^((sc+hh)+24).toNat):=fun j hj=>Int.mul_le_mul_of_nonneg_right oO oO
 have Lb:∀ y:Int,-(20000*(2^((sc+hh)+24).toNat))≤y→y≤20000*(2^((sc+hh)+24).toNat)→L y.natAbs≤700:=fun y a b=>by
  refine L_big (t:=((sc+hh)+24).toNat) ?_ oO
  have e:((2^(((sc+hh)+24).toNat+20):Nat):Int)=(2^((sc+hh)+24).toNat)*1048576:=by rw[← pow_cast,Int.pow_add];rfl
  omega
 have hTw:=fx_Twice x1 x2 (((sc+hh)+24)-sc) (Nat.le_trans (Lb x1 oO oO) oO) (Nat.le_trans (Lb x2 oO oO) oO) oO
 rw[tsn] at hTw
 have wb:0≤x1*2^(h+24)∧x1*2^(h+24)≤2*(2^((sc+hh)+24).toNat)∧0≤x2*2^(h+24)∧x2*2^(h+24)≤2*(2^((sc+hh)+24).toNat):=by
  have w:=two_pos (h+24)
  have a:=Int.mul_nonneg hx1 (Int.le_of_lt w)
  have b:=Int.mul_le_mul_of_nonneg_right x12 (Int.le_of_lt w)
  have c:=Int.mul_le_mul_of_nonneg_right (show x2≤2*2^sc.toNat by omega) (Int.le_of_lt w)
  have d:(2:Int)*2^sc.toNat*2^(h+24)=2*(2^((sc+hh)+24).toNat):=by rw[tn,Int.mul_assoc,← Int.pow_add,Nat.add_assoc]
  omega
 have hHf:=fx_Half (x1*2^(h+24)) (x2*2^(h+24)) hh (Nat.le_trans (Lb _ oO oO) oO) (Nat.le_trans (Lb _ oO oO) oO) oO
 rw[hhn,(shl_half x1 h).1,(shl_half x2 h).2] at hHf
 have hO:=fx_One ((sc+hh)+24) oO
 rw[Int.one_mul] at hO
 have lv1:L (x1*16777216).natAbs≤700:=Lb _ oO oO
 have lv2:L (x2*16777216).natAbs≤700:=Lb _ oO oO
 have l1:∀ j,L ((exM (2^((sc+hh)+24).toNat) (x1*16777216) (x2*16777216) (2^((sc+hh)+24).toNat) j).1).natAbs≤700:=fun j=>by have:=ef j;exact Lb _ oO oO
 have l2:∀ j,L ((exM (2^((sc+hh)+24).toNat) (x1*16777216) (x2*16777216) (2^((sc+hh)+24).toNat) j).2).natAbs≤700:=fun j=>by have:=ef j;exact Lb _ oO oO
 have m1:∀ j,L ((exM (2^((sc+hh)+24).toNat) (x1*16777216) (x2*16777216) (2^((sc+hh)+24).toNat) j).1*(x1*16777216) / (2^((sc+hh)+24).toNat)).natAbs≤700:=fun j=>by have:=(en j).2.2.2;exact Lb _ oO oO
 have m2:∀ j,L (-(-((exM (2^((sc+hh)+24).toNat) (x1*16777216) (x2*16777216) (2^((sc+hh)+24).toNat) j).2*(x2*16777216)) / (2^((sc+hh)+24).toNat))).natAbs≤700:=fun j=>by have:=(en j).2.2.2;exact Lb _ oO oO
 have a1:∀ j,j≤nn→L (saS (fun i=>(exM (2^((sc+hh)+24).toNat) (x1*16777216) (x2*16777216) (2^((sc+hh)+24).toNat) i).1) j).natAbs≤700:=fun j hj=>by have:=s1 j;have:=sT j hj;exact Lb _ oO oO
 have a2:∀ j,j≤nn→L (saS (fun i=>(exM (2^((sc+hh)+24).toNat) (x1*16777216) (x2*16777216) (2^((sc+hh)+24).toNat) i).2) j).natAbs≤700:=fun j hj=>by have:=s2 j;have:=sT j hj;exact Lb _ oO oO
 have q1:∀ i,i≤h→L ((sqS (saS (fun i=>(exM (2^((sc+hh)+24).toNat) (x1*16777216) (x2*16777216) (2^((sc+hh)+24).toNat) i).1) nn) (saS (fun i=>(exM (2^((sc+hh)+24).toNat) (x1*16777216) (x2*16777216) (2^((sc+hh)+24).toNat) i).2) nn+(exM (2^((sc+hh)+24).toNat) (x1*16777216) (x2*16777216) (2^((sc+hh)+24).toNat) nn).2) (2^((sc+hh)+24).toNat) i).1).natAbs≤700:=fun i hi=>by have:=sz i hi;exact Lb _ oO oO
 have q2:∀ i,i≤h→L ((sqS (saS (fun i=>(exM (2^((sc+hh)+24).toNat) (x1*16777216) (x2*16777216) (2^((sc+hh)+24).toNat) i).1) nn) (saS (fun i=>(exM (2^((sc+hh)+24).toNat) (x1*16777216) (x2*16777216) (2^((sc+hh)+24).toNat) i).2) nn+(exM (2^((sc+hh)+24).toNat) (x1*16777216) (x2*16777216) (2^((sc+hh)+24).toNat) nn).2) (2^((sc+hh)+24).toNat) i).2).natAbs≤700:=fun i hi=>by have:=sz i hi;exact Lb _ oO oO
 have C:=fx_exp0 x1 x2 sc hh _ _ _ _ ((sqS (saS (fun i=>(exM (2^((sc+hh)+24).toNat) (x1*16777216) (x2*16777216) (2^((sc+hh)+24).toNat) i).1) nn) (saS (fun i=>(exM (2^((sc+hh)+24).toNat) (x1*16777216) (x2*16777216) (2^((sc+hh)+24).toNat) i).2) nn+(exM (2^((sc+hh)+24).toNat) (x1*16777216) (x2*16777216) (2^((sc+hh)+24).toNat) nn).2) (2^((sc+hh)+24).toNat) h).1 / 2^(h+24)) (-(-((sqS (saS (fun i=>(exM (2^((sc+hh)+24).toNat) (x1*16777216) (x2*16777216) (2^((sc+hh)+24).toNat) i).1) nn) (saS (fun i=>(exM (2^((sc+hh)+24).toNat) (x1*16777216) (x2*16777216) (2^((sc+hh)+24).toNat) i).2) nn+(exM (2^((sc+hh)+24).toNat) (x1*16777216) (x2*16777216) (2^((sc+hh)+24).toNat) nn).2) (2^((sc+hh)+24).toNat) h).2) / 2^(h+24))) nn (fun i=>(exM (2^((sc+hh)+24).toNat) (x1*16777216) (x2*16777216) (2^((sc+hh)+24).toNat) i).1) (fun i=>(exM (2^((sc+hh)+24).toNat) (x1*16777216) (x2*16777216) (2^((sc+hh)+24).toNat) i).2) (fun i=>(exM (2^((sc+hh)+24).toNat) (x1*16777216) (x2*16777216) (2^((sc+hh)+24).toNat) i).1*(x1*16777216) / (2^((sc+hh)+24).toNat)) (fun i=>-(-((exM (2^((sc+hh)+24).toNat) (x1*16777216) (x2*16777216) (2^((sc+hh)+24).toNat) i).2*(x2*16777216)) / (2^((sc+hh)+24).toNat))) oO oO h5 h6 hTw hHf hO
  (fun j _=>fx_Mul _ _ (x1*16777216) (x2*16777216) ((sc+hh)+24) (Nat.le_trans (l1 j) oO) (Nat.le_trans (l2 j) oO) oO oO oO)
  (fun j kk _ hk=>by subst hk;exact fx_Part _ _ ((j:Int)+1) (Nat.le_trans (m1 j) oO) (Nat.le_trans (m2 j) oO) oO)
  (fun j hj=>fx_Add _ _ _ _ (Nat.le_trans (a1 j oO) oO) (Nat.le_trans (a2 j oO) oO) (Nat.le_trans (l1 (j+1)) oO) (Nat.le_trans (l2 (j+1)) oO))
  (fun j hj=>by
   have c:decide (((exM (2^((sc+hh)+24).toNat) (x1*16777216) (x2*16777216) (2^((sc+hh)+24).toNat) (j+1)).2).natAbs<8)=decide (nn≤j+1):=decide_eq_decide.2 (by have:=n3 j hj;have:=(ef (j+1)).2.2.1;omega)
   exact impl_eq (congrArg V.bool c) (fx_Tiny _ _ (Nat.le_trans (l2 (j+1)) oO)))
  ⟨Nat.le_trans (a2 nn (Nat.le_refl _)) oO,Nat.le_trans (l2 nn) oO⟩ ⟨n1,by omega⟩
  (fun i hi=>fx_Mul _ _ _ _ ((sc+hh)+24) (Nat.le_trans (q1 i oO) oO) (Nat.le_trans (q2 i oO) oO) (Nat.le_trans (q1 i oO) oO) (Nat.le_trans (q2 i oO) oO) oO)
  (fun i hi=>by
   have e:i=h:=by omega
   subst e
   have r:=fx_Half (sqS (saS (fun i=>(exM (2^((sc+hh)+24).toNat) (x1*16777216) (x2*16777216) (2^((sc+hh)+24).toNat) i).1) nn) (saS (fun i=>(exM (2^((sc+hh)+24).toNat) (x1*16777216) (x2*16777216) (2^((sc+hh)+24).toNat) i).2) nn+(exM (2^((sc+hh)+24).toNat) (x1*16777216) (x2*16777216) (2^((sc+hh)+24).toNat) nn).2) (2^((sc+hh)+24).toNat) i).1 (sqS (saS (fun i=>(exM (2^((sc+hh)+24).toNat) (x1*16777216) (x2*16777216) (2^((sc+hh)+24).toNat) i).1) nn) (saS (fun i=>(exM (2^((sc+hh)+24).toNat) (x1*16777216) (x2*16777216) (2^((sc+hh)+24).toNat) i).2) nn+(exM (2^((sc+hh)+24).toNat) (x1*16777216) (x2*16777216) (2^((sc+hh)+24).toNat) nn).2) (2^((sc+hh)+24).toNat) i).2 (((sc+hh)+24)-sc) (Nat.le_trans (q1 i (Nat.le_refl _)) oO) (Nat.le_trans (q2 i (Nat.le_refl _)) oO) oO
   rw[tsn] at r
   exact r)
 have szh:=sz h (Nat.le_refl _)
 have tT:(((2^((sc+hh)+24).toNat):Int):Rat)=((2^(sc.toNat+(h+24)):Int):Rat):=by rw[tn,Nat.add_assoc]
 rw[tT] at lo
 have hi:=fun K=>(show EP x K*((2^(sc.toNat+(h+24)):Int):Rat)≤_ from by have:=hi K;rw[tT] at this;exact this)
 generalize (sqS (saS (fun i=>(exM (2^((sc+hh)+24).toNat) (x1*16777216) (x2*16777216) (2^((sc+hh)+24).toNat) i).1) nn) (saS (fun i=>(exM (2^((sc+hh)+24).toNat) (x1*16777216) (x2*16777216) (2^((sc+hh)+24).toNat) i).2) nn+(exM (2^((sc+hh)+24).toNat) (x1*16777216) (x2*16777216) (2^((sc+hh)+24).toNat) nn).2) (2^((sc+hh)+24).toNat) h).1=A at *
 generalize (sqS (saS (fun i=>(exM (2^((sc+hh)+24).toNat) (x1*16777216) (x2*16777216) (2^((sc+hh)+24).toNat) i).1) nn) (saS (fun i=>(exM (2^((sc+hh)+24).toNat) (x1*16777216) (x2*16777216) (2^((sc+hh)+24).toNat) i).2) nn+(exM (2^((sc+hh)+24).toNat) (x1*16777216) (x2*16777216) (2^((sc+hh)+24).toNat) nn).2) (2^((sc+hh)+24).toNat) h).2=B at *
 have z0:(0:Rat)≤((2^(sc.toNat+(h+24)):Int):Rat):=Rat.intCast_nonneg.2 (Int.le_of_lt (two_pos _))
 have W24:(2:Int)^(h+24)=2^h*16777216:=by rw[Int.pow_add];rfl
 have D0:=two_pos (h+24)
 have wf:B-A≤(40*(x2-x1)+3)*2^(h+24):=by
  have a:=Int.mul_le_mul_of_nonneg_left (show 8*((5*((x2*16777216)-(x1*16777216))+5*(nn:Int)+8)+10)≤(40*(x2-x1)+3)*16777216 by omega) (Int.le_of_lt Q0)
  have c1:(2:Int)^h*(8*((5*((x2*16777216)-(x1*16777216))+5*(nn:Int)+8)+10))=8*(2^h*((5*((x2*16777216)-(x1*16777216))+5*(nn:Int)+8)+10)):=by rw[← Int.mul_assoc,Int.mul_comm (2^h) 8,Int.mul_assoc]
  have c2:(40*(x2-x1)+3)*(2:Int)^(h+24)=2^h*((40*(x2-x1)+3)*16777216):=by rw[W24,Int.mul_comm,Int.mul_assoc,Int.mul_comm 16777216]
  omega
 have hw:=half_w (a:=A) (b:=B) (W:=40*(x2-x1)+3) (n:=h+24) wf
 have hE:Encl (EP x) (sc.toNat+(h+24)) A B:=⟨N,fun K hK=>⟨Rat.le_trans lo (Rat.mul_le_mul_of_nonneg_right (EP_mono x0 hK) z0),hi K⟩⟩
 refine⟨_,_,C,hE.half rfl,by omega,Int.ediv_nonneg oO (Int.le_of_lt D0),?_⟩
 have T8:((2^((sc+hh)+24).toNat):Int)=2^sc.toNat*2^(h+24):=by rw[tn,Nat.add_assoc,Int.pow_add]
 rw[T8] at szh
 have u:=Int.lt_ediv_add_one_mul_self (-B) D0
 refine Decidable.byContradiction fun hn=>?_
 have m:=Int.mul_le_mul_of_nonneg_right (show -B / 2^(h+24)+1≤-(9*2^sc.toNat)+1-1 by omega) (Int.le_of_lt D0)
 have m':(-(9*2^sc.toNat)+1-1:Int)*2^(h+24)=-(9*(2^sc.toNat*2^(h+24))):=by rw[Int.add_sub_cancel,Int.neg_mul,Int.mul_assoc]
 have:=Int.mul_pos P0 D0
 omega
end Go.Proofs.YtkkbddkpggjgpaaGreatDoor

namespace Go.Proofs.YtkkbddkpggjgpaaGreatDoor
open Go.RowKit
set_option maxRecDepth 100000
set_option maxHeartbeats 2000000
theorem fx_ExpW (m ee s1 p1 p2 q1 q2 k0 a1 a2 u1 u2 t1 t2 d1 d2 x1 x2 y1 y2 r1 r2:Int)(c0:0≤s1∧s1≤9000)(c1:-20000≤k0∧k0≤20000)(c2:Impl Tryz.prog Amb 173 [(yV m ee),(.int .i64 32)] (sV p1 p2))(c3:Impl Tryz.prog Amb 101 [(.int .i64 32)] (sV q1 q2))(c4:Impl Tryz.prog Amb 218 [(sV p1 p2),(sV q1 q2)] (.int .i64 k0))(c5:Impl Tryz.prog Amb 173 [(yV m ee),(.int .i64 (((s1+(iMax (k0-1) (0:Int)))+24)+16))] (sV a1 a2))(c6:Impl Tryz.prog Amb 101 [(.int .i64 (((s1+(iMax (k0-1) (0:Int)))+24)+16))] (sV u1 u2))(c7:Impl Tryz.prog Amb 163 [(sV u1 u2),(.int .i64 (k0-1))] (sV t1 t2))(c8:Impl Tryz.prog Amb 164 [(sV a1 a2),(sV t1 t2)] (sV d1 d2))(c9:Impl Tryz.prog Amb 142 [(sV d1 d2),(.int .i64 16)] (sV x1 x2))(c10:Impl Tryz.prog Amb 219 [(sV x1 x2),(.int .i64 ((s1+(iMax (k0-1) (0:Int)))+24))] (sV y1 y2))(c11:Impl Tryz.prog Amb 142 [(sV y1 y2),(.int .i64 ((((s1+(iMax (k0-1) (0:Int)))+24)-s1)-(k0-1)))] (sV r1 r2)):Impl Tryz.prog Amb 190 [(yV m ee),(.int .i64 s1)] (sV r1 r2):=by
 have im1:=iMax_range (k0-1) 0
 exact impl_ob hP hAmb Tryz.func190 (by kernel_rfl) (.lits 2<|.call (sV p1 p2)<|.lit<|.call (sV q1 q2)<|.lit<|.call (.int .i64 k0)<|.lit<|.yes<|.lits 2<|.yes<|.lit<|.yes<|.lits 2<|.yes<|.lit<|.call (sV a1 a2)<|.lit<|.yes<|.lit<|.call (sV u1 u2)<|.lit<|.call (sV t1 t2)<|.lit<|.call (sV d1 d2)<|.lit<|.call (sV x1 x2)<|.lits 3<|.call (sV y1 y2)<|.lits 3<|.yes<|.lit<|.yes<|.lit<|.call (sV r1 r2)<|.lits 2<|.ret)
  (cast_ob (aI True.intro (aI (c2 ) (aI (c3 ) (aI (c4 ) (aI (fits_i64 oS:(fits .i64 (k0-1))=true) (aI (fits_i64 oS:(fits .i64 (s1+(iMax (k0-1) (0:Int))))=true) (aI (fits_i64 oS:(fits .i64 ((s1+(iMax (k0-1) (0:Int)))+24))=true) (aI (fits_i64 oS:(fits .i64 (((s1+(iMax (k0-1) (0:Int)))+24)+16))=true) (aI (c5 ) (aI (fits_i64 oS:(fits .i64 (((s1+(iMax (k0-1) (0:Int)))+24)+16))=true) (aI (c6 ) (aI (c7 ) (aI (c8 ) (aI (c9 ) (aI (c10 ) (aI (fits_i64 oS:(fits .i64 (((s1+(iMax (k0-1) (0:Int)))+24)-s1))=true) (aI (fits_i64 oS:(fits .i64 ((((s1+(iMax (k0-1) (0:Int)))+24)-s1)-(k0-1)))=true) (aI (c11 ) ((vsub_refl (sV r1 r2))))))))))))))))))))) (by kernel_rfl))
end Go.Proofs.YtkkbddkpggjgpaaGreatDoor

namespace Go.Proofs.YtkkbddkpggjgpaaGreatDoor
open Go.RowKit
set_option maxRecDepth 100000
set_option maxHeartbeats 2000000
def fx_SettleB_0_mk (fk:Nat)(u1:V)(_ _ w:Int)(x:Int):St:=⟨mkS 27 [(0,(.val (.int .i64 w))),(1,(.val (.bnd fk [u1]))),(4,(.own 0 0)),(5,(.val (.int .i64 24)))],[⟨true,false,[(V.bool false),V.nil,(V.bool false),V.nil]⟩]⟩
def fx_SettleB_0_I (_:Nat)(_:V)(_ _ _:Int)(x:Int):Prop:=x=x
def fx_SettleB_0_mu (_:Nat)(_:V)(_ _ _:Int)(x:Int):Nat:=0
def fx_SettleB_0_ex (_:Nat)(_:V)(ka kb _:Int)(y:Int):Ex × St:=(.ret,⟨mkS 27 [(4,(.own 0 0))],[⟨true,false,[(V.bool (decide ((ka / 2^24)<0))),(N ((ka / 2^24).natAbs)),(V.bool (decide ((-(-kb / 2^24))<0))),(N ((-(-kb / 2^24)).natAbs))]⟩]⟩)
def fx_SettleB_0_J (_:Nat)(_:V)(_ _ _:Int)(y:Int):Prop:=y=y
theorem fx_SettleB_0 (fk:Nat)(u1:V)(ka kb w:Int)(c0:Impl Tryz.prog Amb fk [u1,(.int .i64 (w+24))] (sV ka kb))(c1:L ka.natAbs≤8192∧L kb.natAbs≤8192)(c2:nbits (kb-ka).natAbs≤24)(c3:(0:Int)≤w∧w≤5000)(x0:Int)(hI:fx_SettleB_0_I fk u1 ka kb w x0):LoopOk Tryz.prog Amb (loopN Tryz.f78 0) (fx_SettleB_0_mk fk u1 ka kb w x0) (fun e st_=>∃ y,fx_SettleB_0_J fk u1 ka kb w y∧fx_SettleB_0_ex fk u1 ka kb w y=(e,st_)) :=
 loop_ob hP hAmb ⟨[0,1,4,5],1,[]⟩ (fx_SettleB_0_mk fk u1 ka kb w) (fx_SettleB_0_I fk u1 ka kb w) (fx_SettleB_0_mu fk u1 ka kb w) (fx_SettleB_0_ex fk u1 ka kb w) (fx_SettleB_0_J fk u1 ka kb w) x0 hI (fun j=>.lit<|.yes<|.lit<|.call (sV ka kb)<|.lits 3<|.call (zV (kb-ka))<|.lits 2<|.call (.int .i64 (nbits ((kb-ka).natAbs):Int))<|.lit<|.yes<|.lits 5<|.call (sV (ka / 2^24) (-(-kb / 2^24)))<|.lit<|.fin3 ⟨[4],[0]⟩) (by
  rintro j hI
  have hI:j=j:=hI
  have h1:=hI
  exact cast_ob (aI True.intro (aI (fits_i64 oS:(fits .i64 (w+24))=true) (aI (c0 ) (aI (fx_Width ka kb oS oS) (have f106:=L_abs_sub kb ka;aI (nat_Bits ((kb-ka).natAbs) oS) (have f105:=nbits_L ((kb-ka).natAbs);aI (iLe_mk oO:(iLe (nbits ((kb-ka).natAbs):Int) 24)=true) (aI (fx_Half ka kb 24 oS oS oS) (have f104:=L_abs_neg (-kb / 2^24);have f103:=L_abs_shr (-kb) 24;have f102:=L_abs_neg kb;have f101:=L_abs_shr ka 24;aI tT ((nx_ret ((fx_SettleB_0_ex fk u1 ka kb w j).2) j (show j=j from rfl) rfl:NX (fx_SettleB_0_mk fk u1 ka kb w) (fx_SettleB_0_I fk u1 ka kb w) (fx_SettleB_0_mu fk u1 ka kb w) (fx_SettleB_0_ex fk u1 ka kb w) (fx_SettleB_0_J fk u1 ka kb w) j .ret ((fx_SettleB_0_ex fk u1 ka kb w j).2))))))))))) (by kernel_rfl))
theorem fx_SettleB (fk:Nat)(u1:V)(ka kb w:Int)(c0:Impl Tryz.prog Amb fk [u1,(.int .i64 (w+24))] (sV ka kb))(c1:L ka.natAbs≤8192∧L kb.natAbs≤8192)(c2:nbits (kb-ka).natAbs≤24)(c3:(0:Int)≤w∧w≤5000):Impl Tryz.prog Amb 78 [(.int .i64 w),(.bnd fk [u1])] (sV (ka / 2^24) (-(-kb / 2^24))):=by
 exact impl_ob hP hAmb Tryz.func78 (by kernel_rfl) (.loop ⟨[0,1,4,5],1,[]⟩ ((fx_SettleB_0_mk fk u1 ka kb w (0:Int))) (Int) (fx_SettleB_0_ex fk u1 ka kb w) (fx_SettleB_0_J fk u1 ka kb w) (fun y=>.lit<|.ret))
  (cast_ob (aI True.intro (aI tT (aI (rfl:(fx_SettleB_0_mk fk u1 ka kb w (0:Int))=(fx_SettleB_0_mk fk u1 ka kb w (0:Int))) (aI (fx_SettleB_0 fk u1 ka kb w c0 c1 c2 c3 (0:Int) (show (0:Int)=(0:Int) from rfl)) (fun y (hJ:fx_SettleB_0_J fk u1 ka kb w y)=>have hJ:y=y:=hJ;(vsub_refl (sV (ka / 2^24) (-(-kb / 2^24))))))))) (by kernel_rfl))
theorem ex_value0 (m ee w lo hi:Int)(c0:L (m).natAbs≤8000)(c1:-4096≤w∧w≤4096)(c2:Impl Tryz.prog Amb 76 [(yV (-m) ee),(.int .i64 (w+1))] (.bool false))(c3:Impl Tryz.prog Amb 78 [(.int .i64 w),(.bnd 139 [(yV m ee)])] (sV lo hi)):Impl Tryz.prog Amb 77 [(yV m ee),(.int .i64 w)] (sV lo hi):=by
 exact impl_ob hP hAmb Tryz.func77 (by kernel_rfl) (.lits 2<|.call (yV (-m) ee)<|.lit<|.yes<|.lit<|.call (.bool false)<|.lits 4<|.call (sV lo hi)<|.lits 2<|.ret)
  (cast_ob (aI True.intro (aI (dy_Neg m ee oS) (have f1:=L_abs_neg m;aI (fits_i64 oS:(fits .i64 (w+1))=true) (aI (c2 ) (aI (c3 ) ((vsub_refl (sV lo hi)))))))) (by kernel_rfl))
theorem ex_Exp0 (m ee n f w l1 h1 l2 h2 a1 a2 b1 b2:Int)(c0:0≤w∧w≤4096)(c1:Impl Tryz.prog Amb 76 [(yV n f),(.int .i64 1000)] (.bool false))(c2:Impl Tryz.prog Amb 77 [(yV m ee),(.int .i64 w)] (sV l1 h1))(c3:Impl Tryz.prog Amb 77 [(yV n f),(.int .i64 w)] (sV l2 h2))(c4:Impl Tryz.prog Amb 74 [(zV l1),(.int .i64 ((0:Int)-w))] (.tup [(yV a1 a2),(.int .i64 0)]))(c5:Impl Tryz.prog Amb 74 [(zV h2),(.int .i64 ((0:Int)-w))] (.tup [(yV b1 b2),(.int .i64 0)])):Impl Tryz.prog Amb 25 [(wV m ee n f),(.int .i64 w)] (.tup [(wV a1 a2 b1 b2),(.int .i64 0)]):=by
 exact impl_ob hP hAmb Tryz.func25 (by kernel_rfl) (.lit<|.no<|.lits 3<|.no<|.lits 2<|.call (.bool false)<|.lits 3<|.call (sV l1 h1)<|.lits 2<|.yes<|.lit<|.call (.tup [(yV a1 a2),(.int .i64 0)])<|.lits 3<|.call (sV l2 h2)<|.lits 2<|.yes<|.lit<|.call (.tup [(yV b1 b2),(.int .i64 0)])<|.lits 12<|.ret)
  (cast_ob (aI True.intro (aI (iLt_mkF oS:(iLt w 0)=false) (aI (iGt_mkF oS:(iGt w 4096)=false) (aI (c1 ) (aI (c2 ) (aI (fits_i64 oS:(fits .i64 ((0:Int)-w))=true) (aI (c4 ) (aI (c3 ) (aI (fits_i64 oS:(fits .i64 ((0:Int)-w))=true) (aI (c5 ) ((vsub_refl (.tup [(wV a1 a2 b1 b2),(.int .i64 0)]))))))))))))) (by kernel_rfl))
end Go.Proofs.YtkkbddkpggjgpaaGreatDoor

namespace Go.Proofs.YtkkbddkpggjgpaaGreatDoor
open Go.RowKit
set_option maxRecDepth 100000
def ivM (b:Bool)(l:List Nat)(e:Int)(c:Bool)(r:List Nat)(f n k:Int):Int:=(swM (mkM (rawI b l n) (e%(2*k+1)-k)) (mkX (rawI b l n) (e%(2*k+1)-k)) (mkM (rawI c r n) (f%(2*k+1)-k)) (mkX (rawI c r n) (f%(2*k+1)-k)))
def ivX (b:Bool)(l:List Nat)(e:Int)(c:Bool)(r:List Nat)(f n k:Int):Int:=(swX (mkM (rawI b l n) (e%(2*k+1)-k)) (mkX (rawI b l n) (e%(2*k+1)-k)) (mkM (rawI c r n) (f%(2*k+1)-k)) (mkX (rawI c r n) (f%(2*k+1)-k)))
def ivN (b:Bool)(l:List Nat)(e:Int)(c:Bool)(r:List Nat)(f n k:Int):Int:=(swN (mkM (rawI b l n) (e%(2*k+1)-k)) (mkX (rawI b l n) (e%(2*k+1)-k)) (mkM (rawI c r n) (f%(2*k+1)-k)) (mkX (rawI c r n) (f%(2*k+1)-k)))
def ivF (b:Bool)(l:List Nat)(e:Int)(c:Bool)(r:List Nat)(f n k:Int):Int:=(swF (mkM (rawI b l n) (e%(2*k+1)-k)) (mkX (rawI b l n) (e%(2*k+1)-k)) (mkM (rawI c r n) (f%(2*k+1)-k)) (mkX (rawI c r n) (f%(2*k+1)-k)))
theorem iv_fit {b:Bool}{l:List Nat}{e:Int}{c:Bool}{r:List Nat}{f n k:Int}(hl:Dig l)(hr:Dig r)(hn:0≤n∧n≤800)(hk:0≤k∧k≤20000):((L (ivM b l e c r f n k).natAbs≤n∧-k≤(ivX b l e c r f n k)∧(ivX b l e c r f n k)≤k+32*n)∧(L (ivN b l e c r f n k).natAbs≤n∧-k≤(ivF b l e c r f n k)∧(ivF b l e c r f n k)≤k+32*n))∧vdb (ivM b l e c r f n k) (ivX b l e c r f n k)=true∧vdb (ivN b l e c r f n k) (ivF b l e c r f n k)=true∧dv (ivM b l e c r f n k) (ivX b l e c r f n k)≤dv (ivN b l e c r f n k) (ivF b l e c r f n k):=by
 have h:=rawI_fit (b:=b) (c:=c) (e:=e) (f:=f) hl hr hn hk rfl rfl rfl rfl
 exact⟨⟨h.1,h.2.1⟩,h.2.2⟩
theorem mill_Iv (b:Bool)(l:List Nat)(e:Int)(c:Bool)(r:List Nat)(f n k:Int)(c0:Dig l)(c1:l.length≤9223372036854775807)(c2:Dig r)(c3:r.length≤9223372036854775807)(c4:(-9223372036854775808:Int)≤e∧e≤9223372036854775807)(c5:(-9223372036854775808:Int)≤f∧f≤9223372036854775807)(c6:(0:Int)≤n∧n≤800)(c7:(0:Int)≤k∧k≤20000):Impl Tryz.prog Amb 12 [(.agg [(.bool b),(.sl 1 (U l)),(.int .i64 e),(.bool c),(.sl 1 (U r)),(.int .i64 f)]),(.int .i64 n),(.int .i64 k)] (.tup [(wV (ivM b l e c r f n k) (ivX b l e c r f n k) (ivN b l e c r f n k) (ivF b l e c r f n k)),(.bool (decide ((l.length:Int)≤n∧(r.length:Int)≤n)))]) :=
 mill_Interval b l e c r f n k c0 c1 c2 c3 c4 c5 c6 c7
end Go.Proofs.YtkkbddkpggjgpaaGreatDoor


namespace Go.Proofs.YtkkbddkpggjgpaaGreatDoor
theorem vdb_nabs {m e:Int}(h:vdb m e=true):vdb (m.natAbs:Int) e=true:=by rw[vdb_iff] at h ⊢;rw[Int.natAbs_natCast];omega
theorem sw_all {a e b f:Int}(va:vdb a e=true)(vb:vdb b f=true)(c:Nat)(la:L a.natAbs≤c)(lb:L b.natAbs≤c)(lo hi:Int)(ha:lo≤e∧e≤hi)(hb:lo≤f∧f≤hi)(na:0≤a)(nb:0≤b) :
  (vdb (swM a e b f) (swX a e b f)=true∧vdb (swN a e b f) (swF a e b f)=true)∧dv (swM a e b f) (swX a e b f)≤dv (swN a e b f) (swF a e b f)∧(L (swM a e b f).natAbs≤c∧L (swN a e b f).natAbs≤c)∧(lo≤swX a e b f∧swX a e b f≤hi)∧(lo≤swF a e b f∧swF a e b f≤hi)∧0≤swM a e b f∧0≤swN a e b f:=by
 rcases sw_facts a e b f with ⟨h,h1,h2,h3,h4,_⟩ | ⟨h,h1,h2,h3,h4,_⟩
 ·rw[h1,h2,h3,h4]
  exact⟨⟨vb,va⟩,Rat.le_of_lt (cmpD_pos.1 h),⟨lb,la⟩,hb,ha,nb,na⟩
 ·rw[h1,h2,h3,h4]
  exact⟨⟨va,vb⟩,cmpD_le.1 h,⟨la,lb⟩,ha,hb,na,nb⟩
theorem hi_pos {m e n f:Int}(h:dv m e≤dv n f)(hm:0<m):0<n:=by
 have:=(dv_pos (m:=m) (e:=e)).2 hm
 exact (dv_pos (m:=n) (e:=f)).1 (by grind)
theorem argS {x e y f a b:Int}(ha:x=a)(hb:y=b)(h:0<cmpD x e y f):vsub (.tup [.agg [.bool (decide (y<0)),N y.natAbs,.int .i64 f,.bool (decide (x<0)),N x.natAbs,.int .i64 e],.bool (iGt y.sign 0)])
  (.tup [.agg [.bool (decide (swM a e b f<0)),N (swM a e b f).natAbs,.int .i64 (swX a e b f),.bool (decide (swN a e b f<0)),N (swN a e b f).natAbs,.int .i64 (swF a e b f)],.bool (decide (0<swM a e b f))]):=by
 subst ha;subst hb
 have s:=sw_yes h
 rw[← s.1,← s.2.1,← s.2.2.1,← s.2.2.2]
 have g:iGt y.sign 0=decide (0<y):=by unfold iGt;exact decide_eq_decide.2 (by have:=sign_range y;omega)
 rw[g];exact vsub_refl _
theorem argN {x e y f a b:Int}(ha:x=a)(hb:y=b)(h:cmpD x e y f≤0):vsub (.tup [.agg [.bool (decide (x<0)),N x.natAbs,.int .i64 e,.bool (decide (y<0)),N y.natAbs,.int .i64 f],.bool (iGt x.sign 0)])
  (.tup [.agg [.bool (decide (swM a e b f<0)),N (swM a e b f).natAbs,.int .i64 (swX a e b f),.bool (decide (swN a e b f<0)),N (swN a e b f).natAbs,.int .i64 (swF a e b f)],.bool (decide (0<swM a e b f))]):=by
 subst ha;subst hb
 have s:=sw_no h
 rw[← s.1,← s.2.1,← s.2.2.1,← s.2.2.2]
 have g:iGt x.sign 0=decide (0<x):=by unfold iGt;exact decide_eq_decide.2 (by have:=sign_range x;omega)
 rw[g];exact vsub_refl _
end Go.Proofs.YtkkbddkpggjgpaaGreatDoor




namespace Go.Proofs.YtkkbddkpggjgpaaGreatDoor
open Go.RowKit
set_option maxRecDepth 100000
theorem cln_all:(List.range 400).all (fun t=>decide (lnLo (t:Int)*2^(430-t)≤ptLn) && decide (ptLn≤lnHi (t:Int)*2^(430-t)))=true:=by kernel_rfl
theorem cln_at {t:Nat}(ht:t<400):((lnLo (t:Int):Int):Rat)≤cLn*((2^t:Int):Rat)∧cLn*((2^t:Int):Rat)≤((lnHi (t:Int):Int):Rat):=by
 have h:=List.all_eq_true.1 cln_all t (List.mem_range.2 ht)
 simp only [Bool.and_eq_true,decide_eq_true_eq] at h
 exact⟨(cl_sc oO).1 h.1,(cl_sc oO).2 h.2⟩
theorem ln_le (s:Int):lnLo s≤lnHi s:=by
 have a:=(arcT_pos 26 false s)
 have b:=(arcT_pos 4801 false s)
 have c:=(arcT_pos 8749 false s)
 unfold lnLo lnHi
 omega
theorem ln_part {t:Nat}{k s d1 d2 xa xb:Int}{M Z:Rat}{g:Bool}(ht:(t:Int)=s+32)(hs:0≤s∧s≤5900)(hk:-4096≤k∧k≤4096)(hM:0<M+1)(h:LnH (2^t) M Z d1 d2 xa xb)(hz:(M-1) / (M+1)=if g then -Z else Z)(La:L xa.natAbs≤1000)(Lb:L xb.natAbs≤1000)(Lc:L d1.natAbs≤1002)(Ld:L d2.natAbs≤1002)(xp:0≤xa) :
  ∃ z1 z2 y1 y2 v1 v2 r1 r2:Int,Impl Tryz.prog Amb 176 [(sV d1 d2),(sV (xa+(1:Int)*2^t) (xb+(1:Int)*2^t)),(.int .i64 (s+32))] (sV z1 z2)∧Impl Tryz.prog Amb 188 [(sV z1 z2),(.int .i64 (s+32))] (sV y1 y2) ∧
   Impl Tryz.prog Amb 101 [(.int .i64 (s+32))] (sV v1 v2)∧Impl Tryz.prog Amb 163 [(sV v1 v2),(.int .i64 k)] (sV r1 r2)∧(L y1.natAbs≤200∧L y2.natAbs≤200∧L r1.natAbs≤6300∧L r2.natAbs≤6300)∧y1≤y2∧y2-y1≤100000∧r1≤r2∧r2-r1≤68719476736 ∧
   (t<400→Encl (LnF M k) t ((if g then -(y2*2) else y1*2)+r1) ((if g then -(y1*2) else y2*2)+r2)):=by
 have T0:=two_pos t
 have tn:(s+32).toNat=t:=by omega
 have hT:=h.hT
 have x2:=h.x2
 have xb0:0≤xb:=by
  refine Rat.intCast_le_intCast.1 (Rat.le_trans ?_ h.xb1)
  exact Rat.le_trans (Rat.intCast_le_intCast.2 xp) h.xa1
 have n1:xa+(1:Int)*2^t≠0:=by omega
 have n2:xb+(1:Int)*2^t≠0:=by omega
 have l1:=L_pow1 t
 have la:=L_abs_add xa ((1:Int)*2^t)
 have lb:=L_abs_add xb ((1:Int)*2^t)
 have hD:=fx_Div d1 d2 (xa+(1:Int)*2^t) (xb+(1:Int)*2^t) (s+32) oO oO oO oO oO n1 n2
 rw[tn] at hD
 have e1:Int.fdiv (d1*2^t) (xb+(1:Int)*2^t)=d1*2^t / (xb+2^t):=by rw[Int.fdiv_eq_ediv_of_nonneg _ oO,Int.one_mul]
 have e2:-(Int.fdiv (-(d2*2^t)) (xa+(1:Int)*2^t))=-(-(d2*2^t) / (xa+2^t)):=by rw[Int.fdiv_eq_ediv_of_nonneg _ oO,Int.one_mul]
 rw[e1,e2] at hD
 obtain⟨hA,q1,q2,q3⟩:=ln_quo h rfl rfl
 generalize d1*2^t / (xb+2^t)=z1 at *
 generalize -(-(d2*2^t) / (xa+2^t))=z2 at *
 obtain⟨y1,y2,a0,a1,a2,a3,a4,a5⟩:=fx_area z1 z2 (s+32) oO (by rw[tn];exact hA) q3
 rw[tn] at a4 a5
 have b:=ln_ok (s:=s+32) oO
 have bl:=ln_le (s+32)
 have bw:lnHi (s+32)-lnLo (s+32)<16777216:=by
  have:=nbits_lt (lnHi (s+32)-lnLo (s+32)).natAbs
  have p:=Nat.pow_le_pow_right (n:=2) oO b.2.2
  omega
 have m1:=L_abs_mul (lnLo (s+32)) k
 have m2:=L_abs_mul (lnHi (s+32)) k
 have lk:=L_i64 (n:=k) oO
 refine⟨z1,z2,y1,y2,lnLo (s+32),lnHi (s+32),tmLo (lnLo (s+32)) (lnHi (s+32)) k,tmHi (lnLo (s+32)) (lnHi (s+32)) k,hD,a0,fx_Ln2 (s+32) oO,fx_TimesA _ _ k oO oO oO,⟨L_T (t:=t) a1 oO oO,L_T (t:=t) oO a4 oO,?_,?_⟩,a2,a3,?_,tm_w (W:=4096) bl oO bw,fun h4=>?_⟩
 ·unfold tmLo;split<;>omega
 ·unfold tmHi;split<;>omega
 ·unfold tmLo tmHi
  split
  ·have:=Int.mul_le_mul_of_nonneg_right bl (show 0≤-k by omega)
   rw[Int.mul_neg,Int.mul_neg] at this
   omega
  ·exact Int.mul_le_mul_of_nonneg_right bl oO
 ·obtain⟨N0,hK⟩:=a5 Z q1 q2
  have c:=cln_at h4
  rw[ht] at c
  exact ln_add hz hK c.1 c.2
theorem fx_LnE (m e k s:Int)(hs:0≤s∧s≤5900)(hk:-4096≤k∧k≤4096)(hm:L (m).natAbs≤300)(he:-20000≤e∧e≤100)(h1:3≤4*dv m e)(h2:2*dv m e<3) :
  ∃ lo hi:Int,Impl Tryz.prog Amb 137 [(yV m e),(.int .i64 k),(.int .i64 s)] (sV lo hi)∧lo≤hi∧hi-lo<16777216∧L lo.natAbs≤6310∧L hi.natAbs≤6310∧(s+32<400→Encl (LnF (dv m e) k) s.toNat lo hi):=by
 obtain⟨t,ht⟩:∃ t:Nat,(t:Int)=s+32:=⟨(s+32).toNat,by omega⟩
 have tn:(s+32).toNat=t:=by omega
 have ts:t=s.toNat+32:=by omega
 have hO:=fx_Of m e (s+32) oO oO oO
 have lf:=flr_LD m e (s+32)
 have sc1:=flr_sc (dv m e) t
 have sc2:=cei_sc (dv m e) t
 have fc:=flr_cei1 (dv m e) t
 rw[ht] at sc1 sc2 fc
 have T0:(0:Rat)<((2^t:Int):Rat):=Rat.intCast_pos.2 (two_pos t)
 have T1:=two_pos t
 have hT:(256:Int)≤2^t:=by
  have:(2:Int)^t=2^8*2^(t-8):=by rw[← Int.pow_add];congr 1;omega
  have:=two_pos (t-8)
  omega
 generalize hxa:flr (dv m e) (s+32)=xa at *
 generalize hxb:cei (dv m e) (s+32)=xb at *
 clear hxa hxb
 have l1:=L_pow1 t
 have l2:=L_abs_add xa (-((1:Int)*2^t))
 have l3:=L_abs_add xb (-((1:Int)*2^t))
 have l4:=L_abs_neg ((1:Int)*2^t)
 have l5:=L_abs_neg (xa+(-((1:Int)*2^t)))
 have l6:=L_abs_neg (xb+(-((1:Int)*2^t)))
 have xp:0≤xa:=by
  have b3:(3:Rat)*((2^t:Int):Rat)≤4*((xa:Rat)+1):=by
   have:=Rat.mul_le_mul_of_nonneg_right h1 (Rat.le_of_lt T0)
   grind
  have c:((3*2^t:Int):Rat)≤((4*(xa+1):Int):Rat):=by
   rw[Rat.intCast_mul,Rat.intCast_mul,Rat.intCast_add,Rat.intCast_one]
   exact b3
  have:=Rat.intCast_le_intCast.1 c
  omega
 have mp:(0:Rat)<dv m e+1:=by grind
 have dm:=Rat.div_mul_cancel (a:=dv m e-1) (b:=dv m e+1) (by grind)
 by_cases hn:xb≤(1:Int)*2^t
 ·have H:LnH (2^t) (dv m e) (-((dv m e-1) / (dv m e+1))) (-(xb+(-((1:Int)*2^t)))) (-(xa+(-((1:Int)*2^t)))) xa xb:=by
   have hb:(xb:Rat)≤((2^t:Int):Rat):=Rat.intCast_le_intCast.2 oO
   have M1:dv m e≤1:=Rat.le_of_mul_le_mul_right (c:=((2^t:Int):Rat)) (by grind) T0
   have eq:-((dv m e-1) / (dv m e+1))*(dv m e+1)=1-dv m e:=by grind
   refine⟨hT,h1,Rat.le_of_lt h2,sc1.1,sc2.1,by omega,by omega,by omega,?_,by rw[eq];grind,?_,?_⟩
   ·refine Rat.le_of_mul_le_mul_right (c:=dv m e+1) ?_ mp
    rw[eq];grind
   ·rw[eq,Rat.intCast_neg,Rat.intCast_add,Rat.intCast_neg,Int.one_mul];grind
   ·rw[eq,Rat.intCast_neg,Rat.intCast_add,Rat.intCast_neg,Int.one_mul];grind
  obtain⟨z1,z2,y1,y2,v1,v2,r1,r2,p1,p2,p3,p4,p5,p6,p7,p8,p9,p10⟩:=ln_part (g:=true) (k:=k) ht hs hk mp H (by simp only [if_true];grind) oO oO oO oO xp
  have res:=fx_LnN m e k s xa xb z1 z2 y1 y2 v1 v2 r1 r2 hs hO (by rw[tn];exact p1) p2 p3 p4 oO oO oO oO oO oO (by rw[tn];exact hn) (by rw[tn];omega)
  rw[show (2:Int)^1=2 from rfl] at res
  have o1:=L_abs_mul y1 2
  have o2:=L_abs_mul y2 2
  have o3:=L_lit (2:Int).natAbs (by decide)
  have o4:=L_abs_neg (y1*2)
  have o5:=L_abs_neg (y2*2)
  have o6:=L_abs_add (-(y2*2)) r1
  have o7:=L_abs_add (-(y1*2)) r2
  have o8:=L_abs_shr (-(y2*2)+r1) 32
  have o9:=L_abs_neg (-(y1*2)+r2)
  have o10:=L_abs_shr (-(-(y1*2)+r2)) 32
  have o11:=L_abs_neg (-(-(y1*2)+r2) / 2^32)
  have hw:=half_w (a:=-(y2*2)+r1) (b:=-(y1*2)+r2) (W:=100) (n:=32) oO
  refine⟨_,_,res,?_,by omega,by omega,by omega,fun h4=>?_⟩
  ·omega
  ·exact (p10 oO).half ts
 ·have H:LnH (2^t) (dv m e) ((dv m e-1) / (dv m e+1)) (xa+(-((1:Int)*2^t))) (xb+(-((1:Int)*2^t))) xa xb:=by
   have ha:(((2^t:Int)):Rat)≤(xa:Rat):=Rat.intCast_le_intCast.2 oO
   have M1:1≤dv m e:=Rat.le_of_mul_le_mul_right (c:=((2^t:Int):Rat)) (by grind) T0
   refine⟨hT,h1,Rat.le_of_lt h2,sc1.1,sc2.1,by omega,by omega,by omega,?_,by rw[dm];grind,?_,?_⟩
   ·refine Rat.le_of_mul_le_mul_right (c:=dv m e+1) ?_ mp
    rw[dm];grind
   ·rw[dm,Rat.intCast_add,Rat.intCast_neg,Int.one_mul];grind
   ·rw[dm,Rat.intCast_add,Rat.intCast_neg,Int.one_mul];grind
  obtain⟨z1,z2,y1,y2,v1,v2,r1,r2,p1,p2,p3,p4,p5,p6,p7,p8,p9,p10⟩:=ln_part (g:=false) (k:=k) ht hs hk mp H (by simp) oO oO oO oO xp
  have res:=fx_LnP m e k s xa xb z1 z2 y1 y2 v1 v2 r1 r2 hs hO (by rw[tn];exact p1) p2 p3 p4 oO oO oO oO oO oO (by rw[tn];omega) (by rw[tn];omega)
  rw[show (2:Int)^1=2 from rfl] at res
  have o1:=L_abs_mul y1 2
  have o2:=L_abs_mul y2 2
  have o3:=L_lit (2:Int).natAbs (by decide)
  have o6:=L_abs_add (y1*2) r1
  have o7:=L_abs_add (y2*2) r2
  have o8:=L_abs_shr (y1*2+r1) 32
  have o9:=L_abs_neg (y2*2+r2)
  have o10:=L_abs_shr (-(y2*2+r2)) 32
  have o11:=L_abs_neg (-(y2*2+r2) / 2^32)
  have hw:=half_w (a:=y1*2+r1) (b:=y2*2+r2) (W:=100) (n:=32) oO
  refine⟨_,_,res,?_,by omega,by omega,by omega,fun h4=>?_⟩
  ·omega
  ·have q:=(p10 oO)
   simp only [Bool.false_eq_true,if_false] at q
   exact q.half ts
end Go.Proofs.YtkkbddkpggjgpaaGreatDoor


namespace Go.Proofs.YtkkbddkpggjgpaaGreatDoor
open Go.RowKit
set_option maxRecDepth 100000
set_option maxHeartbeats 400000
theorem abs_big {x:Int}{t c:Nat}(h:x.natAbs≤c*2^t)(hc:c≤2^20)(ht:t≤2000):L x.natAbs≤70:=by
 refine L_pow2 (n:=t+21) ?_ oO
 have e:(2:Nat)^(t+21)=2*(2^20*2^t):=by rw[Nat.pow_add];omega
 have p:=Nat.mul_le_mul_right (2^t) hc
 have:=Nat.pow_pos (n:=t) (show 0<2 by omega)
 omega
end Go.Proofs.YtkkbddkpggjgpaaGreatDoor


namespace Go.Proofs.YtkkbddkpggjgpaaGreatDoor
open Go.RowKit
set_option maxRecDepth 100000
set_option maxHeartbeats 2000000
theorem ln32:lnLo 32=2977044084∧lnHi 32=2977044804:=⟨by kernel_rfl,by kernel_rfl⟩
theorem e32:((2^32:Int):Rat)=4294967296:=by rw[show (2:Int)^32=4294967296 from by kernel_rfl];rfl
theorem near_k32 {d c:Rat}{p1 p2 k:Int}(hp1:(p1:Rat)≤d*4294967296)(hp2:d*4294967296≤(p2:Rat))(hp:p2≤p1+1)(hq1:(2977044084:Rat)≤c*4294967296)(hq2:c*4294967296≤(2977044804:Rat))
  (hk:k=Int.fdiv (((p1+p2)*2^1)+(2977044084+2977044804)) ((2977044084+2977044804)*2^1)) (d1:-512≤d) (d2:d≤512):(-900≤k∧k≤900)∧-36≤100*(d-(k:Rat)*c)∧100*(d-(k:Rat)*c)≤36:=by
 have P1:-512*4294967296≤p2:=by
  refine Rat.intCast_le_intCast.1 ?_
  rw[Rat.intCast_mul]
  show (-512:Rat)*4294967296≤p2
  grind
 have P2:p1≤512*4294967296:=by
  refine Rat.intCast_le_intCast.1 ?_
  rw[Rat.intCast_mul]
  show (p1:Rat)≤512*4294967296
  grind
 rw[Int.fdiv_eq_ediv_of_nonneg _ oO] at hk
 have f1:=Int.ediv_mul_le (((p1+p2)*2^1)+(2977044084+2977044804)) (show ((2977044084:Int)+2977044804)*2^1≠0 by omega)
 have f2:=Int.lt_ediv_add_one_mul_self (((p1+p2)*2^1)+(2977044084+2977044804)) (show 0<((2977044084:Int)+2977044804)*2^1 by omega)
 rw[← hk] at f1 f2
 rw[show (2:Int)^1=2 from rfl] at f1 f2
 have f1:k*11908177776≤2*p1+2*p2+5954088888:=by omega
 have f2:2*p1+2*p2+5954088888≤(k+1)*11908177776:=by omega
 have K1:k≤900:=by omega
 have K2:-900≤k:=by omega
 refine⟨⟨K2,K1⟩,?_⟩
 have g1:=Rat.intCast_le_intCast.2 f1
 have g2:=Rat.intCast_le_intCast.2 f2
 simp only [Rat.intCast_mul,Rat.intCast_add] at g1 g2
 have g1:(k:Rat)*11908177776≤2*(p1:Rat)+2*(p2:Rat)+5954088888:=g1
 have g2:2*(p1:Rat)+2*(p2:Rat)+5954088888≤((k:Rat)+1)*11908177776:=g2
 have hpR:(p2:Rat)≤(p1:Rat)+1:=by
  have:(p2:Rat)≤((p1+1:Int):Rat):=Rat.intCast_le_intCast.2 hp
  rw[Rat.intCast_add] at this;exact this
 have k1R:(k:Rat)≤1000:=by
  have:(k:Rat)≤((1000:Int):Rat):=Rat.intCast_le_intCast.2 (Int.le_trans K1 (by decide))
  exact this
 have k2R:(-1000:Rat)≤(k:Rat):=by
  have:((-1000:Int):Rat)≤(k:Rat):=Rat.intCast_le_intCast.2 (Int.le_trans (by decide) K2)
  exact this
 generalize (k:Rat)=K at *
 generalize (p1:Rat)=p at *
 generalize (p2:Rat)=p' at *
 clear f1 f2 hk K1 K2 P1 P2 hp
 rcases (Rat.le_total:0≤K∨K≤0) with hK | hK
 ·have m1:=Rat.mul_le_mul_of_nonneg_left hq1 hK
  have m2:=Rat.mul_le_mul_of_nonneg_left hq2 hK
  constructor<;>grind
 ·have m1:=Rat.mul_le_mul_of_nonneg_left hq1 (show 0≤-K by grind)
  have m2:=Rat.mul_le_mul_of_nonneg_left hq2 (show 0≤-K by grind)
  constructor<;>grind
theorem ex_span (m ee k ss:Int)(hs:0≤ss∧ss≤380)(hm:L (m).natAbs≤20)(he:-440≤ee∧ee≤130)(hk:-1000≤k∧k≤1000) :
  ∃ a1 a2 u1 u2 t1 t2 d1 d2 x1 x2:Int,(Impl Tryz.prog Amb 173 [(yV m ee),(.int .i64 (ss+16))] (sV a1 a2)∧Impl Tryz.prog Amb 101 [(.int .i64 (ss+16))] (sV u1 u2)∧Impl Tryz.prog Amb 163 [(sV u1 u2),(.int .i64 k)] (sV t1 t2)∧Impl Tryz.prog Amb 164 [(sV a1 a2),(sV t1 t2)] (sV d1 d2)∧Impl Tryz.prog Amb 142 [(sV d1 d2),(.int .i64 16)] (sV x1 x2)) ∧
   x1≤x2∧x2-x1≤300001∧(x1:Rat)≤(dv m ee-(k:Rat)*cLn)*((2^ss.toNat:Int):Rat)∧(dv m ee-(k:Rat)*cLn)*((2^ss.toNat:Int):Rat)≤(x2:Rat):=by
 obtain⟨t,ht⟩:∃ t:Nat,(t:Int)=ss+16:=⟨(ss+16).toNat,by omega⟩
 have hO:=fx_Of m ee (ss+16) oO oO oO
 have lf:=flr_LD m ee (ss+16)
 have sc1:=flr_sc (dv m ee) t
 have sc2:=cei_sc (dv m ee) t
 have fc:=flr_cei1 (dv m ee) t
 have cl:=cln_at (t:=t) oO
 rw[ht] at sc1 sc2 fc cl
 have b:=ln_ok (s:=ss+16) oO
 have bl:=ln_le (ss+16)
 have bw:lnHi (ss+16)-lnLo (ss+16)<16777216:=by
  have:=nbits_lt (lnHi (ss+16)-lnLo (ss+16)).natAbs
  have p:=Nat.pow_le_pow_right (n:=2) oO b.2.2
  omega
 have hL:=fx_Ln2 (ss+16) oO
 have hL:Impl Tryz.prog Amb 101 [(.int .i64 (ss+16))] (sV (lnLo (ss+16)) (lnHi (ss+16))):=hL
 generalize lnLo (ss+16)=q1 at *
 generalize lnHi (ss+16)=q2 at *
 generalize flr (dv m ee) (ss+16)=p1 at *
 generalize cei (dv m ee) (ss+16)=p2 at *
 have m1:=L_abs_mul q1 k
 have m2:=L_abs_mul q2 k
 have lk:=L_i64 (n:=k) oO
 have hT:=fx_TimesA q1 q2 k oO oO oO
 have te:=tm_enc (k:=k) cl.1 cl.2
 have tw:=tm_w (W:=1000) bl oO bw
 have tL:L (tmLo q1 q2 k).natAbs≤440∧L (tmHi q1 q2 k).natAbs≤440:=by unfold tmLo tmHi;split<;>omega
 generalize tmLo q1 q2 k=t1 at *
 generalize tmHi q1 q2 k=t2 at *
 have n1:=L_abs_neg t1
 have n2:=L_abs_neg t2
 have a1:=L_abs_add p1 (-t2)
 have a2:=L_abs_add p2 (-t1)
 have hS:=fx_Sub p1 p2 t1 t2 oO oO oO oO
 have hH:=fx_Half (p1+-t2) (p2+-t1) 16 oO oO oO
 have hw:=half_w (a:=p1+-t2) (b:=p2+-t1) (W:=300000) (n:=16) oO
 have he:=half_enc (a:=p1+-t2) (b:=p2+-t1) (X:=dv m ee-(k:Rat)*cLn) (t:=t) (s:=ss.toNat) (n:=16) oO (by rw[Rat.intCast_add,Rat.intCast_neg];grind) (by rw[Rat.intCast_add,Rat.intCast_neg];grind)
 exact⟨p1,p2,q1,q2,t1,t2,_,_,_,_,⟨hO,hL,hT,hS,hH⟩,Rat.intCast_le_intCast.1 (Rat.le_trans he.1 he.2),hw,he.1,he.2⟩
end Go.Proofs.YtkkbddkpggjgpaaGreatDoor

namespace Go.Proofs.YtkkbddkpggjgpaaGreatDoor
open Go.RowKit
set_option maxRecDepth 100000
set_option maxHeartbeats 2000000
theorem cLn_b:69≤100*cLn∧100*cLn≤70:=⟨of_decide_eq_true (by kernel_rfl),of_decide_eq_true (by kernel_rfl)⟩
def XF (d:Rat)(k:Int)(K:Nat):Rat:=EP (d-(k:Rat)*cLn) K*(2:Rat)^k
theorem fx_ExpE (m ee s1 D:Int)(hs:24≤s1∧s1≤300)(hm:L (m).natAbs≤20)(he:-440≤ee∧ee≤130)(d1:-512≤dv m ee)(d2:dv m ee≤512)(hD:100*dv m ee+36≤69*(D:Rat))(D0:0≤D)(hD2:s1+D+24≤380) :
  ∃ k r1 r2:Int,Impl Tryz.prog Amb 190 [(yV m ee),(.int .i64 s1)] (sV r1 r2)∧(-1000≤k∧k≤D)∧(33≤100*(dv m ee-(k:Rat)*cLn)∧100*(dv m ee-(k:Rat)*cLn)≤106)∧Encl (XF (dv m ee) k) s1.toNat r1 r2∧r2-r1≤2∧0≤r1∧L r2.natAbs≤20:=by
 have hO:=fx_Of m ee 32 oO oO oO
 have hN:Impl Tryz.prog Amb 101 [(.int .i64 32)] (sV (2977044084:Int) (2977044804:Int)):=by
  have h:Impl Tryz.prog Amb 101 [(.int .i64 32)] (sV (lnLo 32) (lnHi 32)):=fx_Ln2 32 oO
  rw[ln32.1,ln32.2] at h
  exact h
 have lf:=flr_LD m ee 32
 have sc1:=(flr_sc (dv m ee) 32).1
 have sc2:=(cei_sc (dv m ee) 32).1
 have fc:=(flr_cei1 (dv m ee) 32).1
 have cl:=cln_at (t:=32) oO
 rw[e32] at sc1 sc2 cl
 have sc1:((flr (dv m ee) 32:Int):Rat)≤dv m ee*4294967296:=sc1
 have sc2:dv m ee*4294967296≤((cei (dv m ee) 32:Int):Rat):=sc2
 have fc:cei (dv m ee) 32≤flr (dv m ee) 32+1:=fc
 have cl:((lnLo 32:Int):Rat)≤cLn*4294967296∧cLn*4294967296≤((lnHi 32:Int):Rat):=cl
 rw[ln32.1,ln32.2] at cl
 generalize flr (dv m ee) 32=p1 at *
 generalize cei (dv m ee) 32=p2 at *
 have nk:=near_k32 (k:=Int.fdiv (((p1+p2)*2^1)+(2977044084+2977044804)) ((2977044084+2977044804)*2^1)) sc1 sc2 fc cl.1 cl.2 rfl d1 d2
 have lq1:L ((2977044084:Int)).natAbs≤2:=Nat.le_trans (L_lit 2977044084 (by decide)) oO
 have lq2:L ((2977044804:Int)).natAbs≤2:=Nat.le_trans (L_lit 2977044804 (by decide)) oO
 have NE:=fx_Nearest p1 p2 2977044084 2977044804 oO oO oO oO oO oO
 generalize Int.fdiv (((p1+p2)*2^1)+(2977044084+2977044804)) ((2977044084+2977044804)*2^1)=k0 at nk NE
 clear sc1 sc2 fc cl lf
 have cb:=cLn_b
 obtain⟨k,hk⟩:∃ k,k=k0-1:=⟨_,rfl⟩
 have kR:(k:Rat)=(k0:Rat)-1:=by rw[hk,Rat.intCast_sub];rfl
 have xb:33≤100*(dv m ee-(k:Rat)*cLn)∧100*(dv m ee-(k:Rat)*cLn)≤106:=by rw[kR];constructor<;>grind
 have kD:k≤D:=by
  refine Decidable.byContradiction fun hn=>?_
  have a:(D:Rat)+1≤(k:Rat):=by
   have:=Rat.intCast_le_intCast.2 (show D+1≤k by omega)
   rw[Rat.intCast_add] at this;exact this
  have b:(0:Rat)≤(D:Rat):=Rat.intCast_nonneg.2 D0
  have c:=Rat.mul_le_mul_of_nonneg_left cb.1 (show (0:Rat)≤(k:Rat) by grind)
  have x36:-36≤100*(dv m ee-(k0:Rat)*cLn):=nk.2.1
  grind
 have im:=iMax_range k 0
 have hL1:iMax k 0≤D:=by omega
 obtain⟨t,ht⟩:∃ t:Nat,(t:Int)=((s1+(iMax k (0:Int)))+24):=⟨(((s1+(iMax k (0:Int)))+24)).toNat,by omega⟩
 have htn:(((s1+(iMax k (0:Int)))+24)).toNat=t:=by omega
 obtain⟨a1,a2,u1,u2,t1,t2,q1,q2,x1,x2,⟨C1,C2,C3,C4,C5⟩,x12,xw,xe1,xe2⟩:=ex_span m ee k ((s1+(iMax k (0:Int)))+24) oO hm he oO
 have P48:(2:Int)^48≤2^(((s1+(iMax k (0:Int)))+24)).toNat:=by
  rw[htn,pow_cast,pow_cast]
  exact Int.ofNat_le.2 (Nat.pow_le_pow_right oO oO)
 rw[show (2:Int)^48=281474976710656 from rfl] at P48
 have PR:(281474976710656:Rat)≤((2^(((s1+(iMax k (0:Int)))+24)).toNat:Int):Rat):=Rat.intCast_le_intCast.2 P48
 have X1:33*2^(((s1+(iMax k (0:Int)))+24)).toNat≤100*x2:=by
  refine Rat.intCast_le_intCast.1 ?_
  rw[Rat.intCast_mul,Rat.intCast_mul]
  have m1:=Rat.mul_le_mul_of_nonneg_right xb.1 (show (0:Rat)≤((2^(((s1+(iMax k (0:Int)))+24)).toNat:Int):Rat) by grind)
  show (33:Rat)*_≤100*_
  grind
 have X2:100*x1≤106*2^(((s1+(iMax k (0:Int)))+24)).toNat:=by
  refine Rat.intCast_le_intCast.1 ?_
  rw[Rat.intCast_mul,Rat.intCast_mul]
  have m1:=Rat.mul_le_mul_of_nonneg_right xb.2 (show (0:Rat)≤((2^(((s1+(iMax k (0:Int)))+24)).toNat:Int):Rat) by grind)
  show (100:Rat)*_≤106*_
  grind
 obtain⟨y1,y2,CE,EE,yw,y0,y9⟩:=fx_expE x1 x2 ((s1+(iMax k (0:Int)))+24) (dv m ee-(k:Rat)*cLn) oO xe1 xe2 oO oO oO
 obtain⟨n,hn⟩:∃ n:Nat,(n:Int)=(((s1+(iMax k (0:Int)))+24)-s1)-k:=⟨((((s1+(iMax k (0:Int)))+24)-s1)-k).toNat,by omega⟩
 have hnn:((((s1+(iMax k (0:Int)))+24)-s1)-k).toNat=n:=by omega
 rw[htn] at EE y9
 have ly:∀ y:Int,0≤y→y≤9*2^t→L y.natAbs≤20:=fun y z0 z1=>by
  refine L_pow2 (n:=t+4) ?_ oO
  have e:((2^(t+4):Nat):Int)=2^t*16:=by rw[← pow_cast,Int.pow_add];rfl
  have:=two_pos t
  omega
 have y12:=EE.le
 have l1:=ly y1 y0 oO
 have l2:=ly y2 oO y9
 have CH:=fx_Half y1 y2 ((((s1+(iMax k (0:Int)))+24)-s1)-k) oO oO oO
 rw[hnn] at CH
 have pn:(16777216:Int)≤2^n:=by
  rw[pow_cast,show (16777216:Int)=((2^24:Nat):Int) from rfl]
  exact Int.ofNat_le.2 (Nat.pow_le_pow_right oO oO)
 have hw:=half_w (a:=y1) (b:=y2) (W:=1) (n:=n) oO
 have hE:Encl (XF (dv m ee) k) s1.toNat (y1 / 2^n) (-(-y2 / 2^n)):=by
  obtain⟨N,EE⟩:=EE
  have z:(2:Rat)^k*((2^(s1.toNat+n):Int):Rat)=((2^t:Int):Rat):=by
   rw[← zp_nat,← zp_nat,← zp_add]
   congr 1
   omega
  refine⟨N,fun K hK=>half_enc (t:=s1.toNat+n) rfl ?_ ?_⟩
  ·unfold XF;rw[Rat.mul_assoc,z];exact (EE K hK).1
  ·unfold XF;rw[Rat.mul_assoc,z];exact (EE K hK).2
 have o1:=L_abs_neg y2
 have o2:=L_abs_shr (-y2) n
 have r0:0≤y1 / 2^n:=Int.ediv_nonneg y0 oO
 have r2:-(-y2 / 2^n)≤9*2^t:=by
  have g:=Int.lt_ediv_add_one_mul_self (-y2) (two_pos n)
  refine Decidable.byContradiction fun hn'=>?_
  have m1:=Int.mul_le_mul_of_nonneg_right (show -y2 / 2^n+1≤-(9*2^t) by omega) (Int.le_of_lt (two_pos n))
  have m2:=Int.mul_le_mul_of_nonneg_left (show (1:Int)≤2^n by omega) (show 0≤9*(2:Int)^t by omega)
  rw[Int.neg_mul] at m1
  omega
 have rle:=hE.le
 have lr:=ly (-(-y2 / 2^n)) oO r2
 have W:=fx_ExpW m ee s1 p1 p2 2977044084 2977044804 k0 a1 a2 u1 u2 t1 t2 q1 q2 x1 x2 y1 y2 (y1 / 2^n) (-(-y2 / 2^n)) oO oO hO hN NE
 rw[← hk] at W
 exact⟨k,_,_,W C1 C2 C3 C4 C5 CE CH,⟨by omega,kD⟩,xb,hE,hw,r0,lr⟩
end Go.Proofs.YtkkbddkpggjgpaaGreatDoor

namespace Go.Proofs.YtkkbddkpggjgpaaGreatDoor
open Go.RowKit
set_option maxRecDepth 100000
set_option maxHeartbeats 2000000
theorem ex_valueE (m ee w D:Int)(hw:0≤w∧w≤276)(hm:L (m).natAbs≤20)(he:-440≤ee∧ee≤130)(hd:(-512≤dv m ee∧dv m ee≤512)∧100*dv m ee+36≤69*(D:Rat)∧-dv m ee≤(w:Rat)+1)(D0:0≤D)(hD2:w+D+48≤380) :
  ∃ k lo hi:Int,Impl Tryz.prog Amb 77 [(yV m ee),(.int .i64 w)] (sV lo hi)∧(-1000≤k∧k≤D)∧(33≤100*(dv m ee-(k:Rat)*cLn)∧100*(dv m ee-(k:Rat)*cLn)≤106)∧Encl (XF (dv m ee) k) w.toNat lo hi∧hi-lo≤2∧0≤lo∧L hi.natAbs≤30:=by
 obtain⟨⟨d1,d2⟩,d3,d4⟩:=hd
 obtain⟨k,r1,r2,hC,hk,hx,hE,hw2,h0,hl⟩:=fx_ExpE m ee (w+24) D oO hm he d1 d2 d3 D0 oO
 have r12:=hE.le
 have l1:L r1.natAbs≤20:=Nat.le_trans (L_mono oO) hl
 have hA:=ex_at m ee (w+24) r1 r2 hC
 have hT:=fx_SettleB 139 (yV m ee) r1 r2 w hA oO (nbits_of_lt oO) oO
 have n1:=L_abs_neg m
 have hB:=ex_beyond (-m) ee (w+1) oO oO oO
 have hB:Impl Tryz.prog Amb 76 [(yV (-m) ee),(.int .i64 (w+1))] (.bool false):=by
  refine impl_eq (congrArg V.bool (decide_eq_false fun q=>?_)) hB
  have q:=cmpD_pos.1 q
  rw[(of_fit (n:=w+1) oO).2.2.2.2.2,dv_neg,Rat.intCast_add] at q
  have q:(w:Rat)+1 < -dv m ee:=q
  grind
 have o1:=L_abs_shr r1 24
 have o2:=L_abs_neg r2
 have o3:=L_abs_shr (-r2) 24
 have o4:=L_abs_neg (-r2 / 2^24)
 have hw3:=half_w (a:=r1) (b:=r2) (W:=1) (n:=24) oO
 exact⟨k,_,_,ex_value0 m ee w _ _ oO oO hB hT,hk,hx,hE.half oO,hw3,Int.ediv_nonneg h0 (by decide),by omega⟩
end Go.Proofs.YtkkbddkpggjgpaaGreatDoor

namespace Go.Proofs.YtkkbddkpggjgpaaGreatDoor
theorem EP_one {x:Rat}(h0:0≤x){K:Nat}(hK:1≤K):1≤EP x K:=by
 have a:=EP_mono h0 hK
 have b:EP x 1=1:=by show (0:Rat)+1=1;grind
 grind
def eps:Rat:=dv 1 (-400)
theorem EPc_num:2-eps≤EP cLn 91∧EP cLn 91+tE cLn 90≤2+eps:=⟨of_decide_eq_true (by kernel_rfl),of_decide_eq_true (by kernel_rfl)⟩
theorem EPc {K:Nat}:(91≤K→2-eps≤EP cLn K)∧EP cLn K≤2+eps:=by
 have c0:0≤cLn:=of_decide_eq_true (by kernel_rfl)
 have c1:2*cLn≤(nx 90:Rat):=of_decide_eq_true (by kernel_rfl)
 have n:=EPc_num
 exact⟨fun h=>Rat.le_trans n.1 (EP_mono c0 h),Rat.le_trans (EP_tail c0 c1 K) n.2⟩
end Go.Proofs.YtkkbddkpggjgpaaGreatDoor



namespace Go.Proofs.YtkkbddkpggjgpaaGreatDoor
def Lq (f g:Nat→Rat):Prop:=∀ e:Rat,0<e→∃ N,∀ K,N≤K→f K≤g K+e
def Lm (f g:Nat→Rat):Prop:=Lq f g∧Lq g f
def Bn (f:Nat→Rat)(B:Rat):Prop:=∃ N,∀ K,N≤K→-B≤f K∧f K≤B
theorem Lq.refl (f:Nat→Rat):Lq f f:=fun e h=>⟨0,fun K _=>by grind⟩
theorem Lm.refl (f:Nat→Rat):Lm f f:=⟨Lq.refl f,Lq.refl f⟩
theorem Lm.symm {f g:Nat→Rat}(h:Lm f g):Lm g f:=⟨h.2,h.1⟩
theorem r8:(0:Rat)<1 / 8∧(0:Rat)<1 / 2∧(0:Rat)<2⁻¹:=⟨of_decide_eq_true (by kernel_rfl),of_decide_eq_true (by kernel_rfl),of_decide_eq_true (by kernel_rfl)⟩
theorem half_pos {e:Rat}(h:0<e):0<e / 2:=by rw[Rat.div_def];exact Rat.mul_pos h r8.2.2
theorem half_two (e:Rat):e / 2+e / 2=e:=by rw[Rat.div_def];grind
theorem Lq.trans {f g h:Nat→Rat}(a:Lq f g)(b:Lq g h):Lq f h:=fun e he=>by
 obtain⟨N,p⟩:=a (e / 2) (half_pos he)
 obtain⟨M,q⟩:=b (e / 2) (half_pos he)
 refine⟨N+M,fun K hK=>?_⟩
 have x:=p K (by omega)
 have y:=q K (by omega)
 have z:=half_two e
 grind
theorem Lm.trans {f g h:Nat→Rat}(a:Lm f g)(b:Lm g h):Lm f h:=⟨a.1.trans b.1,b.2.trans a.2⟩
theorem Lq.of_le {f g:Nat→Rat}{N:Nat}(h:∀ K,N≤K→f K≤g K):Lq f g:=fun e he=>⟨N,fun K hK=>by have:=h K hK;grind⟩
theorem Lm.of_eq {f g:Nat→Rat}{N:Nat}(h:∀ K,N≤K→f K=g K):Lm f g:=⟨.of_le (N:=N) fun K hK=>by rw[h K hK];exact Rat.le_refl,.of_le (N:=N) fun K hK=>by rw[h K hK];exact Rat.le_refl⟩
theorem mul_bd {p x P a:Rat}(h1:-P≤p)(h2:p≤P)(h3:-a≤x)(h4:x≤a):-(P*a)≤p*x∧p*x≤P*a:=by
 have m1:=Rat.mul_nonneg (show 0≤P-p by grind) (show 0≤a+x by grind)
 have m2:=Rat.mul_nonneg (show 0≤P+p by grind) (show 0≤a-x by grind)
 have m3:=Rat.mul_nonneg (show 0≤P+p by grind) (show 0≤a+x by grind)
 have m4:=Rat.mul_nonneg (show 0≤P-p by grind) (show 0≤a-x by grind)
 constructor<;>grind
theorem inv_one {B:Rat}(h:0<B):B⁻¹*B=1:=Rat.inv_mul_cancel _ (by grind)
theorem Bn.pos {f:Nat→Rat}{B:Rat}(h:Bn f B):∃ C,0<C∧Bn f C:=by
 obtain⟨N,h⟩:=h
 have a:=h N (Nat.le_refl _)
 refine⟨B+1,by grind,N,fun K hK=>?_⟩
 have b:=h K hK
 constructor<;>grind
theorem Lq.mul_aux {f f' g g':Nat→Rat}{A B:Rat}(h:Lm f f')(k:Lm g g')(hf:Bn f A)(hg:Bn g' B):Lq (fun K=>f K*g K) (fun K=>f' K*g' K):=fun e he=>by
 obtain⟨A',A0,N1,b1⟩:=hf.pos
 obtain⟨B',B0,N2,b2⟩:=hg.pos
 have iA:=Rat.inv_pos.2 A0
 have iB:=Rat.inv_pos.2 B0
 have eA:=inv_one A0
 have eB:=inv_one B0
 obtain⟨N3,c1⟩:=h.1 _ (Rat.mul_pos (half_pos he) iB)
 obtain⟨N4,c2⟩:=h.2 _ (Rat.mul_pos (half_pos he) iB)
 obtain⟨N5,c3⟩:=k.1 _ (Rat.mul_pos (half_pos he) iA)
 obtain⟨N6,c4⟩:=k.2 _ (Rat.mul_pos (half_pos he) iA)
 refine⟨N1+N2+N3+N4+N5+N6,fun K hK=>?_⟩
 have b1:=b1 K (by omega)
 have b2:=b2 K (by omega)
 have c1:=c1 K (by omega)
 have c2:=c2 K (by omega)
 have c3:=c3 K (by omega)
 have c4:=c4 K (by omega)
 have z:=half_two e
 have m1:=(mul_bd b1.1 b1.2 (x:=g K-g' K) (a:=e / 2*A'⁻¹) (by grind) (by grind)).2
 have m2:=(mul_bd b2.1 b2.2 (x:=f K-f' K) (a:=e / 2*B'⁻¹) (by grind) (by grind)).2
 have q1:A'*(e / 2*A'⁻¹)=e / 2:=by grind
 have q2:B'*(e / 2*B'⁻¹)=e / 2:=by grind
 rw[q1] at m1
 rw[q2] at m2
 show f K*g K≤f' K*g' K+e
 grind
theorem Lm.bn {f g:Nat→Rat}{A:Rat}(h:Lm f g)(b:Bn f A):Bn g (A+1):=by
 obtain⟨N,b⟩:=b
 obtain⟨N1,h1⟩:=h.1 1 (by decide)
 obtain⟨N2,h2⟩:=h.2 1 (by decide)
 refine⟨N+N1+N2,fun K hK=>?_⟩
 have b:=b K (by omega)
 have h1:=h1 K (by omega)
 have h2:=h2 K (by omega)
 constructor<;>grind
theorem Lm.mul {f f' g g':Nat→Rat}{A B:Rat}(h:Lm f f')(k:Lm g g')(hf:Bn f A)(hg:Bn g B):Lm (fun K=>f K*g K) (fun K=>f' K*g' K) :=
 ⟨Lq.mul_aux h k hf (k.bn hg),Lq.mul_aux h.symm k.symm (h.bn hf) hg⟩
theorem Sm_bd {f g:Nat→Rat}:∀ {n:Nat},(∀ i,i<n→-(g i)≤f i∧f i≤g i)→-(Sm g n)≤Sm f n∧Sm f n≤Sm g n
 | 0,_=>by show -(0:Rat)≤0∧(0:Rat)≤0;constructor<;>decide
 | n+1,h=>by
  have a:=Sm_bd (n:=n) (fun i hi=>h i (by omega))
  have b:=h n (by omega)
  show -(Sm g n+g n)≤Sm f n+f n∧Sm f n+f n≤Sm g n+g n
  constructor<;>grind
theorem tE_bd {x a:Rat}(h1:-a≤x)(h2:x≤a):∀ n,-(tE a n)≤tE x n∧tE x n≤tE a n
 | 0=>by show -(1:Rat)≤1∧(1:Rat)≤1;constructor<;>decide
 | n+1=>by
  have i:=tE_bd h1 h2 n
  have m:=mul_bd i.1 i.2 h1 h2
  have np:=nx_pos n
  have e1:=tE_mul x n
  have e2:=tE_mul a n
  constructor
  ·exact Rat.le_of_mul_le_mul_right (c:=(nx n:Rat)) (by grind) np
  ·exact Rat.le_of_mul_le_mul_right (c:=(nx n:Rat)) (by grind) np
theorem EP_bd {x a:Rat}(h1:-a≤x)(h2:x≤a)(K:Nat):-(EP a K)≤EP x K∧EP x K≤EP a K:=Sm_bd fun i _=>tE_bd h1 h2 i
theorem EP_gap {x a:Rat}(h1:-a≤x)(h2:x≤a)(K k:Nat):-(EP a (K+k)-EP a K)≤EP x (K+k)-EP x K∧EP x (K+k)-EP x K≤EP a (K+k)-EP a K:=by
 induction k with
 | zero=>show -(EP a K-EP a K)≤EP x K-EP x K∧EP x K-EP x K≤EP a K-EP a K;constructor<;>grind
 | succ k ih =>
  have b:=tE_bd h1 h2 (K+k)
  have e1:EP x (K+(k+1))=EP x (K+k)+tE x (K+k):=rfl
  have e2:EP a (K+(k+1))=EP a (K+k)+tE a (K+k):=rfl
  rw[e1,e2]
  constructor<;>grind
theorem Sm_cm (c:Rat)(f:Nat→Rat)(n:Nat):Sm (fun j=>c*f j) n=c*Sm f n:=by
 rw[Rat.mul_comm,Sm_mul]
 exact Sm_congr fun i _=>Rat.mul_comm _ _
theorem EP_form (x y:Rat)(K:Nat):EP x K*EP y K-EP (x+y) K=Sm (fun i=>tE x i*(EP y K-EP y (K-i))) K:=by
 have p:EP x K*EP y K=Sm (fun i=>tE x i*EP y K) K:=by unfold EP;rw[Sm_mul]
 have q:EP (x+y) K=Sm (fun i=>tE x i*EP y (K-i)) K:=by
  rw[EP_conv]
  exact Sm_congr fun i _=>Sm_cm _ _ _
 have r:Sm (fun i=>tE x i*EP y K) K=Sm (fun i=>tE x i*(EP y K-EP y (K-i))) K+Sm (fun i=>tE x i*EP y (K-i)) K:=by
  rw[← Sm_add]
  exact Sm_congr fun i _=>by grind
 rw[p,q,r];grind
theorem EP_mul_bd {x y a b:Rat}(h1:-a≤x)(h2:x≤a)(h3:-b≤y)(h4:y≤b)(K:Nat):-(EP a K*EP b K-EP (a+b) K)≤EP x K*EP y K-EP (x+y) K∧EP x K*EP y K-EP (x+y) K≤EP a K*EP b K-EP (a+b) K:=by
 rw[EP_form,EP_form]
 refine Sm_bd fun i hi=>?_
 have g:=EP_gap h3 h4 (K-i) i
 rw[show K-i+i=K by omega] at g
 have t:=tE_bd h1 h2 i
 exact mul_bd t.1 t.2 g.1 g.2
theorem rat_nat (r:Rat):∃ n:Nat,r≤(n:Rat):=by
 refine⟨r.ceil.toNat,?_⟩
 have a:r≤(r.ceil:Rat):=Rat.le_ceil
 have b:((r.ceil:Int):Rat)≤((r.ceil.toNat:Int):Rat):=Rat.intCast_le_intCast.2 (by omega)
 exact Rat.le_trans a b
theorem two_pow_ge:∀ n:Nat,(n:Rat)≤(2:Rat)^n
 | 0=>by rw[Rat.pow_zero];decide
 | n+1=>by
  have a:=two_pow_ge n
  have b:=one_pow_le (q:=2) (by decide) n
  rw[Rat.pow_succ,Rat.natCast_add]
  show (n:Rat)+1≤_
  grind
theorem tE_dec {a:Rat}(h0:0≤a){m:Nat}(h:2*a≤(nx m:Rat)):∀ j,tE a (m+j)*(2:Rat)^j≤tE a m
 | 0=>by rw[Rat.pow_zero,Rat.mul_one];exact Rat.le_refl
 | j+1=>by
  have i:=tE_dec h0 h j
  have t:=tE_half h0 (m:=m+j) (Rat.le_trans h (nx_mono (by omega)))
  have p:(0:Rat)≤(2:Rat)^j:=by have:=one_pow_le (q:=2) (by decide) j;grind
  have m1:=Rat.mul_le_mul_of_nonneg_right t p
  rw[Rat.pow_succ]
  show tE a (m+j+1)*_≤_
  grind
theorem tE_lim {a:Rat}(h0:0≤a){e:Rat}(he:0<e):∃ N,∀ K,N≤K→tE a K≤e∧2*a≤(nx K:Rat):=by
 obtain⟨m,hm⟩:=rat_nat (2*a)
 have hm':2*a≤(nx m:Rat):=Rat.le_trans hm (Rat.intCast_le_intCast.2 (show (m:Int)≤nx m by unfold nx;omega))
 obtain⟨j,hj⟩:=rat_nat (tE a m*e⁻¹)
 have ie:=inv_one he
 have i0:=Rat.inv_pos.2 he
 refine⟨m+j,fun K hK=>⟨?_,Rat.le_trans hm' (nx_mono (by omega))⟩⟩
 obtain⟨i,rfl⟩:∃ i,K=m+(j+i):=⟨K-m-j,by omega⟩
 have d:=tE_dec h0 hm' (j+i)
 have g:=two_pow_ge (j+i)
 have n1:(j:Rat)≤((j+i:Nat):Rat):=by
  rw[Rat.natCast_add]
  have:(0:Rat)≤(i:Rat):=Rat.natCast_nonneg
  grind
 have p:(1:Rat)≤(2:Rat)^(j+i):=one_pow_le (by decide) _
 refine Rat.le_of_mul_le_mul_right (c:=(2:Rat)^(j+i)) ?_ (by grind)
 have m1:=Rat.mul_le_mul_of_nonneg_left (show tE a m*e⁻¹≤(2:Rat)^(j+i) by grind) (Rat.le_of_lt he)
 have q:e*(tE a m*e⁻¹)=tE a m:=by grind
 rw[q] at m1
 exact Rat.le_trans d m1
theorem EP_cau {a:Rat}(h0:0≤a){e:Rat}(he:0<e):∃ N,∀ K,N≤K→∀ M,EP a M≤EP a K+e:=by
 obtain⟨N,h⟩:=tE_lim h0 he
 refine⟨N+1,fun K hK M=>?_⟩
 obtain⟨n,rfl⟩:∃ n,K=n+1:=⟨K-1,by omega⟩
 have b:=h n (by omega)
 have c:=EP_tail h0 b.2 M
 grind
theorem EP_bound {a:Rat}(h0:0≤a):∃ B,0<B∧∀ K,EP a K≤B:=by
 obtain⟨N,h⟩:=EP_cau h0 (e:=1) (by decide)
 have p:=EP_nonneg h0 N
 exact⟨EP a N+1,by grind,fun K=>h N (Nat.le_refl _) K⟩
theorem abs_ex (x:Rat):∃ a,0≤a∧-a≤x∧x≤a:=by
 rcases (Rat.le_total:0≤x∨x≤0) with h | h
 ·exact⟨x,h,by grind,Rat.le_refl⟩
 ·exact⟨-x,by grind,by grind,by grind⟩
theorem EP_bn (x:Rat):∃ B,0<B∧Bn (EP x) B:=by
 obtain⟨a,a0,a1,a2⟩:=abs_ex x
 obtain⟨B,B0,hB⟩:=EP_bound a0
 refine⟨B,B0,0,fun K _=>?_⟩
 have b:=EP_bd a1 a2 K
 have c:=hB K
 constructor<;>grind
theorem EP_add (x y:Rat):Lm (EP (x+y)) (fun K=>EP x K*EP y K):=by
 obtain⟨a,a0,a1,a2⟩:=abs_ex x
 obtain⟨b,b0,b1,b2⟩:=abs_ex y
 have key:∀ e:Rat,0<e→∃ N,∀ K,N≤K→EP (x+y) K≤EP x K*EP y K+e∧EP x K*EP y K≤EP (x+y) K+e:=fun e he=>by
  obtain⟨N,h⟩:=EP_cau (Rat.add_nonneg a0 b0) he
  refine⟨N,fun K hK=>?_⟩
  have c:=h K hK (2*K)
  have d:=(EP_mul a0 b0 K).2
  have f:=EP_mul_bd a1 a2 b1 b2 K
  constructor<;>grind
 exact⟨fun e he=>by obtain⟨N,h⟩:=key e he;exact⟨N,fun K hK=>(h K hK).1⟩,fun e he=>by obtain⟨N,h⟩:=key e he;exact⟨N,fun K hK=>(h K hK).2⟩⟩
theorem EP_zero':∀ K,1≤K→EP 0 K=1
 | 0,h=>absurd h (by omega)
 | 1,_=>by show (0:Rat)+1=1;grind
 | K+2,_=>by
  have a:=EP_zero' (K+1) (by omega)
  have z:tE 0 (K+1)=0:=by
   show tE 0 K*0 / (nx K:Rat)=0
   rw[Rat.mul_zero,Rat.div_def,Rat.zero_mul]
  show EP 0 (K+1)+tE 0 (K+1)=1
  rw[a,z,Rat.add_zero]
theorem EP_opp (x:Rat):Lm (fun K=>EP x K*EP (-x) K) (fun _=>1):=by
 have h:=EP_add x (-x)
 rw[show x+-x=0 by grind] at h
 exact h.symm.trans (Lm.of_eq (N:=1) fun K hK=>EP_zero' K hK)
theorem EP_pos (x:Rat):∃ p,0<p∧∃ N,∀ K,N≤K→p≤EP x K:=by
 obtain⟨B,B0,NB,hB⟩:=EP_bn (-(x / 2))
 obtain⟨N1,h1⟩:=(EP_opp (x / 2)).2 (1 / 2) r8.2.1
 have iB:=inv_one B0
 have i0:=Rat.inv_pos.2 B0
 have c:=Rat.mul_pos i0 i0
 have h2':=EP_add (x / 2) (x / 2)
 rw[half_two] at h2'
 obtain⟨N2,h2⟩:=h2'.2 (B⁻¹*B⁻¹*(1 / 8)) (Rat.mul_pos c r8.1)
 refine⟨B⁻¹*B⁻¹*(1 / 8),Rat.mul_pos c r8.1,NB+N1+N2,fun K hK=>?_⟩
 have hB:=hB K (by omega)
 have h1:(1:Rat)≤EP (x / 2) K*EP (-(x / 2)) K+1 / 2:=h1 K (by omega)
 have h2:EP (x / 2) K*EP (x / 2) K≤EP x K+B⁻¹*B⁻¹*(1 / 8):=h2 K (by omega)
 generalize EP (x / 2) K=u at *
 generalize EP (-(x / 2)) K=v at *
 generalize EP x K=z at *
 generalize B⁻¹=i at *
 -- u v≥1/2,|v|≤B: 4 u u B B≥1
 have sq:0≤(u*v)*(u*v)-1 / 4:=by
  have m:=Rat.mul_le_mul_of_nonneg_left (show 1 / 2≤u*v by grind) (show 0≤u*v by grind)
  grind
 have vv:=(mul_bd hB.1 hB.2 hB.1 hB.2).2
 have uu:0≤u*u:=by
  rcases (Rat.le_total:0≤u∨u≤0) with h | h
  ·exact Rat.mul_nonneg h h
  ·have:=Rat.mul_nonneg (show 0≤-u by grind) (show 0≤-u by grind);grind
 have m1:=Rat.mul_le_mul_of_nonneg_left vv uu
 have m2:=Rat.mul_le_mul_of_nonneg_left (show 1 / 4≤u*u*(B*B) by grind) (Rat.le_of_lt c)
 have e:i*i*(u*u*(B*B))=u*u:=by
  have:i*i*(u*u*(B*B))=u*u*((i*B)*(i*B)):=by grind
  rw[this,iB];grind
 rw[e] at m2
 grind
theorem EP_mono_lim {x y:Rat}(h:x≤y):Lq (EP x) (EP y):=by
 have a:=EP_add x (y-x)
 rw[show x+(y-x)=y by grind] at a
 refine Lq.trans ?_ a.2
 obtain⟨p,p0,N,hp⟩:=EP_pos x
 refine Lq.of_le (N:=N+1) fun K hK=>?_
 have b:=EP_one (x:=y-x) (by grind) (show 1≤K by omega)
 have c:=hp K (by omega)
 have m:=Rat.mul_le_mul_of_nonneg_left b (show 0≤EP x K by grind)
 show EP x K≤EP x K*EP (y-x) K
 grind
end Go.Proofs.YtkkbddkpggjgpaaGreatDoor

namespace Go.Proofs.YtkkbddkpggjgpaaGreatDoor
theorem pow_nn {a:Rat}(h:0≤a):∀ n:Nat,0≤a^n
 | 0=>by rw[Rat.pow_zero];decide
 | n+1=>by rw[Rat.pow_succ];exact Rat.mul_nonneg (pow_nn h n) h
theorem pow_monox {a b:Rat}(h:0≤a)(k:a≤b):∀ n:Nat,a^n≤b^n
 | 0=>by rw[Rat.pow_zero,Rat.pow_zero];exact Rat.le_refl
 | n+1=>by
  have i:=pow_monox h k n
  have m1:=Rat.mul_le_mul_of_nonneg_right i h
  have m2:=Rat.mul_le_mul_of_nonneg_left k (pow_nn (Rat.le_trans h k) n)
  rw[Rat.pow_succ,Rat.pow_succ]
  exact Rat.le_trans m1 m2
theorem bern_lo {h:Rat}(h0:0≤h)(h1:h≤1):∀ n:Nat,1-(n:Rat)*h≤(1-h)^n
 | 0=>by rw[Rat.pow_zero];show 1-(0:Rat)*h≤1;grind
 | n+1=>by
  have i:=bern_lo h0 h1 n
  have m1:=Rat.mul_le_mul_of_nonneg_right i (show 0≤1-h by grind)
  have n0:(0:Rat)≤(n:Rat):=Rat.natCast_nonneg
  have m2:=Rat.mul_nonneg n0 (Rat.mul_nonneg h0 h0)
  have c:((n+1:Nat):Rat)=(n:Rat)+1:=by rw[Rat.natCast_add];rfl
  rw[Rat.pow_succ,c]
  grind
theorem eps_bd:0≤eps∧4000*eps≤1:=⟨of_decide_eq_true (by kernel_rfl),of_decide_eq_true (by kernel_rfl)⟩
theorem two_half (P:Rat):∀ n:Nat,P^n=(2:Rat)^n*(P / 2)^n
 | 0=>by rw[Rat.pow_zero,Rat.pow_zero,Rat.pow_zero,Rat.mul_one]
 | n+1=>by
  rw[Rat.pow_succ,Rat.pow_succ,Rat.pow_succ,two_half P n]
  have h:=half_two P
  generalize P / 2=q at *
  subst h
  grind
theorem pow_near {P:Rat}{n:Nat}(h1:2-eps≤P)(h2:P≤2+eps)(hn:n≤1000):1-(n:Rat)*eps≤(P / 2)^n∧(P / 2)^n≤1+(n:Rat)*eps:=by
 have e:=eps_bd
 have hq:P / 2+P / 2=P:=half_two P
 have he:eps / 2+eps / 2=eps:=half_two eps
 generalize P / 2=q at *
 generalize eps / 2=h at *
 have n0:(0:Rat)≤(n:Rat):=Rat.natCast_nonneg
 have n1:(n:Rat)≤1000:=Rat.natCast_le_natCast.2 hn
 have m0:=Rat.mul_le_mul_of_nonneg_right n1 e.1
 have m1:=Rat.mul_nonneg n0 e.1
 have b1:=bern_lo (h:=h) (by grind) (by grind) n
 have b2:=inv_bern (y:=h) (n:=n) (by grind) (by
  have:2*((n:Rat)*h)=(n:Rat)*eps:=by grind
  rw[this];grind)
 have c1:=pow_monox (a:=1-h) (b:=q) (by grind) (by grind) n
 have c2:=pow_monox (a:=q) (b:=1+h) (by grind) (by grind) n
 have f:(n:Rat)*eps=(n:Rat)*h+(n:Rat)*h:=by rw[← he];grind
 have f0:0≤(n:Rat)*h:=Rat.mul_nonneg n0 (by grind)
 constructor
 ·refine Rat.le_trans ?_ (Rat.le_trans b1 c1);grind
 ·refine Rat.le_trans c2 (Rat.le_trans b2 ?_);grind
theorem EP_npow (c:Rat):∀ n:Nat,Lm (EP ((n:Rat)*c)) (fun K=>EP c K^n)
 | 0=>Lm.of_eq (N:=1) fun K hK=>by
  rw[Rat.pow_zero,show ((0:Nat):Rat)*c=0 by show (0:Rat)*c=0;grind]
  exact EP_zero' K hK
 | n+1=>by
  have i:=EP_npow c n
  have a:=EP_add ((n:Rat)*c) c
  rw[show (n:Rat)*c+c=((n+1:Nat):Rat)*c by rw[Rat.natCast_add];show _=((n:Rat)+1)*c;grind] at a
  obtain⟨A,_,hA⟩:=EP_bn ((n:Rat)*c)
  obtain⟨B,_,hB⟩:=EP_bn c
  refine a.trans ((i.mul (Lm.refl (EP c)) hA hB).trans (Lm.of_eq (N:=0) fun K _=>?_))
  rw[Rat.pow_succ]
def err (D:Nat):Rat:=(2:Rat)^D*(1048576*eps)
theorem two_one (n:Nat):(1:Rat)≤(2:Rat)^n:=one_pow_le (by decide) n
theorem two_mono {n m:Nat}(h:n≤m):(2:Rat)^n≤(2:Rat)^m:=by
 obtain⟨k,rfl⟩:∃ k,m=n+k:=⟨m-n,by omega⟩
 clear h
 induction k with
 | zero=>exact Rat.le_refl
 | succ k ih =>
  have a:=two_one (n+k)
  rw[← Nat.add_assoc,Rat.pow_succ]
  grind
theorem cLn_bd:0≤cLn∧69≤100*cLn∧100*cLn≤70:=⟨of_decide_eq_true (by kernel_rfl),of_decide_eq_true (by kernel_rfl),of_decide_eq_true (by kernel_rfl)⟩
theorem eps_pos:0<eps:=of_decide_eq_true (by kernel_rfl)
theorem XF_near_pos {d:Rat}{n D:Nat}(hx:33≤100*(d-(n:Rat)*cLn)∧100*(d-(n:Rat)*cLn)≤106)(hn:n≤D)(hD:D≤1000) :
  ∃ N,∀ K,N≤K→EP (d-(n:Rat)*cLn) K*(2:Rat)^n≤EP d K+err D∧EP d K≤EP (d-(n:Rat)*cLn) K*(2:Rat)^n+err D:=by
 have a:=EP_add (d-(n:Rat)*cLn) ((n:Rat)*cLn)
 rw[show d-(n:Rat)*cLn+(n:Rat)*cLn=d by grind] at a
 generalize hy:d-(n:Rat)*cLn=y at *
 obtain⟨A,_,hA⟩:=EP_bn y
 obtain⟨B,_,hB⟩:=EP_bn ((n:Rat)*cLn)
 have b:=a.trans ((Lm.refl (EP y)).mul (EP_npow cLn n) hA hB)
 obtain⟨N1,h1⟩:=b.1 eps eps_pos
 obtain⟨N2,h2⟩:=b.2 eps eps_pos
 refine⟨N1+N2+91,fun K hK=>?_⟩
 have h1:EP d K≤EP y K*EP cLn K^n+eps:=h1 K (by omega)
 have h2:EP y K*EP cLn K^n≤EP d K+eps:=h2 K (by omega)
 have p9:=pow_near ((EPc (K:=K)).1 (by omega)) (EPc (K:=K)).2 (n:=n) (by omega)
 rw[two_half (EP cLn K) n] at h1 h2
 have u9:=EP_four (x:=y) (by grind) (by grind) K
 have u0:=EP_nonneg (x:=y) (by grind) K
 have e:=eps_bd
 have t1:=two_one n
 have t2:=two_mono hn
 unfold err
 generalize (2:Rat)^D=F at *
 generalize (2:Rat)^n=T at *
 generalize (EP cLn K / 2)^n=q at *
 generalize EP y K=u at *
 have n1:(n:Rat)≤1000:=Rat.natCast_le_natCast.2 (show n≤1000 by omega)
 have ne:=Rat.mul_le_mul_of_nonneg_right n1 e.1
 have uT:0≤u*T:=Rat.mul_nonneg u0 (by grind)
 have uT4:u*T≤4*F:=by
  have m1:=Rat.mul_le_mul_of_nonneg_right u9 (show 0≤T by grind)
  grind
 have m1:=Rat.mul_le_mul_of_nonneg_left (show q-1≤1000*eps by grind) uT
 have m2:=Rat.mul_le_mul_of_nonneg_left (show 1-q≤1000*eps by grind) uT
 have m3:=Rat.mul_le_mul_of_nonneg_right uT4 (show 0≤1000*eps by grind)
 have m4:=Rat.mul_le_mul_of_nonneg_right (show 1≤F by grind) e.1
 constructor<;>grind
theorem XF_near_neg {d:Rat}{n:Nat}(hx:33≤100*(d+(n:Rat)*cLn)∧100*(d+(n:Rat)*cLn)≤106)(hn:n≤1000) :
  ∃ N,∀ K,N≤K→EP (d+(n:Rat)*cLn) K*((2:Rat)^n)⁻¹≤EP d K+err 0∧EP d K≤EP (d+(n:Rat)*cLn) K*((2:Rat)^n)⁻¹+err 0:=by
 have a:=EP_add d ((n:Rat)*cLn)
 have cb:=cLn_bd
 have n0:(0:Rat)≤(n:Rat):=Rat.natCast_nonneg
 have nc:=Rat.mul_nonneg n0 cb.1
 have mo:=EP_mono_lim (show d≤d+(n:Rat)*cLn by grind)
 generalize hy:d+(n:Rat)*cLn=y at *
 obtain⟨A,_,hA⟩:=EP_bn d
 obtain⟨B,_,hB⟩:=EP_bn ((n:Rat)*cLn)
 have b:=a.trans ((Lm.refl (EP d)).mul (EP_npow cLn n) hA hB)
 obtain⟨N1,h1⟩:=b.1 eps eps_pos
 obtain⟨N2,h2⟩:=b.2 eps eps_pos
 obtain⟨N3,h3⟩:=mo 1 (by decide)
 obtain⟨p,p0,N4,h4⟩:=EP_pos d
 refine⟨N1+N2+N3+N4+91,fun K hK=>?_⟩
 have h1:EP y K≤EP d K*EP cLn K^n+eps:=h1 K (by omega)
 have h2:EP d K*EP cLn K^n≤EP y K+eps:=h2 K (by omega)
 have h3:=h3 K (by omega)
 have h4:=h4 K (by omega)
 have p9:=pow_near ((EPc (K:=K)).1 (by omega)) (EPc (K:=K)).2 (n:=n) (by omega)
 rw[two_half (EP cLn K) n] at h1 h2
 have u9:=EP_four (x:=y) (by grind) (by grind) K
 have e:=eps_bd
 have t1:=two_one n
 have it:=inv_one (B:=(2:Rat)^n) (by grind)
 have i0:=Rat.inv_pos.2 (show 0<(2:Rat)^n by grind)
 unfold err
 rw[Rat.pow_zero]
 generalize (2:Rat)^n=T at *
 generalize T⁻¹=i at *
 generalize (EP cLn K / 2)^n=q at *
 generalize EP y K=v at *
 generalize EP d K=u at *
 have i1:i≤1:=by
  have:=Rat.mul_le_mul_of_nonneg_left t1 (Rat.le_of_lt i0)
  grind
 have n1:(n:Rat)≤1000:=Rat.natCast_le_natCast.2 hn
 have ne:=Rat.mul_le_mul_of_nonneg_right n1 e.1
 have m1:=Rat.mul_le_mul_of_nonneg_left (show q-1≤1000*eps by grind) (show 0≤u by grind)
 have m2:=Rat.mul_le_mul_of_nonneg_left (show 1-q≤1000*eps by grind) (show 0≤u by grind)
 have m3:=Rat.mul_le_mul_of_nonneg_right (show u≤5 by grind) (show 0≤1000*eps by grind)
 have m4:=Rat.mul_le_mul_of_nonneg_right h1 (Rat.le_of_lt i0)
 have m5:=Rat.mul_le_mul_of_nonneg_right h2 (Rat.le_of_lt i0)
 have m6:=Rat.mul_le_mul_of_nonneg_right i1 e.1
 have r:u*(T*q)*i=u*q:=by
  have:u*(T*q)*i=u*q*(i*T):=by grind
  rw[this,it];grind
 constructor<;>grind
theorem XF_near {d:Rat}{k:Int}{D:Nat}(hx:33≤100*(d-(k:Rat)*cLn)∧100*(d-(k:Rat)*cLn)≤106)(h1:-1000≤k)(h2:k≤D)(hD:D≤1000) :
  ∃ N,∀ K,N≤K→EP (d-(k:Rat)*cLn) K*(2:Rat)^k≤EP d K+err D∧EP d K≤EP (d-(k:Rat)*cLn) K*(2:Rat)^k+err D:=by
 rcases (show 0≤k∨k≤0 by omega) with h | h
 ·obtain⟨n,rfl⟩:∃ n:Nat,k=(n:Int):=⟨k.toNat,by omega⟩
  rw[Rat.zpow_natCast]
  exact XF_near_pos hx (by omega) hD
 ·obtain⟨n,rfl⟩:∃ n:Nat,k=-(n:Int):=⟨(-k).toNat,by omega⟩
  have e:d-((-(n:Int):Int):Rat)*cLn=d+(n:Rat)*cLn:=by
   rw[Rat.intCast_neg]
   show d - -(n:Rat)*cLn=_
   grind
  rw[e] at hx ⊢
  rw[Rat.zpow_neg,Rat.zpow_natCast]
  obtain⟨N,h⟩:=XF_near_neg hx (by omega)
  refine⟨N,fun K hK=>?_⟩
  have z:=h K hK
  have w:err 0≤err D:=by
   unfold err
   have:=two_mono (Nat.zero_le D)
   have e:=eps_bd
   exact Rat.mul_le_mul_of_nonneg_right this (by grind)
  constructor<;>grind
end Go.Proofs.YtkkbddkpggjgpaaGreatDoor


namespace Go.Proofs.YtkkbddkpggjgpaaGreatDoor
def EnE (f:Nat→Rat)(s:Nat)(lo hi:Int)(g:Rat):Prop:=∃ N,∀ K,N≤K→(lo:Rat)≤f K*((2^s:Int):Rat)+g∧f K*((2^s:Int):Rat)≤(hi:Rat)+g
theorem EnE.mono {f:Nat→Rat}{s:Nat}{lo hi:Int}{g g':Rat}(h:EnE f s lo hi g)(hg:g≤g'):EnE f s lo hi g':=by
 obtain⟨N,h⟩:=h
 exact⟨N,fun K hK=>by have:=h K hK;constructor<;>grind⟩
theorem EnE.near {f f':Nat→Rat}{s:Nat}{lo hi:Int}{g e:Rat}(h:EnE f s lo hi g)(hn:∃ N,∀ K,N≤K→f K≤f' K+e∧f' K≤f K+e):EnE f' s lo hi (g+e*((2^s:Int):Rat)):=by
 obtain⟨N,h⟩:=h
 obtain⟨M,hn⟩:=hn
 have P:(0:Rat)<((2^s:Int):Rat):=Rat.intCast_pos.2 (two_pos s)
 refine⟨N+M,fun K hK=>?_⟩
 have a:=h K (by omega)
 have b:=hn K (by omega)
 have m1:=Rat.mul_le_mul_of_nonneg_right b.1 (Rat.le_of_lt P)
 have m2:=Rat.mul_le_mul_of_nonneg_right b.2 (Rat.le_of_lt P)
 constructor<;>grind
theorem Encl.toE {f:Nat→Rat}{s:Nat}{lo hi:Int}(h:Encl f s lo hi):EnE f s lo hi 0:=by
 obtain⟨N,h⟩:=h
 exact⟨N,fun K hK=>by have:=h K hK;constructor<;>grind⟩
theorem int_gap2 {l h:Int}{X Y:Rat}(h1:(l:Rat)≤X)(h2:Y≤(h:Rat))(g:X<Y+1):l≤h:=by
 refine Decidable.byContradiction fun hn=>?_
 have:((h+1:Int):Rat)≤(l:Rat):=Rat.intCast_le_intCast.2 (by omega)
 rw[Rat.intCast_add,show ((1:Int):Rat)=1 from rfl] at this
 grind
theorem EnE.le {f f':Nat→Rat}{s:Nat}{a b c d:Int}{g g':Rat}(h:EnE f s a b g)(k:EnE f' s c d g')(hl:Lq f f')(hg:g+g'<1):a≤d:=by
 obtain⟨N,h⟩:=h
 obtain⟨M,k⟩:=k
 have P:(0:Rat)<((2^s:Int):Rat):=Rat.intCast_pos.2 (two_pos s)
 have i0:=Rat.inv_pos.2 P
 have ie:=inv_one P
 have e0:0<(1-g-g')*(1 / 2):=Rat.mul_pos (by grind) r8.2.1
 obtain⟨Q,q⟩:=hl ((1-g-g')*(1 / 2)*(((2^s:Int):Rat))⁻¹) (Rat.mul_pos e0 i0)
 have h:=(h (N+M+Q) (by omega)).1
 have k:=(k (N+M+Q) (by omega)).2
 have q:=Rat.mul_le_mul_of_nonneg_right (q (N+M+Q) (by omega)) (Rat.le_of_lt P)
 have z:(1-g-g')*(1 / 2)*(((2^s:Int):Rat))⁻¹*((2^s:Int):Rat)=(1-g-g')*(1 / 2):=by rw[Rat.mul_assoc,ie,Rat.mul_one]
 exact int_gap2 (X:=f (N+M+Q)*((2^s:Int):Rat)+g) (Y:=f' (N+M+Q)*((2^s:Int):Rat)-g') h (by grind) (by grind)
end Go.Proofs.YtkkbddkpggjgpaaGreatDoor



namespace Go.Proofs.YtkkbddkpggjgpaaGreatDoor
open Go.RowKit
set_option maxRecDepth 100000
set_option maxHeartbeats 2000000
theorem ex_valueF0 (m ee w:Int)(c0:L (m).natAbs≤8000)(c1:-4096≤w∧w≤4096)(c2:Impl Tryz.prog Amb 76 [(yV (-m) ee),(.int .i64 (w+1))] (.bool true)):Impl Tryz.prog Amb 77 [(yV m ee),(.int .i64 w)] (.agg [(.bool false),.nil,(.bool (decide ((1:Int)<0))),(N ((1:Int).natAbs))]):=by
 exact impl_ob hP hAmb Tryz.func77 (by kernel_rfl) (.lits 2<|.call (yV (-m) ee)<|.lit<|.yes<|.lit<|.call (.bool true)<|.lits 2<|.call (zV (1:Int))<|.lits 3<|.ret)
  (cast_ob (aI True.intro (aI (dy_Neg m ee oS) (have f2:=L_abs_neg m;aI (fits_i64 oS:(fits .i64 (w+1))=true) (aI (c2 ) (aI (int_Of 1 oS) (have f1:=(L_i64 oS:L (1:Int).natAbs≤2);(vsub_refl (.agg [(.bool false),.nil,(.bool (decide ((1:Int)<0))),(N ((1:Int).natAbs))])))))))) (by kernel_rfl))
theorem vsub_s0 (a:Int):vsub (.agg [.bool false,.nil,.bool (decide (a<0)),N a.natAbs]) (.agg [.bool (decide ((0:Int)<0)),N (0:Int).natAbs,.bool (decide (a<0)),N a.natAbs]):=fun w S x hx=>by
 obtain⟨arr,rfl,hr⟩:=hx.agg_inv
 cases hr with | cons h1 hr=>cases hr with | cons h2 hr=>cases hr with | cons h3 hr=>cases hr with | cons h4 hr=>cases hr with | nil =>
  exact .agg (.cons (by simpa using h1) (.cons (rd_nil_N0 h2) (.cons h3 (.cons h4 .nil))))
theorem implw2 {P:Program}{C:World→Prop}{f:FuncId}{ds:List V}{r r':V}(h:vsub r r')(k:Impl P C f ds r):Impl P C f ds r' :=
 ⟨k.1,fun w S args hC hS hr=>(k.2 w S args hC hS hr).mono fun _ _ hh=>by
  obtain⟨v,a,b,c⟩:=hh
  exact⟨v,a,h _ _ _ b,c⟩⟩
theorem Lq.mulc {f g:Nat→Rat}(h:Lq f g){c:Rat}(c0:0<c):Lq (fun K=>f K*c) (fun K=>g K*c):=fun e he=>by
 have i0:=Rat.inv_pos.2 c0
 have ie:=inv_one c0
 obtain⟨N,h⟩:=h (e*c⁻¹) (Rat.mul_pos he i0)
 refine⟨N,fun K hK=>?_⟩
 have m:=Rat.mul_le_mul_of_nonneg_right (h K hK) (Rat.le_of_lt c0)
 show f K*c≤g K*c+e
 have:e*c⁻¹*c=e:=by rw[Rat.mul_assoc,ie,Rat.mul_one]
 grind
theorem EP_one2 {K:Nat}(h:2≤K):2≤EP 1 K:=by
 have a:=EP_mono (x:=1) (by decide) h
 have b:EP 1 2=2:=of_decide_eq_true (by kernel_rfl)
 rw[b] at a;exact a
theorem EP_small {d:Rat}{n:Nat}(h:d≤-(n:Rat)):Lq (fun K=>EP d K*(2:Rat)^n) (fun _=>1):=by
 have p2:=two_one n
 have a:=(EP_mono_lim h).mulc (c:=(2:Rat)^n) (by grind)
 have hn:=EP_npow 1 n
 rw[Rat.mul_one] at hn
 obtain⟨A,_,hA⟩:=EP_bn (-(n:Rat))
 obtain⟨B,_,hB⟩:=EP_bn (n:Rat)
 obtain⟨p,p0,N,hp⟩:=EP_pos (-(n:Rat))
 refine a.trans (Lq.trans (g:=fun K=>EP (-(n:Rat)) K*EP 1 K^n) (Lq.of_le (N:=N+2) fun K hK=>?_) (Lq.trans (Lm.mul (Lm.refl (EP (-(n:Rat)))) hn hA hB).2 ?_))
 ·have q:=hp K oO
  have r:=pow_monox (a:=2) (b:=EP 1 K) (by decide) (EP_one2 oO) n
  exact Rat.mul_le_mul_of_nonneg_left r (by grind)
 ·refine Lq.trans (Lm.of_eq (N:=0) fun K _=>?_).1 (EP_opp (n:Rat)).1
  exact Rat.mul_comm _ _
def gE:Rat:=dv 1 (-40)
theorem gE_b:0<gE∧gE*65536+gE<1:=⟨of_decide_eq_true (by kernel_rfl),of_decide_eq_true (by kernel_rfl)⟩
theorem two_cast (n:Nat):(2:Rat)^n=((2^n:Int):Rat):=by rw[← zp_nat,Rat.zpow_natCast]
theorem pow_up {a b:Nat}(h:a≤b):((2^a:Int):Rat)≤((2^b:Int):Rat):=Rat.intCast_le_intCast.2 (by rw[pow_cast,pow_cast];exact Int.ofNat_le.2 (Nat.pow_le_pow_right oO h))
theorem err_le {D w:Nat}(h:D+w≤332):err D*((2^w:Int):Rat)≤gE:=by
 unfold err
 have e:(2:Rat)^D*(1048576*eps)*((2^w:Int):Rat)=((2^(D+w):Int):Rat)*(1048576*eps):=by
  rw[two_cast,Int.pow_add,Rat.intCast_mul];grind
 rw[e]
 have m:=pow_up h
 have b:=eps_bd
 have n:=Rat.mul_le_mul_of_nonneg_right m (show 0≤1048576*eps by grind)
 refine Rat.le_trans n ?_
 exact of_decide_eq_true (by kernel_rfl)
def erW (D w:Int):Rat:=err D.toNat*((2^w.toNat:Int):Rat)
theorem erW_pos (D w:Int):0<erW D w:=by
 unfold erW err
 have a:=two_one D.toNat
 have P:(0:Rat)<((2^w.toNat:Int):Rat):=Rat.intCast_pos.2 (two_pos _)
 have e:=eps_pos
 exact Rat.mul_pos (Rat.mul_pos (by grind) (by grind)) P
theorem erW_lt {D w:Int}(w0:0≤w)(D0:0≤D)(h:w+D≤332):erW D w≤gE∧erW D w+erW D w<1:=by
 have a:=err_le (D:=D.toNat) (w:=w.toNat) oO
 have b:=gE_b
 have c:erW D w≤gE:=a
 exact⟨c,by grind⟩
theorem ex_valueG (m ee w D:Int)(hw:0≤w∧w≤276)(hm:L (m).natAbs≤20)(he:-440≤ee∧ee≤130)(d2:dv m ee≤512)(hD:100*dv m ee+36≤69*(D:Rat))(D0:0≤D)(hD2:w+D≤332) :
  ∃ lo hi:Int,Impl Tryz.prog Amb 77 [(yV m ee),(.int .i64 w)] (sV lo hi)∧EnE (EP (dv m ee)) w.toNat lo hi (erW D w)∧hi-lo≤2∧0≤lo∧L hi.natAbs≤30:=by
 have w276:(w:Rat)≤((276:Int):Rat):=Rat.intCast_le_intCast.2 hw.2
 rw[show ((276:Int):Rat)=276 from rfl] at w276
 rcases (Rat.le_total:-dv m ee≤(w:Rat)+1∨(w:Rat)+1≤-dv m ee) with h | h
 ·obtain⟨k,lo,hi,hC,⟨hk1,hk2⟩,hx,hE,hw2,h0,hl⟩:=ex_valueE m ee w D hw hm he ⟨⟨by grind,d2⟩,hD,h⟩ D0 oO
  refine⟨lo,hi,hC,?_,hw2,h0,hl⟩
  have n:=XF_near (D:=D.toNat) hx hk1 oO oO
  have r:=hE.toE.near n
  exact r.mono (by unfold erW;grind)
 ·by_cases hq:-dv m ee=(w:Rat)+1
  ·obtain⟨k,lo,hi,hC,⟨hk1,hk2⟩,hx,hE,hw2,h0,hl⟩:=ex_valueE m ee w D hw hm he ⟨⟨by grind,d2⟩,hD,by grind⟩ D0 oO
   refine⟨lo,hi,hC,?_,hw2,h0,hl⟩
   have n:=XF_near (D:=D.toNat) hx hk1 oO oO
   have r:=hE.toE.near n
   exact r.mono (by unfold erW;grind)
  ·have n1:=L_abs_neg m
   have hB:=ex_beyond (-m) ee (w+1) oO oO oO
   have hB:Impl Tryz.prog Amb 76 [(yV (-m) ee),(.int .i64 (w+1))] (.bool true):=by
    refine impl_eq (congrArg V.bool (decide_eq_true (cmpD_pos.2 ?_))) hB
    rw[(of_fit (n:=w+1) oO).2.2.2.2.2,dv_neg,Rat.intCast_add]
    show (w:Rat)+1 < -dv m ee
    grind
   have hC:=implw2 (vsub_s0 1) (ex_valueF0 m ee w oO oO hB)
   have l1:=L_lit 1 (by decide)
   refine⟨0,1,hC,?_,by omega,by omega,by show L 1≤30;exact Nat.le_trans l1 oO⟩
   have wt:((w.toNat:Nat):Int)=w:=by omega
   have wr:((w.toNat:Nat):Rat)=(w:Rat):=by
    have:(((w.toNat:Nat):Int):Rat)=(w:Rat):=by rw[wt]
    exact this
   obtain⟨N1,s1⟩:=EP_small (d:=dv m ee) (n:=w.toNat) (by rw[wr];grind) (erW D w) (erW_pos D w)
   obtain⟨p,p0,N2,s2⟩:=EP_pos (dv m ee)
   refine⟨N1+N2,fun K hK=>?_⟩
   have s1:=s1 K oO
   have s2:=s2 K oO
   have P:(0:Rat)<((2^w.toNat:Int):Rat):=Rat.intCast_pos.2 (two_pos _)
   have m1:=Rat.mul_nonneg (show 0≤EP (dv m ee) K by grind) (Rat.le_of_lt P)
   have g:=erW_pos D w
   have s1:EP (dv m ee) K*(2:Rat)^w.toNat≤1+erW D w:=s1
   rw[two_cast] at s1
   refine⟨?_,s1⟩
   show (0:Rat)≤_
   grind
theorem ex_ExpG (m ee n f w D:Int)(hw:0≤w∧w≤276)(hm:L (m).natAbs≤20)(he:-440≤ee∧ee≤130)(d2:dv m ee≤512)(hD:100*dv m ee+36≤69*(D:Rat))(hn:L (n).natAbs≤20)(hf:-440≤f∧f≤130)(d2':dv n f≤512)(hD':100*dv n f+36≤69*(D:Rat))(D0:0≤D)(hD2:w+D≤332) :
  ∃ l1 h1 l2 h2:Int,Impl Tryz.prog Amb 25 [(wV m ee n f),(.int .i64 w)] (.tup [(wV (mkM l1 (-w)) (mkX l1 (-w)) (mkM h2 (-w)) (mkX h2 (-w))),(.int .i64 0)])∧(EnE (EP (dv m ee)) w.toNat l1 h1 (erW D w)∧h1-l1≤2∧0≤l1∧L h1.natAbs≤30)∧(EnE (EP (dv n f)) w.toNat l2 h2 (erW D w)∧h2-l2≤2∧0≤l2∧L h2.natAbs≤30)∧L l1.natAbs≤30:=by
 obtain⟨l1,h1,hA,EA,wA,pA,LA⟩:=ex_valueG m ee w D hw hm he d2 hD D0 hD2
 obtain⟨l2,h2,hB,EB,wB,pB,LB⟩:=ex_valueG n f w D hw hn hf d2' hD' D0 hD2
 have ge:=erW_lt (D:=D) (w:=w) hw.1 D0 hD2
 have le1:l1≤h1:=EA.le EA (Lq.refl _) (by grind)
 have z1:L l1.natAbs≤30:=Nat.le_trans (L_mono oO) LA
 have mA:=dy_Make l1 (0-w) oO oO
 have mB:=dy_Make h2 (0-w) oO oO
 rw[Int.zero_sub,mk_fine2 (m:=l1) (e:=-w) oO oO] at mA
 rw[Int.zero_sub,mk_fine2 (m:=h2) (e:=-w) oO oO] at mB
 have hb:Impl Tryz.prog Amb 76 [(yV n f),(.int .i64 1000)] (.bool false):=by
  refine impl_eq (congrArg V.bool (decide_eq_false fun q=>?_)) (ex_beyond n f 1000 oO oO oO)
  have q:=cmpD_pos.1 q
  rw[(of_fit (n:=1000) oO).2.2.2.2.2] at q
  have q:(1000:Rat)<dv n f:=q
  grind
 exact⟨l1,h1,l2,h2,ex_Exp0 m ee n f w l1 h1 l2 h2 _ _ _ _ oO hb hA hB (by rw[Int.zero_sub];exact mA) (by rw[Int.zero_sub];exact mB),⟨EA,wA,pA,LA⟩,⟨EB,wB,pB,LB⟩,z1⟩
theorem dv_tople {m e t:Int}(h:topD m e≤t):-(dv 1 t)≤dv m e∧dv m e≤dv 1 t:=by
 by_cases hm:m=0
 ·have:=dv_ge0 (m:=1) (e:=t) |>.2 (by decide)
  rw[hm,dv_zero];constructor<;>grind
 ·have a:=(dv_top (e:=e) hm).1
  have u:dv 1 (topD m e)≤dv 1 t:=by
   rw[dv_at (m:=1) (e:=t) (c:=topD m e) oO,dv_le,Int.one_mul]
   have:=two_pos (t-topD m e).toNat
   omega
  rcases (show (m.natAbs:Int)=m∨(m.natAbs:Int)=-m by omega) with q | q
  ·have n0:0≤dv m e:=dv_ge0.2 oO
   rw[q] at a
   constructor<;>grind
  ·have n0:0≤dv (-m) e:=dv_ge0.2 oO
   rw[q] at a
   rw[dv_neg] at a n0
   constructor<;>grind
end Go.Proofs.YtkkbddkpggjgpaaGreatDoor




namespace Go.Proofs.YtkkbddkpggjgpaaGreatDoor
open Go.RowKit
set_option maxRecDepth 100000
set_option maxHeartbeats 4000000
theorem dv_g {a w:Int}{k:Nat}(h:L a.natAbs≤k)(hk:k≤300)(hw:0≤w∧w≤400):dv (mkM a (-w)) (mkX a (-w))=dv a (-w)∧L (mkM a (-w)).natAbs≤k∧(-400≤mkX a (-w)∧mkX a (-w)≤32*k)∧vdb (mkM a (-w)) (mkX a (-w))=true∧mkE a (-w)=0∧-w≤mkX a (-w):=by
 have f:=mk_fit (m:=a) (e:=-w) oO oO
 have i1:=iMin_range (-w) 0
 have i2:iMax (-w) 0≤0:=by unfold iMax;split<;>omega
 exact⟨f.2.2.2.2.2,by omega,by omega,f.2.2.2.2.1,f.1,by omega⟩
theorem dv_T {a w:Int}(hw:0≤w):dv a (-w)*((2^w.toNat:Int):Rat)=(a:Rat):=by
 obtain⟨n,rfl⟩:=Int.eq_ofNat_of_zero_le hw
 rw[Int.toNat_natCast,← zp_nat]
 unfold dv
 rw[Rat.mul_assoc,← zp_add,Int.add_left_neg,zp_zero,Rat.mul_one]
theorem g_meet {m e n f p g q h:Int}(h1:dv p g≤dv n f)(h2:dv m e≤dv q h):ivCmp m e n f p g q h=0:=by
 unfold ivCmp
 rw[if_neg,if_neg]
 ·have:=cmpD_le.2 h2
  omega
 ·intro k
  rw[cmpD_dv] at k
  rcases cmpQ_range (dv n f) (dv p g) with ⟨_,x⟩ | ⟨x,_⟩ | ⟨x,_⟩
  ·exact Rat.not_lt.2 h1 x
  ·omega
  ·omega
theorem g_cmp (a b c d w:Int)(hw:0≤w∧w≤200)(la:L a.natAbs≤60)(lb:L b.natAbs≤60)(lc:L c.natAbs≤60)(ld:L d.natAbs≤60)(h1:c≤b)(h2:a≤d):Impl Tryz.prog Amb 21 [(wV (mkM a (-w)) (mkX a (-w)) (mkM b (-w)) (mkX b (-w))),(wV (mkM c (-w)) (mkX c (-w)) (mkM d (-w)) (mkX d (-w)))] (.int .i64 0):=by
 have A:=dv_g (w:=w) la oO oO
 have B:=dv_g (w:=w) lb oO oO
 have C:=dv_g (w:=w) lc oO oO
 have D:=dv_g (w:=w) ld oO oO
 exact impl_eq (congrArg (V.int .i64) (g_meet (by rw[C.1,B.1];exact dv_le.2 h1) (by rw[A.1,D.1];exact dv_le.2 h2))) (r10_Cmp (mkM a (-w)) (mkX a (-w)) (mkM b (-w)) (mkX b (-w)) (mkM c (-w)) (mkX c (-w)) (mkM d (-w)) (mkX d (-w)) oO oO oO oO oO oO oO oO)
theorem EnE.neg {f:Nat→Rat}{t:Nat}{a b:Int}{x:Rat}(h:EnE f t a b x):EnE (fun K=>-(f K)) t (-b) (-a) x:=by
 obtain⟨N,h⟩:=h
 refine⟨N,fun K hK=>?_⟩
 have h:=h K hK
 rw[Rat.intCast_neg,Rat.intCast_neg,Rat.neg_mul]
 constructor<;>grind
end Go.Proofs.YtkkbddkpggjgpaaGreatDoor
