/-
  Lower layers: what functions of the program compute, and plain facts. Conditions: as the theorems say.
-/
import Derived.Test.YtkkbddkpggjgpaaGreatDoorPjQ
set_option linter.unusedVariables false
set_option linter.unusedSimpArgs false
namespace Go.Proofs.YtkkbddkpggjgpaaGreatDoor
open Go.RowKit
set_option maxRecDepth 100000
theorem fx_One (s:Int)(c0:(0:Int)≤s∧s≤20000):Impl Tryz.prog Amb 174 [(.int .i64 s)] (sV ((1:Int)*2^(s).toNat) ((1:Int)*2^(s).toNat)):=by
 exact impl_ob hP hAmb Tryz.func174 (by kernel_rfl) (.lit<|.call (zV (1:Int))<|.lit<|.call (zV ((1:Int)*2^(s).toNat))<|.lit<|.call (sV ((1:Int)*2^(s).toNat) ((1:Int)*2^(s).toNat))<|.lits 2<|.ret)
  (cast_ob (aI True.intro (aI (int_Of 1 oO) (have f2:=(L_i64 oO:L (1:Int).natAbs≤2);aI (int_Shl (1:Int) s oO oO) (have f1:=L_abs_shl (1:Int) (s).toNat;aI (fx_Exact ((1:Int)*2^(s).toNat) oO) ((vsub_refl (sV ((1:Int)*2^(s).toNat) ((1:Int)*2^(s).toNat)))))))) (by kernel_rfl))
theorem fx_Of (m e s:Int)(c0:L (m).natAbs≤8192)(c1:(-200000:Int)≤e∧e≤200000)(c2:(0:Int)≤s∧s≤20000):Impl Tryz.prog Amb 173 [(yV m e),(.int .i64 s)] (sV (flr (dv m e) s) (cei (dv m e) s)):=by
 exact impl_ob hP hAmb Tryz.func173 (by kernel_rfl) (.lits 2<|.yes<|.lit<|.both (.lits 2<|.call (zV (m*2^((e+s)).toNat))<|.lit<|.call (sV (m*2^((e+s)).toNat) (m*2^((e+s)).toNat))<|.lits 2<|.ret) (.lits 2<|.call (sV m m)<|.lit<|.yes<|.lit<|.call (sV (m / 2^(((0:Int)-(e+s))).toNat) (-(-m / 2^(((0:Int)-(e+s))).toNat)))<|.lits 2<|.ret))
  (cast_ob (aI True.intro (aI (fits_i64 oO:(fits .i64 (e+s))=true) (aI (fun (h1:(iGe (e+s) 0)=true)=>have _gh1:=iGe_t h1;aI (int_Shl m (e+s) oO oO) (have f2:=L_abs_shl m ((e+s)).toNat;aI (fx_Exact (m*2^((e+s)).toNat) oO) ((by rw[← (of_ge (m:=m) (e:=e) (s:=s) oO).1,← (of_ge (m:=m) (e:=e) (s:=s) oO).2];exact vsub_refl _:vsub (sV (m*2^((e+s)).toNat) (m*2^((e+s)).toNat)) (sV (flr (dv m e) s) (cei (dv m e) s)))))) (fun (h3:(iGe (e+s) 0)=false)=>have _gh3:=iGe_f h3;aI (fx_Exact m oO) (aI (fits_i64 oO:(fits .i64 ((0:Int)-(e+s)))=true) (aI (fx_Half m m ((0:Int)-(e+s)) oO oO oO) (have f7:=L_abs_neg (-m / 2^(((0:Int)-(e+s))).toNat);have f6:=L_abs_shr (-m) (((0:Int)-(e+s))).toNat;have f5:=L_abs_neg m;have f4:=L_abs_shr m (((0:Int)-(e+s))).toNat;(by rw[← (of_lt (m:=m) (e:=e) (s:=s) oO).1,← (of_lt (m:=m) (e:=e) (s:=s) oO).2];exact vsub_refl _:vsub (sV (m / 2^(((0:Int)-(e+s))).toNat) (-(-m / 2^(((0:Int)-(e+s))).toNat))) (sV (flr (dv m e) s) (cei (dv m e) s)))))))))) (by kernel_rfl))
theorem fx_Twice (a b n:Int)(c0:L (a).natAbs≤65536)(c1:L (b).natAbs≤65536)(c2:(0:Int)≤n∧n≤20000):Impl Tryz.prog Amb 189 [(sV a b),(.int .i64 n)] (sV (a*2^(n).toNat) (b*2^(n).toNat)):=by
 exact impl_ob hP hAmb Tryz.func189 (by kernel_rfl) (.lits 2<|.call (zV (a*2^(n).toNat))<|.lits 2<|.call (zV (b*2^(n).toNat))<|.lits 3<|.ret)
  (cast_ob (aI True.intro (aI (int_Shl a n oO oO) (have f2:=L_abs_shl a (n).toNat;aI (int_Shl b n oO oO) (have f1:=L_abs_shl b (n).toNat;(vsub_refl (sV (a*2^(n).toNat) (b*2^(n).toNat))))))) (by kernel_rfl))
theorem fx_Mul (a b c d s:Int)(c0:L (a).natAbs≤8192)(c1:L (b).natAbs≤8192)(c2:L (c).natAbs≤8192)(c3:L (d).natAbs≤8192)(c4:(0:Int)≤s∧s≤20000):Impl Tryz.prog Amb 210 [(sV a b),(sV c d),(.int .i64 s)] (sV (a*c / 2^(s).toNat) (-(-(b*d) / 2^(s).toNat))):=by
 exact impl_ob hP hAmb Tryz.func210 (by kernel_rfl) (.lits 3<|.call (zV (a*c))<|.lit<|.call (zV ((a*c) / 2^(s).toNat))<|.lits 3<|.call (zV (b*d))<|.lit<|.call (zV (-(-(b*d) / 2^(s).toNat)))<|.lits 3<|.ret)
  (cast_ob (aI True.intro (aI (int_Mul a c oO oO) (have f6:=L_abs_mul a c;aI (int_Shr (a*c) s oO oO) (have f5:=L_abs_shr (a*c) (s).toNat;aI (int_Mul b d oO oO) (have f4:=L_abs_mul b d;aI (fx_up (b*d) s oO oO) (have f3:=L_abs_neg (-(b*d) / 2^(s).toNat);have f2:=L_abs_shr (-(b*d)) (s).toNat;have f1:=L_abs_neg (b*d);(vsub_of (by first | rfl | simp_all):vsub (sV ((a*c) / 2^(s).toNat) (-(-(b*d) / 2^(s).toNat))) (sV (a*c / 2^(s).toNat) (-(-(b*d) / 2^(s).toNat)))))))))) (by kernel_rfl))
theorem fx_TimesN (a b n:Int)(c0:L (a).natAbs≤65536)(c1:L (b).natAbs≤65536)(c2:(-9223372036854775808:Int)≤n∧n<0):Impl Tryz.prog Amb 163 [(sV a b),(.int .i64 n)] (sV (b*n) (a*n)):=by
 exact impl_ob hP hAmb Tryz.func163 (by kernel_rfl) (.lit<|.call (zV n)<|.lits 2<|.yes<|.lits 3<|.call (zV (b*n))<|.lits 3<|.call (zV (a*n))<|.lits 3<|.ret)
  (cast_ob (aI True.intro (aI (int_Of n oO) (have f3:=(L_i64 oO:L (n:Int).natAbs≤2);aI (iLt_mk oO:(iLt n 0)=true) (aI (int_Mul b n oO oO) (have f2:=L_abs_mul b n;aI (int_Mul a n oO oO) (have f1:=L_abs_mul a n;(vsub_refl (sV (b*n) (a*n))))))))) (by kernel_rfl))
theorem fx_TimesA (a b n:Int)(c0:L (a).natAbs≤65536)(c1:L (b).natAbs≤65536)(c2:(-9223372036854775808:Int)≤n∧n≤9223372036854775807):Impl Tryz.prog Amb 163 [(sV a b),.int .i64 n] (sV (tmLo a b n) (tmHi a b n)):=by
 by_cases h:n<0
 ·unfold tmLo tmHi
  rw[if_pos h,if_pos h]
  exact fx_TimesN a b n c0 c1 ⟨by omega,h⟩
 ·unfold tmLo tmHi
  rw[if_neg h,if_neg h]
  exact fx_Times a b n c0 c1 ⟨by omega,by omega⟩
theorem fx_Part (a b d:Int)(c0:L (a).natAbs≤65536)(c1:L (b).natAbs≤65536)(c2:(0:Int)<d∧d<4294967296):Impl Tryz.prog Amb 213 [(sV a b),(.int .u32 d)] (sV (ptLo a d) (ptHi b d)):=by
 have z1:=L_lit 1 (by decide)
 exact impl_ob hP hAmb Tryz.func213 (by kernel_rfl) (.lits 2<|.call (.tup [(N (a.natAbs / (d).toNat)),(.int .u32 ((a.natAbs%(d).toNat:Nat):Int)),(.bool true)])<|.lits 2<|.call (.tup [(N (b.natAbs / (d).toNat)),(.int .u32 ((b.natAbs%(d).toNat:Nat):Int)),(.bool true)])<|.lit<|.both (.lit<|.call (N 1)<|.lit<|.call (N ((b.natAbs / (d).toNat)+1))<|.lit<|.call (zV (sgn false (a.natAbs / (d).toNat)))<|.lit<|.call (zV (sgn false ((b.natAbs / (d).toNat)+1)))<|.lits 3<|.ret) (.lit<|.call (zV (sgn false (a.natAbs / (d).toNat)))<|.lit<|.call (zV (sgn false (b.natAbs / (d).toNat)))<|.lits 3<|.ret))
  (cast_ob (aI True.intro (aI (quot_SmallI a.natAbs d oO oO) (have f9:=L_div a.natAbs (d).toNat;aI (quot_SmallI b.natAbs d oO oO) (have f8:=L_div b.natAbs (d).toNat;aI (fun (h1:(iNe ((b.natAbs%(d).toNat:Nat):Int) 0)=true)=>have _gh1:=iNe_t h1;aI (nat_Of 1 oO) (aI (nat_Add (b.natAbs / (d).toNat) 1 oO oO) (have f4:=L_add (b.natAbs / (d).toNat) 1;aI (int_Nat false (a.natAbs / (d).toNat) oO) (have f3:=L_sgn false (a.natAbs / (d).toNat);aI (int_Nat false ((b.natAbs / (d).toNat)+1) oO) (have f2:=L_sgn false ((b.natAbs / (d).toNat)+1);(Sp_of rfl (pt_hi1 oO):vsub (sV (sgn false (a.natAbs / (d).toNat)) (sgn false ((b.natAbs / (d).toNat)+1))) (sV (ptLo a d) (ptHi b d)))))))) (fun (h5:(iNe ((b.natAbs%(d).toNat:Nat):Int) 0)=false)=>have _gh5:=iNe_f h5;aI (int_Nat false (a.natAbs / (d).toNat) oO) (have f7:=L_sgn false (a.natAbs / (d).toNat);aI (int_Nat false (b.natAbs / (d).toNat) oO) (have f6:=L_sgn false (b.natAbs / (d).toNat);(Sp_of rfl (pt_hi2 oO):vsub (sV (sgn false (a.natAbs / (d).toNat)) (sgn false (b.natAbs / (d).toNat))) (sV (ptLo a d) (ptHi b d)))))))))) (by kernel_rfl))
theorem fx_Div (a b c d s:Int)(c0:L (a).natAbs≤8192)(c1:L (b).natAbs≤8192)(c2:L (c).natAbs≤8192)(c3:L (d).natAbs≤8192)(c4:(0:Int)≤s∧s≤20000)(c5:c≠0)(c6:d≠0):Impl Tryz.prog Amb 176 [(sV a b),(sV c d),(.int .i64 s)] (sV (Int.fdiv (a*2^(s).toNat) d) (-(Int.fdiv (-(b*2^(s).toNat)) c))):=by
 exact impl_ob hP hAmb Tryz.func176 (by kernel_rfl) (.lits 2<|.call (zV (a*2^(s).toNat))<|.lits 2<|.call (.tup [(zV (Int.fdiv (a*2^(s).toNat) d)),(zV ((a*2^(s).toNat)-(Int.fdiv (a*2^(s).toNat) d)*d)),(.bool true)])<|.lits 2<|.call (zV (b*2^(s).toNat))<|.lit<|.call (zV (-(b*2^(s).toNat)))<|.lits 2<|.call (.tup [(zV (Int.fdiv (-(b*2^(s).toNat)) c)),(zV ((-(b*2^(s).toNat))-(Int.fdiv (-(b*2^(s).toNat)) c)*c)),(.bool true)])<|.lits 3<|.call (zV (-(Int.fdiv (-(b*2^(s).toNat)) c)))<|.lits 3<|.ret)
  (cast_ob (aI True.intro (aI (int_Shl a s oO oO) (have f8:=L_abs_shl a (s).toNat;aI (int_DivMod (a*2^(s).toNat) d oO oO oO) (have f7:=L_rm (a*2^(s).toNat) d;have f6:=L_fdiv (a*2^(s).toNat) d;aI (int_Shl b s oO oO) (have f5:=L_abs_shl b (s).toNat;aI (int_Neg (b*2^(s).toNat) oO) (have f4:=L_abs_neg (b*2^(s).toNat);aI (int_DivMod (-(b*2^(s).toNat)) c oO oO oO) (have f3:=L_rm (-(b*2^(s).toNat)) c;have f2:=L_fdiv (-(b*2^(s).toNat)) c;aI (int_Neg (Int.fdiv (-(b*2^(s).toNat)) c) oO) (have f1:=L_abs_neg (Int.fdiv (-(b*2^(s).toNat)) c);(vsub_refl (sV (Int.fdiv (a*2^(s).toNat) d) (-(Int.fdiv (-(b*2^(s).toNat)) c)))))))))))) (by kernel_rfl))
theorem fx_tiny (b:Int)(c0:L (b).natAbs≤65536):Impl Tryz.prog Amb 225 [(zV b)] (.bool (decide ((b).natAbs<8))):=by
 exact impl_ob hP hAmb Tryz.func225 (by kernel_rfl) (.lits 2<|.call (.int .i64 (nbits b.natAbs:Int))<|.lits 2<|.ret)
  (cast_ob (aI True.intro (aI (nat_Bits b.natAbs oO) (have f1:=nbits_L b.natAbs;(vsub_of (congrArg V.bool tiny_8):vsub (.bool (iLe (nbits b.natAbs:Int) 3)) (.bool (decide ((b).natAbs<8))))))) (by kernel_rfl))
theorem fx_Tiny (a b:Int)(c0:L (b).natAbs≤65536):Impl Tryz.prog Amb 212 [(sV a b)] (.bool (decide ((b).natAbs<8))):=by
 exact impl_ob hP hAmb Tryz.func212 (by kernel_rfl) (.lits 2<|.call (.bool (decide ((b).natAbs<8)))<|.lit<|.ret)
  (cast_ob (aI True.intro (aI (fx_tiny b oO) ((vsub_refl (.bool (decide ((b).natAbs<8))))))) (by kernel_rfl))
end Go.Proofs.YtkkbddkpggjgpaaGreatDoor

namespace Go.Proofs.YtkkbddkpggjgpaaGreatDoor
open Go.RowKit
set_option maxRecDepth 100000
def ap1 (x1 x2 s:Int)(j:Nat):Int:=(aP (2^s.toNat) x1 x2 j).1
def ap2 (x1 x2 s:Int)(j:Nat):Int:=(aP (2^s.toNat) x1 x2 j).2
def aa1 (x1 x2 s:Int)(j:Nat):Int:=(aA (2^s.toNat) x1 x2 j).1
def aa2 (x1 x2 s:Int)(j:Nat):Int:=(aA (2^s.toNat) x1 x2 j).2
def at1 (x1 x2 s:Int)(j:Nat):Int:=ptLo (ap1 x1 x2 s (j+1)) (odn (j+1))
def at2 (x1 x2 s:Int)(j:Nat):Int:=ptHi (ap2 x1 x2 s (j+1)) (odn (j+1))
def fx_area_0_mk (_:Nat)(x1 x2 sc:Int)(x:Nat × Int):St:=⟨mkS 36 [(1,(.val (.int .i64 sc))),(4,(.own 1 0)),(5,(.own 2 0)),(6,(.own 3 0)),(7,(.own 4 0)),(8,(.val (.int .u32 x.2)))],[⟨true,false,[(V.bool (decide (x1<0))),(N x1.natAbs),(V.bool (decide (x2<0))),(N x2.natAbs)]⟩,⟨true,false,[(V.bool false),V.nil,(V.bool false),V.nil]⟩,⟨true,false,[(V.bool (decide ((x1*x1 / 2^(sc).toNat)<0))),(N ((x1*x1 / 2^(sc).toNat).natAbs)),(V.bool (decide ((-(-(x2*x2) / 2^(sc).toNat))<0))),(N ((-(-(x2*x2) / 2^(sc).toNat)).natAbs))]⟩,⟨true,false,[(V.bool (decide ((ap1 x1 x2 sc x.1)<0))),(N ((ap1 x1 x2 sc x.1).natAbs)),(V.bool (decide ((ap2 x1 x2 sc x.1)<0))),(N ((ap2 x1 x2 sc x.1).natAbs))]⟩,⟨true,false,[(V.bool (decide ((aa1 x1 x2 sc x.1)<0))),(N ((aa1 x1 x2 sc x.1).natAbs)),(V.bool (decide ((aa2 x1 x2 sc x.1)<0))),(N ((aa2 x1 x2 sc x.1).natAbs))]⟩]⟩
def fx_area_0_I (nn:Nat)(_ _ _:Int)(x:Nat × Int):Prop:=x.1≤nn∧x.2=2*(x.1:Int)+3
def fx_area_0_mu (nn:Nat)(_ _ _:Int)(x:Nat × Int):Nat:=nn-x.1
def fx_area_0_ex (_:Nat)(x1 x2 sc:Int)(y:Nat):Ex × St:=(.exit 0,⟨mkS 36 [(4,(.own 1 0)),(6,(.own 3 0)),(7,(.own 4 0))],[⟨true,false,[(V.bool (decide (x1<0))),(N x1.natAbs),(V.bool (decide (x2<0))),(N x2.natAbs)]⟩,⟨true,false,[(V.bool false),V.nil,(V.bool false),V.nil]⟩,⟨true,false,[(V.bool (decide ((x1*x1 / 2^(sc).toNat)<0))),(N ((x1*x1 / 2^(sc).toNat).natAbs)),(V.bool (decide ((-(-(x2*x2) / 2^(sc).toNat))<0))),(N ((-(-(x2*x2) / 2^(sc).toNat)).natAbs))]⟩,⟨true,false,[(V.bool (decide ((ap1 x1 x2 sc y)<0))),(N ((ap1 x1 x2 sc y).natAbs)),(V.bool (decide ((ap2 x1 x2 sc y)<0))),(N ((ap2 x1 x2 sc y).natAbs))]⟩,⟨true,false,[(V.bool (decide ((aa1 x1 x2 sc y)<0))),(N ((aa1 x1 x2 sc y).natAbs)),(V.bool (decide ((aa2 x1 x2 sc y)<0))),(N ((aa2 x1 x2 sc y).natAbs))]⟩]⟩)
def fx_area_0_J (nn:Nat)(_ _ _:Int)(y:Nat):Prop:=y=nn
abbrev fx_area_0_N (nn:Nat)(x1 x2 sc:Int):=NX (fx_area_0_mk nn x1 x2 sc) (fx_area_0_I nn x1 x2 sc) (fx_area_0_mu nn x1 x2 sc) (fx_area_0_ex nn x1 x2 sc) (fx_area_0_J nn x1 x2 sc)
theorem fx_area_0 (nn:Nat)(x1 x2 sc:Int)(c0:nn≤10000)(c1:∀ j,j≤nn→Impl Tryz.prog Amb 212 [(sV (ap1 x1 x2 sc j) (ap2 x1 x2 sc j))] (.bool (decide (nn≤j))))(c2:∀ j,j<nn→Impl Tryz.prog Amb 210 [(sV (ap1 x1 x2 sc j) (ap2 x1 x2 sc j)),(sV (x1*x1 / 2^(sc).toNat) (-(-(x2*x2) / 2^(sc).toNat))),(.int .i64 sc)] (sV (ap1 x1 x2 sc (j+1)) (ap2 x1 x2 sc (j+1))))(c3:∀ (j:Nat) (k:Int),j<nn→k=odn (j+1)→Impl Tryz.prog Amb 213 [(sV (ap1 x1 x2 sc (j+1)) (ap2 x1 x2 sc (j+1))),(.int .u32 k)] (sV (at1 x1 x2 sc j) (at2 x1 x2 sc j)))(c4:∀ j,j<nn→Impl Tryz.prog Amb 165 [(sV (aa1 x1 x2 sc j) (aa2 x1 x2 sc j)),(sV (at1 x1 x2 sc j) (at2 x1 x2 sc j))] (sV (aa1 x1 x2 sc (j+1)) (aa2 x1 x2 sc (j+1))))(c5:∀ j,j≤nn→L (aa2 x1 x2 sc j).natAbs≤8000∧L (ap2 x1 x2 sc j).natAbs≤8000)(x0:Nat × Int)(hI:fx_area_0_I nn x1 x2 sc x0):LoopOk Tryz.prog Amb (loopN Tryz.f188 0) (fx_area_0_mk nn x1 x2 sc x0) (fun e st_=>∃ y,fx_area_0_J nn x1 x2 sc y∧fx_area_0_ex nn x1 x2 sc y=(e,st_)) :=
 loop_ob hP hAmb ⟨[1,4,5,6,7,8],5,[]⟩ (fx_area_0_mk nn x1 x2 sc) (fx_area_0_I nn x1 x2 sc) (fx_area_0_mu nn x1 x2 sc) (fx_area_0_ex nn x1 x2 sc) (fx_area_0_J nn x1 x2 sc) x0 hI (fun (j,k)=>.lits 2<|.call (.bool (decide (nn≤j)))<|.lit<|.both (.lits 3<|.call (sV (ap1 x1 x2 sc (j+1)) (ap2 x1 x2 sc (j+1)))<|.lits 4<|.call (sV (at1 x1 x2 sc j) (at2 x1 x2 sc j))<|.lit<|.call (sV (aa1 x1 x2 sc (j+1)) (aa2 x1 x2 sc (j+1)))<|.lits 2<|.yes<|.fin2 ⟨[1,4,5,6,7,8],5,[]⟩) (.fin2 ⟨[4,6,7],5,[]⟩)) (by
  rintro ⟨j,k⟩ hI
  have hI:j≤nn∧k=2*(j:Int)+3:=hI
  obtain⟨h1,h2⟩:=hI
  exact cast_ob (aI True.intro (aI (c1 j h1 ) (aI (fun (h101:(!(decide (nn≤j)))=true)=>have _gh101:=of_decide_eq_false (notb_t h101);aI (c2 j oO ) (aI (c3 j k oO (by unfold odn;omega) ) (aI (c4 j oO ) (aI (fits_u32 oO:(fits .u32 (k+2))=true) (aI tT ((nx_next ((j+1),(k+2)) (show (j+1)≤nn∧(k+2)=2*((j+1):Int)+3 from ⟨by omega,by omega⟩) (show nn-(j+1)<nn-j by omega):fx_area_0_N nn x1 x2 sc (j,k) .normal (fx_area_0_mk nn x1 x2 sc ((j+1),(k+2)))))))))) (fun (h102:(!(decide (nn≤j)))=false)=>have _gh102:=of_decide_eq_true (notb_f h102);aI tT ((nx_exit 0 ((fx_area_0_ex nn x1 x2 sc j).2) j (show j=nn from show j=nn by omega) rfl:fx_area_0_N nn x1 x2 sc (j,k) (.exit 0) ((fx_area_0_ex nn x1 x2 sc j).2))))))) (by kernel_rfl))
theorem fx_area0 (nn:Nat)(x1 x2 sc:Int)(c0:nn≤10000)(c1:∀ j,j≤nn→Impl Tryz.prog Amb 212 [(sV (ap1 x1 x2 sc j) (ap2 x1 x2 sc j))] (.bool (decide (nn≤j))))(c2:∀ j,j<nn→Impl Tryz.prog Amb 210 [(sV (ap1 x1 x2 sc j) (ap2 x1 x2 sc j)),(sV (x1*x1 / 2^(sc).toNat) (-(-(x2*x2) / 2^(sc).toNat))),(.int .i64 sc)] (sV (ap1 x1 x2 sc (j+1)) (ap2 x1 x2 sc (j+1))))(c3:∀ (j:Nat) (k:Int),j<nn→k=odn (j+1)→Impl Tryz.prog Amb 213 [(sV (ap1 x1 x2 sc (j+1)) (ap2 x1 x2 sc (j+1))),(.int .u32 k)] (sV (at1 x1 x2 sc j) (at2 x1 x2 sc j)))(c4:∀ j,j<nn→Impl Tryz.prog Amb 165 [(sV (aa1 x1 x2 sc j) (aa2 x1 x2 sc j)),(sV (at1 x1 x2 sc j) (at2 x1 x2 sc j))] (sV (aa1 x1 x2 sc (j+1)) (aa2 x1 x2 sc (j+1))))(c5:∀ j,j≤nn→L (aa2 x1 x2 sc j).natAbs≤8000∧L (ap2 x1 x2 sc j).natAbs≤8000)(c6:L (x1).natAbs≤8000)(c7:L (x2).natAbs≤8000)(c8:(0:Int)≤sc∧sc≤20000):Impl Tryz.prog Amb 188 [(sV x1 x2),(.int .i64 sc)] (sV (aa1 x1 x2 sc nn) ((aa2 x1 x2 sc nn)+(ap2 x1 x2 sc nn))):=by
 exact impl_ob hP hAmb Tryz.func188 (by kernel_rfl) (.lits 3<|.call (sV (x1*x1 / 2^(sc).toNat) (-(-(x2*x2) / 2^(sc).toNat)))<|.lits 3<|.loop ⟨[1,4,5,6,7,8],5,[]⟩ ((fx_area_0_mk nn x1 x2 sc (0,3))) (Nat) (fx_area_0_ex nn x1 x2 sc) (fx_area_0_J nn x1 x2 sc) (fun y=>.lits 3<|.call (zV ((aa2 x1 x2 sc y)+(ap2 x1 x2 sc y)))<|.lits 4<|.ret))
  (cast_ob (aI True.intro (aI (fx_Mul x1 x2 x1 x2 sc oS oS oS oS oS) (aI tT (aI (rfl:(fx_area_0_mk nn x1 x2 sc (0,3))=(fx_area_0_mk nn x1 x2 sc (0,3))) (aI (fx_area_0 nn x1 x2 sc c0 c1 c2 c3 c4 c5 (0,3) (show 0≤nn∧3=2*(0:Int)+3 from ⟨by omega,by omega⟩)) (fun y (hJ:fx_area_0_J nn x1 x2 sc y)=>have hJ:y=nn:=hJ;have b1:=c5 y oO;aI (int_Add (aa2 x1 x2 sc y) (ap2 x1 x2 sc y) oS oS) (have f1:=L_abs_add (aa2 x1 x2 sc y) (ap2 x1 x2 sc y);(by rw[show y=nn from hJ];exact vsub_refl _:vsub (sV (aa1 x1 x2 sc y) ((aa2 x1 x2 sc y)+(ap2 x1 x2 sc y))) (sV (aa1 x1 x2 sc nn) ((aa2 x1 x2 sc nn)+(ap2 x1 x2 sc nn))))))))))) (by kernel_rfl))
theorem fx_LnN (m e k s xa xb z1 z2 y1 y2 v1 v2 r1 r2:Int)(c0:0≤s∧s≤5900)(c1:Impl Tryz.prog Amb 173 [(yV m e),(.int .i64 (s+32))] (sV xa xb))(c2:Impl Tryz.prog Amb 176 [(sV (-(xb+(-((1:Int)*2^((s+32)).toNat)))) (-(xa+(-((1:Int)*2^((s+32)).toNat))))),(sV (xa+((1:Int)*2^((s+32)).toNat)) (xb+((1:Int)*2^((s+32)).toNat))),(.int .i64 (s+32))] (sV z1 z2))(c3:Impl Tryz.prog Amb 188 [(sV z1 z2),(.int .i64 (s+32))] (sV y1 y2))(c4:Impl Tryz.prog Amb 101 [(.int .i64 (s+32))] (sV v1 v2))(c5:Impl Tryz.prog Amb 163 [(sV v1 v2),(.int .i64 k)] (sV r1 r2))(c6:L (xa).natAbs≤1000)(c7:L (xb).natAbs≤1000)(c8:L (y1).natAbs≤20000)(c9:L (y2).natAbs≤20000)(c10:L (r1).natAbs≤20000)(c11:L (r2).natAbs≤20000)(c12:xb≤((1:Int)*2^((s+32)).toNat))(c13:0≤(-(xb+(-((1:Int)*2^((s+32)).toNat))))):Impl Tryz.prog Amb 137 [(yV m e),(.int .i64 k),(.int .i64 s)] (sV (((-(y2*2^1))+r1) / 2^32) (-(-((-(y1*2^1))+r2) / 2^32))):=by
 have lo:=L_pow1 ((s+32)).toNat
 have cr:=cmpI_range xb ((1:Int)*2^((s+32)).toNat)
 have ci:=cmpI_le xb ((1:Int)*2^((s+32)).toNat)
 exact impl_ob hP hAmb Tryz.func137 (by kernel_rfl) (.lit<|.yes<|.lit<|.call (sV ((1:Int)*2^((s+32)).toNat) ((1:Int)*2^((s+32)).toNat))<|.lits 2<|.call (sV xa xb)<|.lits 3<|.call (sV (xa+(-((1:Int)*2^((s+32)).toNat))) (xb+(-((1:Int)*2^((s+32)).toNat))))<|.lits 4<|.call (.int .i64 (cmpI xb ((1:Int)*2^((s+32)).toNat)))<|.lit<|.yes<|.lits 2<|.call (sV (-(xb+(-((1:Int)*2^((s+32)).toNat)))) (-(xa+(-((1:Int)*2^((s+32)).toNat)))))<|.lits 2<|.no<|.lits 4<|.call (sV (xa+((1:Int)*2^((s+32)).toNat)) (xb+((1:Int)*2^((s+32)).toNat)))<|.lit<|.call (sV z1 z2)<|.lit<|.call (sV y1 y2)<|.lit<|.call (sV (y1*2^1) (y2*2^1))<|.lits 3<|.call (sV (-(y2*2^1)) (-(y1*2^1)))<|.lits 3<|.call (sV v1 v2)<|.lit<|.call (sV r1 r2)<|.lit<|.call (sV ((-(y2*2^1))+r1) ((-(y1*2^1))+r2))<|.lit<|.yes<|.lit<|.call (sV (((-(y2*2^1))+r1) / 2^(((s+32)-s)).toNat) (-(-((-(y1*2^1))+r2) / 2^(((s+32)-s)).toNat)))<|.lits 2<|.ret)
  (cast_ob (aI True.intro (aI (fits_i64 oS:(fits .i64 (s+32))=true) (aI (fx_One (s+32) oS) (have f20:=L_pow1 ((s+32)).toNat;aI (c1 ) (aI (fx_Sub xa xb ((1:Int)*2^((s+32)).toNat) ((1:Int)*2^((s+32)).toNat) oS oS oS oS) (have f19:=L_abs_neg ((1:Int)*2^((s+32)).toNat);have f18:=L_abs_neg ((1:Int)*2^((s+32)).toNat);have f17:=L_abs_add xb (-((1:Int)*2^((s+32)).toNat));have f16:=L_abs_add xa (-((1:Int)*2^((s+32)).toNat));aI (int_Cmp xb ((1:Int)*2^((s+32)).toNat) oS oS) (have f15:=cmpI_range xb ((1:Int)*2^((s+32)).toNat);aI (iLe_mk oO:(iLe (cmpI xb ((1:Int)*2^((s+32)).toNat)) 0)=true) (aI (fx_Neg (xa+(-((1:Int)*2^((s+32)).toNat))) (xb+(-((1:Int)*2^((s+32)).toNat))) oS oS) (have f14:=L_abs_neg (xb+(-((1:Int)*2^((s+32)).toNat)));have f13:=L_abs_neg (xa+(-((1:Int)*2^((s+32)).toNat)));aI (decide_eq_false oO:(decide ((-(xb+(-((1:Int)*2^((s+32)).toNat))))<0))=false) (aI (fx_Add xa xb ((1:Int)*2^((s+32)).toNat) ((1:Int)*2^((s+32)).toNat) oS oS oS oS) (have f12:=L_abs_add xb ((1:Int)*2^((s+32)).toNat);have f11:=L_abs_add xa ((1:Int)*2^((s+32)).toNat);aI (c2 ) (aI (c3 ) (aI (fx_Twice y1 y2 1 oS oS oS) (have f10:=L_abs_shl y2 1;have f9:=L_abs_shl y1 1;aI (fx_Neg (y1*2^1) (y2*2^1) oS oS) (have f8:=L_abs_neg (y2*2^1);have f7:=L_abs_neg (y1*2^1);aI (c4 ) (aI (c5 ) (aI (fx_Add (-(y2*2^1)) (-(y1*2^1)) r1 r2 oS oS oS oS) (have f6:=L_abs_add (-(y1*2^1)) r2;have f5:=L_abs_add (-(y2*2^1)) r1;aI (fits_i64 oS:(fits .i64 ((s+32)-s))=true) (aI (fx_Half ((-(y2*2^1))+r1) ((-(y1*2^1))+r2) ((s+32)-s) oS oS oS) (have f4:=L_abs_neg (-((-(y1*2^1))+r2) / 2^(((s+32)-s)).toNat);have f3:=L_abs_shr (-((-(y1*2^1))+r2)) (((s+32)-s)).toNat;have f2:=L_abs_neg ((-(y1*2^1))+r2);have f1:=L_abs_shr ((-(y2*2^1))+r1) (((s+32)-s)).toNat;(by rw[show ((s+32)-s).toNat=32 by omega];exact vsub_refl _:vsub (sV (((-(y2*2^1))+r1) / 2^(((s+32)-s)).toNat) (-(-((-(y1*2^1))+r2) / 2^(((s+32)-s)).toNat))) (sV (((-(y2*2^1))+r1) / 2^32) (-(-((-(y1*2^1))+r2) / 2^32)))))))))))))))))))))))) (by kernel_rfl))
theorem fx_LnP (m e k s xa xb z1 z2 y1 y2 v1 v2 r1 r2:Int)(c0:0≤s∧s≤5900)(c1:Impl Tryz.prog Amb 173 [(yV m e),(.int .i64 (s+32))] (sV xa xb))(c2:Impl Tryz.prog Amb 176 [(sV (xa+(-((1:Int)*2^((s+32)).toNat))) (xb+(-((1:Int)*2^((s+32)).toNat)))),(sV (xa+((1:Int)*2^((s+32)).toNat)) (xb+((1:Int)*2^((s+32)).toNat))),(.int .i64 (s+32))] (sV z1 z2))(c3:Impl Tryz.prog Amb 188 [(sV z1 z2),(.int .i64 (s+32))] (sV y1 y2))(c4:Impl Tryz.prog Amb 101 [(.int .i64 (s+32))] (sV v1 v2))(c5:Impl Tryz.prog Amb 163 [(sV v1 v2),(.int .i64 k)] (sV r1 r2))(c6:L (xa).natAbs≤1000)(c7:L (xb).natAbs≤1000)(c8:L (y1).natAbs≤20000)(c9:L (y2).natAbs≤20000)(c10:L (r1).natAbs≤20000)(c11:L (r2).natAbs≤20000)(c12:((1:Int)*2^((s+32)).toNat)<xb)(c13:0≤(xa+(-((1:Int)*2^((s+32)).toNat)))):Impl Tryz.prog Amb 137 [(yV m e),(.int .i64 k),(.int .i64 s)] (sV (((y1*2^1)+r1) / 2^32) (-(-((y2*2^1)+r2) / 2^32))):=by
 have lo:=L_pow1 ((s+32)).toNat
 have cr:=cmpI_range xb ((1:Int)*2^((s+32)).toNat)
 have ci:=cmpI_le xb ((1:Int)*2^((s+32)).toNat)
 exact impl_ob hP hAmb Tryz.func137 (by kernel_rfl) (.lit<|.yes<|.lit<|.call (sV ((1:Int)*2^((s+32)).toNat) ((1:Int)*2^((s+32)).toNat))<|.lits 2<|.call (sV xa xb)<|.lits 3<|.call (sV (xa+(-((1:Int)*2^((s+32)).toNat))) (xb+(-((1:Int)*2^((s+32)).toNat))))<|.lits 4<|.call (.int .i64 (cmpI xb ((1:Int)*2^((s+32)).toNat)))<|.lit<|.no<|.lit<|.no<|.lits 4<|.call (sV (xa+((1:Int)*2^((s+32)).toNat)) (xb+((1:Int)*2^((s+32)).toNat)))<|.lit<|.call (sV z1 z2)<|.lit<|.call (sV y1 y2)<|.lit<|.call (sV (y1*2^1) (y2*2^1))<|.lits 3<|.call (sV v1 v2)<|.lit<|.call (sV r1 r2)<|.lit<|.call (sV ((y1*2^1)+r1) ((y2*2^1)+r2))<|.lit<|.yes<|.lit<|.call (sV (((y1*2^1)+r1) / 2^(((s+32)-s)).toNat) (-(-((y2*2^1)+r2) / 2^(((s+32)-s)).toNat)))<|.lits 2<|.ret)
  (cast_ob (aI True.intro (aI (fits_i64 oS:(fits .i64 (s+32))=true) (aI (fx_One (s+32) oS) (have f16:=L_pow1 ((s+32)).toNat;aI (c1 ) (aI (fx_Sub xa xb ((1:Int)*2^((s+32)).toNat) ((1:Int)*2^((s+32)).toNat) oS oS oS oS) (have f15:=L_abs_neg ((1:Int)*2^((s+32)).toNat);have f14:=L_abs_neg ((1:Int)*2^((s+32)).toNat);have f13:=L_abs_add xb (-((1:Int)*2^((s+32)).toNat));have f12:=L_abs_add xa (-((1:Int)*2^((s+32)).toNat));aI (int_Cmp xb ((1:Int)*2^((s+32)).toNat) oS oS) (have f11:=cmpI_range xb ((1:Int)*2^((s+32)).toNat);aI (iLe_mkF oO:(iLe (cmpI xb ((1:Int)*2^((s+32)).toNat)) 0)=false) (aI (decide_eq_false oO:(decide ((xa+(-((1:Int)*2^((s+32)).toNat)))<0))=false) (aI (fx_Add xa xb ((1:Int)*2^((s+32)).toNat) ((1:Int)*2^((s+32)).toNat) oS oS oS oS) (have f10:=L_abs_add xb ((1:Int)*2^((s+32)).toNat);have f9:=L_abs_add xa ((1:Int)*2^((s+32)).toNat);aI (c2 ) (aI (c3 ) (aI (fx_Twice y1 y2 1 oS oS oS) (have f8:=L_abs_shl y2 1;have f7:=L_abs_shl y1 1;aI (c4 ) (aI (c5 ) (aI (fx_Add (y1*2^1) (y2*2^1) r1 r2 oS oS oS oS) (have f6:=L_abs_add (y2*2^1) r2;have f5:=L_abs_add (y1*2^1) r1;aI (fits_i64 oS:(fits .i64 ((s+32)-s))=true) (aI (fx_Half ((y1*2^1)+r1) ((y2*2^1)+r2) ((s+32)-s) oS oS oS) (have f4:=L_abs_neg (-((y2*2^1)+r2) / 2^(((s+32)-s)).toNat);have f3:=L_abs_shr (-((y2*2^1)+r2)) (((s+32)-s)).toNat;have f2:=L_abs_neg ((y2*2^1)+r2);have f1:=L_abs_shr ((y1*2^1)+r1) (((s+32)-s)).toNat;(by rw[show ((s+32)-s).toNat=32 by omega];exact vsub_refl _:vsub (sV (((y1*2^1)+r1) / 2^(((s+32)-s)).toNat) (-(-((y2*2^1)+r2) / 2^(((s+32)-s)).toNat))) (sV (((y1*2^1)+r1) / 2^32) (-(-((y2*2^1)+r2) / 2^32)))))))))))))))))))))) (by kernel_rfl))
theorem L_T {x:Int}{t:Nat}(h0:0≤x)(h:x≤8192*2^t)(ht:t≤6000):L x.natAbs≤200:=by
 refine L_pow2 (n:=t+14) ?_ oO
 have e:(2:Nat)^(t+14)=16384*2^t:=by rw[Nat.pow_add,Nat.mul_comm]
 have p:((2^t:Nat):Int)=(2:Int)^t:=(pow_cast t).symm
 have:=two_pos t
 rw[e];omega
theorem fx_area (x1 x2 s:Int)(hs:8≤s∧s≤6000)(h:ArH (2^s.toNat) x1 x2)(hd:x2-x1≤4) :
  ∃ y1 y2:Int,Impl Tryz.prog Amb 188 [(sV x1 x2),(.int .i64 s)] (sV y1 y2)∧0≤y1∧y1≤y2∧y2-y1≤100000∧y2≤8192*2^s.toNat ∧
   ∀ X:Rat,(x1:Rat)≤X*((2^s.toNat:Int):Rat)→X*((2^s.toNat:Int):Rat)≤(x2:Rat)→∃ N0,∀ K,N0≤K→(y1:Rat)≤PL X K*((2^s.toNat:Int):Rat)∧PL X K*((2^s.toNat:Int):Rat)≤(y2:Rat):=by
 generalize ht:s.toNat=t at *
 have T0:(0:Rat)<((2^t:Int):Rat):=Rat.intCast_pos.2 (two_pos t)
 obtain⟨N,hN,hs8,hl⟩:=aP_small h
 have pf:=aP_facts h
 have af:=aA_facts h
 have eX:(x1:Rat)*((2^t:Int):Rat)⁻¹*((2^t:Int):Rat)=x1:=by rw[Rat.mul_assoc,Rat.inv_mul_cancel _ (by grind),Rat.mul_one]
 have pe:=aP_enc (X:=(x1:Rat)*((2^t:Int):Rat)⁻¹) h (by rw[eX];exact Rat.le_refl) (by rw[eX];exact Rat.intCast_le_intCast.2 h.h2)
 have ae:=aA_enc (X:=(x1:Rat)*((2^t:Int):Rat)⁻¹) h (by rw[eX];exact Rat.le_refl) (by rw[eX];exact Rat.intCast_le_intCast.2 h.h2)
 have po:∀ j,(aP (2^t) x1 x2 j).1≤(aP (2^t) x1 x2 j).2:=fun j=>Rat.intCast_le_intCast.1 (Rat.le_trans (pe j).1 (pe j).2)
 have ao:∀ j,(aA (2^t) x1 x2 j).1≤(aA (2^t) x1 x2 j).2:=fun j=>Rat.intCast_le_intCast.1 (Rat.le_trans (ae j).1 (ae j).2)
 have t6:t≤6000:=by omega
 have p1:∀ j,L (ap1 x1 x2 s j).natAbs≤200:=fun j=>by
  unfold ap1;rw[ht];have a:=pf j;have b:=po j
  exact L_T a.1 oO t6
 have p2:∀ j,L (ap2 x1 x2 s j).natAbs≤200:=fun j=>by
  unfold ap2;rw[ht];have a:=pf j
  exact L_T a.2.1 oO t6
 have am:∀ j,j≤N→(aA (2^t) x1 x2 j).2≤8000*2^t:=fun j hj=>by
  have a:=(af j).2.1
  have m:=Int.mul_le_mul_of_nonneg_right (show (j:Int)+1≤8000 by omega) (Int.le_of_lt (two_pos t))
  omega
 have a1:∀ j,j≤N→L (aa1 x1 x2 s j).natAbs≤200:=fun j hj=>by
  unfold aa1;rw[ht];have a:=af j;have b:=ao j;have c:=am j hj
  exact L_T a.1 oO t6
 have a2:∀ j,j≤N→L (aa2 x1 x2 s j).natAbs≤200:=fun j hj=>by
  unfold aa2;rw[ht];have a:=af j;have c:=am j hj
  exact L_T a.2.2.2 oO t6
 have q:=ar_q (T:=2^t) (two_pos t) h.h1 h.h2 h.h3
 have lq1:L (x1*x1 / 2^s.toNat).natAbs≤200:=by rw[ht];exact L_T q.1 oO t6
 have lq2:L (-(-(x2*x2) / 2^s.toNat)).natAbs≤200:=by rw[ht];exact L_T q.2.2.2.1 (by have:=h.hT;omega) t6
 have lx1:L x1.natAbs≤200:=L_T h.h1 (by have:=h.h2;have:=h.h3;omega) t6
 have lx2:L x2.natAbs≤200:=L_T (by have:=h.h1;have:=h.h2;omega) (by have:=h.h3;have:=h.h1;have:=h.h2;omega) t6
 have lt:∀ j,L (at1 x1 x2 s j).natAbs≤200∧L (at2 x1 x2 s j).natAbs≤201:=fun j=>by
  have b1:=p1 (j+1)
  have b2:=p2 (j+1)
  have l1:=L_div (ap1 x1 x2 s (j+1)).natAbs (odn (j+1)).toNat
  have l2:=L_div (ap2 x1 x2 s (j+1)).natAbs (odn (j+1)).toNat
  have l3:=L_add ((ap2 x1 x2 s (j+1)).natAbs / (odn (j+1)).toNat) 1
  have l4:=L_lit 1 (by decide)
  unfold at1 at2 ptLo ptHi
  rw[Int.natAbs_natCast,Int.natAbs_natCast]
  refine⟨by omega,?_⟩
  split
  ·rw[Nat.add_zero];omega
  ·omega
 refine⟨_,_,fx_area0 N x1 x2 s oO ?_ ?_ ?_ ?_ ?_ oO oO oO,?_,?_,?_,?_,?_⟩
 ·intro j hj
  refine impl_eq (congrArg V.bool (decide_eq_decide.2 ?_)) (fx_Tiny (ap1 x1 x2 s j) (ap2 x1 x2 s j) (by have:=p2 j;omega))
  unfold ap2
  rw[ht]
  constructor
  ·intro hq
   refine Decidable.byContradiction fun hn=>hl j oO ?_
   omega
  ·intro hq
   rw[show j=N by omega]
   have:=(pf N).2.1
   omega
 ·intro j hj
  exact fx_Mul (ap1 x1 x2 s j) (ap2 x1 x2 s j) (x1*x1 / 2^s.toNat) (-(-(x2*x2) / 2^s.toNat)) s (by have:=p1 j;omega) (by have:=p2 j;omega) oO oO oO
 ·intro j k hj hk
  subst hk
  exact fx_Part (ap1 x1 x2 s (j+1)) (ap2 x1 x2 s (j+1)) (odn (j+1)) (by have:=p1 (j+1);omega) (by have:=p2 (j+1);omega) (by unfold odn;omega)
 ·intro j hj
  have b:=lt j
  exact fx_Add (aa1 x1 x2 s j) (aa2 x1 x2 s j) (at1 x1 x2 s j) (at2 x1 x2 s j) (by have:=a1 j oO;omega) (by have:=a2 j oO;omega) oO oO
 ·intro j hj
  have:=a2 j hj
  have:=p2 j
  omega
 ·unfold aa1;rw[ht];exact (af N).1
 ·unfold aa1 aa2 ap2;rw[ht];have:=ao N;have:=(pf N).2.1;omega
 ·unfold aa1 aa2 ap2;rw[ht]
  have a:=(af N).2.2.1
  have d0:=h.h2
  have m:=Int.mul_le_mul_of_nonneg_left (show (x2-x1)+8≤12 by omega) (show (0:Int)≤(N:Int) by omega)
  omega
 ·unfold aa2 ap2;rw[ht]
  have:=am N (Nat.le_refl _)
  have:=h.hT
  omega
 ·intro X e1 e2
  unfold aa1 aa2 ap2;rw[ht]
  exact⟨N+1,fun K hK=>area_enc h e1 e2 N hK⟩
end Go.Proofs.YtkkbddkpggjgpaaGreatDoor

namespace Go.Proofs.YtkkbddkpggjgpaaGreatDoor
theorem cmpD_le {m e n f:Int}:cmpD m e n f≤0↔dv m e≤dv n f:=by rw[cmpD_dv,cmpQ_le]
end Go.Proofs.YtkkbddkpggjgpaaGreatDoor


namespace Go.Proofs.YtkkbddkpggjgpaaGreatDoor
theorem dv_ge0 {m e:Int}:0≤dv m e↔0≤m:=by rw[← dv_zero e,dv_le]
theorem dv_top {m e:Int}(hm:m≠0):dv (m.natAbs:Int) e<dv 1 (topD m e)∧dv 1 (topD m e-1)≤dv (m.natAbs:Int) e:=by
 have h1:=nbits_lt m.natAbs
 have h2:=nbits_le (show m.natAbs≠0 by omega)
 have h3:=nbits_pos (show m.natAbs≠0 by omega)
 have ht:topD m e=(nbits m.natAbs:Int)+e:=by unfold topD;rw[if_neg hm]
 constructor
 ·rw[dv_at (m:=1) (show e≤topD m e by omega),dv_lt,Int.one_mul,pow_cast,show (topD m e-e).toNat=nbits m.natAbs by omega];omega
 ·rw[dv_at (m:=1) (show e≤topD m e-1 by omega),dv_le,Int.one_mul,pow_cast,show (topD m e-1-e).toNat=nbits m.natAbs-1 by omega];omega
theorem dv1_le {a b:Int}(h:a≤b):dv 1 a≤dv 1 b:=by
 rw[dv_at h,dv_le,Int.one_mul,pow_cast]
 have:=Nat.pow_pos (n:=(b-a).toNat) (show 0<2 by omega);omega
theorem dv1_pos (t:Int):0<dv 1 t:=dv_pos.2 (by decide)
end Go.Proofs.YtkkbddkpggjgpaaGreatDoor

namespace Go.Proofs.YtkkbddkpggjgpaaGreatDoor
theorem PL_odd {y z:Rat}(h:y≤z):∀ k,PL y k≤PL z k
 | 0=>Rat.le_refl
 | k+1=>by
  have i:=PL_odd h k
  have p:=odd_mono h (k:=2*k+1) (by omega)
  have n0:(0:Rat)<(odn k:Rat):=Rat.intCast_pos.2 (odn_pos k)
  have d:y^(2*k+1) / (odn k:Rat)≤z^(2*k+1) / (odn k:Rat):=by
   rw[Rat.div_def,Rat.div_def]
   exact Rat.mul_le_mul_of_nonneg_right p (Rat.le_of_lt (Rat.inv_pos.2 n0))
  show PL y k+y^(2*k+1) / (odn k:Rat)≤PL z k+z^(2*k+1) / (odn k:Rat)
  grind
theorem PL_cap {z c:Rat}(hz:0≤z)(h2:2*z≤1)(h:PL z 100+z^199≤c)(K:Nat):PL z K≤c:=by
 have t:=(PL_hi hz h2 (j:=99) (K:=100+K) (by omega)).2
 have m:=PL_mono hz (j:=K) 100
 rw[Nat.add_comm] at m
 exact Rat.le_trans m (Rat.le_trans t h)
theorem PL_num:2*(PL (1 / 5) 100+(1 / 5)^199)+2*(PL (1 / 7) 100+(1 / 7)^199)≤cLn+dv 1 (-420):=of_decide_eq_true (by kernel_rfl)
theorem z_mono {M N:Rat}(hM:0<M)(h:M≤N):(M-1) / (M+1)≤(N-1) / (N+1):=by
 have a:(0:Rat)<M+1:=by grind
 have b:(0:Rat)<N+1:=by grind
 have e1:=Rat.div_mul_cancel (a:=M-1) (b:=M+1) (by grind)
 have e2:=Rat.div_mul_cancel (a:=N-1) (b:=N+1) (by grind)
 generalize (M-1) / (M+1)=x at *
 generalize (N-1) / (N+1)=y at *
 refine Decidable.byContradiction fun hn=>?_
 have hn:=Rat.not_le.1 hn
 have m:=Rat.mul_lt_mul_of_pos_right hn (Rat.mul_pos a b)
 have a1:y*((M+1)*(N+1))=(N-1)*(M+1):=by rw[← e2];grind
 have a2:x*((M+1)*(N+1))=(M-1)*(N+1):=by rw[← e1];grind
 rw[a1,a2] at m
 grind
theorem zp_step {k1 k2:Int}(h:k1<k2):(2:Rat)*2^k1≤2^k2:=by
 have e:(2:Rat)^(k1+1)=2^k1*2:=by
  rw[zp_add];rfl
 have l:=dv1_le (a:=k1+1) (b:=k2) (by omega)
 unfold dv at l
 rw[Rat.intCast_one,Rat.one_mul,Rat.one_mul] at l
 grind
theorem ln_mono {M N:Rat}{k1 k2:Int}(hM:3≤4*M)(hM2:2*M<3)(hN:3≤4*N)(hN2:2*N<3)(h:M*2^k1≤N*2^k2)(K:Nat):LnF M k1 K≤LnF N k2 K+dv 1 (-420):=by
 have p1:=zp_pos k1
 have p2:=zp_pos k2
 have e0:(0:Rat)<dv 1 (-420):=dv1_pos _
 unfold LnF
 rcases Int.lt_trichotomy k1 k2 with hk | hk | hk
 ·have z1:=z_mono (M:=M) (N:=3 / 2) (by grind) (by grind)
  have z2:=z_mono (M:=3 / 4) (N:=N) (by grind) (by grind)
  rw[show ((3:Rat) / 2-1) / (3 / 2+1)=1 / 5 by grind] at z1
  rw[show ((3:Rat) / 4-1) / (3 / 4+1)=-(1 / 7) by grind] at z2
  have q1:=PL_odd z1 K
  have q2:=PL_odd z2 K
  rw[PL_neg] at q2
  have c1:=PL_cap (z:=1 / 5) (by grind) (by grind) Rat.le_refl K
  have c2:=PL_cap (z:=1 / 7) (by grind) (by grind) Rat.le_refl K
  have nm:=PL_num
  have c0:(0:Rat)≤cLn:=dv_ge0.2 (by decide)
  have kk:((k1+1:Int):Rat)≤(k2:Rat):=Rat.intCast_le_intCast.2 (by omega)
  rw[Rat.intCast_add,Rat.intCast_one] at kk
  have mk:=Rat.mul_le_mul_of_nonneg_right kk c0
  grind
 ·subst hk
  have hMN:M≤N:=Rat.le_of_mul_le_mul_right h p1
  have q:=PL_odd (z_mono (by grind) hMN) K
  grind
 ·exfalso
  have s:=zp_step hk
  have a:=Rat.mul_le_mul_of_nonneg_left s (show (0:Rat)≤M by grind)
  have b:=Rat.mul_le_mul_of_nonneg_right hM (Rat.le_of_lt p2)
  have c:=Rat.mul_lt_mul_of_pos_right hN2 p2
  grind
theorem grid_le {a b:Int}{F G:Rat}{s:Nat}(hs:s≤400)(h1:(a:Rat)≤F*((2^s:Int):Rat))(h2:G*((2^s:Int):Rat)≤(b:Rat))(h:F≤G+dv 1 (-420)):a≤b:=by
 have T0:(0:Rat)<((2^s:Int):Rat):=Rat.intCast_pos.2 (two_pos s)
 have m:=Rat.mul_le_mul_of_nonneg_right h (Rat.le_of_lt T0)
 have e:dv 1 (-420)*((2^s:Int):Rat)<1:=by
  have l:=dv1_le (a:=-420) (b:=-(s:Int)-1) (by omega)
  have m2:=Rat.mul_le_mul_of_nonneg_right l (Rat.le_of_lt T0)
  have d:dv 1 (-(s:Int)-1)*((2^s:Int):Rat)=1 / 2:=by
   have e1:dv 1 (-(s:Int))=2*dv 1 (-(s:Int)-1):=by
    have:=dv_shl 1 (-(s:Int)-1) 1
    rw[show -(s:Int)-1+((1:Nat):Int)=-(s:Int) by omega] at this
    rw[← this]
    unfold dv
    rw[Rat.intCast_mul]
    show (1*2:Rat)*_=2*(1*_)
    grind
   have e2:=dv_sc 1 s
   rw[e1,Rat.intCast_one] at e2
   generalize dv 1 (-(s:Int)-1)=u at *
   generalize ((2^s:Int):Rat)=T at *
   grind
  rw[d] at m2
  generalize dv 1 (-420)*((2^s:Int):Rat)=u at *
  grind
 generalize ((2^s:Int):Rat)=T at *
 refine Decidable.byContradiction fun hn=>?_
 have:((b+1:Int):Rat)≤(a:Rat):=Rat.intCast_le_intCast.2 (by omega)
 rw[Rat.intCast_add,Rat.intCast_one] at this
 grind
theorem ln_grid {M N:Rat}{k1 k2 a b c d:Int}{s:Nat}(hs:s≤400)(hM:3≤4*M)(hM2:2*M<3)(hN:3≤4*N)(hN2:2*N<3)(h:M*2^k1≤N*2^k2)(h1:Encl (LnF M k1) s a b)(h2:Encl (LnF N k2) s c d):a≤d:=by
 obtain⟨A,h1⟩:=h1
 obtain⟨C,h2⟩:=h2
 exact grid_le hs (h1 (A+C) (by omega)).1 (h2 (A+C) (by omega)).2 (ln_mono hM hM2 hN hN2 h (A+C))
end Go.Proofs.YtkkbddkpggjgpaaGreatDoor

namespace Go.Proofs.YtkkbddkpggjgpaaGreatDoor
def spl (m e:Int):Int:=topD m e-(if cmpD m (e-topD m e) 3 (-2)<0 then 1 else 0)
theorem sp_y {m e:Int}(h:cmpD m (e-topD m e) 3 (-2)<0):topD m e-1=spl m e∧e-topD m e+1=e-spl m e:=by
 unfold spl;rw[if_pos h];omega
theorem sp_n {m e:Int}(h:0≤cmpD m (e-topD m e) 3 (-2)):topD m e=spl m e∧e-topD m e=e-spl m e:=by
 unfold spl;rw[if_neg (by omega)];omega
theorem dv_exp (m e k:Int):dv m e=dv m (e-k)*2^k:=by
 unfold dv
 rw[Rat.mul_assoc,← zp_add,show e-k+k=e by omega]
theorem dv_three:dv 3 (-2)=3 / 4:=by
 have h:dv 3 (-2)*2^(2:Int)=3:=by
  rw[show dv 3 (-2)*2^(2:Int)=dv 3 0 from (dv_exp 3 0 2).symm,dv_int];rfl
 rw[show (2:Rat)^(2:Int)=4 from rfl] at h
 grind
theorem dv_half (m e:Int):dv m e=2*dv m (e-1):=by
 have:=dv_exp m e 1
 rw[show (2:Rat)^(1:Int)=2 from rfl] at this
 grind
theorem sp_top {m e:Int}(h:0<m):1≤2*dv m (e-topD m e)∧dv m (e-topD m e)<1:=by
 have t:=dv_top (m:=m) (e:=e) (by omega)
 rw[show (m.natAbs:Int)=m by omega] at t
 have p:=zp_pos (topD m e)
 have e1:=dv_exp m e (topD m e)
 have e2:=dv_half 1 (topD m e)
 have e3:dv 1 (topD m e)=2^topD m e:=by unfold dv;rw[Rat.intCast_one,Rat.one_mul]
 rw[e3] at e2 t
 rw[e1] at t
 constructor
 ·refine Rat.le_of_mul_le_mul_right (c:=(2:Rat)^topD m e) ?_ p
  grind
 ·exact (Rat.mul_lt_mul_right p).1 (by rw[Rat.one_mul];exact t.1)
theorem sp_facts {m e:Int}(h:0<m):3≤4*dv m (e-spl m e)∧2*dv m (e-spl m e)<3∧dv m e=dv m (e-spl m e)*2^spl m e∧e≤spl m e∧spl m e≤32*(L m.natAbs:Int)+e:=by
 have t:=sp_top (e:=e) h
 have r:=topD_range m e
 have e1:=dv_exp m e (spl m e)
 have three:=dv_three
 by_cases c:cmpD m (e-topD m e) 3 (-2)<0
 ·have s:=sp_y c
  have l:=cmpD_neg.1 c
  have d:=dv_half m (e-spl m e)
  rw[show e-spl m e-1=e-topD m e by omega] at d
  refine⟨by grind,by grind,e1,by omega,by omega⟩
 ·have s:=sp_n (m:=m) (e:=e) (by omega)
  have l:3 / 4≤dv m (e-topD m e):=by
   rw[← three]
   exact Rat.not_lt.1 fun q=>c (cmpD_neg.2 q)
  rw[← s.2]
  refine⟨by grind,by grind,by rw[s.2];exact e1,by omega,by omega⟩
theorem spl_r1 {m z k k' e e' c:Int}(hs:z=m)(h:k=k'∧e=e'):vsub (.tup [.int .i64 k,.agg [.bool (decide (z<0)),N z.natAbs,.int .i64 e],.int .i64 c]) (.tup [.int .i64 k',.agg [.bool (decide (m<0)),N m.natAbs,.int .i64 e'],.int .i64 c]):=by
 obtain⟨rfl,rfl⟩:=h
 subst hs
 exact vsub_refl _
end Go.Proofs.YtkkbddkpggjgpaaGreatDoor

namespace Go.Proofs.YtkkbddkpggjgpaaGreatDoor
open Go.RowKit
set_option maxRecDepth 100000
theorem lg_Split (m e:Int)(c0:L (m).natAbs≤4000)(c1:-65536≤e∧e≤65536)(c2:0<m):Impl Tryz.prog Amb 69 [(yV m e)] (.tup [(.int .i64 (spl m e)),(yV m (e-(spl m e))),(.int .i64 0)]):=by
 have sm:=L_sgn false m.natAbs
 have sf:sgn false m.natAbs=m:=(sgn_f _).trans (Int.natAbs_of_nonneg oO)
 have tr:=topD_range m e
 have l3:=L_lit 3 (by decide)
 have ce:cmpD (sgn false m.natAbs) (e-topD m e) 3 (-2)=cmpD m (e-topD m e) 3 (-2):=by rw[sf]
 exact impl_ob hP hAmb Tryz.func69 (by kernel_rfl) (.lits 2<|.call (.int .i64 ((m).sign))<|.lit<|.no<|.lits 2<|.call (.int .i64 (topD m e))<|.lits 2<|.call (zV (sgn false m.natAbs))<|.lits 2<|.yes<|.lits 2<|.call (zV (3:Int))<|.lits 5<|.call (.int .i64 (cmpD (sgn false m.natAbs) (e-(topD m e)) (3:Int) (-2)))<|.lit<|.both (.lit<|.yes<|.lits 3<|.yes<|.lits 3<|.ret) (.lits 3<|.ret))
  (cast_ob (aI True.intro (aI (dy_Sign m e oO) (have f7:=sign_range m;aI (iLe_mkF oO:(iLe ((m).sign) 0)=false) (aI (dy_Top m e oO oO) (have f6:=topD_range m e;aI (int_Nat false m.natAbs oO) (have f5:=L_sgn false m.natAbs;aI (fits_i64 oO:(fits .i64 (e-(topD m e)))=true) (aI (int_Of 3 oO) (have f4:=(L_i64 oO:L (3:Int).natAbs≤2);aI (dy_Cmp (sgn false m.natAbs) (e-(topD m e)) (3:Int) (-2) oO oO oO oO) (have f3:=cmpD_range (sgn false m.natAbs) (e-(topD m e)) (3:Int) (-2);aI (fun (h1:(iLt (cmpD (sgn false m.natAbs) (e-(topD m e)) (3:Int) (-2)) 0)=true)=>have _gh1:=iLt_t h1;aI (fits_i64 oO:(fits .i64 ((topD m e)-1))=true) (aI (fits_i64 oO:(fits .i64 ((e-(topD m e))+1))=true) ((spl_r1 sf (sp_y oO):vsub (.tup [(.int .i64 ((topD m e)-1)),(yV (sgn false m.natAbs) ((e-(topD m e))+1)),(.int .i64 0)]) (.tup [(.int .i64 (spl m e)),(yV m (e-(spl m e))),(.int .i64 0)]))))) (fun (h2:(iLt (cmpD (sgn false m.natAbs) (e-(topD m e)) (3:Int) (-2)) 0)=false)=>have _gh2:=iLt_f h2;(spl_r1 sf (sp_n oO):vsub (.tup [(.int .i64 (topD m e)),(yV (sgn false m.natAbs) (e-(topD m e))),(.int .i64 0)]) (.tup [(.int .i64 (spl m e)),(yV m (e-(spl m e))),(.int .i64 0)])))))))))))) (by kernel_rfl))
def fx_Settle2_0_mk (fk:Nat)(u1:V)(u2:V)(_ _ w:Int)(x:Int):St:=⟨mkS 27 [(0,(.val (.int .i64 w))),(1,(.val (.clos fk [u1,u2]))),(4,(.own 0 0)),(5,(.val (.int .i64 24)))],[⟨true,false,[(V.bool false),V.nil,(V.bool false),V.nil]⟩]⟩
def fx_Settle2_0_I (_:Nat)(_:V)(_:V)(_ _ _:Int)(x:Int):Prop:=x=x
def fx_Settle2_0_mu (_:Nat)(_:V)(_:V)(_ _ _:Int)(x:Int):Nat:=0
def fx_Settle2_0_ex (_:Nat)(_:V)(_:V)(ka kb _:Int)(y:Int):Ex × St:=(.ret,⟨mkS 27 [(4,(.own 0 0))],[⟨true,false,[(V.bool (decide ((ka / 2^24)<0))),(N ((ka / 2^24).natAbs)),(V.bool (decide ((-(-kb / 2^24))<0))),(N ((-(-kb / 2^24)).natAbs))]⟩]⟩)
def fx_Settle2_0_J (_:Nat)(_:V)(_:V)(_ _ _:Int)(y:Int):Prop:=y=y
theorem fx_Settle2_0 (fk:Nat)(u1:V)(u2:V)(ka kb w:Int)(c0:Impl Tryz.prog Amb fk [(.int .i64 (w+24)),u1,u2] (sV ka kb))(c1:L ka.natAbs≤8192∧L kb.natAbs≤8192)(c2:nbits (kb-ka).natAbs≤24)(c3:(0:Int)≤w∧w≤5000)(x0:Int)(hI:fx_Settle2_0_I fk u1 u2 ka kb w x0):LoopOk Tryz.prog Amb (loopN Tryz.f78 0) (fx_Settle2_0_mk fk u1 u2 ka kb w x0) (fun e st_=>∃ y,fx_Settle2_0_J fk u1 u2 ka kb w y∧fx_Settle2_0_ex fk u1 u2 ka kb w y=(e,st_)) :=
 loop_ob hP hAmb ⟨[0,1,4,5],1,[]⟩ (fx_Settle2_0_mk fk u1 u2 ka kb w) (fx_Settle2_0_I fk u1 u2 ka kb w) (fx_Settle2_0_mu fk u1 u2 ka kb w) (fx_Settle2_0_ex fk u1 u2 ka kb w) (fx_Settle2_0_J fk u1 u2 ka kb w) x0 hI (fun j=>.lit<|.yes<|.lit<|.call (sV ka kb)<|.lits 3<|.call (zV (kb-ka))<|.lits 2<|.call (.int .i64 (nbits ((kb-ka).natAbs):Int))<|.lit<|.yes<|.lits 5<|.call (sV (ka / 2^24) (-(-kb / 2^24)))<|.lit<|.fin3 ⟨[4],[0]⟩) (by
  rintro j hI
  have hI:j=j:=hI
  have h1:=hI
  exact cast_ob (aI True.intro (aI (fits_i64 oS:(fits .i64 (w+24))=true) (aI (c0 ) (aI (fx_Width ka kb oS oS) (have f106:=L_abs_sub kb ka;aI (nat_Bits ((kb-ka).natAbs) oS) (have f105:=nbits_L ((kb-ka).natAbs);aI (iLe_mk oO:(iLe (nbits ((kb-ka).natAbs):Int) 24)=true) (aI (fx_Half ka kb 24 oS oS oS) (have f104:=L_abs_neg (-kb / 2^24);have f103:=L_abs_shr (-kb) 24;have f102:=L_abs_neg kb;have f101:=L_abs_shr ka 24;aI tT ((nx_ret ((fx_Settle2_0_ex fk u1 u2 ka kb w j).2) j (show j=j from rfl) rfl:NX (fx_Settle2_0_mk fk u1 u2 ka kb w) (fx_Settle2_0_I fk u1 u2 ka kb w) (fx_Settle2_0_mu fk u1 u2 ka kb w) (fx_Settle2_0_ex fk u1 u2 ka kb w) (fx_Settle2_0_J fk u1 u2 ka kb w) j .ret ((fx_Settle2_0_ex fk u1 u2 ka kb w j).2))))))))))) (by kernel_rfl))
theorem fx_Settle2 (fk:Nat)(u1:V)(u2:V)(ka kb w:Int)(c0:Impl Tryz.prog Amb fk [(.int .i64 (w+24)),u1,u2] (sV ka kb))(c1:L ka.natAbs≤8192∧L kb.natAbs≤8192)(c2:nbits (kb-ka).natAbs≤24)(c3:(0:Int)≤w∧w≤5000):Impl Tryz.prog Amb 78 [(.int .i64 w),(.clos fk [u1,u2])] (sV (ka / 2^24) (-(-kb / 2^24))):=by
 exact impl_ob hP hAmb Tryz.func78 (by kernel_rfl) (.loop ⟨[0,1,4,5],1,[]⟩ ((fx_Settle2_0_mk fk u1 u2 ka kb w (0:Int))) (Int) (fx_Settle2_0_ex fk u1 u2 ka kb w) (fx_Settle2_0_J fk u1 u2 ka kb w) (fun y=>.lit<|.ret))
  (cast_ob (aI True.intro (aI tT (aI (rfl:(fx_Settle2_0_mk fk u1 u2 ka kb w (0:Int))=(fx_Settle2_0_mk fk u1 u2 ka kb w (0:Int))) (aI (fx_Settle2_0 fk u1 u2 ka kb w c0 c1 c2 c3 (0:Int) (show (0:Int)=(0:Int) from rfl)) (fun y (hJ:fx_Settle2_0_J fk u1 u2 ka kb w y)=>have hJ:y=y:=hJ;(vsub_refl (sV (ka / 2^24) (-(-kb / 2^24))))))))) (by kernel_rfl))
end Go.Proofs.YtkkbddkpggjgpaaGreatDoor




namespace Go.Proofs.YtkkbddkpggjgpaaGreatDoor
def Sm (f:Nat→Rat):Nat→Rat
 | 0=>0
 | n+1=>Sm f n+f n
theorem Sm_congr {f g:Nat→Rat}:∀ {n:Nat},(∀ i,i<n→f i=g i)→Sm f n=Sm g n
 | 0,_=>rfl
 | n+1,h=>by
  show Sm f n+f n=Sm g n+g n
  rw[Sm_congr (n:=n) (fun i hi=>h i (by omega)),h n (by omega)]
theorem Sm_add (f g:Nat→Rat):∀ n,Sm (fun i=>f i+g i) n=Sm f n+Sm g n
 | 0=>by show (0:Rat)=0+0;grind
 | n+1=>by
  show Sm (fun i=>f i+g i) n+(f n+g n)=Sm f n+f n+(Sm g n+g n)
  rw[Sm_add f g n];grind
theorem Sm_mul (f:Nat→Rat)(c:Rat):∀ n,Sm f n*c=Sm (fun i=>f i*c) n
 | 0=>by show (0:Rat)*c=0;grind
 | n+1=>by
  show (Sm f n+f n)*c=Sm (fun i=>f i*c) n+f n*c
  rw[← Sm_mul f c n];grind
theorem Sm_shift (f:Nat→Rat):∀ n,Sm f (n+1)=f 0+Sm (fun i=>f (i+1)) n
 | 0=>by show (0:Rat)+f 0=f 0+0;grind
 | n+1=>by
  show Sm f (n+1)+f (n+1)=f 0+(Sm (fun i=>f (i+1)) n+f (n+1))
  rw[Sm_shift f n];grind
theorem Sm_le {f g:Nat→Rat}:∀ {n:Nat},(∀ i,i<n→f i≤g i)→Sm f n≤Sm g n
 | 0,_=>Rat.le_refl
 | n+1,h=>by
  have a:=Sm_le (n:=n) (fun i hi=>h i (by omega))
  have b:=h n (by omega)
  show Sm f n+f n≤Sm g n+g n
  grind
theorem Sm_nonneg {f:Nat→Rat}(h:∀ i,0≤f i):∀ n,0≤Sm f n
 | 0=>Rat.le_refl
 | n+1=>Rat.add_nonneg (Sm_nonneg h n) (h n)
theorem Sm_mono {f:Nat→Rat}(h:∀ i,0≤f i){n m:Nat}(hn:n≤m):Sm f n≤Sm f m:=by
 obtain⟨k,rfl⟩:∃ k,m=n+k:=⟨m-n,by omega⟩
 induction k with
 | zero=>exact Rat.le_refl
 | succ k ih =>
  have a:=ih (by omega)
  have b:=h (n+k)
  show Sm f n≤Sm f (n+k)+f (n+k)
  grind
theorem Sm_tri (f:Nat→Nat→Rat):∀ K,Sm (fun n=>Sm (fun i=>f i (n-i)) (n+1)) K=Sm (fun i=>Sm (f i) (K-i)) K
 | 0=>rfl
 | K+1=>by
  have h:=Sm_tri f K
  have e:Sm (fun i=>Sm (f i) (K+1-i)) (K+1)=Sm (fun i=>Sm (f i) (K-i)+f i (K-i)) (K+1):=Sm_congr fun i hi=>by
   rw[show K+1-i=(K-i)+1 by omega];rfl
  rw[e,Sm_add]
  show Sm (fun n=>Sm (fun i=>f i (n-i)) (n+1)) K+Sm (fun i=>f i (K-i)) (K+1)=Sm (fun i=>Sm (f i) (K-i)) K+Sm (f K) (K-K)+Sm (fun i=>f i (K-i)) (K+1)
  rw[h,Nat.sub_self]
  show _=_+0+_
  grind
theorem Sm_prod (f g:Nat→Rat)(K:Nat):∀ n,Sm f n*Sm g K=Sm (fun i=>Sm (fun j=>f i*g j) K) n
 | 0=>by show (0:Rat)*_=0;grind
 | n+1=>by
  have h:=Sm_prod f g K n
  have e:f n*Sm g K=Sm (fun j=>f n*g j) K:=by
   rw[Rat.mul_comm,Sm_mul]
   exact Sm_congr fun i _=>Rat.mul_comm _ _
  show (Sm f n+f n)*Sm g K=Sm (fun i=>Sm (fun j=>f i*g j) K) n+Sm (fun j=>f n*g j) K
  rw[← h,← e];grind
def nx (n:Nat):Int:=(n:Int)+1
theorem nx_pos (n:Nat):(0:Rat)<(nx n:Rat):=Rat.intCast_pos.2 (by unfold nx;omega)
def tE (x:Rat):Nat→Rat
 | 0=>1
 | n+1=>tE x n*x / (nx n:Rat)
theorem tE_mul (x:Rat)(n:Nat):tE x n*x=(nx n:Rat)*tE x (n+1):=by
 show tE x n*x=(nx n:Rat)*(tE x n*x / (nx n:Rat))
 have:=nx_pos n
 rw[Rat.mul_comm (nx n:Rat),Rat.div_mul_cancel (by grind)]
theorem tE_nonneg {x:Rat}(h:0≤x):∀ n,0≤tE x n
 | 0=>by show (0:Rat)≤1;decide
 | n+1=>by
  show 0≤tE x n*x / (nx n:Rat)
  rw[Rat.div_def]
  exact Rat.mul_nonneg (Rat.mul_nonneg (tE_nonneg h n) h) (Rat.le_of_lt (Rat.inv_pos.2 (nx_pos n)))
def EP (x:Rat)(K:Nat):Rat:=Sm (tE x) K
theorem tE_add (x y:Rat):∀ n,tE (x+y) n=Sm (fun i=>tE x i*tE y (n-i)) (n+1)
 | 0=>by show (1:Rat)=0+1*1;grind
 | n+1=>by
  have h:=tE_add x y n
  have np:=nx_pos n
  have key:Sm (fun i=>tE x i*tE y (n-i)) (n+1)*(x+y)=(nx n:Rat)*Sm (fun i=>tE x i*tE y (n+1-i)) (n+2):=by
   have ex:Sm (fun i=>tE x i*tE y (n-i)) (n+1)*x=Sm (fun i=>(i:Rat)*(tE x i*tE y (n+1-i))) (n+2):=by
    rw[Sm_mul,Sm_shift (fun i=>(i:Rat)*(tE x i*tE y (n+1-i))) (n+1)]
    have z:(((0:Nat):Nat):Rat)*(tE x 0*tE y (n+1-0))=0:=by
     rw[show ((0:Nat):Rat)=0 from rfl];grind
    rw[z,Rat.zero_add]
    refine Sm_congr fun i hi=>?_
    rw[show n+1-(i+1)=n-i by omega]
    have t:=tE_mul x i
    have c:((i+1:Nat):Rat)=(nx i:Rat):=rfl
    show tE x i*tE y (n-i)*x=((i+1:Nat):Rat)*(tE x (i+1)*tE y (n-i))
    rw[c]
    grind
   have ey:Sm (fun i=>tE x i*tE y (n-i)) (n+1)*y=Sm (fun i=>((nx n:Rat)-(i:Rat))*(tE x i*tE y (n+1-i))) (n+2):=by
    rw[Sm_mul]
    show _=Sm (fun i=>((nx n:Rat)-(i:Rat))*(tE x i*tE y (n+1-i))) (n+1)+((nx n:Rat)-((n+1:Nat):Rat))*(tE x (n+1)*tE y (n+1-(n+1)))
    have c:((n+1:Nat):Rat)=(nx n:Rat):=rfl
    rw[c]
    have z:((nx n:Rat)-(nx n:Rat))*(tE x (n+1)*tE y (n+1-(n+1)))=0:=by grind
    rw[z,Rat.add_zero]
    refine Sm_congr fun i hi=>?_
    have t:=tE_mul y (n-i)
    rw[show n+1-i=(n-i)+1 by omega]
    have d:(nx (n-i):Rat)=(nx n:Rat)-(i:Rat):=by
     have e:nx (n-i)=nx n-(i:Int):=by unfold nx;omega
     rw[e,Rat.intCast_sub];rfl
    rw[← d]
    grind
   rw[show Sm (fun i=>tE x i*tE y (n-i)) (n+1)*(x+y)=Sm (fun i=>tE x i*tE y (n-i)) (n+1)*x+Sm (fun i=>tE x i*tE y (n-i)) (n+1)*y by grind,ex,ey,← Sm_add,Rat.mul_comm (nx n:Rat),Sm_mul]
   exact Sm_congr fun i _=>by grind
  show tE (x+y) n*(x+y) / (nx n:Rat)=_
  rw[h,key,Rat.mul_comm,Rat.mul_div_cancel (by grind)]
theorem EP_conv (x y:Rat)(K:Nat):EP (x+y) K=Sm (fun i=>Sm (fun j=>tE x i*tE y j) (K-i)) K:=by
 unfold EP
 rw[← Sm_tri (fun i j=>tE x i*tE y j) K]
 exact Sm_congr fun n _=>tE_add x y n
theorem EP_mul {x y:Rat}(hx:0≤x)(hy:0≤y)(K:Nat):EP (x+y) K≤EP x K*EP y K∧EP x K*EP y K≤EP (x+y) (2*K):=by
 have nn:∀ i j,0≤tE x i*tE y j:=fun i j=>Rat.mul_nonneg (tE_nonneg hx i) (tE_nonneg hy j)
 have p:EP x K*EP y K=Sm (fun i=>Sm (fun j=>tE x i*tE y j) K) K:=Sm_prod _ _ K K
 rw[p,EP_conv,EP_conv]
 constructor
 ·exact Sm_le fun i _=>Sm_mono (nn i) (by omega)
 ·refine Rat.le_trans (Sm_le (g:=fun i=>Sm (fun j=>tE x i*tE y j) (2*K-i)) fun i hi=>Sm_mono (nn i) (by omega)) (Sm_mono (fun i=>Sm_nonneg (nn i) _) (by omega))
theorem EP_nonneg {x:Rat}(h:0≤x)(K:Nat):0≤EP x K:=Sm_nonneg (tE_nonneg h) K
theorem EP_mono {x:Rat}(h:0≤x){n m:Nat}(hn:n≤m):EP x n≤EP x m:=Sm_mono (tE_nonneg h) hn
end Go.Proofs.YtkkbddkpggjgpaaGreatDoor

namespace Go.Proofs.YtkkbddkpggjgpaaGreatDoor
theorem tE_half {x:Rat}(h0:0≤x){m:Nat}(h:2*x≤(nx m:Rat)):2*tE x (m+1)≤tE x m:=by
 have np:=nx_pos m
 have t:=tE_mul x m
 have p:=tE_nonneg h0 m
 refine Rat.le_of_mul_le_mul_right (c:=(nx m:Rat)) ?_ np
 have e:2*tE x (m+1)*(nx m:Rat)=tE x m*(2*x):=by grind
 rw[e]
 exact Rat.mul_le_mul_of_nonneg_left h p
theorem nx_mono {a b:Nat}(h:a≤b):(nx a:Rat)≤(nx b:Rat):=Rat.intCast_le_intCast.2 (by unfold nx;omega)
theorem EP_tail {x:Rat}(h0:0≤x){n:Nat}(h:2*x≤(nx n:Rat))(K:Nat):EP x K≤EP x (n+1)+tE x n:=by
 have key:∀ k,EP x (n+1+k)+tE x (n+k)≤EP x (n+1)+tE x n:=by
  intro k
  induction k with
  | zero=>exact Rat.le_refl
  | succ k ih =>
   have a:=tE_half h0 (m:=n+k) (Rat.le_trans h (nx_mono (by omega)))
   have e:EP x (n+1+(k+1))=EP x (n+1+k)+tE x (n+k+1):=by
    show Sm (tE x) (n+1+k)+tE x (n+1+k)=_
    rw[show n+1+k=n+k+1 by omega];rfl
   rw[e]
   show EP x (n+1+k)+tE x (n+k+1)+tE x (n+k+1)≤_
   grind
 have a:=key K
 have b:=EP_mono h0 (show K≤n+1+K by omega)
 have c:=tE_nonneg h0 (n+K)
 grind
theorem one_pow_le {q:Rat}(h:1≤q):∀ n:Nat,1≤q^n
 | 0=>by rw[Rat.pow_zero];exact Rat.le_refl
 | n+1=>by
  have a:=one_pow_le h n
  have m:=Rat.mul_le_mul_of_nonneg_left h (show (0:Rat)≤q^n by grind)
  rw[Rat.pow_succ];grind
theorem bern {y:Rat}(h:0≤y):∀ n:Nat,(1+y)^n*(1-(n:Rat)*y)≤1
 | 0=>by rw[Rat.pow_zero,show ((0:Nat):Rat)=0 from rfl];grind
 | n+1=>by
  have a:=bern h n
  have p:0≤(1+y)^n:=by have:=one_pow_le (q:=1+y) (by grind) n;grind
  have c:((n+1:Nat):Rat)=(n:Rat)+1:=by rw[Rat.natCast_add];rfl
  have n0:(0:Rat)≤(n:Rat):=Rat.natCast_nonneg
  have q:(1+y)*(1-((n:Rat)+1)*y)≤1-(n:Rat)*y:=by
   have:=Rat.mul_nonneg (Rat.mul_nonneg h h) (show (0:Rat)≤(n:Rat)+1 by grind)
   grind
  have m:=Rat.mul_le_mul_of_nonneg_left q p
  rw[Rat.pow_succ,c]
  grind
theorem inv_bern {y:Rat}{n:Nat}(h:0≤y)(h2:2*((n:Rat)*y)≤1):(1+y)^n≤1+2*((n:Rat)*y):=by
 have b:=bern h n
 have n0:(0:Rat)≤(n:Rat)*y:=Rat.mul_nonneg Rat.natCast_nonneg h
 have p:0<1-(n:Rat)*y:=by grind
 refine Rat.le_of_mul_le_mul_right (c:=1-(n:Rat)*y) ?_ p
 have m:=Rat.mul_le_mul_of_nonneg_left (c:=(n:Rat)*y) (show 2*((n:Rat)*y)≤1 from h2) n0
 grind
end Go.Proofs.YtkkbddkpggjgpaaGreatDoor








namespace Go.Proofs.YtkkbddkpggjgpaaGreatDoor
open Go.RowKit
set_option maxRecDepth 100000
def ivM (b:Bool)(l:List Nat)(e:Int)(c:Bool)(r:List Nat)(f n k:Int):Int:=(swM (mkM (rawI b l n) (e%(2*k+1)-k)) (mkX (rawI b l n) (e%(2*k+1)-k)) (mkM (rawI c r n) (f%(2*k+1)-k)) (mkX (rawI c r n) (f%(2*k+1)-k)))
def ivX (b:Bool)(l:List Nat)(e:Int)(c:Bool)(r:List Nat)(f n k:Int):Int:=(swX (mkM (rawI b l n) (e%(2*k+1)-k)) (mkX (rawI b l n) (e%(2*k+1)-k)) (mkM (rawI c r n) (f%(2*k+1)-k)) (mkX (rawI c r n) (f%(2*k+1)-k)))
def ivN (b:Bool)(l:List Nat)(e:Int)(c:Bool)(r:List Nat)(f n k:Int):Int:=(swN (mkM (rawI b l n) (e%(2*k+1)-k)) (mkX (rawI b l n) (e%(2*k+1)-k)) (mkM (rawI c r n) (f%(2*k+1)-k)) (mkX (rawI c r n) (f%(2*k+1)-k)))
def ivF (b:Bool)(l:List Nat)(e:Int)(c:Bool)(r:List Nat)(f n k:Int):Int:=(swF (mkM (rawI b l n) (e%(2*k+1)-k)) (mkX (rawI b l n) (e%(2*k+1)-k)) (mkM (rawI c r n) (f%(2*k+1)-k)) (mkX (rawI c r n) (f%(2*k+1)-k)))
theorem iv_fit {b:Bool}{l:List Nat}{e:Int}{c:Bool}{r:List Nat}{f n k:Int}(hl:Dig l)(hr:Dig r)(hn:0≤n∧n≤800)(hk:0≤k∧k≤20000):((L (ivM b l e c r f n k).natAbs≤n∧-k≤(ivX b l e c r f n k)∧(ivX b l e c r f n k)≤k+32*n)∧(L (ivN b l e c r f n k).natAbs≤n∧-k≤(ivF b l e c r f n k)∧(ivF b l e c r f n k)≤k+32*n))∧vdb (ivM b l e c r f n k) (ivX b l e c r f n k)=true∧vdb (ivN b l e c r f n k) (ivF b l e c r f n k)=true∧dv (ivM b l e c r f n k) (ivX b l e c r f n k)≤dv (ivN b l e c r f n k) (ivF b l e c r f n k):=by
 have h:=rawI_fit (b:=b) (c:=c) (e:=e) (f:=f) hl hr hn hk rfl rfl rfl rfl
 exact⟨⟨h.1,h.2.1⟩,h.2.2⟩
theorem mill_Iv (b:Bool)(l:List Nat)(e:Int)(c:Bool)(r:List Nat)(f n k:Int)(c0:Dig l)(c1:l.length≤9223372036854775807)(c2:Dig r)(c3:r.length≤9223372036854775807)(c4:(-9223372036854775808:Int)≤e∧e≤9223372036854775807)(c5:(-9223372036854775808:Int)≤f∧f≤9223372036854775807)(c6:(0:Int)≤n∧n≤800)(c7:(0:Int)≤k∧k≤20000):Impl Tryz.prog Amb 12 [(.agg [(.bool b),(.sl 1 (U l)),(.int .i64 e),(.bool c),(.sl 1 (U r)),(.int .i64 f)]),(.int .i64 n),(.int .i64 k)] (.tup [(wV (ivM b l e c r f n k) (ivX b l e c r f n k) (ivN b l e c r f n k) (ivF b l e c r f n k)),(.bool (decide ((l.length:Int)≤n∧(r.length:Int)≤n)))]) :=
 mill_Interval b l e c r f n k c0 c1 c2 c3 c4 c5 c6 c7
theorem r10_Has (m e n f:Int)(r:Rat)(c0:L (m).natAbs≤9000)(c1:L (n).natAbs≤9000)(c2:(-65536:Int)≤e∧e≤65536)(c3:(-65536:Int)≤f∧f≤65536)(c4:vdb m e=true)(c5:vdb n f=true)(c6:L r.num.natAbs≤6000)(c7:L r.den≤6000):Impl Tryz.prog Amb 41 [(wV m e n f),(.agg [(.bool (decide (r.num<0))),(N r.num.natAbs),(N r.den)])] (.bool (decide (cmpQ (dv m e) r≤0∧cmpQ r (dv n f)≤0))):=by
 exact impl_ob hP hAmb Tryz.func41 (by kernel_rfl) (.lits 2<|.call (.agg [(.bool (decide ((dv m e).num<0))),(N (((dv m e).num).natAbs)),(N ((dv m e).den))])<|.lits 2<|.call (.int .i64 (cmpQ (dv m e) r))<|.lit<|.both (.lits 6<|.call (.agg [(.bool (decide ((dv n f).num<0))),(N (((dv n f).num).natAbs)),(N ((dv n f).den))])<|.lits 2<|.call (.int .i64 (cmpQ r (dv n f)))<|.lits 4<|.ret) (.lits 7<|.ret))
  (cast_ob (aI True.intro (aI (r08_Rat m e oA oA oA) (have f6:=(dv_L ‹vdb m e=true› oA:L (dv m e).num.natAbs≤L (m).natAbs+2050∧L (dv m e).den≤2050);aI (r07_Cmp (dv m e) r oA oA oA oA) (have f5:=cmpQ_range (dv m e) r;aI (fun (h1:(iLe (cmpQ (dv m e) r) 0)=true)=>have _gh1:=iLe_t h1;aI (r08_Rat n f oA oA oA) (have f3:=(dv_L ‹vdb n f=true› oA:L (dv n f).num.natAbs≤L (n).natAbs+2050∧L (dv n f).den≤2050);aI (r07_Cmp r (dv n f) oA oA oA oA) (have f2:=cmpQ_range r (dv n f);(vsub_of (congrArg V.bool (has_1 oO)):vsub (.bool (iLe (cmpQ r (dv n f)) 0)) (.bool (decide (cmpQ (dv m e) r≤0∧cmpQ r (dv n f)≤0))))))) (fun (h4:(iLe (cmpQ (dv m e) r) 0)=false)=>have _gh4:=iLe_f h4;(vsub_of (congrArg V.bool ((decide_eq_false oO).symm)):vsub (.bool false) (.bool (decide (cmpQ (dv m e) r≤0∧cmpQ r (dv n f)≤0))))))))) (by kernel_rfl))
end Go.Proofs.YtkkbddkpggjgpaaGreatDoor


namespace Go.Proofs.YtkkbddkpggjgpaaGreatDoor
theorem vdb_nabs {m e:Int}(h:vdb m e=true):vdb (m.natAbs:Int) e=true:=by rw[vdb_iff] at h ⊢;rw[Int.natAbs_natCast];omega
theorem sw_all {a e b f:Int}(va:vdb a e=true)(vb:vdb b f=true)(c:Nat)(la:L a.natAbs≤c)(lb:L b.natAbs≤c)(lo hi:Int)(ha:lo≤e∧e≤hi)(hb:lo≤f∧f≤hi)(na:0≤a)(nb:0≤b) :
  (vdb (swM a e b f) (swX a e b f)=true∧vdb (swN a e b f) (swF a e b f)=true)∧dv (swM a e b f) (swX a e b f)≤dv (swN a e b f) (swF a e b f)∧(L (swM a e b f).natAbs≤c∧L (swN a e b f).natAbs≤c)∧(lo≤swX a e b f∧swX a e b f≤hi)∧(lo≤swF a e b f∧swF a e b f≤hi)∧0≤swM a e b f∧0≤swN a e b f:=by
 rcases sw_facts a e b f with ⟨h,h1,h2,h3,h4,_⟩ | ⟨h,h1,h2,h3,h4,_⟩
 ·rw[h1,h2,h3,h4]
  exact⟨⟨vb,va⟩,Rat.le_of_lt (cmpD_pos.1 h),⟨lb,la⟩,hb,ha,nb,na⟩
 ·rw[h1,h2,h3,h4]
  exact⟨⟨va,vb⟩,cmpD_le.1 h,⟨la,lb⟩,ha,hb,na,nb⟩
theorem hi_pos {m e n f:Int}(h:dv m e≤dv n f)(hm:0<m):0<n:=by
 have:=(dv_pos (m:=m) (e:=e)).2 hm
 exact (dv_pos (m:=n) (e:=f)).1 (by grind)
theorem argS {x e y f a b:Int}(ha:x=a)(hb:y=b)(h:0<cmpD x e y f):vsub (.tup [.agg [.bool (decide (y<0)),N y.natAbs,.int .i64 f,.bool (decide (x<0)),N x.natAbs,.int .i64 e],.bool (iGt y.sign 0)])
  (.tup [.agg [.bool (decide (swM a e b f<0)),N (swM a e b f).natAbs,.int .i64 (swX a e b f),.bool (decide (swN a e b f<0)),N (swN a e b f).natAbs,.int .i64 (swF a e b f)],.bool (decide (0<swM a e b f))]):=by
 subst ha;subst hb
 have s:=sw_yes h
 rw[← s.1,← s.2.1,← s.2.2.1,← s.2.2.2]
 have g:iGt y.sign 0=decide (0<y):=by unfold iGt;exact decide_eq_decide.2 (by have:=sign_range y;omega)
 rw[g];exact vsub_refl _
theorem argN {x e y f a b:Int}(ha:x=a)(hb:y=b)(h:cmpD x e y f≤0):vsub (.tup [.agg [.bool (decide (x<0)),N x.natAbs,.int .i64 e,.bool (decide (y<0)),N y.natAbs,.int .i64 f],.bool (iGt x.sign 0)])
  (.tup [.agg [.bool (decide (swM a e b f<0)),N (swM a e b f).natAbs,.int .i64 (swX a e b f),.bool (decide (swN a e b f<0)),N (swN a e b f).natAbs,.int .i64 (swF a e b f)],.bool (decide (0<swM a e b f))]):=by
 subst ha;subst hb
 have s:=sw_no h
 rw[← s.1,← s.2.1,← s.2.2.1,← s.2.2.2]
 have g:iGt x.sign 0=decide (0<x):=by unfold iGt;exact decide_eq_decide.2 (by have:=sign_range x;omega)
 rw[g];exact vsub_refl _
end Go.Proofs.YtkkbddkpggjgpaaGreatDoor




namespace Go.Proofs.YtkkbddkpggjgpaaGreatDoor
open Go.RowKit
set_option maxRecDepth 100000
theorem cln_all:(List.range 400).all (fun t=>decide (lnLo (t:Int)*2^(430-t)≤ptLn) && decide (ptLn≤lnHi (t:Int)*2^(430-t)))=true:=by kernel_rfl
theorem cln_at {t:Nat}(ht:t<400):((lnLo (t:Int):Int):Rat)≤cLn*((2^t:Int):Rat)∧cLn*((2^t:Int):Rat)≤((lnHi (t:Int):Int):Rat):=by
 have h:=List.all_eq_true.1 cln_all t (List.mem_range.2 ht)
 simp only [Bool.and_eq_true,decide_eq_true_eq] at h
 exact⟨(cl_sc oO).1 h.1,(cl_sc oO).2 h.2⟩
theorem ln_le (s:Int):lnLo s≤lnHi s:=by
 have a:=(arcT_pos 26 false s)
 have b:=(arcT_pos 4801 false s)
 have c:=(arcT_pos 8749 false s)
 unfold lnLo lnHi
 omega
theorem ln_part {t:Nat}{k s d1 d2 xa xb:Int}{M Z:Rat}{g:Bool}(ht:(t:Int)=s+32)(hs:0≤s∧s≤5900)(hk:-4096≤k∧k≤4096)(hM:0<M+1)(h:LnH (2^t) M Z d1 d2 xa xb)(hz:(M-1) / (M+1)=if g then -Z else Z)(La:L xa.natAbs≤1000)(Lb:L xb.natAbs≤1000)(Lc:L d1.natAbs≤1002)(Ld:L d2.natAbs≤1002)(xp:0≤xa) :
  ∃ z1 z2 y1 y2 v1 v2 r1 r2:Int,Impl Tryz.prog Amb 176 [(sV d1 d2),(sV (xa+(1:Int)*2^t) (xb+(1:Int)*2^t)),(.int .i64 (s+32))] (sV z1 z2)∧Impl Tryz.prog Amb 188 [(sV z1 z2),(.int .i64 (s+32))] (sV y1 y2) ∧
   Impl Tryz.prog Amb 101 [(.int .i64 (s+32))] (sV v1 v2)∧Impl Tryz.prog Amb 163 [(sV v1 v2),(.int .i64 k)] (sV r1 r2)∧(L y1.natAbs≤200∧L y2.natAbs≤200∧L r1.natAbs≤6300∧L r2.natAbs≤6300)∧y1≤y2∧y2-y1≤100000∧r1≤r2∧r2-r1≤68719476736 ∧
   (t<400→Encl (LnF M k) t ((if g then -(y2*2) else y1*2)+r1) ((if g then -(y1*2) else y2*2)+r2)):=by
 have T0:=two_pos t
 have tn:(s+32).toNat=t:=by omega
 have hT:=h.hT
 have x2:=h.x2
 have xb0:0≤xb:=by
  refine Rat.intCast_le_intCast.1 (Rat.le_trans ?_ h.xb1)
  exact Rat.le_trans (Rat.intCast_le_intCast.2 xp) h.xa1
 have n1:xa+(1:Int)*2^t≠0:=by omega
 have n2:xb+(1:Int)*2^t≠0:=by omega
 have l1:=L_pow1 t
 have la:=L_abs_add xa ((1:Int)*2^t)
 have lb:=L_abs_add xb ((1:Int)*2^t)
 have hD:=fx_Div d1 d2 (xa+(1:Int)*2^t) (xb+(1:Int)*2^t) (s+32) oO oO oO oO oO n1 n2
 rw[tn] at hD
 have e1:Int.fdiv (d1*2^t) (xb+(1:Int)*2^t)=d1*2^t / (xb+2^t):=by rw[Int.fdiv_eq_ediv_of_nonneg _ oO,Int.one_mul]
 have e2:-(Int.fdiv (-(d2*2^t)) (xa+(1:Int)*2^t))=-(-(d2*2^t) / (xa+2^t)):=by rw[Int.fdiv_eq_ediv_of_nonneg _ oO,Int.one_mul]
 rw[e1,e2] at hD
 obtain⟨hA,q1,q2,q3⟩:=ln_quo h rfl rfl
 generalize d1*2^t / (xb+2^t)=z1 at *
 generalize -(-(d2*2^t) / (xa+2^t))=z2 at *
 obtain⟨y1,y2,a0,a1,a2,a3,a4,a5⟩:=fx_area z1 z2 (s+32) oO (by rw[tn];exact hA) q3
 rw[tn] at a4 a5
 have b:=ln_ok (s:=s+32) oO
 have bl:=ln_le (s+32)
 have bw:lnHi (s+32)-lnLo (s+32)<16777216:=by
  have:=nbits_lt (lnHi (s+32)-lnLo (s+32)).natAbs
  have p:=Nat.pow_le_pow_right (n:=2) oO b.2.2
  omega
 have m1:=L_abs_mul (lnLo (s+32)) k
 have m2:=L_abs_mul (lnHi (s+32)) k
 have lk:=L_i64 (n:=k) oO
 refine⟨z1,z2,y1,y2,lnLo (s+32),lnHi (s+32),tmLo (lnLo (s+32)) (lnHi (s+32)) k,tmHi (lnLo (s+32)) (lnHi (s+32)) k,hD,a0,fx_Ln2 (s+32) oO,fx_TimesA _ _ k oO oO oO,⟨L_T (t:=t) a1 oO oO,L_T (t:=t) oO a4 oO,?_,?_⟩,a2,a3,?_,tm_w (W:=4096) bl oO bw,fun h4=>?_⟩
 ·unfold tmLo;split<;>omega
 ·unfold tmHi;split<;>omega
 ·unfold tmLo tmHi
  split
  ·have:=Int.mul_le_mul_of_nonneg_right bl (show 0≤-k by omega)
   rw[Int.mul_neg,Int.mul_neg] at this
   omega
  ·exact Int.mul_le_mul_of_nonneg_right bl oO
 ·obtain⟨N0,hK⟩:=a5 Z q1 q2
  have c:=cln_at h4
  rw[ht] at c
  exact ln_add hz hK c.1 c.2
theorem fx_LnE (m e k s:Int)(hs:0≤s∧s≤5900)(hk:-4096≤k∧k≤4096)(hm:L (m).natAbs≤300)(he:-20000≤e∧e≤100)(h1:3≤4*dv m e)(h2:2*dv m e<3) :
  ∃ lo hi:Int,Impl Tryz.prog Amb 137 [(yV m e),(.int .i64 k),(.int .i64 s)] (sV lo hi)∧lo≤hi∧hi-lo<16777216∧L lo.natAbs≤6310∧L hi.natAbs≤6310∧(s+32<400→Encl (LnF (dv m e) k) s.toNat lo hi):=by
 obtain⟨t,ht⟩:∃ t:Nat,(t:Int)=s+32:=⟨(s+32).toNat,by omega⟩
 have tn:(s+32).toNat=t:=by omega
 have ts:t=s.toNat+32:=by omega
 have hO:=fx_Of m e (s+32) oO oO oO
 have lf:=flr_LD m e (s+32)
 have sc1:=flr_sc (dv m e) t
 have sc2:=cei_sc (dv m e) t
 have fc:=flr_cei1 (dv m e) t
 rw[ht] at sc1 sc2 fc
 have T0:(0:Rat)<((2^t:Int):Rat):=Rat.intCast_pos.2 (two_pos t)
 have T1:=two_pos t
 have hT:(256:Int)≤2^t:=by
  have:(2:Int)^t=2^8*2^(t-8):=by rw[← Int.pow_add];congr 1;omega
  have:=two_pos (t-8)
  omega
 generalize hxa:flr (dv m e) (s+32)=xa at *
 generalize hxb:cei (dv m e) (s+32)=xb at *
 clear hxa hxb
 have l1:=L_pow1 t
 have l2:=L_abs_add xa (-((1:Int)*2^t))
 have l3:=L_abs_add xb (-((1:Int)*2^t))
 have l4:=L_abs_neg ((1:Int)*2^t)
 have l5:=L_abs_neg (xa+(-((1:Int)*2^t)))
 have l6:=L_abs_neg (xb+(-((1:Int)*2^t)))
 have xp:0≤xa:=by
  have b3:(3:Rat)*((2^t:Int):Rat)≤4*((xa:Rat)+1):=by
   have:=Rat.mul_le_mul_of_nonneg_right h1 (Rat.le_of_lt T0)
   grind
  have c:((3*2^t:Int):Rat)≤((4*(xa+1):Int):Rat):=by
   rw[Rat.intCast_mul,Rat.intCast_mul,Rat.intCast_add,Rat.intCast_one]
   exact b3
  have:=Rat.intCast_le_intCast.1 c
  omega
 have mp:(0:Rat)<dv m e+1:=by grind
 have dm:=Rat.div_mul_cancel (a:=dv m e-1) (b:=dv m e+1) (by grind)
 by_cases hn:xb≤(1:Int)*2^t
 ·have H:LnH (2^t) (dv m e) (-((dv m e-1) / (dv m e+1))) (-(xb+(-((1:Int)*2^t)))) (-(xa+(-((1:Int)*2^t)))) xa xb:=by
   have hb:(xb:Rat)≤((2^t:Int):Rat):=Rat.intCast_le_intCast.2 oO
   have M1:dv m e≤1:=Rat.le_of_mul_le_mul_right (c:=((2^t:Int):Rat)) (by grind) T0
   have eq:-((dv m e-1) / (dv m e+1))*(dv m e+1)=1-dv m e:=by grind
   refine⟨hT,h1,Rat.le_of_lt h2,sc1.1,sc2.1,by omega,by omega,by omega,?_,by rw[eq];grind,?_,?_⟩
   ·refine Rat.le_of_mul_le_mul_right (c:=dv m e+1) ?_ mp
    rw[eq];grind
   ·rw[eq,Rat.intCast_neg,Rat.intCast_add,Rat.intCast_neg,Int.one_mul];grind
   ·rw[eq,Rat.intCast_neg,Rat.intCast_add,Rat.intCast_neg,Int.one_mul];grind
  obtain⟨z1,z2,y1,y2,v1,v2,r1,r2,p1,p2,p3,p4,p5,p6,p7,p8,p9,p10⟩:=ln_part (g:=true) (k:=k) ht hs hk mp H (by simp only [if_true];grind) oO oO oO oO xp
  have res:=fx_LnN m e k s xa xb z1 z2 y1 y2 v1 v2 r1 r2 hs hO (by rw[tn];exact p1) p2 p3 p4 oO oO oO oO oO oO (by rw[tn];exact hn) (by rw[tn];omega)
  rw[show (2:Int)^1=2 from rfl] at res
  have o1:=L_abs_mul y1 2
  have o2:=L_abs_mul y2 2
  have o3:=L_lit (2:Int).natAbs (by decide)
  have o4:=L_abs_neg (y1*2)
  have o5:=L_abs_neg (y2*2)
  have o6:=L_abs_add (-(y2*2)) r1
  have o7:=L_abs_add (-(y1*2)) r2
  have o8:=L_abs_shr (-(y2*2)+r1) 32
  have o9:=L_abs_neg (-(y1*2)+r2)
  have o10:=L_abs_shr (-(-(y1*2)+r2)) 32
  have o11:=L_abs_neg (-(-(y1*2)+r2) / 2^32)
  have hw:=half_w (a:=-(y2*2)+r1) (b:=-(y1*2)+r2) (W:=100) (n:=32) oO
  refine⟨_,_,res,?_,by omega,by omega,by omega,fun h4=>?_⟩
  ·omega
  ·exact (p10 oO).half ts
 ·have H:LnH (2^t) (dv m e) ((dv m e-1) / (dv m e+1)) (xa+(-((1:Int)*2^t))) (xb+(-((1:Int)*2^t))) xa xb:=by
   have ha:(((2^t:Int)):Rat)≤(xa:Rat):=Rat.intCast_le_intCast.2 oO
   have M1:1≤dv m e:=Rat.le_of_mul_le_mul_right (c:=((2^t:Int):Rat)) (by grind) T0
   refine⟨hT,h1,Rat.le_of_lt h2,sc1.1,sc2.1,by omega,by omega,by omega,?_,by rw[dm];grind,?_,?_⟩
   ·refine Rat.le_of_mul_le_mul_right (c:=dv m e+1) ?_ mp
    rw[dm];grind
   ·rw[dm,Rat.intCast_add,Rat.intCast_neg,Int.one_mul];grind
   ·rw[dm,Rat.intCast_add,Rat.intCast_neg,Int.one_mul];grind
  obtain⟨z1,z2,y1,y2,v1,v2,r1,r2,p1,p2,p3,p4,p5,p6,p7,p8,p9,p10⟩:=ln_part (g:=false) (k:=k) ht hs hk mp H (by simp) oO oO oO oO xp
  have res:=fx_LnP m e k s xa xb z1 z2 y1 y2 v1 v2 r1 r2 hs hO (by rw[tn];exact p1) p2 p3 p4 oO oO oO oO oO oO (by rw[tn];omega) (by rw[tn];omega)
  rw[show (2:Int)^1=2 from rfl] at res
  have o1:=L_abs_mul y1 2
  have o2:=L_abs_mul y2 2
  have o3:=L_lit (2:Int).natAbs (by decide)
  have o6:=L_abs_add (y1*2) r1
  have o7:=L_abs_add (y2*2) r2
  have o8:=L_abs_shr (y1*2+r1) 32
  have o9:=L_abs_neg (y2*2+r2)
  have o10:=L_abs_shr (-(y2*2+r2)) 32
  have o11:=L_abs_neg (-(y2*2+r2) / 2^32)
  have hw:=half_w (a:=y1*2+r1) (b:=y2*2+r2) (W:=100) (n:=32) oO
  refine⟨_,_,res,?_,by omega,by omega,by omega,fun h4=>?_⟩
  ·omega
  ·have q:=(p10 oO)
   simp only [Bool.false_eq_true,if_false] at q
   exact q.half ts
end Go.Proofs.YtkkbddkpggjgpaaGreatDoor


namespace Go.Proofs.YtkkbddkpggjgpaaGreatDoor
open Go.RowKit
set_option maxRecDepth 100000
set_option maxHeartbeats 400000
theorem abs_big {x:Int}{t c:Nat}(h:x.natAbs≤c*2^t)(hc:c≤2^20)(ht:t≤2000):L x.natAbs≤70:=by
 refine L_pow2 (n:=t+21) ?_ oO
 have e:(2:Nat)^(t+21)=2*(2^20*2^t):=by rw[Nat.pow_add];omega
 have p:=Nat.mul_le_mul_right (2^t) hc
 have:=Nat.pow_pos (n:=t) (show 0<2 by omega)
 omega
end Go.Proofs.YtkkbddkpggjgpaaGreatDoor





namespace Go.Proofs.YtkkbddkpggjgpaaGreatDoor
def eps:Rat:=dv 1 (-400)
theorem EPc_num:2-eps≤EP cLn 91∧EP cLn 91+tE cLn 90≤2+eps:=⟨of_decide_eq_true (by kernel_rfl),of_decide_eq_true (by kernel_rfl)⟩
theorem EPc {K:Nat}:(91≤K→2-eps≤EP cLn K)∧EP cLn K≤2+eps:=by
 have c0:0≤cLn:=of_decide_eq_true (by kernel_rfl)
 have c1:2*cLn≤(nx 90:Rat):=of_decide_eq_true (by kernel_rfl)
 have n:=EPc_num
 exact⟨fun h=>Rat.le_trans n.1 (EP_mono c0 h),Rat.le_trans (EP_tail c0 c1 K) n.2⟩
end Go.Proofs.YtkkbddkpggjgpaaGreatDoor



namespace Go.Proofs.YtkkbddkpggjgpaaGreatDoor
def Lq (f g:Nat→Rat):Prop:=∀ e:Rat,0<e→∃ N,∀ K,N≤K→f K≤g K+e
def Lm (f g:Nat→Rat):Prop:=Lq f g∧Lq g f
def Bn (f:Nat→Rat)(B:Rat):Prop:=∃ N,∀ K,N≤K→-B≤f K∧f K≤B
theorem Lq.refl (f:Nat→Rat):Lq f f:=fun e h=>⟨0,fun K _=>by grind⟩
theorem Lm.refl (f:Nat→Rat):Lm f f:=⟨Lq.refl f,Lq.refl f⟩
theorem Lm.symm {f g:Nat→Rat}(h:Lm f g):Lm g f:=⟨h.2,h.1⟩
theorem r8:(0:Rat)<1 / 8∧(0:Rat)<1 / 2∧(0:Rat)<2⁻¹:=⟨of_decide_eq_true (by kernel_rfl),of_decide_eq_true (by kernel_rfl),of_decide_eq_true (by kernel_rfl)⟩
theorem half_pos {e:Rat}(h:0<e):0<e / 2:=by rw[Rat.div_def];exact Rat.mul_pos h r8.2.2
theorem half_two (e:Rat):e / 2+e / 2=e:=by rw[Rat.div_def];grind
theorem Lq.trans {f g h:Nat→Rat}(a:Lq f g)(b:Lq g h):Lq f h:=fun e he=>by
 obtain⟨N,p⟩:=a (e / 2) (half_pos he)
 obtain⟨M,q⟩:=b (e / 2) (half_pos he)
 refine⟨N+M,fun K hK=>?_⟩
 have x:=p K (by omega)
 have y:=q K (by omega)
 have z:=half_two e
 grind
theorem Lm.trans {f g h:Nat→Rat}(a:Lm f g)(b:Lm g h):Lm f h:=⟨a.1.trans b.1,b.2.trans a.2⟩
theorem Lq.of_le {f g:Nat→Rat}{N:Nat}(h:∀ K,N≤K→f K≤g K):Lq f g:=fun e he=>⟨N,fun K hK=>by have:=h K hK;grind⟩
theorem Lm.of_eq {f g:Nat→Rat}{N:Nat}(h:∀ K,N≤K→f K=g K):Lm f g:=⟨.of_le (N:=N) fun K hK=>by rw[h K hK];exact Rat.le_refl,.of_le (N:=N) fun K hK=>by rw[h K hK];exact Rat.le_refl⟩
theorem mul_bd {p x P a:Rat}(h1:-P≤p)(h2:p≤P)(h3:-a≤x)(h4:x≤a):-(P*a)≤p*x∧p*x≤P*a:=by
 have m1:=Rat.mul_nonneg (show 0≤P-p by grind) (show 0≤a+x by grind)
 have m2:=Rat.mul_nonneg (show 0≤P+p by grind) (show 0≤a-x by grind)
 have m3:=Rat.mul_nonneg (show 0≤P+p by grind) (show 0≤a+x by grind)
 have m4:=Rat.mul_nonneg (show 0≤P-p by grind) (show 0≤a-x by grind)
 constructor<;>grind
theorem inv_one {B:Rat}(h:0<B):B⁻¹*B=1:=Rat.inv_mul_cancel _ (by grind)
theorem Bn.pos {f:Nat→Rat}{B:Rat}(h:Bn f B):∃ C,0<C∧Bn f C:=by
 obtain⟨N,h⟩:=h
 have a:=h N (Nat.le_refl _)
 refine⟨B+1,by grind,N,fun K hK=>?_⟩
 have b:=h K hK
 constructor<;>grind
theorem Lq.mul_aux {f f' g g':Nat→Rat}{A B:Rat}(h:Lm f f')(k:Lm g g')(hf:Bn f A)(hg:Bn g' B):Lq (fun K=>f K*g K) (fun K=>f' K*g' K):=fun e he=>by
 obtain⟨A',A0,N1,b1⟩:=hf.pos
 obtain⟨B',B0,N2,b2⟩:=hg.pos
 have iA:=Rat.inv_pos.2 A0
 have iB:=Rat.inv_pos.2 B0
 have eA:=inv_one A0
 have eB:=inv_one B0
 obtain⟨N3,c1⟩:=h.1 _ (Rat.mul_pos (half_pos he) iB)
 obtain⟨N4,c2⟩:=h.2 _ (Rat.mul_pos (half_pos he) iB)
 obtain⟨N5,c3⟩:=k.1 _ (Rat.mul_pos (half_pos he) iA)
 obtain⟨N6,c4⟩:=k.2 _ (Rat.mul_pos (half_pos he) iA)
 refine⟨N1+N2+N3+N4+N5+N6,fun K hK=>?_⟩
 have b1:=b1 K (by omega)
 have b2:=b2 K (by omega)
 have c1:=c1 K (by omega)
 have c2:=c2 K (by omega)
 have c3:=c3 K (by omega)
 have c4:=c4 K (by omega)
 have z:=half_two e
 have m1:=(mul_bd b1.1 b1.2 (x:=g K-g' K) (a:=e / 2*A'⁻¹) (by grind) (by grind)).2
 have m2:=(mul_bd b2.1 b2.2 (x:=f K-f' K) (a:=e / 2*B'⁻¹) (by grind) (by grind)).2
 have q1:A'*(e / 2*A'⁻¹)=e / 2:=by grind
 have q2:B'*(e / 2*B'⁻¹)=e / 2:=by grind
 rw[q1] at m1
 rw[q2] at m2
 show f K*g K≤f' K*g' K+e
 grind
theorem Lm.bn {f g:Nat→Rat}{A:Rat}(h:Lm f g)(b:Bn f A):Bn g (A+1):=by
 obtain⟨N,b⟩:=b
 obtain⟨N1,h1⟩:=h.1 1 (by decide)
 obtain⟨N2,h2⟩:=h.2 1 (by decide)
 refine⟨N+N1+N2,fun K hK=>?_⟩
 have b:=b K (by omega)
 have h1:=h1 K (by omega)
 have h2:=h2 K (by omega)
 constructor<;>grind
theorem Lm.mul {f f' g g':Nat→Rat}{A B:Rat}(h:Lm f f')(k:Lm g g')(hf:Bn f A)(hg:Bn g B):Lm (fun K=>f K*g K) (fun K=>f' K*g' K) :=
 ⟨Lq.mul_aux h k hf (k.bn hg),Lq.mul_aux h.symm k.symm (h.bn hf) hg⟩
theorem Sm_bd {f g:Nat→Rat}:∀ {n:Nat},(∀ i,i<n→-(g i)≤f i∧f i≤g i)→-(Sm g n)≤Sm f n∧Sm f n≤Sm g n
 | 0,_=>by show -(0:Rat)≤0∧(0:Rat)≤0;constructor<;>decide
 | n+1,h=>by
  have a:=Sm_bd (n:=n) (fun i hi=>h i (by omega))
  have b:=h n (by omega)
  show -(Sm g n+g n)≤Sm f n+f n∧Sm f n+f n≤Sm g n+g n
  constructor<;>grind
theorem tE_bd {x a:Rat}(h1:-a≤x)(h2:x≤a):∀ n,-(tE a n)≤tE x n∧tE x n≤tE a n
 | 0=>by show -(1:Rat)≤1∧(1:Rat)≤1;constructor<;>decide
 | n+1=>by
  have i:=tE_bd h1 h2 n
  have m:=mul_bd i.1 i.2 h1 h2
  have np:=nx_pos n
  have e1:=tE_mul x n
  have e2:=tE_mul a n
  constructor
  ·exact Rat.le_of_mul_le_mul_right (c:=(nx n:Rat)) (by grind) np
  ·exact Rat.le_of_mul_le_mul_right (c:=(nx n:Rat)) (by grind) np
theorem EP_bd {x a:Rat}(h1:-a≤x)(h2:x≤a)(K:Nat):-(EP a K)≤EP x K∧EP x K≤EP a K:=Sm_bd fun i _=>tE_bd h1 h2 i
theorem EP_gap {x a:Rat}(h1:-a≤x)(h2:x≤a)(K k:Nat):-(EP a (K+k)-EP a K)≤EP x (K+k)-EP x K∧EP x (K+k)-EP x K≤EP a (K+k)-EP a K:=by
 induction k with
 | zero=>show -(EP a K-EP a K)≤EP x K-EP x K∧EP x K-EP x K≤EP a K-EP a K;constructor<;>grind
 | succ k ih =>
  have b:=tE_bd h1 h2 (K+k)
  have e1:EP x (K+(k+1))=EP x (K+k)+tE x (K+k):=rfl
  have e2:EP a (K+(k+1))=EP a (K+k)+tE a (K+k):=rfl
  rw[e1,e2]
  constructor<;>grind
theorem Sm_cm (c:Rat)(f:Nat→Rat)(n:Nat):Sm (fun j=>c*f j) n=c*Sm f n:=by
 rw[Rat.mul_comm,Sm_mul]
 exact Sm_congr fun i _=>Rat.mul_comm _ _
theorem EP_form (x y:Rat)(K:Nat):EP x K*EP y K-EP (x+y) K=Sm (fun i=>tE x i*(EP y K-EP y (K-i))) K:=by
 have p:EP x K*EP y K=Sm (fun i=>tE x i*EP y K) K:=by unfold EP;rw[Sm_mul]
 have q:EP (x+y) K=Sm (fun i=>tE x i*EP y (K-i)) K:=by
  rw[EP_conv]
  exact Sm_congr fun i _=>Sm_cm _ _ _
 have r:Sm (fun i=>tE x i*EP y K) K=Sm (fun i=>tE x i*(EP y K-EP y (K-i))) K+Sm (fun i=>tE x i*EP y (K-i)) K:=by
  rw[← Sm_add]
  exact Sm_congr fun i _=>by grind
 rw[p,q,r];grind
theorem EP_mul_bd {x y a b:Rat}(h1:-a≤x)(h2:x≤a)(h3:-b≤y)(h4:y≤b)(K:Nat):-(EP a K*EP b K-EP (a+b) K)≤EP x K*EP y K-EP (x+y) K∧EP x K*EP y K-EP (x+y) K≤EP a K*EP b K-EP (a+b) K:=by
 rw[EP_form,EP_form]
 refine Sm_bd fun i hi=>?_
 have g:=EP_gap h3 h4 (K-i) i
 rw[show K-i+i=K by omega] at g
 have t:=tE_bd h1 h2 i
 exact mul_bd t.1 t.2 g.1 g.2
theorem rat_nat (r:Rat):∃ n:Nat,r≤(n:Rat):=by
 refine⟨r.ceil.toNat,?_⟩
 have a:r≤(r.ceil:Rat):=Rat.le_ceil
 have b:((r.ceil:Int):Rat)≤((r.ceil.toNat:Int):Rat):=Rat.intCast_le_intCast.2 (by omega)
 exact Rat.le_trans a b
theorem two_pow_ge:∀ n:Nat,(n:Rat)≤(2:Rat)^n
 | 0=>by rw[Rat.pow_zero];decide
 | n+1=>by
  have a:=two_pow_ge n
  have b:=one_pow_le (q:=2) (by decide) n
  rw[Rat.pow_succ,Rat.natCast_add]
  show (n:Rat)+1≤_
  grind
theorem tE_dec {a:Rat}(h0:0≤a){m:Nat}(h:2*a≤(nx m:Rat)):∀ j,tE a (m+j)*(2:Rat)^j≤tE a m
 | 0=>by rw[Rat.pow_zero,Rat.mul_one];exact Rat.le_refl
 | j+1=>by
  have i:=tE_dec h0 h j
  have t:=tE_half h0 (m:=m+j) (Rat.le_trans h (nx_mono (by omega)))
  have p:(0:Rat)≤(2:Rat)^j:=by have:=one_pow_le (q:=2) (by decide) j;grind
  have m1:=Rat.mul_le_mul_of_nonneg_right t p
  rw[Rat.pow_succ]
  show tE a (m+j+1)*_≤_
  grind
theorem tE_lim {a:Rat}(h0:0≤a){e:Rat}(he:0<e):∃ N,∀ K,N≤K→tE a K≤e∧2*a≤(nx K:Rat):=by
 obtain⟨m,hm⟩:=rat_nat (2*a)
 have hm':2*a≤(nx m:Rat):=Rat.le_trans hm (Rat.intCast_le_intCast.2 (show (m:Int)≤nx m by unfold nx;omega))
 obtain⟨j,hj⟩:=rat_nat (tE a m*e⁻¹)
 have ie:=inv_one he
 have i0:=Rat.inv_pos.2 he
 refine⟨m+j,fun K hK=>⟨?_,Rat.le_trans hm' (nx_mono (by omega))⟩⟩
 obtain⟨i,rfl⟩:∃ i,K=m+(j+i):=⟨K-m-j,by omega⟩
 have d:=tE_dec h0 hm' (j+i)
 have g:=two_pow_ge (j+i)
 have n1:(j:Rat)≤((j+i:Nat):Rat):=by
  rw[Rat.natCast_add]
  have:(0:Rat)≤(i:Rat):=Rat.natCast_nonneg
  grind
 have p:(1:Rat)≤(2:Rat)^(j+i):=one_pow_le (by decide) _
 refine Rat.le_of_mul_le_mul_right (c:=(2:Rat)^(j+i)) ?_ (by grind)
 have m1:=Rat.mul_le_mul_of_nonneg_left (show tE a m*e⁻¹≤(2:Rat)^(j+i) by grind) (Rat.le_of_lt he)
 have q:e*(tE a m*e⁻¹)=tE a m:=by grind
 rw[q] at m1
 exact Rat.le_trans d m1
theorem EP_cau {a:Rat}(h0:0≤a){e:Rat}(he:0<e):∃ N,∀ K,N≤K→∀ M,EP a M≤EP a K+e:=by
 obtain⟨N,h⟩:=tE_lim h0 he
 refine⟨N+1,fun K hK M=>?_⟩
 obtain⟨n,rfl⟩:∃ n,K=n+1:=⟨K-1,by omega⟩
 have b:=h n (by omega)
 have c:=EP_tail h0 b.2 M
 grind
theorem EP_bound {a:Rat}(h0:0≤a):∃ B,0<B∧∀ K,EP a K≤B:=by
 obtain⟨N,h⟩:=EP_cau h0 (e:=1) (by decide)
 have p:=EP_nonneg h0 N
 exact⟨EP a N+1,by grind,fun K=>h N (Nat.le_refl _) K⟩
theorem abs_ex (x:Rat):∃ a,0≤a∧-a≤x∧x≤a:=by
 rcases (Rat.le_total:0≤x∨x≤0) with h | h
 ·exact⟨x,h,by grind,Rat.le_refl⟩
 ·exact⟨-x,by grind,by grind,by grind⟩
theorem EP_bn (x:Rat):∃ B,0<B∧Bn (EP x) B:=by
 obtain⟨a,a0,a1,a2⟩:=abs_ex x
 obtain⟨B,B0,hB⟩:=EP_bound a0
 refine⟨B,B0,0,fun K _=>?_⟩
 have b:=EP_bd a1 a2 K
 have c:=hB K
 constructor<;>grind
theorem EP_add (x y:Rat):Lm (EP (x+y)) (fun K=>EP x K*EP y K):=by
 obtain⟨a,a0,a1,a2⟩:=abs_ex x
 obtain⟨b,b0,b1,b2⟩:=abs_ex y
 have key:∀ e:Rat,0<e→∃ N,∀ K,N≤K→EP (x+y) K≤EP x K*EP y K+e∧EP x K*EP y K≤EP (x+y) K+e:=fun e he=>by
  obtain⟨N,h⟩:=EP_cau (Rat.add_nonneg a0 b0) he
  refine⟨N,fun K hK=>?_⟩
  have c:=h K hK (2*K)
  have d:=(EP_mul a0 b0 K).2
  have f:=EP_mul_bd a1 a2 b1 b2 K
  constructor<;>grind
 exact⟨fun e he=>by obtain⟨N,h⟩:=key e he;exact⟨N,fun K hK=>(h K hK).1⟩,fun e he=>by obtain⟨N,h⟩:=key e he;exact⟨N,fun K hK=>(h K hK).2⟩⟩
theorem EP_zero':∀ K,1≤K→EP 0 K=1
 | 0,h=>absurd h (by omega)
 | 1,_=>by show (0:Rat)+1=1;grind
 | K+2,_=>by
  have a:=EP_zero' (K+1) (by omega)
  have z:tE 0 (K+1)=0:=by
   show tE 0 K*0 / (nx K:Rat)=0
   rw[Rat.mul_zero,Rat.div_def,Rat.zero_mul]
  show EP 0 (K+1)+tE 0 (K+1)=1
  rw[a,z,Rat.add_zero]
theorem EP_opp (x:Rat):Lm (fun K=>EP x K*EP (-x) K) (fun _=>1):=by
 have h:=EP_add x (-x)
 rw[show x+-x=0 by grind] at h
 exact h.symm.trans (Lm.of_eq (N:=1) fun K hK=>EP_zero' K hK)
theorem EP_pos (x:Rat):∃ p,0<p∧∃ N,∀ K,N≤K→p≤EP x K:=by
 obtain⟨B,B0,NB,hB⟩:=EP_bn (-(x / 2))
 obtain⟨N1,h1⟩:=(EP_opp (x / 2)).2 (1 / 2) r8.2.1
 have iB:=inv_one B0
 have i0:=Rat.inv_pos.2 B0
 have c:=Rat.mul_pos i0 i0
 have h2':=EP_add (x / 2) (x / 2)
 rw[half_two] at h2'
 obtain⟨N2,h2⟩:=h2'.2 (B⁻¹*B⁻¹*(1 / 8)) (Rat.mul_pos c r8.1)
 refine⟨B⁻¹*B⁻¹*(1 / 8),Rat.mul_pos c r8.1,NB+N1+N2,fun K hK=>?_⟩
 have hB:=hB K (by omega)
 have h1:(1:Rat)≤EP (x / 2) K*EP (-(x / 2)) K+1 / 2:=h1 K (by omega)
 have h2:EP (x / 2) K*EP (x / 2) K≤EP x K+B⁻¹*B⁻¹*(1 / 8):=h2 K (by omega)
 generalize EP (x / 2) K=u at *
 generalize EP (-(x / 2)) K=v at *
 generalize EP x K=z at *
 generalize B⁻¹=i at *
 -- u v≥1/2,|v|≤B: 4 u u B B≥1
 have sq:0≤(u*v)*(u*v)-1 / 4:=by
  have m:=Rat.mul_le_mul_of_nonneg_left (show 1 / 2≤u*v by grind) (show 0≤u*v by grind)
  grind
 have vv:=(mul_bd hB.1 hB.2 hB.1 hB.2).2
 have uu:0≤u*u:=by
  rcases (Rat.le_total:0≤u∨u≤0) with h | h
  ·exact Rat.mul_nonneg h h
  ·have:=Rat.mul_nonneg (show 0≤-u by grind) (show 0≤-u by grind);grind
 have m1:=Rat.mul_le_mul_of_nonneg_left vv uu
 have m2:=Rat.mul_le_mul_of_nonneg_left (show 1 / 4≤u*u*(B*B) by grind) (Rat.le_of_lt c)
 have e:i*i*(u*u*(B*B))=u*u:=by
  have:i*i*(u*u*(B*B))=u*u*((i*B)*(i*B)):=by grind
  rw[this,iB];grind
 rw[e] at m2
 grind
end Go.Proofs.YtkkbddkpggjgpaaGreatDoor

namespace Go.Proofs.YtkkbddkpggjgpaaGreatDoor
theorem pow_nn {a:Rat}(h:0≤a):∀ n:Nat,0≤a^n
 | 0=>by rw[Rat.pow_zero];decide
 | n+1=>by rw[Rat.pow_succ];exact Rat.mul_nonneg (pow_nn h n) h
theorem pow_monox {a b:Rat}(h:0≤a)(k:a≤b):∀ n:Nat,a^n≤b^n
 | 0=>by rw[Rat.pow_zero,Rat.pow_zero];exact Rat.le_refl
 | n+1=>by
  have i:=pow_monox h k n
  have m1:=Rat.mul_le_mul_of_nonneg_right i h
  have m2:=Rat.mul_le_mul_of_nonneg_left k (pow_nn (Rat.le_trans h k) n)
  rw[Rat.pow_succ,Rat.pow_succ]
  exact Rat.le_trans m1 m2
theorem bern_lo {h:Rat}(h0:0≤h)(h1:h≤1):∀ n:Nat,1-(n:Rat)*h≤(1-h)^n
 | 0=>by rw[Rat.pow_zero];show 1-(0:Rat)*h≤1;grind
 | n+1=>by
  have i:=bern_lo h0 h1 n
  have m1:=Rat.mul_le_mul_of_nonneg_right i (show 0≤1-h by grind)
  have n0:(0:Rat)≤(n:Rat):=Rat.natCast_nonneg
  have m2:=Rat.mul_nonneg n0 (Rat.mul_nonneg h0 h0)
  have c:((n+1:Nat):Rat)=(n:Rat)+1:=by rw[Rat.natCast_add];rfl
  rw[Rat.pow_succ,c]
  grind
theorem eps_bd:0≤eps∧4000*eps≤1:=⟨of_decide_eq_true (by kernel_rfl),of_decide_eq_true (by kernel_rfl)⟩
theorem two_half (P:Rat):∀ n:Nat,P^n=(2:Rat)^n*(P / 2)^n
 | 0=>by rw[Rat.pow_zero,Rat.pow_zero,Rat.pow_zero,Rat.mul_one]
 | n+1=>by
  rw[Rat.pow_succ,Rat.pow_succ,Rat.pow_succ,two_half P n]
  have h:=half_two P
  generalize P / 2=q at *
  subst h
  grind
theorem pow_near {P:Rat}{n:Nat}(h1:2-eps≤P)(h2:P≤2+eps)(hn:n≤1000):1-(n:Rat)*eps≤(P / 2)^n∧(P / 2)^n≤1+(n:Rat)*eps:=by
 have e:=eps_bd
 have hq:P / 2+P / 2=P:=half_two P
 have he:eps / 2+eps / 2=eps:=half_two eps
 generalize P / 2=q at *
 generalize eps / 2=h at *
 have n0:(0:Rat)≤(n:Rat):=Rat.natCast_nonneg
 have n1:(n:Rat)≤1000:=Rat.natCast_le_natCast.2 hn
 have m0:=Rat.mul_le_mul_of_nonneg_right n1 e.1
 have m1:=Rat.mul_nonneg n0 e.1
 have b1:=bern_lo (h:=h) (by grind) (by grind) n
 have b2:=inv_bern (y:=h) (n:=n) (by grind) (by
  have:2*((n:Rat)*h)=(n:Rat)*eps:=by grind
  rw[this];grind)
 have c1:=pow_monox (a:=1-h) (b:=q) (by grind) (by grind) n
 have c2:=pow_monox (a:=q) (b:=1+h) (by grind) (by grind) n
 have f:(n:Rat)*eps=(n:Rat)*h+(n:Rat)*h:=by rw[← he];grind
 have f0:0≤(n:Rat)*h:=Rat.mul_nonneg n0 (by grind)
 constructor
 ·refine Rat.le_trans ?_ (Rat.le_trans b1 c1);grind
 ·refine Rat.le_trans c2 (Rat.le_trans b2 ?_);grind
theorem EP_npow (c:Rat):∀ n:Nat,Lm (EP ((n:Rat)*c)) (fun K=>EP c K^n)
 | 0=>Lm.of_eq (N:=1) fun K hK=>by
  rw[Rat.pow_zero,show ((0:Nat):Rat)*c=0 by show (0:Rat)*c=0;grind]
  exact EP_zero' K hK
 | n+1=>by
  have i:=EP_npow c n
  have a:=EP_add ((n:Rat)*c) c
  rw[show (n:Rat)*c+c=((n+1:Nat):Rat)*c by rw[Rat.natCast_add];show _=((n:Rat)+1)*c;grind] at a
  obtain⟨A,_,hA⟩:=EP_bn ((n:Rat)*c)
  obtain⟨B,_,hB⟩:=EP_bn c
  refine a.trans ((i.mul (Lm.refl (EP c)) hA hB).trans (Lm.of_eq (N:=0) fun K _=>?_))
  rw[Rat.pow_succ]
theorem two_one (n:Nat):(1:Rat)≤(2:Rat)^n:=one_pow_le (by decide) n
theorem eps_pos:0<eps:=of_decide_eq_true (by kernel_rfl)
end Go.Proofs.YtkkbddkpggjgpaaGreatDoor


namespace Go.Proofs.YtkkbddkpggjgpaaGreatDoor
def EnE (f:Nat→Rat)(s:Nat)(lo hi:Int)(g:Rat):Prop:=∃ N,∀ K,N≤K→(lo:Rat)≤f K*((2^s:Int):Rat)+g∧f K*((2^s:Int):Rat)≤(hi:Rat)+g
theorem EnE.mono {f:Nat→Rat}{s:Nat}{lo hi:Int}{g g':Rat}(h:EnE f s lo hi g)(hg:g≤g'):EnE f s lo hi g':=by
 obtain⟨N,h⟩:=h
 exact⟨N,fun K hK=>by have:=h K hK;constructor<;>grind⟩
theorem EnE.near {f f':Nat→Rat}{s:Nat}{lo hi:Int}{g e:Rat}(h:EnE f s lo hi g)(hn:∃ N,∀ K,N≤K→f K≤f' K+e∧f' K≤f K+e):EnE f' s lo hi (g+e*((2^s:Int):Rat)):=by
 obtain⟨N,h⟩:=h
 obtain⟨M,hn⟩:=hn
 have P:(0:Rat)<((2^s:Int):Rat):=Rat.intCast_pos.2 (two_pos s)
 refine⟨N+M,fun K hK=>?_⟩
 have a:=h K (by omega)
 have b:=hn K (by omega)
 have m1:=Rat.mul_le_mul_of_nonneg_right b.1 (Rat.le_of_lt P)
 have m2:=Rat.mul_le_mul_of_nonneg_right b.2 (Rat.le_of_lt P)
 constructor<;>grind
theorem int_gap2 {l h:Int}{X Y:Rat}(h1:(l:Rat)≤X)(h2:Y≤(h:Rat))(g:X<Y+1):l≤h:=by
 refine Decidable.byContradiction fun hn=>?_
 have:((h+1:Int):Rat)≤(l:Rat):=Rat.intCast_le_intCast.2 (by omega)
 rw[Rat.intCast_add,show ((1:Int):Rat)=1 from rfl] at this
 grind
theorem EnE.le {f f':Nat→Rat}{s:Nat}{a b c d:Int}{g g':Rat}(h:EnE f s a b g)(k:EnE f' s c d g')(hl:Lq f f')(hg:g+g'<1):a≤d:=by
 obtain⟨N,h⟩:=h
 obtain⟨M,k⟩:=k
 have P:(0:Rat)<((2^s:Int):Rat):=Rat.intCast_pos.2 (two_pos s)
 have i0:=Rat.inv_pos.2 P
 have ie:=inv_one P
 have e0:0<(1-g-g')*(1 / 2):=Rat.mul_pos (by grind) r8.2.1
 obtain⟨Q,q⟩:=hl ((1-g-g')*(1 / 2)*(((2^s:Int):Rat))⁻¹) (Rat.mul_pos e0 i0)
 have h:=(h (N+M+Q) (by omega)).1
 have k:=(k (N+M+Q) (by omega)).2
 have q:=Rat.mul_le_mul_of_nonneg_right (q (N+M+Q) (by omega)) (Rat.le_of_lt P)
 have z:(1-g-g')*(1 / 2)*(((2^s:Int):Rat))⁻¹*((2^s:Int):Rat)=(1-g-g')*(1 / 2):=by rw[Rat.mul_assoc,ie,Rat.mul_one]
 exact int_gap2 (X:=f (N+M+Q)*((2^s:Int):Rat)+g) (Y:=f' (N+M+Q)*((2^s:Int):Rat)-g') h (by grind) (by grind)
theorem EnE.scale {f:Nat→Rat}{s n:Nat}{a b:Int}{g:Rat}(h:EnE f s a b g):EnE f (s+n) (a*2^n) (b*2^n) (g*((2^n:Int):Rat)):=by
 obtain⟨N,h⟩:=h
 have P:(0:Rat)<((2^n:Int):Rat):=Rat.intCast_pos.2 (two_pos n)
 refine⟨N,fun K hK=>?_⟩
 have q:=h K hK
 rw[Int.pow_add,Rat.intCast_mul,Rat.intCast_mul,Rat.intCast_mul]
 have m1:=Rat.mul_le_mul_of_nonneg_right q.1 (Rat.le_of_lt P)
 have m2:=Rat.mul_le_mul_of_nonneg_right q.2 (Rat.le_of_lt P)
 constructor<;>grind
theorem EnE.meet {f:Nat→Rat}{s n:Nat}{a b c d:Int}{g g':Rat}(h:EnE f s a b g)(k:EnE f (s+n) c d g')(hg:g*((2^n:Int):Rat)+g'<1):a*2^n≤d∧c≤b*2^n :=
 ⟨h.scale.le k (Lq.refl f) hg,k.le h.scale (Lq.refl f) (by grind)⟩
end Go.Proofs.YtkkbddkpggjgpaaGreatDoor



namespace Go.Proofs.YtkkbddkpggjgpaaGreatDoor
open Go.RowKit
set_option maxRecDepth 100000
set_option maxHeartbeats 2000000
theorem pow_up {a b:Nat}(h:a≤b):((2^a:Int):Rat)≤((2^b:Int):Rat):=Rat.intCast_le_intCast.2 (by rw[pow_cast,pow_cast];exact Int.ofNat_le.2 (Nat.pow_le_pow_right oO h))
theorem dv_tople {m e t:Int}(h:topD m e≤t):-(dv 1 t)≤dv m e∧dv m e≤dv 1 t:=by
 by_cases hm:m=0
 ·have:=dv_ge0 (m:=1) (e:=t) |>.2 (by decide)
  rw[hm,dv_zero];constructor<;>grind
 ·have a:=(dv_top (e:=e) hm).1
  have u:dv 1 (topD m e)≤dv 1 t:=by
   rw[dv_at (m:=1) (e:=t) (c:=topD m e) oO,dv_le,Int.one_mul]
   have:=two_pos (t-topD m e).toNat
   omega
  rcases (show (m.natAbs:Int)=m∨(m.natAbs:Int)=-m by omega) with q | q
  ·have n0:0≤dv m e:=dv_ge0.2 oO
   rw[q] at a
   constructor<;>grind
  ·have n0:0≤dv (-m) e:=dv_ge0.2 oO
   rw[q] at a
   rw[dv_neg] at a n0
   constructor<;>grind
end Go.Proofs.YtkkbddkpggjgpaaGreatDoor




namespace Go.Proofs.YtkkbddkpggjgpaaGreatDoor
open Go.RowKit
set_option maxRecDepth 100000
set_option maxHeartbeats 4000000
theorem dv_g {a w:Int}{k:Nat}(h:L a.natAbs≤k)(hk:k≤300)(hw:0≤w∧w≤400):dv (mkM a (-w)) (mkX a (-w))=dv a (-w)∧L (mkM a (-w)).natAbs≤k∧(-400≤mkX a (-w)∧mkX a (-w)≤32*k)∧vdb (mkM a (-w)) (mkX a (-w))=true∧mkE a (-w)=0∧-w≤mkX a (-w):=by
 have f:=mk_fit (m:=a) (e:=-w) oO oO
 have i1:=iMin_range (-w) 0
 have i2:iMax (-w) 0≤0:=by unfold iMax;split<;>omega
 exact⟨f.2.2.2.2.2,by omega,by omega,f.2.2.2.2.1,f.1,by omega⟩
theorem enV_ok {lo hi:Rat}{w:Int}(h:enE lo hi w=0):enV lo hi w=(.tup [(wV (mkM (flr lo w) (-w)) (mkX (flr lo w) (-w)) (mkM (cei hi w) (-w)) (mkX (cei hi w) (-w))),(.int .i64 0)]):=by
 obtain⟨a,b,c,d⟩:=en_yes h
 unfold enV
 rw[a,b,c,d,h]
theorem flr_same (x w:Int):flr (dv x (-w)) w=x∧cei (dv x (-w)) w=x:=by
 have a:=le_flr.2 (Rat.le_refl (a:=dv x (-w)))
 have b:=dv_le.1 (flr_le (dv x (-w)) w)
 have c:=cei_le.2 (Rat.le_refl (a:=dv x (-w)))
 have d:=dv_le.1 (cei_ge (dv x (-w)) w)
 omega
theorem dv_plus (a c w:Int):dv a w+dv c w=dv (a+c) w:=by unfold dv;rw[Rat.intCast_add,Rat.add_mul]
theorem g_fit {a b w:Int}(hw:0≤w∧w≤200)(o:a≤b)(la:L a.natAbs≤8)(lb:L b.natAbs≤8):FitI (mkM a (-w)) (mkX a (-w)) (mkM b (-w)) (mkX b (-w)):=by
 have A:=dv_g (w:=w) la oO oO
 have B:=dv_g (w:=w) lb oO oO
 exact⟨⟨A.2.1,by omega,by omega⟩,⟨B.2.1,by omega,by omega⟩,by rw[A.1,B.1];exact dv_le.2 o⟩
theorem g_add (a b c d w:Int)(hw:0≤w∧w≤200)(o1:a≤b)(o2:c≤d)(la:L a.natAbs≤8)(lb:L b.natAbs≤8)(lc:L c.natAbs≤8)(ld:L d.natAbs≤8):Impl Tryz.prog Amb 38 [(wV (mkM a (-w)) (mkX a (-w)) (mkM b (-w)) (mkX b (-w))),(wV (mkM c (-w)) (mkX c (-w)) (mkM d (-w)) (mkX d (-w))),(.int .i64 w)] (.tup [(wV (mkM (a+c) (-w)) (mkX (a+c) (-w)) (mkM (b+d) (-w)) (mkX (b+d) (-w))),(.int .i64 0)]):=by
 have A:=dv_g (w:=w) la oO oO
 have B:=dv_g (w:=w) lb oO oO
 have C:=dv_g (w:=w) lc oO oO
 have D:=dv_g (w:=w) ld oO oO
 have F1:=g_fit hw o1 la lb
 have F2:=g_fit hw o2 lc ld
 have kq:=ad_ok (w:=w) F1 F2 hw
 have e1:flr (dv (mkM a (-w)) (mkX a (-w))+dv (mkM c (-w)) (mkX c (-w))) w=a+c:=by rw[A.1,C.1,dv_plus];exact (flr_same _ _).1
 have e2:cei (dv (mkM b (-w)) (mkX b (-w))+dv (mkM d (-w)) (mkX d (-w))) w=b+d:=by rw[B.1,D.1,dv_plus];exact (flr_same _ _).2
 have key:=enV_ok kq
 rw[e1,e2] at key
 exact impl_eq key (ar_Add (mkM a (-w)) (mkX a (-w)) (mkM b (-w)) (mkX b (-w)) (mkM c (-w)) (mkX c (-w)) (mkM d (-w)) (mkX d (-w)) w oO oO oO oO oO oO oO oO (ad_fine oO oO oO oO) (ad_fine oO oO oO oO) oO)
theorem g_meet {m e n f p g q h:Int}(h1:dv p g≤dv n f)(h2:dv m e≤dv q h):ivCmp m e n f p g q h=0:=by
 unfold ivCmp
 rw[if_neg,if_neg]
 ·have:=cmpD_le.2 h2
  omega
 ·intro k
  rw[cmpD_dv] at k
  rcases cmpQ_range (dv n f) (dv p g) with ⟨_,x⟩ | ⟨x,_⟩ | ⟨x,_⟩
  ·exact Rat.not_lt.2 h1 x
  ·omega
  ·omega
theorem g_cmp (a b c d w:Int)(hw:0≤w∧w≤200)(la:L a.natAbs≤60)(lb:L b.natAbs≤60)(lc:L c.natAbs≤60)(ld:L d.natAbs≤60)(h1:c≤b)(h2:a≤d):Impl Tryz.prog Amb 21 [(wV (mkM a (-w)) (mkX a (-w)) (mkM b (-w)) (mkX b (-w))),(wV (mkM c (-w)) (mkX c (-w)) (mkM d (-w)) (mkX d (-w)))] (.int .i64 0):=by
 have A:=dv_g (w:=w) la oO oO
 have B:=dv_g (w:=w) lb oO oO
 have C:=dv_g (w:=w) lc oO oO
 have D:=dv_g (w:=w) ld oO oO
 exact impl_eq (congrArg (V.int .i64) (g_meet (by rw[C.1,B.1];exact dv_le.2 h1) (by rw[A.1,D.1];exact dv_le.2 h2))) (r10_Cmp (mkM a (-w)) (mkX a (-w)) (mkM b (-w)) (mkX b (-w)) (mkM c (-w)) (mkX c (-w)) (mkM d (-w)) (mkX d (-w)) oO oO oO oO oO oO oO oO)
theorem g_has (a b k w:Int)(hw:0≤w∧w≤200)(la:L a.natAbs≤60)(lb:L b.natAbs≤60)(hk:(-9223372036854775808:Int)≤k∧k≤9223372036854775807)(h1:a≤k*2^w.toNat)(h2:k*2^w.toNat≤b):Impl Tryz.prog Amb 41 [(wV (mkM a (-w)) (mkX a (-w)) (mkM b (-w)) (mkX b (-w))),(.agg [(.bool (decide (((k:Int):Rat).num<0))),(N ((((k:Int):Rat).num).natAbs)),(N (((k:Int):Rat).den))])] (.bool true):=by
 have A:=dv_g (w:=w) la oO oO
 have B:=dv_g (w:=w) lb oO oO
 have e:((k:Int):Rat)=dv (k*2^w.toNat) (-w):=by
  rw[dv_shl,show (-w+(w.toNat:Int))=0 by omega];unfold dv;rw[zp_zero,Rat.mul_one]
 have q:=q_ofL (n:=k) oO
 exact impl_eq (congrArg V.bool (decide_eq_true ⟨cmpQ_le.2 (by rw[A.1,e];exact dv_le.2 h1),cmpQ_le.2 (by rw[B.1,e];exact dv_le.2 h2)⟩)) (r10_Has (mkM a (-w)) (mkX a (-w)) (mkM b (-w)) (mkX b (-w)) ((k:Int):Rat) oO oO oO oO A.2.2.2.1 B.2.2.2.1 oO oO)
theorem EnE.neg {f:Nat→Rat}{t:Nat}{a b:Int}{x:Rat}(h:EnE f t a b x):EnE (fun K=>-(f K)) t (-b) (-a) x:=by
 obtain⟨N,h⟩:=h
 refine⟨N,fun K hK=>?_⟩
 have h:=h K hK
 rw[Rat.intCast_neg,Rat.intCast_neg,Rat.neg_mul]
 constructor<;>grind
end Go.Proofs.YtkkbddkpggjgpaaGreatDoor
