/-
  Lower layers: what functions of the program compute, and plain facts. Conditions: as the theorems say.
-/
import Derived.Test.YtkkbddkpggjgpaaGreatDoorPiO
set_option linter.unusedVariables false
set_option linter.unusedSimpArgs false
namespace Go.Proofs.YtkkbddkpggjgpaaGreatDoor
open Go.RowKit
set_option maxRecDepth 100000
def ap1 (x1 x2 s:Int)(j:Nat):Int:=(aP (2^s.toNat) x1 x2 j).1
def ap2 (x1 x2 s:Int)(j:Nat):Int:=(aP (2^s.toNat) x1 x2 j).2
def aa1 (x1 x2 s:Int)(j:Nat):Int:=(aA (2^s.toNat) x1 x2 j).1
def aa2 (x1 x2 s:Int)(j:Nat):Int:=(aA (2^s.toNat) x1 x2 j).2
def at1 (x1 x2 s:Int)(j:Nat):Int:=ptLo (ap1 x1 x2 s (j+1)) (odn (j+1))
def at2 (x1 x2 s:Int)(j:Nat):Int:=ptHi (ap2 x1 x2 s (j+1)) (odn (j+1))
def fx_area_0_mk (_:Nat)(x1 x2 sc:Int)(x:Nat × Int):St:=⟨mkS 36 [(1,(.val (.int .i64 sc))),(4,(.own 1 0)),(5,(.own 2 0)),(6,(.own 3 0)),(7,(.own 4 0)),(8,(.val (.int .u32 x.2)))],[⟨true,false,[(V.bool (decide (x1<0))),(N x1.natAbs),(V.bool (decide (x2<0))),(N x2.natAbs)]⟩,⟨true,false,[(V.bool false),V.nil,(V.bool false),V.nil]⟩,⟨true,false,[(V.bool (decide ((x1*x1 / 2^(sc).toNat)<0))),(N ((x1*x1 / 2^(sc).toNat).natAbs)),(V.bool (decide ((-(-(x2*x2) / 2^(sc).toNat))<0))),(N ((-(-(x2*x2) / 2^(sc).toNat)).natAbs))]⟩,⟨true,false,[(V.bool (decide ((ap1 x1 x2 sc x.1)<0))),(N ((ap1 x1 x2 sc x.1).natAbs)),(V.bool (decide ((ap2 x1 x2 sc x.1)<0))),(N ((ap2 x1 x2 sc x.1).natAbs))]⟩,⟨true,false,[(V.bool (decide ((aa1 x1 x2 sc x.1)<0))),(N ((aa1 x1 x2 sc x.1).natAbs)),(V.bool (decide ((aa2 x1 x2 sc x.1)<0))),(N ((aa2 x1 x2 sc x.1).natAbs))]⟩]⟩
def fx_area_0_I (nn:Nat)(_ _ _:Int)(x:Nat × Int):Prop:=x.1≤nn∧x.2=2*(x.1:Int)+3
def fx_area_0_mu (nn:Nat)(_ _ _:Int)(x:Nat × Int):Nat:=nn-x.1
def fx_area_0_ex (_:Nat)(x1 x2 sc:Int)(y:Nat):Ex × St:=(.exit 0,⟨mkS 36 [(4,(.own 1 0)),(6,(.own 3 0)),(7,(.own 4 0))],[⟨true,false,[(V.bool (decide (x1<0))),(N x1.natAbs),(V.bool (decide (x2<0))),(N x2.natAbs)]⟩,⟨true,false,[(V.bool false),V.nil,(V.bool false),V.nil]⟩,⟨true,false,[(V.bool (decide ((x1*x1 / 2^(sc).toNat)<0))),(N ((x1*x1 / 2^(sc).toNat).natAbs)),(V.bool (decide ((-(-(x2*x2) / 2^(sc).toNat))<0))),(N ((-(-(x2*x2) / 2^(sc).toNat)).natAbs))]⟩,⟨true,false,[(V.bool (decide ((ap1 x1 x2 sc y)<0))),(N ((ap1 x1 x2 sc y).natAbs)),(V.bool (decide ((ap2 x1 x2 sc y)<0))),(N ((ap2 x1 x2 sc y).natAbs))]⟩,⟨true,false,[(V.bool (decide ((aa1 x1 x2 sc y)<0))),(N ((aa1 x1 x2 sc y).natAbs)),(V.bool (decide ((aa2 x1 x2 sc y)<0))),(N ((aa2 x1 x2 sc y).natAbs))]⟩]⟩)
def fx_area_0_J (nn:Nat)(_ _ _:Int)(y:Nat):Prop:=y=nn
abbrev fx_area_0_N (nn:Nat)(x1 x2 sc:Int):=NX (fx_area_0_mk nn x1 x2 sc) (fx_area_0_I nn x1 x2 sc) (fx_area_0_mu nn x1 x2 sc) (fx_area_0_ex nn x1 x2 sc) (fx_area_0_J nn x1 x2 sc)
theorem fx_area_0 (nn:Nat)(x1 x2 sc:Int)(c0:nn≤10000)(c1:∀ j,j≤nn→Impl Tryz.prog Amb 212 [(sV (ap1 x1 x2 sc j) (ap2 x1 x2 sc j))] (.bool (decide (nn≤j))))(c2:∀ j,j<nn→Impl Tryz.prog Amb 210 [(sV (ap1 x1 x2 sc j) (ap2 x1 x2 sc j)),(sV (x1*x1 / 2^(sc).toNat) (-(-(x2*x2) / 2^(sc).toNat))),(.int .i64 sc)] (sV (ap1 x1 x2 sc (j+1)) (ap2 x1 x2 sc (j+1))))(c3:∀ (j:Nat) (k:Int),j<nn→k=odn (j+1)→Impl Tryz.prog Amb 213 [(sV (ap1 x1 x2 sc (j+1)) (ap2 x1 x2 sc (j+1))),(.int .u32 k)] (sV (at1 x1 x2 sc j) (at2 x1 x2 sc j)))(c4:∀ j,j<nn→Impl Tryz.prog Amb 165 [(sV (aa1 x1 x2 sc j) (aa2 x1 x2 sc j)),(sV (at1 x1 x2 sc j) (at2 x1 x2 sc j))] (sV (aa1 x1 x2 sc (j+1)) (aa2 x1 x2 sc (j+1))))(c5:∀ j,j≤nn→L (aa2 x1 x2 sc j).natAbs≤8000∧L (ap2 x1 x2 sc j).natAbs≤8000)(x0:Nat × Int)(hI:fx_area_0_I nn x1 x2 sc x0):LoopOk Tryz.prog Amb (loopN Tryz.f188 0) (fx_area_0_mk nn x1 x2 sc x0) (fun e st_=>∃ y,fx_area_0_J nn x1 x2 sc y∧fx_area_0_ex nn x1 x2 sc y=(e,st_)) :=
 loop_ob hP hAmb ⟨[1,4,5,6,7,8],5,[]⟩ (fx_area_0_mk nn x1 x2 sc) (fx_area_0_I nn x1 x2 sc) (fx_area_0_mu nn x1 x2 sc) (fx_area_0_ex nn x1 x2 sc) (fx_area_0_J nn x1 x2 sc) x0 hI (fun (j,k)=>.lits 2<|.call (.bool (decide (nn≤j)))<|.lit<|.both (.lits 3<|.call (sV (ap1 x1 x2 sc (j+1)) (ap2 x1 x2 sc (j+1)))<|.lits 4<|.call (sV (at1 x1 x2 sc j) (at2 x1 x2 sc j))<|.lit<|.call (sV (aa1 x1 x2 sc (j+1)) (aa2 x1 x2 sc (j+1)))<|.lits 2<|.yes<|.fin2 ⟨[1,4,5,6,7,8],5,[]⟩) (.fin2 ⟨[4,6,7],5,[]⟩)) (by
  rintro ⟨j,k⟩ hI
  have hI:j≤nn∧k=2*(j:Int)+3:=hI
  obtain⟨h1,h2⟩:=hI
  exact cast_ob (aI True.intro (aI (c1 j h1 ) (aI (fun (h101:(!(decide (nn≤j)))=true)=>have _gh101:=of_decide_eq_false (notb_t h101);aI (c2 j oO ) (aI (c3 j k oO (by unfold odn;omega) ) (aI (c4 j oO ) (aI (fits_u32 oO:(fits .u32 (k+2))=true) (aI tT ((nx_next ((j+1),(k+2)) (show (j+1)≤nn∧(k+2)=2*((j+1):Int)+3 from ⟨by omega,by omega⟩) (show nn-(j+1)<nn-j by omega):fx_area_0_N nn x1 x2 sc (j,k) .normal (fx_area_0_mk nn x1 x2 sc ((j+1),(k+2)))))))))) (fun (h102:(!(decide (nn≤j)))=false)=>have _gh102:=of_decide_eq_true (notb_f h102);aI tT ((nx_exit 0 ((fx_area_0_ex nn x1 x2 sc j).2) j (show j=nn from show j=nn by omega) rfl:fx_area_0_N nn x1 x2 sc (j,k) (.exit 0) ((fx_area_0_ex nn x1 x2 sc j).2))))))) (by kernel_rfl))
theorem fx_area0 (nn:Nat)(x1 x2 sc:Int)(c0:nn≤10000)(c1:∀ j,j≤nn→Impl Tryz.prog Amb 212 [(sV (ap1 x1 x2 sc j) (ap2 x1 x2 sc j))] (.bool (decide (nn≤j))))(c2:∀ j,j<nn→Impl Tryz.prog Amb 210 [(sV (ap1 x1 x2 sc j) (ap2 x1 x2 sc j)),(sV (x1*x1 / 2^(sc).toNat) (-(-(x2*x2) / 2^(sc).toNat))),(.int .i64 sc)] (sV (ap1 x1 x2 sc (j+1)) (ap2 x1 x2 sc (j+1))))(c3:∀ (j:Nat) (k:Int),j<nn→k=odn (j+1)→Impl Tryz.prog Amb 213 [(sV (ap1 x1 x2 sc (j+1)) (ap2 x1 x2 sc (j+1))),(.int .u32 k)] (sV (at1 x1 x2 sc j) (at2 x1 x2 sc j)))(c4:∀ j,j<nn→Impl Tryz.prog Amb 165 [(sV (aa1 x1 x2 sc j) (aa2 x1 x2 sc j)),(sV (at1 x1 x2 sc j) (at2 x1 x2 sc j))] (sV (aa1 x1 x2 sc (j+1)) (aa2 x1 x2 sc (j+1))))(c5:∀ j,j≤nn→L (aa2 x1 x2 sc j).natAbs≤8000∧L (ap2 x1 x2 sc j).natAbs≤8000)(c6:L (x1).natAbs≤8000)(c7:L (x2).natAbs≤8000)(c8:(0:Int)≤sc∧sc≤20000):Impl Tryz.prog Amb 188 [(sV x1 x2),(.int .i64 sc)] (sV (aa1 x1 x2 sc nn) ((aa2 x1 x2 sc nn)+(ap2 x1 x2 sc nn))):=by
 exact impl_ob hP hAmb Tryz.func188 (by kernel_rfl) (.lits 3<|.call (sV (x1*x1 / 2^(sc).toNat) (-(-(x2*x2) / 2^(sc).toNat)))<|.lits 3<|.loop ⟨[1,4,5,6,7,8],5,[]⟩ ((fx_area_0_mk nn x1 x2 sc (0,3))) (Nat) (fx_area_0_ex nn x1 x2 sc) (fx_area_0_J nn x1 x2 sc) (fun y=>.lits 3<|.call (zV ((aa2 x1 x2 sc y)+(ap2 x1 x2 sc y)))<|.lits 4<|.ret))
  (cast_ob (aI True.intro (aI (fx_Mul x1 x2 x1 x2 sc oS oS oS oS oS) (aI tT (aI (rfl:(fx_area_0_mk nn x1 x2 sc (0,3))=(fx_area_0_mk nn x1 x2 sc (0,3))) (aI (fx_area_0 nn x1 x2 sc c0 c1 c2 c3 c4 c5 (0,3) (show 0≤nn∧3=2*(0:Int)+3 from ⟨by omega,by omega⟩)) (fun y (hJ:fx_area_0_J nn x1 x2 sc y)=>have hJ:y=nn:=hJ;have b1:=c5 y oO;aI (int_Add (aa2 x1 x2 sc y) (ap2 x1 x2 sc y) oS oS) (have f1:=L_abs_add (aa2 x1 x2 sc y) (ap2 x1 x2 sc y);(by rw[show y=nn from hJ];exact vsub_refl _:vsub (sV (aa1 x1 x2 sc y) ((aa2 x1 x2 sc y)+(ap2 x1 x2 sc y))) (sV (aa1 x1 x2 sc nn) ((aa2 x1 x2 sc nn)+(ap2 x1 x2 sc nn))))))))))) (by kernel_rfl))
theorem fx_LnN (m e k s xa xb z1 z2 y1 y2 v1 v2 r1 r2:Int)(c0:0≤s∧s≤5900)(c1:Impl Tryz.prog Amb 173 [(yV m e),(.int .i64 (s+32))] (sV xa xb))(c2:Impl Tryz.prog Amb 176 [(sV (-(xb+(-((1:Int)*2^((s+32)).toNat)))) (-(xa+(-((1:Int)*2^((s+32)).toNat))))),(sV (xa+((1:Int)*2^((s+32)).toNat)) (xb+((1:Int)*2^((s+32)).toNat))),(.int .i64 (s+32))] (sV z1 z2))(c3:Impl Tryz.prog Amb 188 [(sV z1 z2),(.int .i64 (s+32))] (sV y1 y2))(c4:Impl Tryz.prog Amb 101 [(.int .i64 (s+32))] (sV v1 v2))(c5:Impl Tryz.prog Amb 163 [(sV v1 v2),(.int .i64 k)] (sV r1 r2))(c6:L (xa).natAbs≤1000)(c7:L (xb).natAbs≤1000)(c8:L (y1).natAbs≤20000)(c9:L (y2).natAbs≤20000)(c10:L (r1).natAbs≤20000)(c11:L (r2).natAbs≤20000)(c12:xb≤((1:Int)*2^((s+32)).toNat))(c13:0≤(-(xb+(-((1:Int)*2^((s+32)).toNat))))):Impl Tryz.prog Amb 137 [(yV m e),(.int .i64 k),(.int .i64 s)] (sV (((-(y2*2^1))+r1) / 2^32) (-(-((-(y1*2^1))+r2) / 2^32))):=by
 have lo:=L_pow1 ((s+32)).toNat
 have cr:=cmpI_range xb ((1:Int)*2^((s+32)).toNat)
 have ci:=cmpI_le xb ((1:Int)*2^((s+32)).toNat)
 exact impl_ob hP hAmb Tryz.func137 (by kernel_rfl) (.lit<|.yes<|.lit<|.call (sV ((1:Int)*2^((s+32)).toNat) ((1:Int)*2^((s+32)).toNat))<|.lits 2<|.call (sV xa xb)<|.lits 3<|.call (sV (xa+(-((1:Int)*2^((s+32)).toNat))) (xb+(-((1:Int)*2^((s+32)).toNat))))<|.lits 4<|.call (.int .i64 (cmpI xb ((1:Int)*2^((s+32)).toNat)))<|.lit<|.yes<|.lits 2<|.call (sV (-(xb+(-((1:Int)*2^((s+32)).toNat)))) (-(xa+(-((1:Int)*2^((s+32)).toNat)))))<|.lits 2<|.no<|.lits 4<|.call (sV (xa+((1:Int)*2^((s+32)).toNat)) (xb+((1:Int)*2^((s+32)).toNat)))<|.lit<|.call (sV z1 z2)<|.lit<|.call (sV y1 y2)<|.lit<|.call (sV (y1*2^1) (y2*2^1))<|.lits 3<|.call (sV (-(y2*2^1)) (-(y1*2^1)))<|.lits 3<|.call (sV v1 v2)<|.lit<|.call (sV r1 r2)<|.lit<|.call (sV ((-(y2*2^1))+r1) ((-(y1*2^1))+r2))<|.lit<|.yes<|.lit<|.call (sV (((-(y2*2^1))+r1) / 2^(((s+32)-s)).toNat) (-(-((-(y1*2^1))+r2) / 2^(((s+32)-s)).toNat)))<|.lits 2<|.ret)
  (cast_ob (aI True.intro (aI (fits_i64 oS:(fits .i64 (s+32))=true) (aI (fx_One (s+32) oS) (have f20:=L_pow1 ((s+32)).toNat;aI (c1 ) (aI (fx_Sub xa xb ((1:Int)*2^((s+32)).toNat) ((1:Int)*2^((s+32)).toNat) oS oS oS oS) (have f19:=L_abs_neg ((1:Int)*2^((s+32)).toNat);have f18:=L_abs_neg ((1:Int)*2^((s+32)).toNat);have f17:=L_abs_add xb (-((1:Int)*2^((s+32)).toNat));have f16:=L_abs_add xa (-((1:Int)*2^((s+32)).toNat));aI (int_Cmp xb ((1:Int)*2^((s+32)).toNat) oS oS) (have f15:=cmpI_range xb ((1:Int)*2^((s+32)).toNat);aI (iLe_mk oO:(iLe (cmpI xb ((1:Int)*2^((s+32)).toNat)) 0)=true) (aI (fx_Neg (xa+(-((1:Int)*2^((s+32)).toNat))) (xb+(-((1:Int)*2^((s+32)).toNat))) oS oS) (have f14:=L_abs_neg (xb+(-((1:Int)*2^((s+32)).toNat)));have f13:=L_abs_neg (xa+(-((1:Int)*2^((s+32)).toNat)));aI (decide_eq_false oO:(decide ((-(xb+(-((1:Int)*2^((s+32)).toNat))))<0))=false) (aI (fx_Add xa xb ((1:Int)*2^((s+32)).toNat) ((1:Int)*2^((s+32)).toNat) oS oS oS oS) (have f12:=L_abs_add xb ((1:Int)*2^((s+32)).toNat);have f11:=L_abs_add xa ((1:Int)*2^((s+32)).toNat);aI (c2 ) (aI (c3 ) (aI (fx_Twice y1 y2 1 oS oS oS) (have f10:=L_abs_shl y2 1;have f9:=L_abs_shl y1 1;aI (fx_Neg (y1*2^1) (y2*2^1) oS oS) (have f8:=L_abs_neg (y2*2^1);have f7:=L_abs_neg (y1*2^1);aI (c4 ) (aI (c5 ) (aI (fx_Add (-(y2*2^1)) (-(y1*2^1)) r1 r2 oS oS oS oS) (have f6:=L_abs_add (-(y1*2^1)) r2;have f5:=L_abs_add (-(y2*2^1)) r1;aI (fits_i64 oS:(fits .i64 ((s+32)-s))=true) (aI (fx_Half ((-(y2*2^1))+r1) ((-(y1*2^1))+r2) ((s+32)-s) oS oS oS) (have f4:=L_abs_neg (-((-(y1*2^1))+r2) / 2^(((s+32)-s)).toNat);have f3:=L_abs_shr (-((-(y1*2^1))+r2)) (((s+32)-s)).toNat;have f2:=L_abs_neg ((-(y1*2^1))+r2);have f1:=L_abs_shr ((-(y2*2^1))+r1) (((s+32)-s)).toNat;(by rw[show ((s+32)-s).toNat=32 by omega];exact vsub_refl _:vsub (sV (((-(y2*2^1))+r1) / 2^(((s+32)-s)).toNat) (-(-((-(y1*2^1))+r2) / 2^(((s+32)-s)).toNat))) (sV (((-(y2*2^1))+r1) / 2^32) (-(-((-(y1*2^1))+r2) / 2^32)))))))))))))))))))))))) (by kernel_rfl))
theorem fx_LnP (m e k s xa xb z1 z2 y1 y2 v1 v2 r1 r2:Int)(c0:0≤s∧s≤5900)(c1:Impl Tryz.prog Amb 173 [(yV m e),(.int .i64 (s+32))] (sV xa xb))(c2:Impl Tryz.prog Amb 176 [(sV (xa+(-((1:Int)*2^((s+32)).toNat))) (xb+(-((1:Int)*2^((s+32)).toNat)))),(sV (xa+((1:Int)*2^((s+32)).toNat)) (xb+((1:Int)*2^((s+32)).toNat))),(.int .i64 (s+32))] (sV z1 z2))(c3:Impl Tryz.prog Amb 188 [(sV z1 z2),(.int .i64 (s+32))] (sV y1 y2))(c4:Impl Tryz.prog Amb 101 [(.int .i64 (s+32))] (sV v1 v2))(c5:Impl Tryz.prog Amb 163 [(sV v1 v2),(.int .i64 k)] (sV r1 r2))(c6:L (xa).natAbs≤1000)(c7:L (xb).natAbs≤1000)(c8:L (y1).natAbs≤20000)(c9:L (y2).natAbs≤20000)(c10:L (r1).natAbs≤20000)(c11:L (r2).natAbs≤20000)(c12:((1:Int)*2^((s+32)).toNat)<xb)(c13:0≤(xa+(-((1:Int)*2^((s+32)).toNat)))):Impl Tryz.prog Amb 137 [(yV m e),(.int .i64 k),(.int .i64 s)] (sV (((y1*2^1)+r1) / 2^32) (-(-((y2*2^1)+r2) / 2^32))):=by
 have lo:=L_pow1 ((s+32)).toNat
 have cr:=cmpI_range xb ((1:Int)*2^((s+32)).toNat)
 have ci:=cmpI_le xb ((1:Int)*2^((s+32)).toNat)
 exact impl_ob hP hAmb Tryz.func137 (by kernel_rfl) (.lit<|.yes<|.lit<|.call (sV ((1:Int)*2^((s+32)).toNat) ((1:Int)*2^((s+32)).toNat))<|.lits 2<|.call (sV xa xb)<|.lits 3<|.call (sV (xa+(-((1:Int)*2^((s+32)).toNat))) (xb+(-((1:Int)*2^((s+32)).toNat))))<|.lits 4<|.call (.int .i64 (cmpI xb ((1:Int)*2^((s+32)).toNat)))<|.lit<|.no<|.lit<|.no<|.lits 4<|.call (sV (xa+((1:Int)*2^((s+32)).toNat)) (xb+((1:Int)*2^((s+32)).toNat)))<|.lit<|.call (sV z1 z2)<|.lit<|.call (sV y1 y2)<|.lit<|.call (sV (y1*2^1) (y2*2^1))<|.lits 3<|.call (sV v1 v2)<|.lit<|.call (sV r1 r2)<|.lit<|.call (sV ((y1*2^1)+r1) ((y2*2^1)+r2))<|.lit<|.yes<|.lit<|.call (sV (((y1*2^1)+r1) / 2^(((s+32)-s)).toNat) (-(-((y2*2^1)+r2) / 2^(((s+32)-s)).toNat)))<|.lits 2<|.ret)
  (cast_ob (aI True.intro (aI (fits_i64 oS:(fits .i64 (s+32))=true) (aI (fx_One (s+32) oS) (have f16:=L_pow1 ((s+32)).toNat;aI (c1 ) (aI (fx_Sub xa xb ((1:Int)*2^((s+32)).toNat) ((1:Int)*2^((s+32)).toNat) oS oS oS oS) (have f15:=L_abs_neg ((1:Int)*2^((s+32)).toNat);have f14:=L_abs_neg ((1:Int)*2^((s+32)).toNat);have f13:=L_abs_add xb (-((1:Int)*2^((s+32)).toNat));have f12:=L_abs_add xa (-((1:Int)*2^((s+32)).toNat));aI (int_Cmp xb ((1:Int)*2^((s+32)).toNat) oS oS) (have f11:=cmpI_range xb ((1:Int)*2^((s+32)).toNat);aI (iLe_mkF oO:(iLe (cmpI xb ((1:Int)*2^((s+32)).toNat)) 0)=false) (aI (decide_eq_false oO:(decide ((xa+(-((1:Int)*2^((s+32)).toNat)))<0))=false) (aI (fx_Add xa xb ((1:Int)*2^((s+32)).toNat) ((1:Int)*2^((s+32)).toNat) oS oS oS oS) (have f10:=L_abs_add xb ((1:Int)*2^((s+32)).toNat);have f9:=L_abs_add xa ((1:Int)*2^((s+32)).toNat);aI (c2 ) (aI (c3 ) (aI (fx_Twice y1 y2 1 oS oS oS) (have f8:=L_abs_shl y2 1;have f7:=L_abs_shl y1 1;aI (c4 ) (aI (c5 ) (aI (fx_Add (y1*2^1) (y2*2^1) r1 r2 oS oS oS oS) (have f6:=L_abs_add (y2*2^1) r2;have f5:=L_abs_add (y1*2^1) r1;aI (fits_i64 oS:(fits .i64 ((s+32)-s))=true) (aI (fx_Half ((y1*2^1)+r1) ((y2*2^1)+r2) ((s+32)-s) oS oS oS) (have f4:=L_abs_neg (-((y2*2^1)+r2) / 2^(((s+32)-s)).toNat);have f3:=L_abs_shr (-((y2*2^1)+r2)) (((s+32)-s)).toNat;have f2:=L_abs_neg ((y2*2^1)+r2);have f1:=L_abs_shr ((y1*2^1)+r1) (((s+32)-s)).toNat;(by rw[show ((s+32)-s).toNat=32 by omega];exact vsub_refl _:vsub (sV (((y1*2^1)+r1) / 2^(((s+32)-s)).toNat) (-(-((y2*2^1)+r2) / 2^(((s+32)-s)).toNat))) (sV (((y1*2^1)+r1) / 2^32) (-(-((y2*2^1)+r2) / 2^32)))))))))))))))))))))) (by kernel_rfl))
theorem L_T {x:Int}{t:Nat}(h0:0≤x)(h:x≤8192*2^t)(ht:t≤6000):L x.natAbs≤200:=by
 refine L_pow2 (n:=t+14) ?_ oO
 have e:(2:Nat)^(t+14)=16384*2^t:=by rw[Nat.pow_add,Nat.mul_comm]
 have p:((2^t:Nat):Int)=(2:Int)^t:=(pow_cast t).symm
 have:=two_pos t
 rw[e];omega
theorem fx_area (x1 x2 s:Int)(hs:8≤s∧s≤6000)(h:ArH (2^s.toNat) x1 x2)(hd:x2-x1≤4) :
  ∃ y1 y2:Int,Impl Tryz.prog Amb 188 [(sV x1 x2),(.int .i64 s)] (sV y1 y2)∧0≤y1∧y1≤y2∧y2-y1≤100000∧y2≤8192*2^s.toNat ∧
   ∀ X:Rat,(x1:Rat)≤X*((2^s.toNat:Int):Rat)→X*((2^s.toNat:Int):Rat)≤(x2:Rat)→∃ N0,∀ K,N0≤K→(y1:Rat)≤PL X K*((2^s.toNat:Int):Rat)∧PL X K*((2^s.toNat:Int):Rat)≤(y2:Rat):=by
 generalize ht:s.toNat=t at *
 have T0:(0:Rat)<((2^t:Int):Rat):=Rat.intCast_pos.2 (two_pos t)
 obtain⟨N,hN,hs8,hl⟩:=aP_small h
 have pf:=aP_facts h
 have af:=aA_facts h
 have eX:(x1:Rat)*((2^t:Int):Rat)⁻¹*((2^t:Int):Rat)=x1:=by rw[Rat.mul_assoc,Rat.inv_mul_cancel _ (by grind),Rat.mul_one]
 have pe:=aP_enc (X:=(x1:Rat)*((2^t:Int):Rat)⁻¹) h (by rw[eX];exact Rat.le_refl) (by rw[eX];exact Rat.intCast_le_intCast.2 h.h2)
 have ae:=aA_enc (X:=(x1:Rat)*((2^t:Int):Rat)⁻¹) h (by rw[eX];exact Rat.le_refl) (by rw[eX];exact Rat.intCast_le_intCast.2 h.h2)
 have po:∀ j,(aP (2^t) x1 x2 j).1≤(aP (2^t) x1 x2 j).2:=fun j=>Rat.intCast_le_intCast.1 (Rat.le_trans (pe j).1 (pe j).2)
 have ao:∀ j,(aA (2^t) x1 x2 j).1≤(aA (2^t) x1 x2 j).2:=fun j=>Rat.intCast_le_intCast.1 (Rat.le_trans (ae j).1 (ae j).2)
 have t6:t≤6000:=by omega
 have p1:∀ j,L (ap1 x1 x2 s j).natAbs≤200:=fun j=>by
  unfold ap1;rw[ht];have a:=pf j;have b:=po j
  exact L_T a.1 oO t6
 have p2:∀ j,L (ap2 x1 x2 s j).natAbs≤200:=fun j=>by
  unfold ap2;rw[ht];have a:=pf j
  exact L_T a.2.1 oO t6
 have am:∀ j,j≤N→(aA (2^t) x1 x2 j).2≤8000*2^t:=fun j hj=>by
  have a:=(af j).2.1
  have m:=Int.mul_le_mul_of_nonneg_right (show (j:Int)+1≤8000 by omega) (Int.le_of_lt (two_pos t))
  omega
 have a1:∀ j,j≤N→L (aa1 x1 x2 s j).natAbs≤200:=fun j hj=>by
  unfold aa1;rw[ht];have a:=af j;have b:=ao j;have c:=am j hj
  exact L_T a.1 oO t6
 have a2:∀ j,j≤N→L (aa2 x1 x2 s j).natAbs≤200:=fun j hj=>by
  unfold aa2;rw[ht];have a:=af j;have c:=am j hj
  exact L_T a.2.2.2 oO t6
 have q:=ar_q (T:=2^t) (two_pos t) h.h1 h.h2 h.h3
 have lq1:L (x1*x1 / 2^s.toNat).natAbs≤200:=by rw[ht];exact L_T q.1 oO t6
 have lq2:L (-(-(x2*x2) / 2^s.toNat)).natAbs≤200:=by rw[ht];exact L_T q.2.2.2.1 (by have:=h.hT;omega) t6
 have lx1:L x1.natAbs≤200:=L_T h.h1 (by have:=h.h2;have:=h.h3;omega) t6
 have lx2:L x2.natAbs≤200:=L_T (by have:=h.h1;have:=h.h2;omega) (by have:=h.h3;have:=h.h1;have:=h.h2;omega) t6
 have lt:∀ j,L (at1 x1 x2 s j).natAbs≤200∧L (at2 x1 x2 s j).natAbs≤201:=fun j=>by
  have b1:=p1 (j+1)
  have b2:=p2 (j+1)
  have l1:=L_div (ap1 x1 x2 s (j+1)).natAbs (odn (j+1)).toNat
  have l2:=L_div (ap2 x1 x2 s (j+1)).natAbs (odn (j+1)).toNat
  have l3:=L_add ((ap2 x1 x2 s (j+1)).natAbs / (odn (j+1)).toNat) 1
  have l4:=L_lit 1 (by decide)
  unfold at1 at2 ptLo ptHi
  rw[Int.natAbs_natCast,Int.natAbs_natCast]
  refine⟨by omega,?_⟩
  split
  ·rw[Nat.add_zero];omega
  ·omega
 refine⟨_,_,fx_area0 N x1 x2 s oO ?_ ?_ ?_ ?_ ?_ oO oO oO,?_,?_,?_,?_,?_⟩
 ·intro j hj
  refine impl_eq (congrArg V.bool (decide_eq_decide.2 ?_)) (fx_Tiny (ap1 x1 x2 s j) (ap2 x1 x2 s j) (by have:=p2 j;omega))
  unfold ap2
  rw[ht]
  constructor
  ·intro hq
   refine Decidable.byContradiction fun hn=>hl j oO ?_
   omega
  ·intro hq
   rw[show j=N by omega]
   have:=(pf N).2.1
   omega
 ·intro j hj
  exact fx_Mul (ap1 x1 x2 s j) (ap2 x1 x2 s j) (x1*x1 / 2^s.toNat) (-(-(x2*x2) / 2^s.toNat)) s (by have:=p1 j;omega) (by have:=p2 j;omega) oO oO oO
 ·intro j k hj hk
  subst hk
  exact fx_Part (ap1 x1 x2 s (j+1)) (ap2 x1 x2 s (j+1)) (odn (j+1)) (by have:=p1 (j+1);omega) (by have:=p2 (j+1);omega) (by unfold odn;omega)
 ·intro j hj
  have b:=lt j
  exact fx_Add (aa1 x1 x2 s j) (aa2 x1 x2 s j) (at1 x1 x2 s j) (at2 x1 x2 s j) (by have:=a1 j oO;omega) (by have:=a2 j oO;omega) oO oO
 ·intro j hj
  have:=a2 j hj
  have:=p2 j
  omega
 ·unfold aa1;rw[ht];exact (af N).1
 ·unfold aa1 aa2 ap2;rw[ht];have:=ao N;have:=(pf N).2.1;omega
 ·unfold aa1 aa2 ap2;rw[ht]
  have a:=(af N).2.2.1
  have d0:=h.h2
  have m:=Int.mul_le_mul_of_nonneg_left (show (x2-x1)+8≤12 by omega) (show (0:Int)≤(N:Int) by omega)
  omega
 ·unfold aa2 ap2;rw[ht]
  have:=am N (Nat.le_refl _)
  have:=h.hT
  omega
 ·intro X e1 e2
  unfold aa1 aa2 ap2;rw[ht]
  exact⟨N+1,fun K hK=>area_enc h e1 e2 N hK⟩
end Go.Proofs.YtkkbddkpggjgpaaGreatDoor

namespace Go.Proofs.YtkkbddkpggjgpaaGreatDoor
theorem cmpD_le {m e n f:Int}:cmpD m e n f≤0↔dv m e≤dv n f:=by rw[cmpD_dv,cmpQ_le]
end Go.Proofs.YtkkbddkpggjgpaaGreatDoor


namespace Go.Proofs.YtkkbddkpggjgpaaGreatDoor
theorem dv_ge0 {m e:Int}:0≤dv m e↔0≤m:=by rw[← dv_zero e,dv_le]
theorem dv_top {m e:Int}(hm:m≠0):dv (m.natAbs:Int) e<dv 1 (topD m e)∧dv 1 (topD m e-1)≤dv (m.natAbs:Int) e:=by
 have h1:=nbits_lt m.natAbs
 have h2:=nbits_le (show m.natAbs≠0 by omega)
 have h3:=nbits_pos (show m.natAbs≠0 by omega)
 have ht:topD m e=(nbits m.natAbs:Int)+e:=by unfold topD;rw[if_neg hm]
 constructor
 ·rw[dv_at (m:=1) (show e≤topD m e by omega),dv_lt,Int.one_mul,pow_cast,show (topD m e-e).toNat=nbits m.natAbs by omega];omega
 ·rw[dv_at (m:=1) (show e≤topD m e-1 by omega),dv_le,Int.one_mul,pow_cast,show (topD m e-1-e).toNat=nbits m.natAbs-1 by omega];omega
theorem dv1_le {a b:Int}(h:a≤b):dv 1 a≤dv 1 b:=by
 rw[dv_at h,dv_le,Int.one_mul,pow_cast]
 have:=Nat.pow_pos (n:=(b-a).toNat) (show 0<2 by omega);omega
theorem dv1_pos (t:Int):0<dv 1 t:=dv_pos.2 (by decide)
end Go.Proofs.YtkkbddkpggjgpaaGreatDoor

namespace Go.Proofs.YtkkbddkpggjgpaaGreatDoor
theorem PL_odd {y z:Rat}(h:y≤z):∀ k,PL y k≤PL z k
 | 0=>Rat.le_refl
 | k+1=>by
  have i:=PL_odd h k
  have p:=odd_mono h (k:=2*k+1) (by omega)
  have n0:(0:Rat)<(odn k:Rat):=Rat.intCast_pos.2 (odn_pos k)
  have d:y^(2*k+1) / (odn k:Rat)≤z^(2*k+1) / (odn k:Rat):=by
   rw[Rat.div_def,Rat.div_def]
   exact Rat.mul_le_mul_of_nonneg_right p (Rat.le_of_lt (Rat.inv_pos.2 n0))
  show PL y k+y^(2*k+1) / (odn k:Rat)≤PL z k+z^(2*k+1) / (odn k:Rat)
  grind
theorem PL_cap {z c:Rat}(hz:0≤z)(h2:2*z≤1)(h:PL z 100+z^199≤c)(K:Nat):PL z K≤c:=by
 have t:=(PL_hi hz h2 (j:=99) (K:=100+K) (by omega)).2
 have m:=PL_mono hz (j:=K) 100
 rw[Nat.add_comm] at m
 exact Rat.le_trans m (Rat.le_trans t h)
theorem PL_num:2*(PL (1 / 5) 100+(1 / 5)^199)+2*(PL (1 / 7) 100+(1 / 7)^199)≤cLn+dv 1 (-420):=of_decide_eq_true (by kernel_rfl)
theorem z_mono {M N:Rat}(hM:0<M)(h:M≤N):(M-1) / (M+1)≤(N-1) / (N+1):=by
 have a:(0:Rat)<M+1:=by grind
 have b:(0:Rat)<N+1:=by grind
 have e1:=Rat.div_mul_cancel (a:=M-1) (b:=M+1) (by grind)
 have e2:=Rat.div_mul_cancel (a:=N-1) (b:=N+1) (by grind)
 generalize (M-1) / (M+1)=x at *
 generalize (N-1) / (N+1)=y at *
 refine Decidable.byContradiction fun hn=>?_
 have hn:=Rat.not_le.1 hn
 have m:=Rat.mul_lt_mul_of_pos_right hn (Rat.mul_pos a b)
 have a1:y*((M+1)*(N+1))=(N-1)*(M+1):=by rw[← e2];grind
 have a2:x*((M+1)*(N+1))=(M-1)*(N+1):=by rw[← e1];grind
 rw[a1,a2] at m
 grind
theorem zp_step {k1 k2:Int}(h:k1<k2):(2:Rat)*2^k1≤2^k2:=by
 have e:(2:Rat)^(k1+1)=2^k1*2:=by
  rw[zp_add];rfl
 have l:=dv1_le (a:=k1+1) (b:=k2) (by omega)
 unfold dv at l
 rw[Rat.intCast_one,Rat.one_mul,Rat.one_mul] at l
 grind
theorem ln_mono {M N:Rat}{k1 k2:Int}(hM:3≤4*M)(hM2:2*M<3)(hN:3≤4*N)(hN2:2*N<3)(h:M*2^k1≤N*2^k2)(K:Nat):LnF M k1 K≤LnF N k2 K+dv 1 (-420):=by
 have p1:=zp_pos k1
 have p2:=zp_pos k2
 have e0:(0:Rat)<dv 1 (-420):=dv1_pos _
 unfold LnF
 rcases Int.lt_trichotomy k1 k2 with hk | hk | hk
 ·have z1:=z_mono (M:=M) (N:=3 / 2) (by grind) (by grind)
  have z2:=z_mono (M:=3 / 4) (N:=N) (by grind) (by grind)
  rw[show ((3:Rat) / 2-1) / (3 / 2+1)=1 / 5 by grind] at z1
  rw[show ((3:Rat) / 4-1) / (3 / 4+1)=-(1 / 7) by grind] at z2
  have q1:=PL_odd z1 K
  have q2:=PL_odd z2 K
  rw[PL_neg] at q2
  have c1:=PL_cap (z:=1 / 5) (by grind) (by grind) Rat.le_refl K
  have c2:=PL_cap (z:=1 / 7) (by grind) (by grind) Rat.le_refl K
  have nm:=PL_num
  have c0:(0:Rat)≤cLn:=dv_ge0.2 (by decide)
  have kk:((k1+1:Int):Rat)≤(k2:Rat):=Rat.intCast_le_intCast.2 (by omega)
  rw[Rat.intCast_add,Rat.intCast_one] at kk
  have mk:=Rat.mul_le_mul_of_nonneg_right kk c0
  grind
 ·subst hk
  have hMN:M≤N:=Rat.le_of_mul_le_mul_right h p1
  have q:=PL_odd (z_mono (by grind) hMN) K
  grind
 ·exfalso
  have s:=zp_step hk
  have a:=Rat.mul_le_mul_of_nonneg_left s (show (0:Rat)≤M by grind)
  have b:=Rat.mul_le_mul_of_nonneg_right hM (Rat.le_of_lt p2)
  have c:=Rat.mul_lt_mul_of_pos_right hN2 p2
  grind
theorem grid_le {a b:Int}{F G:Rat}{s:Nat}(hs:s≤400)(h1:(a:Rat)≤F*((2^s:Int):Rat))(h2:G*((2^s:Int):Rat)≤(b:Rat))(h:F≤G+dv 1 (-420)):a≤b:=by
 have T0:(0:Rat)<((2^s:Int):Rat):=Rat.intCast_pos.2 (two_pos s)
 have m:=Rat.mul_le_mul_of_nonneg_right h (Rat.le_of_lt T0)
 have e:dv 1 (-420)*((2^s:Int):Rat)<1:=by
  have l:=dv1_le (a:=-420) (b:=-(s:Int)-1) (by omega)
  have m2:=Rat.mul_le_mul_of_nonneg_right l (Rat.le_of_lt T0)
  have d:dv 1 (-(s:Int)-1)*((2^s:Int):Rat)=1 / 2:=by
   have e1:dv 1 (-(s:Int))=2*dv 1 (-(s:Int)-1):=by
    have:=dv_shl 1 (-(s:Int)-1) 1
    rw[show -(s:Int)-1+((1:Nat):Int)=-(s:Int) by omega] at this
    rw[← this]
    unfold dv
    rw[Rat.intCast_mul]
    show (1*2:Rat)*_=2*(1*_)
    grind
   have e2:=dv_sc 1 s
   rw[e1,Rat.intCast_one] at e2
   generalize dv 1 (-(s:Int)-1)=u at *
   generalize ((2^s:Int):Rat)=T at *
   grind
  rw[d] at m2
  generalize dv 1 (-420)*((2^s:Int):Rat)=u at *
  grind
 generalize ((2^s:Int):Rat)=T at *
 refine Decidable.byContradiction fun hn=>?_
 have:((b+1:Int):Rat)≤(a:Rat):=Rat.intCast_le_intCast.2 (by omega)
 rw[Rat.intCast_add,Rat.intCast_one] at this
 grind
theorem ln_grid {M N:Rat}{k1 k2 a b c d:Int}{s:Nat}(hs:s≤400)(hM:3≤4*M)(hM2:2*M<3)(hN:3≤4*N)(hN2:2*N<3)(h:M*2^k1≤N*2^k2)(h1:Encl (LnF M k1) s a b)(h2:Encl (LnF N k2) s c d):a≤d:=by
 obtain⟨A,h1⟩:=h1
 obtain⟨C,h2⟩:=h2
 exact grid_le hs (h1 (A+C) (by omega)).1 (h2 (A+C) (by omega)).2 (ln_mono hM hM2 hN hN2 h (A+C))
end Go.Proofs.YtkkbddkpggjgpaaGreatDoor

namespace Go.Proofs.YtkkbddkpggjgpaaGreatDoor
def spl (m e:Int):Int:=topD m e-(if cmpD m (e-topD m e) 3 (-2)<0 then 1 else 0)
theorem sp_y {m e:Int}(h:cmpD m (e-topD m e) 3 (-2)<0):topD m e-1=spl m e∧e-topD m e+1=e-spl m e:=by
 unfold spl;rw[if_pos h];omega
theorem sp_n {m e:Int}(h:0≤cmpD m (e-topD m e) 3 (-2)):topD m e=spl m e∧e-topD m e=e-spl m e:=by
 unfold spl;rw[if_neg (by omega)];omega
theorem dv_exp (m e k:Int):dv m e=dv m (e-k)*2^k:=by
 unfold dv
 rw[Rat.mul_assoc,← zp_add,show e-k+k=e by omega]
theorem dv_three:dv 3 (-2)=3 / 4:=by
 have h:dv 3 (-2)*2^(2:Int)=3:=by
  rw[show dv 3 (-2)*2^(2:Int)=dv 3 0 from (dv_exp 3 0 2).symm,dv_int];rfl
 rw[show (2:Rat)^(2:Int)=4 from rfl] at h
 grind
theorem dv_half (m e:Int):dv m e=2*dv m (e-1):=by
 have:=dv_exp m e 1
 rw[show (2:Rat)^(1:Int)=2 from rfl] at this
 grind
theorem sp_top {m e:Int}(h:0<m):1≤2*dv m (e-topD m e)∧dv m (e-topD m e)<1:=by
 have t:=dv_top (m:=m) (e:=e) (by omega)
 rw[show (m.natAbs:Int)=m by omega] at t
 have p:=zp_pos (topD m e)
 have e1:=dv_exp m e (topD m e)
 have e2:=dv_half 1 (topD m e)
 have e3:dv 1 (topD m e)=2^topD m e:=by unfold dv;rw[Rat.intCast_one,Rat.one_mul]
 rw[e3] at e2 t
 rw[e1] at t
 constructor
 ·refine Rat.le_of_mul_le_mul_right (c:=(2:Rat)^topD m e) ?_ p
  grind
 ·exact (Rat.mul_lt_mul_right p).1 (by rw[Rat.one_mul];exact t.1)
theorem sp_facts {m e:Int}(h:0<m):3≤4*dv m (e-spl m e)∧2*dv m (e-spl m e)<3∧dv m e=dv m (e-spl m e)*2^spl m e∧e≤spl m e∧spl m e≤32*(L m.natAbs:Int)+e:=by
 have t:=sp_top (e:=e) h
 have r:=topD_range m e
 have e1:=dv_exp m e (spl m e)
 have three:=dv_three
 by_cases c:cmpD m (e-topD m e) 3 (-2)<0
 ·have s:=sp_y c
  have l:=cmpD_neg.1 c
  have d:=dv_half m (e-spl m e)
  rw[show e-spl m e-1=e-topD m e by omega] at d
  refine⟨by grind,by grind,e1,by omega,by omega⟩
 ·have s:=sp_n (m:=m) (e:=e) (by omega)
  have l:3 / 4≤dv m (e-topD m e):=by
   rw[← three]
   exact Rat.not_lt.1 fun q=>c (cmpD_neg.2 q)
  rw[← s.2]
  refine⟨by grind,by grind,by rw[s.2];exact e1,by omega,by omega⟩
theorem spl_r1 {m z k k' e e' c:Int}(hs:z=m)(h:k=k'∧e=e'):vsub (.tup [.int .i64 k,.agg [.bool (decide (z<0)),N z.natAbs,.int .i64 e],.int .i64 c]) (.tup [.int .i64 k',.agg [.bool (decide (m<0)),N m.natAbs,.int .i64 e'],.int .i64 c]):=by
 obtain⟨rfl,rfl⟩:=h
 subst hs
 exact vsub_refl _
end Go.Proofs.YtkkbddkpggjgpaaGreatDoor

namespace Go.Proofs.YtkkbddkpggjgpaaGreatDoor
open Go.RowKit
set_option maxRecDepth 100000
theorem lg_Split (m e:Int)(c0:L (m).natAbs≤4000)(c1:-65536≤e∧e≤65536)(c2:0<m):Impl Tryz.prog Amb 69 [(yV m e)] (.tup [(.int .i64 (spl m e)),(yV m (e-(spl m e))),(.int .i64 0)]):=by
 have sm:=L_sgn false m.natAbs
 have sf:sgn false m.natAbs=m:=(sgn_f _).trans (Int.natAbs_of_nonneg oO)
 have tr:=topD_range m e
 have l3:=L_lit 3 (by decide)
 have ce:cmpD (sgn false m.natAbs) (e-topD m e) 3 (-2)=cmpD m (e-topD m e) 3 (-2):=by rw[sf]
 exact impl_ob hP hAmb Tryz.func69 (by kernel_rfl) (.lits 2<|.call (.int .i64 ((m).sign))<|.lit<|.no<|.lits 2<|.call (.int .i64 (topD m e))<|.lits 2<|.call (zV (sgn false m.natAbs))<|.lits 2<|.yes<|.lits 2<|.call (zV (3:Int))<|.lits 5<|.call (.int .i64 (cmpD (sgn false m.natAbs) (e-(topD m e)) (3:Int) (-2)))<|.lit<|.both (.lit<|.yes<|.lits 3<|.yes<|.lits 3<|.ret) (.lits 3<|.ret))
  (cast_ob (aI True.intro (aI (dy_Sign m e oO) (have f7:=sign_range m;aI (iLe_mkF oO:(iLe ((m).sign) 0)=false) (aI (dy_Top m e oO oO) (have f6:=topD_range m e;aI (int_Nat false m.natAbs oO) (have f5:=L_sgn false m.natAbs;aI (fits_i64 oO:(fits .i64 (e-(topD m e)))=true) (aI (int_Of 3 oO) (have f4:=(L_i64 oO:L (3:Int).natAbs≤2);aI (dy_Cmp (sgn false m.natAbs) (e-(topD m e)) (3:Int) (-2) oO oO oO oO) (have f3:=cmpD_range (sgn false m.natAbs) (e-(topD m e)) (3:Int) (-2);aI (fun (h1:(iLt (cmpD (sgn false m.natAbs) (e-(topD m e)) (3:Int) (-2)) 0)=true)=>have _gh1:=iLt_t h1;aI (fits_i64 oO:(fits .i64 ((topD m e)-1))=true) (aI (fits_i64 oO:(fits .i64 ((e-(topD m e))+1))=true) ((spl_r1 sf (sp_y oO):vsub (.tup [(.int .i64 ((topD m e)-1)),(yV (sgn false m.natAbs) ((e-(topD m e))+1)),(.int .i64 0)]) (.tup [(.int .i64 (spl m e)),(yV m (e-(spl m e))),(.int .i64 0)]))))) (fun (h2:(iLt (cmpD (sgn false m.natAbs) (e-(topD m e)) (3:Int) (-2)) 0)=false)=>have _gh2:=iLt_f h2;(spl_r1 sf (sp_n oO):vsub (.tup [(.int .i64 (topD m e)),(yV (sgn false m.natAbs) (e-(topD m e))),(.int .i64 0)]) (.tup [(.int .i64 (spl m e)),(yV m (e-(spl m e))),(.int .i64 0)])))))))))))) (by kernel_rfl))
def fx_Settle2_0_mk (fk:Nat)(u1:V)(u2:V)(_ _ w:Int)(x:Int):St:=⟨mkS 27 [(0,(.val (.int .i64 w))),(1,(.val (.clos fk [u1,u2]))),(4,(.own 0 0)),(5,(.val (.int .i64 24)))],[⟨true,false,[(V.bool false),V.nil,(V.bool false),V.nil]⟩]⟩
def fx_Settle2_0_I (_:Nat)(_:V)(_:V)(_ _ _:Int)(x:Int):Prop:=x=x
def fx_Settle2_0_mu (_:Nat)(_:V)(_:V)(_ _ _:Int)(x:Int):Nat:=0
def fx_Settle2_0_ex (_:Nat)(_:V)(_:V)(ka kb _:Int)(y:Int):Ex × St:=(.ret,⟨mkS 27 [(4,(.own 0 0))],[⟨true,false,[(V.bool (decide ((ka / 2^24)<0))),(N ((ka / 2^24).natAbs)),(V.bool (decide ((-(-kb / 2^24))<0))),(N ((-(-kb / 2^24)).natAbs))]⟩]⟩)
def fx_Settle2_0_J (_:Nat)(_:V)(_:V)(_ _ _:Int)(y:Int):Prop:=y=y
theorem fx_Settle2_0 (fk:Nat)(u1:V)(u2:V)(ka kb w:Int)(c0:Impl Tryz.prog Amb fk [(.int .i64 (w+24)),u1,u2] (sV ka kb))(c1:L ka.natAbs≤8192∧L kb.natAbs≤8192)(c2:nbits (kb-ka).natAbs≤24)(c3:(0:Int)≤w∧w≤5000)(x0:Int)(hI:fx_Settle2_0_I fk u1 u2 ka kb w x0):LoopOk Tryz.prog Amb (loopN Tryz.f78 0) (fx_Settle2_0_mk fk u1 u2 ka kb w x0) (fun e st_=>∃ y,fx_Settle2_0_J fk u1 u2 ka kb w y∧fx_Settle2_0_ex fk u1 u2 ka kb w y=(e,st_)) :=
 loop_ob hP hAmb ⟨[0,1,4,5],1,[]⟩ (fx_Settle2_0_mk fk u1 u2 ka kb w) (fx_Settle2_0_I fk u1 u2 ka kb w) (fx_Settle2_0_mu fk u1 u2 ka kb w) (fx_Settle2_0_ex fk u1 u2 ka kb w) (fx_Settle2_0_J fk u1 u2 ka kb w) x0 hI (fun j=>.lit<|.yes<|.lit<|.call (sV ka kb)<|.lits 3<|.call (zV (kb-ka))<|.lits 2<|.call (.int .i64 (nbits ((kb-ka).natAbs):Int))<|.lit<|.yes<|.lits 5<|.call (sV (ka / 2^24) (-(-kb / 2^24)))<|.lit<|.fin3 ⟨[4],[0]⟩) (by
  rintro j hI
  have hI:j=j:=hI
  have h1:=hI
  exact cast_ob (aI True.intro (aI (fits_i64 oS:(fits .i64 (w+24))=true) (aI (c0 ) (aI (fx_Width ka kb oS oS) (have f106:=L_abs_sub kb ka;aI (nat_Bits ((kb-ka).natAbs) oS) (have f105:=nbits_L ((kb-ka).natAbs);aI (iLe_mk oO:(iLe (nbits ((kb-ka).natAbs):Int) 24)=true) (aI (fx_Half ka kb 24 oS oS oS) (have f104:=L_abs_neg (-kb / 2^24);have f103:=L_abs_shr (-kb) 24;have f102:=L_abs_neg kb;have f101:=L_abs_shr ka 24;aI tT ((nx_ret ((fx_Settle2_0_ex fk u1 u2 ka kb w j).2) j (show j=j from rfl) rfl:NX (fx_Settle2_0_mk fk u1 u2 ka kb w) (fx_Settle2_0_I fk u1 u2 ka kb w) (fx_Settle2_0_mu fk u1 u2 ka kb w) (fx_Settle2_0_ex fk u1 u2 ka kb w) (fx_Settle2_0_J fk u1 u2 ka kb w) j .ret ((fx_Settle2_0_ex fk u1 u2 ka kb w j).2))))))))))) (by kernel_rfl))
theorem fx_Settle2 (fk:Nat)(u1:V)(u2:V)(ka kb w:Int)(c0:Impl Tryz.prog Amb fk [(.int .i64 (w+24)),u1,u2] (sV ka kb))(c1:L ka.natAbs≤8192∧L kb.natAbs≤8192)(c2:nbits (kb-ka).natAbs≤24)(c3:(0:Int)≤w∧w≤5000):Impl Tryz.prog Amb 78 [(.int .i64 w),(.clos fk [u1,u2])] (sV (ka / 2^24) (-(-kb / 2^24))):=by
 exact impl_ob hP hAmb Tryz.func78 (by kernel_rfl) (.loop ⟨[0,1,4,5],1,[]⟩ ((fx_Settle2_0_mk fk u1 u2 ka kb w (0:Int))) (Int) (fx_Settle2_0_ex fk u1 u2 ka kb w) (fx_Settle2_0_J fk u1 u2 ka kb w) (fun y=>.lit<|.ret))
  (cast_ob (aI True.intro (aI tT (aI (rfl:(fx_Settle2_0_mk fk u1 u2 ka kb w (0:Int))=(fx_Settle2_0_mk fk u1 u2 ka kb w (0:Int))) (aI (fx_Settle2_0 fk u1 u2 ka kb w c0 c1 c2 c3 (0:Int) (show (0:Int)=(0:Int) from rfl)) (fun y (hJ:fx_Settle2_0_J fk u1 u2 ka kb w y)=>have hJ:y=y:=hJ;(vsub_refl (sV (ka / 2^24) (-(-kb / 2^24))))))))) (by kernel_rfl))
end Go.Proofs.YtkkbddkpggjgpaaGreatDoor

namespace Go.Proofs.YtkkbddkpggjgpaaGreatDoor
open Go.RowKit
set_option maxRecDepth 100000
set_option maxHeartbeats 2000000
def saS (p:Nat→Int):Nat→Int
 | 0=>p 0
 | j+1=>saS p j+p (j+1)
def sqS (a b T:Int):Nat→Int × Int
 | 0=>(a,b)
 | i+1=>((sqS a b T i).1*(sqS a b T i).1 / T,-(-((sqS a b T i).2*(sqS a b T i).2) / T))
def fx_exp_0_mk (x1 x2 sc _:Int)(x:Int):St:=⟨mkS 63 [(1,(.val (.int .i64 sc))),(2,(.own 0 0)),(4,(.own 1 0)),(5,(.val (.int .i64 x)))],[⟨true,false,[(V.bool (decide (x1<0))),(N x1.natAbs),(V.bool (decide (x2<0))),(N x2.natAbs)]⟩,⟨true,false,[(V.bool false),V.nil,(V.bool false),V.nil]⟩]⟩
def fx_exp_0_I (_ _ _ hh:Int)(x:Int):Prop:=4≤x∧x≤hh
def fx_exp_0_mu (_ _ _ hh:Int)(x:Int):Nat:=(hh-x).toNat
def fx_exp_0_ex (x1 x2 sc _:Int)(y:Int):Ex × St:=(.exit 0,⟨mkS 63 [(1,(.val (.int .i64 sc))),(2,(.own 0 0)),(4,(.own 1 0)),(5,(.val (.int .i64 y)))],[⟨true,false,[(V.bool (decide (x1<0))),(N x1.natAbs),(V.bool (decide (x2<0))),(N x2.natAbs)]⟩,⟨true,false,[(V.bool false),V.nil,(V.bool false),V.nil]⟩]⟩)
def fx_exp_0_J (_ _ _ hh:Int)(y:Int):Prop:=y=hh
abbrev fx_exp_0_N (x1 x2 sc hh:Int):=NX (fx_exp_0_mk x1 x2 sc hh) (fx_exp_0_I x1 x2 sc hh) (fx_exp_0_mu x1 x2 sc hh) (fx_exp_0_ex x1 x2 sc hh) (fx_exp_0_J x1 x2 sc hh)
theorem fx_exp_0 (x1 x2 sc hh:Int)(c0:0≤sc∧sc≤20000)(c1:4≤hh∧hh≤200)(c2:∀ i:Int,4≤i→i<hh→i*i<sc)(c3:sc≤hh*hh)(x0:Int)(hI:fx_exp_0_I x1 x2 sc hh x0):LoopOk Tryz.prog Amb (loopN Tryz.f219 0) (fx_exp_0_mk x1 x2 sc hh x0) (fun e st_=>∃ y,fx_exp_0_J x1 x2 sc hh y∧fx_exp_0_ex x1 x2 sc hh y=(e,st_)) :=
 loop_ob hP hAmb ⟨[1,2,4,5],2,[]⟩ (fx_exp_0_mk x1 x2 sc hh) (fx_exp_0_I x1 x2 sc hh) (fx_exp_0_mu x1 x2 sc hh) (fx_exp_0_ex x1 x2 sc hh) (fx_exp_0_J x1 x2 sc hh) x0 hI (fun i=>.lit<|.yes<|.lit<|.both (.lit<|.yes<|.fin2 ⟨[1,2,4,5],2,[]⟩) (.fin2 ⟨[1,2,4,5],2,[]⟩)) (by
  rintro i hI
  have hI:4≤i∧i≤hh:=hI
  obtain⟨h1,h2⟩:=hI
  have hq:i<hh→i*i<sc:=fun q=>c2 i h1 q
  have hm:i*i≤9000000000000:=Int.le_trans (Int.mul_le_mul_of_nonneg_left (show i≤3000000 by omega) oO) oO
  have hm0:0≤i*i:=Int.mul_nonneg oO oO
  have he:i=hh→sc≤i*i:=fun q=>by rw[q];exact c3
  exact cast_ob (aI True.intro (aI (fits_i64 oO:(fits .i64 (i*i))=true) (aI (fun (h101:(iLt (i*i) sc)=true)=>have _gh101:=iLt_t h101;aI (fits_i64 oO:(fits .i64 (i+1))=true) (aI tT ((nx_next (i+1) (show 4≤(i+1)∧(i+1)≤hh from ⟨by omega,by omega⟩) (show (hh-(i+1)).toNat<(hh-i).toNat by omega):fx_exp_0_N x1 x2 sc hh i .normal (fx_exp_0_mk x1 x2 sc hh (i+1)))))) (fun (h102:(iLt (i*i) sc)=false)=>have _gh102:=iLt_f h102;aI tT ((nx_exit 0 ((fx_exp_0_ex x1 x2 sc hh i).2) i (show i=hh from show i=hh by omega) rfl:fx_exp_0_N x1 x2 sc hh i (.exit 0) ((fx_exp_0_ex x1 x2 sc hh i).2))))))) (by kernel_rfl))
def fx_exp_1_mk (sc hh v1 v2:Int)(_:Nat)(pp1 pp2 _ _:Nat→Int)(x:Nat × Int):St:=⟨mkS 63 [(1,(.val (.int .i64 sc))),(2,(.own 0 0)),(4,(.own 1 0)),(5,(.val (.int .i64 hh))),(6,(.val (.int .i64 ((sc+hh)+24)))),(7,(.own 2 0)),(8,(.own 3 0)),(9,(.val (.int .u32 x.2)))],[⟨true,false,[(V.bool (decide (v1<0))),(N v1.natAbs),(V.bool (decide (v2<0))),(N v2.natAbs)]⟩,⟨true,false,[(V.bool false),V.nil,(V.bool false),V.nil]⟩,⟨true,false,[(V.bool (decide ((pp1 x.1)<0))),(N ((pp1 x.1).natAbs)),(V.bool (decide ((pp2 x.1)<0))),(N ((pp2 x.1).natAbs))]⟩,⟨true,false,[(V.bool (decide ((saS pp1 x.1)<0))),(N ((saS pp1 x.1).natAbs)),(V.bool (decide ((saS pp2 x.1)<0))),(N ((saS pp2 x.1).natAbs))]⟩]⟩
def fx_exp_1_I (_ _ _ _:Int)(nn:Nat)(_ _ _ _:Nat→Int)(x:Nat × Int):Prop:=x.1<nn∧x.2=(x.1:Int)+1
def fx_exp_1_mu (_ _ _ _:Int)(nn:Nat)(_ _ _ _:Nat→Int)(x:Nat × Int):Nat:=nn-x.1
def fx_exp_1_ex (sc hh v1 v2:Int)(_:Nat)(pp1 pp2 _ _:Nat→Int)(y:Nat):Ex × St:=(.exit 2,⟨mkS 63 [(1,(.val (.int .i64 sc))),(4,(.own 1 0)),(5,(.val (.int .i64 hh))),(6,(.val (.int .i64 ((sc+hh)+24)))),(8,(.own 3 0))],[⟨true,false,[(V.bool (decide (v1<0))),(N v1.natAbs),(V.bool (decide (v2<0))),(N v2.natAbs)]⟩,⟨true,false,[(V.bool false),V.nil,(V.bool false),V.nil]⟩,⟨true,false,[(V.bool (decide ((pp1 y)<0))),(N ((pp1 y).natAbs)),(V.bool (decide ((pp2 y)<0))),(N ((pp2 y).natAbs))]⟩,⟨true,false,[(V.bool (decide ((saS pp1 y)<0))),(N ((saS pp1 y).natAbs)),(V.bool (decide (((saS pp2 y)+(pp2 y))<0))),(N (((saS pp2 y)+(pp2 y)).natAbs))]⟩]⟩)
def fx_exp_1_J (_ _ _ _:Int)(nn:Nat)(_ _ _ _:Nat→Int)(y:Nat):Prop:=y=nn
abbrev fx_exp_1_N (sc hh v1 v2:Int)(nn:Nat)(pp1 pp2 mm1 mm2:Nat→Int):=NX (fx_exp_1_mk sc hh v1 v2 nn pp1 pp2 mm1 mm2) (fx_exp_1_I sc hh v1 v2 nn pp1 pp2 mm1 mm2) (fx_exp_1_mu sc hh v1 v2 nn pp1 pp2 mm1 mm2) (fx_exp_1_ex sc hh v1 v2 nn pp1 pp2 mm1 mm2) (fx_exp_1_J sc hh v1 v2 nn pp1 pp2 mm1 mm2)
theorem fx_exp_1 (sc hh v1 v2:Int)(nn:Nat)(pp1 pp2 mm1 mm2:Nat→Int)(c0:∀ j,j<nn→Impl Tryz.prog Amb 210 [(sV (pp1 j) (pp2 j)),(sV v1 v2),(.int .i64 ((sc+hh)+24))] (sV (mm1 j) (mm2 j)))(c1:∀ (j:Nat) (kk:Int),j<nn→kk=(j:Int)+1→Impl Tryz.prog Amb 213 [(sV (mm1 j) (mm2 j)),(.int .u32 kk)] (sV (pp1 (j+1)) (pp2 (j+1))))(c2:∀ j,j<nn→Impl Tryz.prog Amb 165 [(sV (saS pp1 j) (saS pp2 j)),(sV (pp1 (j+1)) (pp2 (j+1)))] (sV (saS pp1 (j+1)) (saS pp2 (j+1))))(c3:∀ j,j<nn→Impl Tryz.prog Amb 212 [(sV (pp1 (j+1)) (pp2 (j+1)))] (.bool (decide (nn≤j+1))))(c4:L (saS pp2 nn).natAbs≤20000∧L (pp2 nn).natAbs≤20000)(c5:1≤nn∧nn≤10000)(x0:Nat × Int)(hI:fx_exp_1_I sc hh v1 v2 nn pp1 pp2 mm1 mm2 x0):LoopOk Tryz.prog Amb (loopN Tryz.f219 1) (fx_exp_1_mk sc hh v1 v2 nn pp1 pp2 mm1 mm2 x0) (fun e st_=>∃ y,fx_exp_1_J sc hh v1 v2 nn pp1 pp2 mm1 mm2 y∧fx_exp_1_ex sc hh v1 v2 nn pp1 pp2 mm1 mm2 y=(e,st_)) :=
 loop_ob hP hAmb ⟨[1,2,4,5,6,7,8,9],4,[]⟩ (fx_exp_1_mk sc hh v1 v2 nn pp1 pp2 mm1 mm2) (fx_exp_1_I sc hh v1 v2 nn pp1 pp2 mm1 mm2) (fx_exp_1_mu sc hh v1 v2 nn pp1 pp2 mm1 mm2) (fx_exp_1_ex sc hh v1 v2 nn pp1 pp2 mm1 mm2) (fx_exp_1_J sc hh v1 v2 nn pp1 pp2 mm1 mm2) x0 hI (fun (j,kk)=>.lits 3<|.call (sV (mm1 j) (mm2 j))<|.lit<|.call (sV (pp1 (j+1)) (pp2 (j+1)))<|.lits 4<|.call (sV (saS pp1 (j+1)) (saS pp2 (j+1)))<|.lits 3<|.call (.bool (decide (nn≤j+1)))<|.both (.lits 3<|.call (zV ((saS pp2 (j+1))+(pp2 (j+1))))<|.lit<|.fin2 ⟨[1,4,5,6,8],4,[]⟩) (.lit<|.yes<|.fin2 ⟨[1,2,4,5,6,7,8,9],4,[]⟩)) (by
  rintro ⟨j,kk⟩ hI
  have hI:j<nn∧kk=(j:Int)+1:=hI
  obtain⟨h1,h2⟩:=hI
  have c5:=fun (q:nn=j+1)=>(show L (saS pp2 (j+1)).natAbs≤20000∧L (pp2 (j+1)).natAbs≤20000 from q ▸ c4)
  exact cast_ob (aI True.intro (aI (c0 j h1 ) (aI (c1 j kk h1 h2 ) (aI (c2 j h1 ) (aI (c3 j h1 ) (aI (fun (h101:(decide (nn≤j+1))=true)=>have _gh101:=of_decide_eq_true h101;aI (int_Add (saS pp2 (j+1)) (pp2 (j+1)) (by first | omega | (have:=c5 oO;omega)) (by first | omega | (have:=c5 oO;omega))) (have f102:=L_abs_add (saS pp2 (j+1)) (pp2 (j+1));aI tT ((nx_exit 2 ((fx_exp_1_ex sc hh v1 v2 nn pp1 pp2 mm1 mm2 (j+1)).2) (j+1) (show (j+1)=nn from show j+1=nn by omega) rfl:fx_exp_1_N sc hh v1 v2 nn pp1 pp2 mm1 mm2 (j,kk) (.exit 2) ((fx_exp_1_ex sc hh v1 v2 nn pp1 pp2 mm1 mm2 (j+1)).2))))) (fun (h103:(decide (nn≤j+1))=false)=>have _gh103:=of_decide_eq_false h103;aI (fits_u32 (by first | omega | (have:=c5 oO;omega)):(fits .u32 (kk+1))=true) (aI tT ((nx_next ((j+1),(kk+1)) (show (j+1)<nn∧(kk+1)=((j+1):Int)+1 from ⟨by omega,by omega⟩) (show nn-(j+1)<nn-j by omega):fx_exp_1_N sc hh v1 v2 nn pp1 pp2 mm1 mm2 (j,kk) .normal (fx_exp_1_mk sc hh v1 v2 nn pp1 pp2 mm1 mm2 ((j+1),(kk+1))))))))))))) (by kernel_rfl))
def fx_exp_2_mk (sc hh v1 v2 q1 q2 fa fb:Int)(x:Nat × Int):St:=⟨mkS 63 [(1,(.val (.int .i64 sc))),(4,(.own 1 0)),(6,(.val (.int .i64 ((sc+hh)+24)))),(8,(.own 3 0)),(50,(.val (.int .i64 hh))),(51,(.val (.int .i64 x.2)))],[⟨true,false,[(V.bool (decide (v1<0))),(N v1.natAbs),(V.bool (decide (v2<0))),(N v2.natAbs)]⟩,⟨true,false,[(V.bool false),V.nil,(V.bool false),V.nil]⟩,⟨true,false,[(V.bool (decide (q1<0))),(N q1.natAbs),(V.bool (decide (q2<0))),(N q2.natAbs)]⟩,⟨true,false,[(V.bool (decide ((sqS fa fb (2^(((sc+hh)+24)).toNat) x.1).1<0))),(N (((sqS fa fb (2^(((sc+hh)+24)).toNat) x.1).1).natAbs)),(V.bool (decide ((sqS fa fb (2^(((sc+hh)+24)).toNat) x.1).2<0))),(N (((sqS fa fb (2^(((sc+hh)+24)).toNat) x.1).2).natAbs))]⟩]⟩
def fx_exp_2_I (_ hh _ _ _ _ _ _:Int)(x:Nat × Int):Prop:=x.2=(x.1:Int)∧(x.1:Int)≤hh
def fx_exp_2_mu (_ hh _ _ _ _ _ _:Int)(x:Nat × Int):Nat:=(hh-x.1).toNat
def fx_exp_2_ex (sc hh v1 v2 q1 q2 fa fb:Int)(y:Nat):Ex × St:=(.exit 4,⟨mkS 63 [(1,(.val (.int .i64 sc))),(4,(.own 1 0)),(6,(.val (.int .i64 ((sc+hh)+24)))),(8,(.own 3 0))],[⟨true,false,[(V.bool (decide (v1<0))),(N v1.natAbs),(V.bool (decide (v2<0))),(N v2.natAbs)]⟩,⟨true,false,[(V.bool false),V.nil,(V.bool false),V.nil]⟩,⟨true,false,[(V.bool (decide (q1<0))),(N q1.natAbs),(V.bool (decide (q2<0))),(N q2.natAbs)]⟩,⟨true,false,[(V.bool (decide ((sqS fa fb (2^(((sc+hh)+24)).toNat) y).1<0))),(N (((sqS fa fb (2^(((sc+hh)+24)).toNat) y).1).natAbs)),(V.bool (decide ((sqS fa fb (2^(((sc+hh)+24)).toNat) y).2<0))),(N (((sqS fa fb (2^(((sc+hh)+24)).toNat) y).2).natAbs))]⟩]⟩)
def fx_exp_2_J (_ hh _ _ _ _ _ _:Int)(y:Nat):Prop:=(y:Int)=hh
abbrev fx_exp_2_N (sc hh v1 v2 q1 q2 fa fb:Int):=NX (fx_exp_2_mk sc hh v1 v2 q1 q2 fa fb) (fx_exp_2_I sc hh v1 v2 q1 q2 fa fb) (fx_exp_2_mu sc hh v1 v2 q1 q2 fa fb) (fx_exp_2_ex sc hh v1 v2 q1 q2 fa fb) (fx_exp_2_J sc hh v1 v2 q1 q2 fa fb)
theorem fx_exp_2 (sc hh v1 v2 q1 q2 fa fb:Int)(c0:∀ i:Nat,(i:Int)<hh→Impl Tryz.prog Amb 210 [(.agg [(.bool (decide ((sqS fa fb (2^(((sc+hh)+24)).toNat) i).1<0))),(N (((sqS fa fb (2^(((sc+hh)+24)).toNat) i).1).natAbs)),(.bool (decide ((sqS fa fb (2^(((sc+hh)+24)).toNat) i).2<0))),(N (((sqS fa fb (2^(((sc+hh)+24)).toNat) i).2).natAbs))]),(.agg [(.bool (decide ((sqS fa fb (2^(((sc+hh)+24)).toNat) i).1<0))),(N (((sqS fa fb (2^(((sc+hh)+24)).toNat) i).1).natAbs)),(.bool (decide ((sqS fa fb (2^(((sc+hh)+24)).toNat) i).2<0))),(N (((sqS fa fb (2^(((sc+hh)+24)).toNat) i).2).natAbs))]),(.int .i64 ((sc+hh)+24))] (.agg [(.bool (decide ((sqS fa fb (2^(((sc+hh)+24)).toNat) (i+1)).1<0))),(N (((sqS fa fb (2^(((sc+hh)+24)).toNat) (i+1)).1).natAbs)),(.bool (decide ((sqS fa fb (2^(((sc+hh)+24)).toNat) (i+1)).2<0))),(N (((sqS fa fb (2^(((sc+hh)+24)).toNat) (i+1)).2).natAbs))]))(c1:4≤hh∧hh≤200)(x0:Nat × Int)(hI:fx_exp_2_I sc hh v1 v2 q1 q2 fa fb x0):LoopOk Tryz.prog Amb (loopN Tryz.f219 2) (fx_exp_2_mk sc hh v1 v2 q1 q2 fa fb x0) (fun e st_=>∃ y,fx_exp_2_J sc hh v1 v2 q1 q2 fa fb y∧fx_exp_2_ex sc hh v1 v2 q1 q2 fa fb y=(e,st_)) :=
 loop_ob hP hAmb ⟨[1,4,6,8,50,51],4,[]⟩ (fx_exp_2_mk sc hh v1 v2 q1 q2 fa fb) (fx_exp_2_I sc hh v1 v2 q1 q2 fa fb) (fx_exp_2_mu sc hh v1 v2 q1 q2 fa fb) (fx_exp_2_ex sc hh v1 v2 q1 q2 fa fb) (fx_exp_2_J sc hh v1 v2 q1 q2 fa fb) x0 hI (fun (i,ii)=>.lit<|.both (.lits 3<|.call (.agg [(.bool (decide ((sqS fa fb (2^(((sc+hh)+24)).toNat) (i+1)).1<0))),(N (((sqS fa fb (2^(((sc+hh)+24)).toNat) (i+1)).1).natAbs)),(.bool (decide ((sqS fa fb (2^(((sc+hh)+24)).toNat) (i+1)).2<0))),(N (((sqS fa fb (2^(((sc+hh)+24)).toNat) (i+1)).2).natAbs))])<|.lits 2<|.yes<|.fin2 ⟨[1,4,6,8,50,51],4,[]⟩) (.fin2 ⟨[1,4,6,8],4,[]⟩)) (by
  rintro ⟨i,ii⟩ hI
  have hI:ii=(i:Int)∧(i:Int)≤hh:=hI
  obtain⟨h1,h2⟩:=hI
  exact cast_ob (aI True.intro (aI (fun (h101:(iLt ii hh)=true)=>have _gh101:=iLt_t h101;aI (c0 i oO ) (aI (fits_i64 oO:(fits .i64 (ii+1))=true) (aI tT ((nx_next ((i+1),(ii+1)) (show (ii+1)=((i+1):Int)∧((i+1):Int)≤hh from ⟨by omega,by omega⟩) (show (hh-((i+1:Nat):Int)).toNat<(hh-i).toNat by omega):fx_exp_2_N sc hh v1 v2 q1 q2 fa fb (i,ii) .normal (fx_exp_2_mk sc hh v1 v2 q1 q2 fa fb ((i+1),(ii+1)))))))) (fun (h102:(iLt ii hh)=false)=>have _gh102:=iLt_f h102;aI tT ((nx_exit 4 ((fx_exp_2_ex sc hh v1 v2 q1 q2 fa fb i).2) i (show (i:Int)=hh from show (i:Int)=hh by omega) rfl:fx_exp_2_N sc hh v1 v2 q1 q2 fa fb (i,ii) (.exit 4) ((fx_exp_2_ex sc hh v1 v2 q1 q2 fa fb i).2)))))) (by kernel_rfl))
theorem fx_exp0 (x1 x2 sc hh w1 w2 v1 v2 r1 r2:Int)(nn:Nat)(pp1:Nat→Int)(pp2:Nat→Int)(mm1:Nat→Int)(mm2:Nat→Int)(c0:0≤sc∧sc≤20000)(c1:4≤hh∧hh≤200)(c2:∀ i:Int,4≤i→i<hh→i*i<sc)(c3:sc≤hh*hh)(c4:Impl Tryz.prog Amb 189 [(sV x1 x2),(.int .i64 (((sc+hh)+24)-sc))] (sV w1 w2))(c5:Impl Tryz.prog Amb 142 [(sV w1 w2),(.int .i64 hh)] (sV v1 v2))(c6:Impl Tryz.prog Amb 174 [(.int .i64 ((sc+hh)+24))] (sV (pp1 0) (pp2 0)))(c7:∀ j,j<nn→Impl Tryz.prog Amb 210 [(sV (pp1 j) (pp2 j)),(sV v1 v2),(.int .i64 ((sc+hh)+24))] (sV (mm1 j) (mm2 j)))(c8:∀ (j:Nat) (kk:Int),j<nn→kk=(j:Int)+1→Impl Tryz.prog Amb 213 [(sV (mm1 j) (mm2 j)),(.int .u32 kk)] (sV (pp1 (j+1)) (pp2 (j+1))))(c9:∀ j,j<nn→Impl Tryz.prog Amb 165 [(sV (saS pp1 j) (saS pp2 j)),(sV (pp1 (j+1)) (pp2 (j+1)))] (sV (saS pp1 (j+1)) (saS pp2 (j+1))))(c10:∀ j,j<nn→Impl Tryz.prog Amb 212 [(sV (pp1 (j+1)) (pp2 (j+1)))] (.bool (decide (nn≤j+1))))(c11:L (saS pp2 nn).natAbs≤20000∧L (pp2 nn).natAbs≤20000)(c12:1≤nn∧nn≤10000)(c13:∀ i:Nat,(i:Int)<hh→Impl Tryz.prog Amb 210 [(.agg [(.bool (decide ((sqS (saS pp1 nn) ((saS pp2 nn)+(pp2 nn)) (2^(((sc+hh)+24)).toNat) i).1<0))),(N (((sqS (saS pp1 nn) ((saS pp2 nn)+(pp2 nn)) (2^(((sc+hh)+24)).toNat) i).1).natAbs)),(.bool (decide ((sqS (saS pp1 nn) ((saS pp2 nn)+(pp2 nn)) (2^(((sc+hh)+24)).toNat) i).2<0))),(N (((sqS (saS pp1 nn) ((saS pp2 nn)+(pp2 nn)) (2^(((sc+hh)+24)).toNat) i).2).natAbs))]),(.agg [(.bool (decide ((sqS (saS pp1 nn) ((saS pp2 nn)+(pp2 nn)) (2^(((sc+hh)+24)).toNat) i).1<0))),(N (((sqS (saS pp1 nn) ((saS pp2 nn)+(pp2 nn)) (2^(((sc+hh)+24)).toNat) i).1).natAbs)),(.bool (decide ((sqS (saS pp1 nn) ((saS pp2 nn)+(pp2 nn)) (2^(((sc+hh)+24)).toNat) i).2<0))),(N (((sqS (saS pp1 nn) ((saS pp2 nn)+(pp2 nn)) (2^(((sc+hh)+24)).toNat) i).2).natAbs))]),(.int .i64 ((sc+hh)+24))] (.agg [(.bool (decide ((sqS (saS pp1 nn) ((saS pp2 nn)+(pp2 nn)) (2^(((sc+hh)+24)).toNat) (i+1)).1<0))),(N (((sqS (saS pp1 nn) ((saS pp2 nn)+(pp2 nn)) (2^(((sc+hh)+24)).toNat) (i+1)).1).natAbs)),(.bool (decide ((sqS (saS pp1 nn) ((saS pp2 nn)+(pp2 nn)) (2^(((sc+hh)+24)).toNat) (i+1)).2<0))),(N (((sqS (saS pp1 nn) ((saS pp2 nn)+(pp2 nn)) (2^(((sc+hh)+24)).toNat) (i+1)).2).natAbs))]))(c14:∀ i:Nat,(i:Int)=hh→Impl Tryz.prog Amb 142 [(.agg [(.bool (decide ((sqS (saS pp1 nn) ((saS pp2 nn)+(pp2 nn)) (2^(((sc+hh)+24)).toNat) i).1<0))),(N (((sqS (saS pp1 nn) ((saS pp2 nn)+(pp2 nn)) (2^(((sc+hh)+24)).toNat) i).1).natAbs)),(.bool (decide ((sqS (saS pp1 nn) ((saS pp2 nn)+(pp2 nn)) (2^(((sc+hh)+24)).toNat) i).2<0))),(N (((sqS (saS pp1 nn) ((saS pp2 nn)+(pp2 nn)) (2^(((sc+hh)+24)).toNat) i).2).natAbs))]),(.int .i64 (((sc+hh)+24)-sc))] (sV r1 r2)):Impl Tryz.prog Amb 219 [(sV x1 x2),(.int .i64 sc)] (sV r1 r2):=by
 exact impl_ob hP hAmb Tryz.func219 (by kernel_rfl) (.loop ⟨[1,2,4,5],2,[]⟩ ((fx_exp_0_mk x1 x2 sc hh 4)) (Int) (fx_exp_0_ex x1 x2 sc hh) (fx_exp_0_J x1 x2 sc hh) (fun y=>.lit<|.yes<|.lit<|.yes<|.lits 2<|.yes<|.lit<|.call (sV w1 w2)<|.lit<|.call (sV v1 v2)<|.lits 2<|.call (sV (pp1 0) (pp2 0))<|.lits 3<|.loop ⟨[1,2,4,5,6,7,8,9],4,[]⟩ ((fx_exp_1_mk sc y v1 v2 nn pp1 pp2 mm1 mm2 (0,1))) (Nat) (fx_exp_1_ex sc y v1 v2 nn pp1 pp2 mm1 mm2) (fx_exp_1_J sc y v1 v2 nn pp1 pp2 mm1 mm2) (fun z=>.loop ⟨[1,4,6,8,50,51],4,[]⟩ ((fx_exp_2_mk sc y v1 v2 (pp1 z) (pp2 z) (saS pp1 z) ((saS pp2 z)+(pp2 z)) (0,0))) (Nat) (fx_exp_2_ex sc y v1 v2 (pp1 z) (pp2 z) (saS pp1 z) ((saS pp2 z)+(pp2 z))) (fx_exp_2_J sc y v1 v2 (pp1 z) (pp2 z) (saS pp1 z) ((saS pp2 z)+(pp2 z))) (fun u=>.lits 2<|.yes<|.lit<|.call (sV r1 r2)<|.lits 2<|.ret))))
  (cast_ob (aI True.intro (aI tT (aI (rfl:(fx_exp_0_mk x1 x2 sc hh 4)=(fx_exp_0_mk x1 x2 sc hh 4)) (aI (fx_exp_0 x1 x2 sc hh c0 c1 c2 c3 4 (show 4≤4∧4≤hh from ⟨by omega,by omega⟩)) (fun y (hJ:fx_exp_0_J x1 x2 sc hh y)=>have hJ:y=hh:=hJ;have hY:=hJ;aI (fits_i64 oS:(fits .i64 (sc+y))=true) (aI (fits_i64 oS:(fits .i64 ((sc+y)+24))=true) (aI (fits_i64 oS:(fits .i64 (((sc+y)+24)-sc))=true) (aI ((hY ▸ c4) ) (aI ((hY ▸ c5) ) (aI ((hY ▸ c6) ) (aI tT (aI (rfl:(fx_exp_1_mk sc y v1 v2 nn pp1 pp2 mm1 mm2 (0,1))=(fx_exp_1_mk sc y v1 v2 nn pp1 pp2 mm1 mm2 (0,1))) (aI (fx_exp_1 sc y v1 v2 nn pp1 pp2 mm1 mm2 (hY ▸ c7) c8 c9 c10 c11 c12 (0,1) (show 0<nn∧1=(0:Int)+1 from ⟨by omega,by omega⟩)) (fun z (hJ:fx_exp_1_J sc y v1 v2 nn pp1 pp2 mm1 mm2 z)=>have hJ:z=nn:=hJ;have hZ:=hJ;aI tT (aI (rfl:(fx_exp_2_mk sc y v1 v2 (pp1 z) (pp2 z) (saS pp1 z) ((saS pp2 z)+(pp2 z)) (0,0))=(fx_exp_2_mk sc y v1 v2 (pp1 z) (pp2 z) (saS pp1 z) ((saS pp2 z)+(pp2 z)) (0,0))) (aI (fx_exp_2 sc y v1 v2 (pp1 z) (pp2 z) (saS pp1 z) ((saS pp2 z)+(pp2 z)) (hZ ▸ hY ▸ c13) (hY ▸ c1) (0,0) (show 0=(0:Int)∧(0:Int)≤y from ⟨by omega,by omega⟩)) (fun u (hJ:fx_exp_2_J sc y v1 v2 (pp1 z) (pp2 z) (saS pp1 z) ((saS pp2 z)+(pp2 z)) u)=>have hJ:(u:Int)=y:=hJ;have hV:=hJ;aI (fits_i64 oS:(fits .i64 (((sc+y)+24)-sc))=true) (aI ((hZ ▸ (show _ from (hY ▸ (c14 u oO)))) ) ((vsub_refl (sV r1 r2))))))))))))))))))))) (by kernel_rfl))
end Go.Proofs.YtkkbddkpggjgpaaGreatDoor

namespace Go.Proofs.YtkkbddkpggjgpaaGreatDoor
open Go.RowKit
set_option maxRecDepth 100000
theorem wrap_neg {x:Int}(h:x<0)(k:-4294967295≤x):IntKind.wrap .i64 (IntKind.wrap .u64 ((0:Int)-(x.natAbs:Int)))=x:=by
 rw[wrap_u64]
 have e:((0:Int)-(x.natAbs:Int))%18446744073709551616=18446744073709551616+x:=by omega
 rw[e]
 simp [IntKind.wrap,IntKind.bits,IntKind.signed]
 omega
theorem nat_Uint1 (a:Nat)(c0:a<4294967296):Impl Tryz.prog Amb 234 [(N a)] (.tup [(.int .u64 (a:Int)),(.bool true)]):=by
 have l1:=L_le (n:=a) (k:=1) (by rw[Nat.pow_one];exact c0)
 have e0:=L_len a
 have g0:=gi_nonneg (limbs a) 0
 have g1:=gi_lt (dig_limbs a) 0
 exact impl_ob hP hAmb Tryz.func234 (by kernel_rfl) (.lit<|.call (.int .i64 (L a:Int))<|.lit<|.both (.lit<|.ret) (.lit<|.both (.yes<|.yes<|.lit<|.yes<|.lit<|.ret) (.lit<|.both (.yes<|.yes<|.lit<|.yes<|.lit<|.yes<|.yes<|.yes<|.lit<|.yes<|.lits 2<|.ret) (.lit<|.ret))))
  (cast_ob (aI True.intro (aI (nat_sizeN a oO) (aI (fun (h1:(iEq (L a:Int) 0)=true)=>have _gh1:=iEq_t h1;(vsub_of (by rw[show a=0 from Decidable.byContradiction fun h=>by have:=L_pos h;omega];rfl):vsub (.tup [(.int .u64 0),(.bool true)]) (.tup [(.int .u64 (a:Int)),(.bool true)]))) (fun (h2:(iEq (L a:Int) 0)=false)=>have _gh2:=iEq_f h2;aI (fun (h3:(iEq (L a:Int) 1)=true)=>have _gh3:=iEq_t h3;aI (inB_mk oO:(inB (0:Int) ((lim a).length))=true) (aI (ld_L oO:(Nat.blt 0 (lim a).length && isIntK .u32 (nth (lim a) 0 .unk))=true) (aI (fits_u64 oO:(fits .u64 (gi (limbs a) 0))=true) ((vsub_of (by rw[gi_one (show L a=1 by omega)]):vsub (.tup [(.int .u64 (gi (limbs a) 0)),(.bool true)]) (.tup [(.int .u64 (a:Int)),(.bool true)])))))) (fun (h4:(iEq (L a:Int) 1)=false)=>have _gh4:=iEq_f h4;aI (fun (h5:(iEq (L a:Int) 2)=true)=>have _gh5:=iEq_t h5;aI (inB_mk oO:(inB (1:Int) ((lim a).length))=true) (aI (ld_L oO:(Nat.blt 1 (lim a).length && isIntK .u32 (nth (lim a) 1 .unk))=true) (aI (fits_u64 oO:(fits .u64 (gi (limbs a) 1))=true) (aI (fits_u64 oO:(fits .u64 ((gi (limbs a) 1)*2^32))=true) (aI (inB_mk oO:(inB (0:Int) ((lim a).length))=true) (aI (ld_L oO:(Nat.blt 0 (lim a).length && isIntK .u32 (nth (lim a) 0 .unk))=true) (aI (fits_u64 oO:(fits .u64 (gi (limbs a) 0))=true) ((False.elim oO:vsub (.tup [(.int .u64 (wOr .u64 ((gi (limbs a) 1)*2^32) (gi (limbs a) 0))),(.bool true)]) (.tup [(.int .u64 (a:Int)),(.bool true)])))))))))) (fun (h6:(iEq (L a:Int) 2)=false)=>have _gh6:=iEq_f h6;(False.elim oO:vsub (.tup [(.int .u64 0),(.bool false)]) (.tup [(.int .u64 (a:Int)),(.bool true)])))))))) (by kernel_rfl))
theorem int_Int1 (x:Int)(c0:-4294967295≤x∧x≤4294967295):Impl Tryz.prog Amb 229 [(zV x)] (.tup [(.int .i64 x),(.bool true)]):=by
 have wz:=wrap_neg (x:=x)
 exact impl_ob hP hAmb Tryz.func229 (by kernel_rfl) (.lits 2<|.call (.tup [(.int .u64 (x.natAbs:Int)),(.bool true)])<|.lits 4<|.both (.lits 3<|.yes<|.lit<|.yes<|.lit<|.ret) (.lits 4<|.both (.lits 3<|.yes<|.lit<|.no<|.lit<|.no<|.lit<|.ret) (.lits 4<|.ret)))
  (cast_ob (aI True.intro (aI (nat_Uint1 x.natAbs oO) (aI (fun (h1:(!(decide (x<0)))=true)=>have _gh1:=of_decide_eq_false (notb_t h1);aI (iLt_mk oO:(iLt (x.natAbs:Int) 9223372036854775808)=true) (aI (fits_i64 oO:(fits .i64 (x.natAbs:Int))=true) ((vsub_of (by rw[show (x.natAbs:Int)=x by omega]):vsub (.tup [(.int .i64 (x.natAbs:Int)),(.bool true)]) (.tup [(.int .i64 x),(.bool true)]))))) (fun (h2:(!(decide (x<0)))=false)=>have _gh2:=of_decide_eq_true (notb_f h2);aI (fun (h3:(decide (x<0))=true)=>have _gh3:=of_decide_eq_true h3;aI (iLe_mk oO:(iLe (x.natAbs:Int) 9223372036854775808)=true) ((vsub_of (by rw[wz oO oO]):vsub (.tup [(.int .i64 (IntKind.wrap .i64 (IntKind.wrap .u64 ((0:Int)-(x.natAbs:Int))))),(.bool true)]) (.tup [(.int .i64 x),(.bool true)])))) (fun (h4:(decide (x<0))=false)=>have _gh4:=of_decide_eq_false h4;(False.elim oO:vsub (.tup [(.int .i64 0),(.bool false)]) (.tup [(.int .i64 x),(.bool true)]))))))) (by kernel_rfl))
theorem fx_Nearest (a b c d:Int)(c0:L (a).natAbs≤3000)(c1:L (b).natAbs≤3000)(c2:L (c).natAbs≤3000)(c3:L (d).natAbs≤3000)(c4:0<c+d)(c5:-4294967295≤(Int.fdiv (((a+b)*2^1)+(c+d)) ((c+d)*2^1))∧(Int.fdiv (((a+b)*2^1)+(c+d)) ((c+d)*2^1))≤4294967295):Impl Tryz.prog Amb 218 [(sV a b),(sV c d)] (.int .i64 (Int.fdiv (((a+b)*2^1)+(c+d)) ((c+d)*2^1))):=by
 exact impl_ob hP hAmb Tryz.func218 (by kernel_rfl) (.lits 3<|.call (zV (a+b))<|.lits 3<|.call (zV (c+d))<|.lits 2<|.call (zV ((a+b)*2^1))<|.lits 2<|.call (zV (((a+b)*2^1)+(c+d)))<|.lits 2<|.call (zV ((c+d)*2^1))<|.lit<|.call (.tup [(zV (Int.fdiv (((a+b)*2^1)+(c+d)) ((c+d)*2^1))),(zV ((((a+b)*2^1)+(c+d))-(Int.fdiv (((a+b)*2^1)+(c+d)) ((c+d)*2^1))*((c+d)*2^1))),(.bool true)])<|.lits 2<|.call (.tup [(.int .i64 (Int.fdiv (((a+b)*2^1)+(c+d)) ((c+d)*2^1))),(.bool true)])<|.lit<|.ret)
  (cast_ob (aI True.intro (aI (int_Add a b oO oO) (have f7:=L_abs_add a b;aI (int_Add c d oO oO) (have f6:=L_abs_add c d;aI (int_Shl (a+b) 1 oO oO) (have f5:=L_abs_shl (a+b) 1;aI (int_Add ((a+b)*2^1) (c+d) oO oO) (have f4:=L_abs_add ((a+b)*2^1) (c+d);aI (int_Shl (c+d) 1 oO oO) (have f3:=L_abs_shl (c+d) 1;aI (int_DivMod (((a+b)*2^1)+(c+d)) ((c+d)*2^1) oO oO oO) (have f2:=L_rm (((a+b)*2^1)+(c+d)) ((c+d)*2^1);have f1:=L_fdiv (((a+b)*2^1)+(c+d)) ((c+d)*2^1);aI (int_Int1 (Int.fdiv (((a+b)*2^1)+(c+d)) ((c+d)*2^1)) oO) ((vsub_refl (.int .i64 (Int.fdiv (((a+b)*2^1)+(c+d)) ((c+d)*2^1))))))))))))) (by kernel_rfl))
end Go.Proofs.YtkkbddkpggjgpaaGreatDoor

namespace Go.Proofs.YtkkbddkpggjgpaaGreatDoor
open Go.RowKit
set_option maxRecDepth 100000
theorem gt_dec (x:Int):iGt x 0=decide (0<x):=rfl
theorem ex_at (m ee ss lo hi:Int)(c0:Impl Tryz.prog Amb 190 [(yV m ee),(.int .i64 ss)] (sV lo hi)):Impl Tryz.prog Amb 139 [(yV m ee),(.int .i64 ss)] (sV lo hi):=by
 exact impl_ob hP hAmb Tryz.func139 (by kernel_rfl) (.lits 2<|.call (sV lo hi)<|.lits 2<|.ret)
  (cast_ob (aI True.intro (aI (c0 ) ((vsub_refl (sV lo hi))))) (by kernel_rfl))
theorem ex_beyond (m ee n:Int)(c0:L (m).natAbs≤8000)(c1:-65536≤ee∧ee≤65536)(c2:-9223372036854775808≤n∧n≤9223372036854775807):Impl Tryz.prog Amb 76 [(yV m ee),(.int .i64 n)] (.bool (decide (0<(cmpD m ee (mkM n 0) (mkX n 0))))):=by
 have of1:=of_fit (n:=n) oO
 exact impl_ob hP hAmb Tryz.func76 (by kernel_rfl) (.lits 2<|.call (yV (mkM n 0) (mkX n 0))<|.lit<|.call (.int .i64 (cmpD m ee (mkM n 0) (mkX n 0)))<|.lits 2<|.ret)
  (cast_ob (aI True.intro (aI (dy_Of n oO) (have f3:=(L_i64 oO:L (n:Int).natAbs≤2);have f2:=mk_facts n 0;aI (dy_Cmp m ee (mkM n 0) (mkX n 0) oO oO oO oO) (have f1:=cmpD_range m ee (mkM n 0) (mkX n 0);(vsub_of (congrArg V.bool (gt_dec _)):vsub (.bool (iGt (cmpD m ee (mkM n 0) (mkX n 0)) 0)) (.bool (decide (0<(cmpD m ee (mkM n 0) (mkX n 0)))))))))) (by kernel_rfl))
def exM (o v1 v2 T:Int):Nat→Int × Int
 | 0=>(o,o)
 | j+1=>(ptLo ((exM o v1 v2 T j).1*v1 / T) ((j:Int)+1),ptHi (-(-((exM o v1 v2 T j).2*v2) / T)) ((j:Int)+1))
end Go.Proofs.YtkkbddkpggjgpaaGreatDoor

namespace Go.Proofs.YtkkbddkpggjgpaaGreatDoor
def Sm (f:Nat→Rat):Nat→Rat
 | 0=>0
 | n+1=>Sm f n+f n
theorem Sm_congr {f g:Nat→Rat}:∀ {n:Nat},(∀ i,i<n→f i=g i)→Sm f n=Sm g n
 | 0,_=>rfl
 | n+1,h=>by
  show Sm f n+f n=Sm g n+g n
  rw[Sm_congr (n:=n) (fun i hi=>h i (by omega)),h n (by omega)]
theorem Sm_add (f g:Nat→Rat):∀ n,Sm (fun i=>f i+g i) n=Sm f n+Sm g n
 | 0=>by show (0:Rat)=0+0;grind
 | n+1=>by
  show Sm (fun i=>f i+g i) n+(f n+g n)=Sm f n+f n+(Sm g n+g n)
  rw[Sm_add f g n];grind
theorem Sm_mul (f:Nat→Rat)(c:Rat):∀ n,Sm f n*c=Sm (fun i=>f i*c) n
 | 0=>by show (0:Rat)*c=0;grind
 | n+1=>by
  show (Sm f n+f n)*c=Sm (fun i=>f i*c) n+f n*c
  rw[← Sm_mul f c n];grind
theorem Sm_shift (f:Nat→Rat):∀ n,Sm f (n+1)=f 0+Sm (fun i=>f (i+1)) n
 | 0=>by show (0:Rat)+f 0=f 0+0;grind
 | n+1=>by
  show Sm f (n+1)+f (n+1)=f 0+(Sm (fun i=>f (i+1)) n+f (n+1))
  rw[Sm_shift f n];grind
theorem Sm_le {f g:Nat→Rat}:∀ {n:Nat},(∀ i,i<n→f i≤g i)→Sm f n≤Sm g n
 | 0,_=>Rat.le_refl
 | n+1,h=>by
  have a:=Sm_le (n:=n) (fun i hi=>h i (by omega))
  have b:=h n (by omega)
  show Sm f n+f n≤Sm g n+g n
  grind
theorem Sm_nonneg {f:Nat→Rat}(h:∀ i,0≤f i):∀ n,0≤Sm f n
 | 0=>Rat.le_refl
 | n+1=>Rat.add_nonneg (Sm_nonneg h n) (h n)
theorem Sm_mono {f:Nat→Rat}(h:∀ i,0≤f i){n m:Nat}(hn:n≤m):Sm f n≤Sm f m:=by
 obtain⟨k,rfl⟩:∃ k,m=n+k:=⟨m-n,by omega⟩
 induction k with
 | zero=>exact Rat.le_refl
 | succ k ih =>
  have a:=ih (by omega)
  have b:=h (n+k)
  show Sm f n≤Sm f (n+k)+f (n+k)
  grind
theorem Sm_tri (f:Nat→Nat→Rat):∀ K,Sm (fun n=>Sm (fun i=>f i (n-i)) (n+1)) K=Sm (fun i=>Sm (f i) (K-i)) K
 | 0=>rfl
 | K+1=>by
  have h:=Sm_tri f K
  have e:Sm (fun i=>Sm (f i) (K+1-i)) (K+1)=Sm (fun i=>Sm (f i) (K-i)+f i (K-i)) (K+1):=Sm_congr fun i hi=>by
   rw[show K+1-i=(K-i)+1 by omega];rfl
  rw[e,Sm_add]
  show Sm (fun n=>Sm (fun i=>f i (n-i)) (n+1)) K+Sm (fun i=>f i (K-i)) (K+1)=Sm (fun i=>Sm (f i) (K-i)) K+Sm (f K) (K-K)+Sm (fun i=>f i (K-i)) (K+1)
  rw[h,Nat.sub_self]
  show _=_+0+_
  grind
theorem Sm_prod (f g:Nat→Rat)(K:Nat):∀ n,Sm f n*Sm g K=Sm (fun i=>Sm (fun j=>f i*g j) K) n
 | 0=>by show (0:Rat)*_=0;grind
 | n+1=>by
  have h:=Sm_prod f g K n
  have e:f n*Sm g K=Sm (fun j=>f n*g j) K:=by
   rw[Rat.mul_comm,Sm_mul]
   exact Sm_congr fun i _=>Rat.mul_comm _ _
  show (Sm f n+f n)*Sm g K=Sm (fun i=>Sm (fun j=>f i*g j) K) n+Sm (fun j=>f n*g j) K
  rw[← h,← e];grind
def nx (n:Nat):Int:=(n:Int)+1
theorem nx_pos (n:Nat):(0:Rat)<(nx n:Rat):=Rat.intCast_pos.2 (by unfold nx;omega)
def tE (x:Rat):Nat→Rat
 | 0=>1
 | n+1=>tE x n*x / (nx n:Rat)
theorem tE_mul (x:Rat)(n:Nat):tE x n*x=(nx n:Rat)*tE x (n+1):=by
 show tE x n*x=(nx n:Rat)*(tE x n*x / (nx n:Rat))
 have:=nx_pos n
 rw[Rat.mul_comm (nx n:Rat),Rat.div_mul_cancel (by grind)]
theorem tE_nonneg {x:Rat}(h:0≤x):∀ n,0≤tE x n
 | 0=>by show (0:Rat)≤1;decide
 | n+1=>by
  show 0≤tE x n*x / (nx n:Rat)
  rw[Rat.div_def]
  exact Rat.mul_nonneg (Rat.mul_nonneg (tE_nonneg h n) h) (Rat.le_of_lt (Rat.inv_pos.2 (nx_pos n)))
def EP (x:Rat)(K:Nat):Rat:=Sm (tE x) K
theorem tE_add (x y:Rat):∀ n,tE (x+y) n=Sm (fun i=>tE x i*tE y (n-i)) (n+1)
 | 0=>by show (1:Rat)=0+1*1;grind
 | n+1=>by
  have h:=tE_add x y n
  have np:=nx_pos n
  have key:Sm (fun i=>tE x i*tE y (n-i)) (n+1)*(x+y)=(nx n:Rat)*Sm (fun i=>tE x i*tE y (n+1-i)) (n+2):=by
   have ex:Sm (fun i=>tE x i*tE y (n-i)) (n+1)*x=Sm (fun i=>(i:Rat)*(tE x i*tE y (n+1-i))) (n+2):=by
    rw[Sm_mul,Sm_shift (fun i=>(i:Rat)*(tE x i*tE y (n+1-i))) (n+1)]
    have z:(((0:Nat):Nat):Rat)*(tE x 0*tE y (n+1-0))=0:=by
     rw[show ((0:Nat):Rat)=0 from rfl];grind
    rw[z,Rat.zero_add]
    refine Sm_congr fun i hi=>?_
    rw[show n+1-(i+1)=n-i by omega]
    have t:=tE_mul x i
    have c:((i+1:Nat):Rat)=(nx i:Rat):=rfl
    show tE x i*tE y (n-i)*x=((i+1:Nat):Rat)*(tE x (i+1)*tE y (n-i))
    rw[c]
    grind
   have ey:Sm (fun i=>tE x i*tE y (n-i)) (n+1)*y=Sm (fun i=>((nx n:Rat)-(i:Rat))*(tE x i*tE y (n+1-i))) (n+2):=by
    rw[Sm_mul]
    show _=Sm (fun i=>((nx n:Rat)-(i:Rat))*(tE x i*tE y (n+1-i))) (n+1)+((nx n:Rat)-((n+1:Nat):Rat))*(tE x (n+1)*tE y (n+1-(n+1)))
    have c:((n+1:Nat):Rat)=(nx n:Rat):=rfl
    rw[c]
    have z:((nx n:Rat)-(nx n:Rat))*(tE x (n+1)*tE y (n+1-(n+1)))=0:=by grind
    rw[z,Rat.add_zero]
    refine Sm_congr fun i hi=>?_
    have t:=tE_mul y (n-i)
    rw[show n+1-i=(n-i)+1 by omega]
    have d:(nx (n-i):Rat)=(nx n:Rat)-(i:Rat):=by
     have e:nx (n-i)=nx n-(i:Int):=by unfold nx;omega
     rw[e,Rat.intCast_sub];rfl
    rw[← d]
    grind
   rw[show Sm (fun i=>tE x i*tE y (n-i)) (n+1)*(x+y)=Sm (fun i=>tE x i*tE y (n-i)) (n+1)*x+Sm (fun i=>tE x i*tE y (n-i)) (n+1)*y by grind,ex,ey,← Sm_add,Rat.mul_comm (nx n:Rat),Sm_mul]
   exact Sm_congr fun i _=>by grind
  show tE (x+y) n*(x+y) / (nx n:Rat)=_
  rw[h,key,Rat.mul_comm,Rat.mul_div_cancel (by grind)]
theorem EP_conv (x y:Rat)(K:Nat):EP (x+y) K=Sm (fun i=>Sm (fun j=>tE x i*tE y j) (K-i)) K:=by
 unfold EP
 rw[← Sm_tri (fun i j=>tE x i*tE y j) K]
 exact Sm_congr fun n _=>tE_add x y n
theorem EP_mul {x y:Rat}(hx:0≤x)(hy:0≤y)(K:Nat):EP (x+y) K≤EP x K*EP y K∧EP x K*EP y K≤EP (x+y) (2*K):=by
 have nn:∀ i j,0≤tE x i*tE y j:=fun i j=>Rat.mul_nonneg (tE_nonneg hx i) (tE_nonneg hy j)
 have p:EP x K*EP y K=Sm (fun i=>Sm (fun j=>tE x i*tE y j) K) K:=Sm_prod _ _ K K
 rw[p,EP_conv,EP_conv]
 constructor
 ·exact Sm_le fun i _=>Sm_mono (nn i) (by omega)
 ·refine Rat.le_trans (Sm_le (g:=fun i=>Sm (fun j=>tE x i*tE y j) (2*K-i)) fun i hi=>Sm_mono (nn i) (by omega)) (Sm_mono (fun i=>Sm_nonneg (nn i) _) (by omega))
theorem EP_nonneg {x:Rat}(h:0≤x)(K:Nat):0≤EP x K:=Sm_nonneg (tE_nonneg h) K
theorem EP_mono {x:Rat}(h:0≤x){n m:Nat}(hn:n≤m):EP x n≤EP x m:=Sm_mono (tE_nonneg h) hn
end Go.Proofs.YtkkbddkpggjgpaaGreatDoor

namespace Go.Proofs.YtkkbddkpggjgpaaGreatDoor
theorem tE_half {x:Rat}(h0:0≤x){m:Nat}(h:2*x≤(nx m:Rat)):2*tE x (m+1)≤tE x m:=by
 have np:=nx_pos m
 have t:=tE_mul x m
 have p:=tE_nonneg h0 m
 refine Rat.le_of_mul_le_mul_right (c:=(nx m:Rat)) ?_ np
 have e:2*tE x (m+1)*(nx m:Rat)=tE x m*(2*x):=by grind
 rw[e]
 exact Rat.mul_le_mul_of_nonneg_left h p
theorem nx_mono {a b:Nat}(h:a≤b):(nx a:Rat)≤(nx b:Rat):=Rat.intCast_le_intCast.2 (by unfold nx;omega)
theorem EP_tail {x:Rat}(h0:0≤x){n:Nat}(h:2*x≤(nx n:Rat))(K:Nat):EP x K≤EP x (n+1)+tE x n:=by
 have key:∀ k,EP x (n+1+k)+tE x (n+k)≤EP x (n+1)+tE x n:=by
  intro k
  induction k with
  | zero=>exact Rat.le_refl
  | succ k ih =>
   have a:=tE_half h0 (m:=n+k) (Rat.le_trans h (nx_mono (by omega)))
   have e:EP x (n+1+(k+1))=EP x (n+1+k)+tE x (n+k+1):=by
    show Sm (tE x) (n+1+k)+tE x (n+1+k)=_
    rw[show n+1+k=n+k+1 by omega];rfl
   rw[e]
   show EP x (n+1+k)+tE x (n+k+1)+tE x (n+k+1)≤_
   grind
 have a:=key K
 have b:=EP_mono h0 (show K≤n+1+K by omega)
 have c:=tE_nonneg h0 (n+K)
 grind
theorem EP_four {x:Rat}(h0:0≤x)(h1:10*x≤11)(K:Nat):EP x K≤4:=by
 have t:=EP_tail h0 (n:=2) (by show 2*x≤(3:Rat);grind) K
 have e:EP x 3+tE x 2=1+x+x*x:=by
  have a:=tE_mul x 0
  have b:=tE_mul x 1
  have a':tE x 0*x=1*tE x 1:=a
  have b':tE x 1*x=2*tE x 2:=b
  have z:tE x 0=1:=rfl
  show 0+tE x 0+tE x 1+tE x 2+tE x 2=_
  rw[z] at a' ⊢
  have c:tE x 1=x:=by grind
  rw[c] at b' ⊢
  grind
 have m:=Rat.mul_le_mul_of_nonneg_left (c:=x) (show x≤11 / 10 by grind) h0
 grind
theorem lowT {p:Nat→Int}{T v1 v:Rat}{n:Nat}(hT:0<T)(h0:(p 0:Rat)≤T)(hv:0≤v1)(h1:v1≤v*T)(hp:0≤v)(hs:∀ j,j<n→(p (j+1):Rat)*(T*(nx j:Rat))≤(p j:Rat)*v1):∀ j,j≤n→(p j:Rat)≤tE v j*T:=by
 intro j
 induction j with
 | zero=>intro _;show (p 0:Rat)≤1*T;grind
 | succ j ih =>
  intro hj
  have a:=ih (by omega)
  have b:=hs j (by omega)
  have t:=tE_mul v j
  have m1:=Rat.mul_le_mul_of_nonneg_right a hv
  have m2:=Rat.mul_le_mul_of_nonneg_left h1 (Rat.mul_nonneg (tE_nonneg hp j) (Rat.le_of_lt hT))
  refine Rat.le_of_mul_le_mul_right (c:=T*(nx j:Rat)) ?_ (Rat.mul_pos hT (nx_pos j))
  have e:tE v (j+1)*T*(T*(nx j:Rat))=tE v j*T*(v*T):=by grind
  rw[e]
  exact Rat.le_trans b (Rat.le_trans m1 m2)
theorem highT {p:Nat→Int}{T v2 v:Rat}{n:Nat}(hT:0<T)(h0:T≤(p 0:Rat))(h1:v*T≤v2)(hp:0≤v)(hs:∀ j,j<n→(p j:Rat)*v2≤(p (j+1):Rat)*(T*(nx j:Rat))):∀ j,j≤n→tE v j*T≤(p j:Rat):=by
 intro j
 induction j with
 | zero=>intro _;show 1*T≤(p 0:Rat);grind
 | succ j ih =>
  intro hj
  have a:=ih (by omega)
  have b:=hs j (by omega)
  have t:=tE_mul v j
  have tn:=Rat.mul_nonneg (tE_nonneg hp j) (Rat.le_of_lt hT)
  have m1:=Rat.mul_le_mul_of_nonneg_right a (Rat.mul_nonneg hp (Rat.le_of_lt hT))
  have m2:=Rat.mul_le_mul_of_nonneg_left h1 (Rat.le_trans tn a)
  refine Rat.le_of_mul_le_mul_right (c:=T*(nx j:Rat)) ?_ (Rat.mul_pos hT (nx_pos j))
  have e:tE v (j+1)*T*(T*(nx j:Rat))=tE v j*T*(v*T):=by grind
  rw[e]
  exact Rat.le_trans m1 (Rat.le_trans m2 b)
theorem sumLow {p s:Nat→Int}{T v:Rat}{n:Nat}(hs0:s 0=p 0)(hs:∀ j,j<n→s (j+1)=s j+p (j+1))(h:∀ j,j≤n→(p j:Rat)≤tE v j*T):∀ j,j≤n→(s j:Rat)≤EP v (j+1)*T:=by
 intro j
 induction j with
 | zero =>
  intro _
  have a:=h 0 (by omega)
  rw[hs0]
  show _≤(0+tE v 0)*T
  grind
 | succ j ih =>
  intro hj
  have a:=ih (by omega)
  have b:=h (j+1) hj
  rw[hs j (by omega),Rat.intCast_add]
  show _≤(EP v (j+1)+tE v (j+1))*T
  grind
theorem sumHigh {p s:Nat→Int}{T v:Rat}{n:Nat}(hs0:s 0=p 0)(hs:∀ j,j<n→s (j+1)=s j+p (j+1))(h:∀ j,j≤n→tE v j*T≤(p j:Rat)):∀ j,j≤n→EP v (j+1)*T≤(s j:Rat):=by
 intro j
 induction j with
 | zero =>
  intro _
  have a:=h 0 (by omega)
  rw[hs0]
  show (0+tE v 0)*T≤_
  grind
 | succ j ih =>
  intro hj
  have a:=ih (by omega)
  have b:=h (j+1) hj
  rw[hs j (by omega),Rat.intCast_add]
  show (EP v (j+1)+tE v (j+1))*T≤_
  grind
def dbl (v:Rat):Nat→Rat
 | 0=>v
 | i+1=>dbl v i+dbl v i
theorem dbl_nonneg {v:Rat}(h:0≤v):∀ i,0≤dbl v i
 | 0=>h
 | i+1=>Rat.add_nonneg (dbl_nonneg h i) (dbl_nonneg h i)
theorem dbl_pow (v:Rat):∀ i,dbl v i=v*((2^i:Int):Rat)
 | 0=>by show v=v*((1:Int):Rat);rw[show ((1:Int):Rat)=1 from rfl];grind
 | i+1=>by
  show dbl v i+dbl v i=_
  rw[dbl_pow v i,Int.pow_succ,Rat.intCast_mul,show ((2:Int):Rat)=2 from rfl];grind
theorem sqLow {a:Nat→Int}{T v:Rat}{K h:Nat}(hT:0<T)(hp:0≤v)(pos:∀ i,i≤h→(0:Rat)≤(a i:Rat))(h0:(a 0:Rat)≤EP v K*T)(hs:∀ i,i<h→(a (i+1):Rat)*T≤(a i:Rat)*(a i:Rat)):∀ i,i≤h→(a i:Rat)≤EP (dbl v i) (2^i*K)*T:=by
 intro i
 induction i with
 | zero=>intro _;rw[Nat.pow_zero,Nat.one_mul];exact h0
 | succ i ih =>
  intro hi
  have x:=ih (by omega)
  have y:=hs i (by omega)
  have p:=pos i (by omega)
  have d:=dbl_nonneg hp i
  have m:=(EP_mul d d (2^i*K)).2
  have en:=EP_nonneg d (2^i*K)
  have m1:=Rat.mul_le_mul_of_nonneg_left x p
  have m2:=Rat.mul_le_mul_of_nonneg_right x (Rat.mul_nonneg en (Rat.le_of_lt hT))
  have m3:=Rat.mul_le_mul_of_nonneg_right m (Rat.le_of_lt (Rat.mul_pos hT hT))
  refine Rat.le_of_mul_le_mul_right (c:=T) ?_ hT
  rw[show 2^(i+1)*K=2*(2^i*K) by rw[Nat.pow_succ];grind]
  show _≤EP (dbl v i+dbl v i) (2*(2^i*K))*T*T
  generalize EP (dbl v i+dbl v i) (2*(2^i*K))=E2 at *
  generalize EP (dbl v i) (2^i*K)=E1 at *
  grind
theorem sqHigh {b:Nat→Int}{T v:Rat}{h:Nat}(hT:0<T)(hp:0≤v)(h0:∀ K,EP v K*T≤(b 0:Rat))(hs:∀ i,i<h→(b i:Rat)*(b i:Rat)≤(b (i+1):Rat)*T):∀ i,i≤h→∀ K,EP (dbl v i) K*T≤(b i:Rat):=by
 intro i
 induction i with
 | zero=>intro _ K;exact h0 K
 | succ i ih =>
  intro hi K
  have x:=ih (by omega) K
  have y:=hs i (by omega)
  have d:=dbl_nonneg hp i
  have m:=(EP_mul d d K).1
  have en:=Rat.mul_nonneg (EP_nonneg d K) (Rat.le_of_lt hT)
  have m1:=Rat.mul_le_mul_of_nonneg_left x en
  have m2:=Rat.mul_le_mul_of_nonneg_right x (Rat.le_trans en x)
  have m3:=Rat.mul_le_mul_of_nonneg_right m (Rat.le_of_lt (Rat.mul_pos hT hT))
  refine Rat.le_of_mul_le_mul_right (c:=T) ?_ hT
  show EP (dbl v i+dbl v i) K*T*T≤_
  generalize EP (dbl v i+dbl v i) K=E2 at *
  generalize EP (dbl v i) K=E1 at *
  grind
theorem one_pow_le {q:Rat}(h:1≤q):∀ n:Nat,1≤q^n
 | 0=>by rw[Rat.pow_zero];exact Rat.le_refl
 | n+1=>by
  have a:=one_pow_le h n
  have m:=Rat.mul_le_mul_of_nonneg_left h (show (0:Rat)≤q^n by grind)
  rw[Rat.pow_succ];grind
theorem bern {y:Rat}(h:0≤y):∀ n:Nat,(1+y)^n*(1-(n:Rat)*y)≤1
 | 0=>by rw[Rat.pow_zero,show ((0:Nat):Rat)=0 from rfl];grind
 | n+1=>by
  have a:=bern h n
  have p:0≤(1+y)^n:=by have:=one_pow_le (q:=1+y) (by grind) n;grind
  have c:((n+1:Nat):Rat)=(n:Rat)+1:=by rw[Rat.natCast_add];rfl
  have n0:(0:Rat)≤(n:Rat):=Rat.natCast_nonneg
  have q:(1+y)*(1-((n:Rat)+1)*y)≤1-(n:Rat)*y:=by
   have:=Rat.mul_nonneg (Rat.mul_nonneg h h) (show (0:Rat)≤(n:Rat)+1 by grind)
   grind
  have m:=Rat.mul_le_mul_of_nonneg_left q p
  rw[Rat.pow_succ,c]
  grind
theorem inv_bern {y:Rat}{n:Nat}(h:0≤y)(h2:2*((n:Rat)*y)≤1):(1+y)^n≤1+2*((n:Rat)*y):=by
 have b:=bern h n
 have n0:(0:Rat)≤(n:Rat)*y:=Rat.mul_nonneg Rat.natCast_nonneg h
 have p:0<1-(n:Rat)*y:=by grind
 refine Rat.le_of_mul_le_mul_right (c:=1-(n:Rat)*y) ?_ p
 have m:=Rat.mul_le_mul_of_nonneg_left (c:=(n:Rat)*y) (show 2*((n:Rat)*y)≤1 from h2) n0
 grind
end Go.Proofs.YtkkbddkpggjgpaaGreatDoor

namespace Go.Proofs.YtkkbddkpggjgpaaGreatDoor
theorem rpow_add (q:Rat)(m:Nat):∀ n:Nat,q^(m+n)=q^m*q^n
 | 0=>by rw[Nat.add_zero,Rat.pow_zero,Rat.mul_one]
 | n+1=>by rw[← Nat.add_assoc,Rat.pow_succ,Rat.pow_succ,rpow_add q m n,Rat.mul_assoc]
theorem k_step {u:Rat}(h0:0<u)(h3:3*u≤1):1+u≤(1-u)*(1+3*u):=by
 have:=Rat.mul_le_mul_of_nonneg_left h3 (Rat.le_of_lt h0)
 grind
theorem st_step {a b T u K:Rat}(hu0:0<u)(hu:u*T=1)(a0:T≤a)(k0:0≤K)(kT:K≤T)(hk:b≤a+K):b*(1+3*u)≤a*(1+(K+10)*u):=by
 have m1:=Rat.mul_le_mul_of_nonneg_right hk (show 0≤1+3*u by grind)
 have m2:=Rat.mul_le_mul_of_nonneg_right a0 (Rat.mul_nonneg (Rat.le_of_lt hu0) k0)
 have m3:=Rat.mul_le_mul_of_nonneg_right (Rat.le_trans kT a0) (Rat.le_of_lt hu0)
 have m4:=Rat.mul_le_mul_of_nonneg_right a0 (Rat.le_of_lt hu0)
 have e:T*(u*K)=K:=by rw[← Rat.mul_assoc,Rat.mul_comm T u,hu,Rat.one_mul]
 rw[e] at m2
 have f:a*(1+(K+10)*u)=a+a*(u*K)+10*(a*u):=by grind
 have g:(a+K)*(1+3*u)=a+K+3*(a*u)+3*(K*u):=by grind
 rw[f];rw[g] at m1
 have h:T*u=1:=by rw[Rat.mul_comm];exact hu
 rw[h] at m4
 generalize a*(u*K)=x1 at *
 generalize a*u=x2 at *
 generalize K*u=x3 at *
 grind
theorem pow_dbl (q:Rat)(i:Nat):q^(2^(i+1))=q^(2^i)*q^(2^i):=by
 rw[Nat.pow_succ,Nat.mul_two,rpow_add]
theorem sq_step {A B A' B' T u c Q:Rat}(hT:3≤T)(hu0:0<u)(hu:u*T=1)(hc:c=1+3*u)(hA:T≤A)(hB:T≤B)(hQ:0≤Q)
  (h1:A*A≤(A'+1)*T) (h2:(B'-1)*T≤B*B) (h3:B*c≤A*Q):B'*c≤A'*(Q*Q):=by
 have u3:3*u≤1:=by have:=Rat.mul_le_mul_of_nonneg_left hT (Rat.le_of_lt hu0);grind
 have au:1≤A*u:=by have:=Rat.mul_le_mul_of_nonneg_right hA (Rat.le_of_lt hu0);grind
 have bu:1≤B*u:=by have:=Rat.mul_le_mul_of_nonneg_right hB (Rat.le_of_lt hu0);grind
 have a2:1≤(A*u)*(A*u):=by have:=Rat.mul_le_mul_of_nonneg_left au (show 0≤A*u by grind);grind
 have b2:1≤(B*u)*(B*u):=by have:=Rat.mul_le_mul_of_nonneg_left bu (show 0≤B*u by grind);grind
 have e1:=Rat.mul_le_mul_of_nonneg_right h1 (Rat.le_of_lt hu0)
 have e2:=Rat.mul_le_mul_of_nonneg_right h2 (Rat.le_of_lt hu0)
 have f1:A*A*u*(1-u)≤A':=by
  have:(A'+1)*T*u=A'+1:=by grind
  grind
 have f2:B'≤B*B*u*(1+u):=by
  have:(B'-1)*T*u=B'-1:=by grind
  grind
 have B0:0≤B:=by grind
 have c0:0≤c:=by grind
 have BBu:0≤B*B*u:=Rat.mul_nonneg (Rat.mul_nonneg B0 B0) (Rat.le_of_lt hu0)
 have k:1+u≤(1-u)*c:=by rw[hc];exact k_step hu0 u3
 have g1:=Rat.mul_le_mul_of_nonneg_right f2 c0
 have g2:=Rat.mul_le_mul_of_nonneg_left k (Rat.mul_nonneg BBu c0)
 have s1:=Rat.mul_le_mul_of_nonneg_left h3 (Rat.mul_nonneg B0 c0)
 have s2:=Rat.mul_le_mul_of_nonneg_right h3 (Rat.mul_nonneg (show 0≤A by grind) hQ)
 have s3:B*c*(B*c)≤A*Q*(A*Q):=Rat.le_trans s1 s2
 have g3:=Rat.mul_le_mul_of_nonneg_right s3 (Rat.mul_nonneg (Rat.le_of_lt hu0) (show 0≤1-u by grind))
 have g4:=Rat.mul_le_mul_of_nonneg_right f1 (Rat.mul_nonneg hQ hQ)
 grind
theorem sqRatio {a b:Nat→Int}{T u c q:Rat}{h:Nat}(hT:3≤T)(hu0:0<u)(hu:u*T=1)(hc:c=1+3*u)(hq:0≤q)(ha:∀ i,i≤h→T≤(a i:Rat))(hb:∀ i,i≤h→T≤(b i:Rat))
  (h1:∀ i,i<h→(a i:Rat)*(a i:Rat)≤((a (i+1):Rat)+1)*T) (h2:∀ i,i<h→((b (i+1):Rat)-1)*T≤(b i:Rat)*(b i:Rat)) (h0:(b 0:Rat)*c≤(a 0:Rat)*q) :
  ∀ i,i≤h→(b i:Rat)*c≤(a i:Rat)*q^(2^i):=by
 intro i
 induction i with
 | zero=>intro _;rw[Nat.pow_zero,Rat.pow_succ,Rat.pow_zero,Rat.one_mul];exact h0
 | succ i ih =>
  intro hi
  rw[pow_dbl]
  exact sq_step hT hu0 hu hc (ha i (by omega)) (hb i (by omega)) (Rat.pow_nonneg hq) (h1 i (by omega)) (h2 i (by omega)) (ih (by omega))
theorem sqWidth {a b:Nat→Int}{T u K0:Rat}{h:Nat}(hT:3≤T)(hu0:0<u)(hu:u*T=1)(ha:∀ i,i≤h→T≤(a i:Rat))(hb:∀ i,i≤h→T≤(b i:Rat))
  (h1:∀ i,i<h→(a i:Rat)*(a i:Rat)≤((a (i+1):Rat)+1)*T) (h2:∀ i,i<h→((b (i+1):Rat)-1)*T≤(b i:Rat)*(b i:Rat)) (k0:0≤K0) (kT:K0≤T) (hk:(b 0:Rat)≤(a 0:Rat)+K0)
  (hm:2*(((2^h:Nat):Rat)*((K0+10)*u))≤1):(b h:Rat)≤(a h:Rat)*(1+2*(((2^h:Nat):Rat)*((K0+10)*u))):=by
 have y0:0≤(K0+10)*u:=Rat.mul_nonneg (by grind) (Rat.le_of_lt hu0)
 have a0:=ha 0 (by omega)
 have ah:=ha h (Nat.le_refl _)
 have bh:=hb h (Nat.le_refl _)
 have st:=st_step hu0 hu a0 k0 kT hk
 have r:=sqRatio hT hu0 hu rfl (show 0≤1+(K0+10)*u by grind) ha hb h1 h2 st h (Nat.le_refl _)
 have p:=inv_bern y0 hm
 have m:=Rat.mul_le_mul_of_nonneg_left p (show 0≤(a h:Rat) by grind)
 have n:=Rat.mul_nonneg (show 0≤(b h:Rat) by grind) (show 0≤3*u by grind)
 grind
theorem sum_step {p q p' q' v1 v2 T x t:Rat}(hT:0<T)(hx:1≤x)(h8:8*v2≤T)(hv:v1≤v2)(h1:p*v1≤(p'+2)*(T*x))(h2:(q'-2)*(T*x)≤q*v2)(hpq:p≤q)(ht0:0≤t)(ht:p≤t*T):8*(q'-p')≤(q-p)+8*(t*(v2-v1))+32:=by
 have Tx:0<T*x:=Rat.mul_pos hT (by grind)
 have m1:=Rat.mul_le_mul_of_nonneg_left h8 (show 0≤q-p by grind)
 have m2:=Rat.mul_le_mul_of_nonneg_right ht (show 0≤v2-v1 by grind)
 have tD:0≤t*(v2-v1):=Rat.mul_nonneg ht0 (by grind)
 have z:0≤(q-p)+8*(t*(v2-v1)):=by grind
 have m3:=Rat.mul_le_mul_of_nonneg_left hx (Rat.mul_nonneg z (Rat.le_of_lt hT))
 refine Rat.le_of_mul_le_mul_right (c:=T*x) ?_ Tx
 grind
theorem sumWidth {p q s r:Nat→Int}{T v1 v2 v:Rat}{n:Nat}(hT:0<T)(h8:8*v2≤T)(hv:v1≤v2)(hp:0≤v)(hs0:s 0=p 0)(hs:∀ j,j<n→s (j+1)=s j+p (j+1))(hr0:r 0=q 0)(hr:∀ j,j<n→r (j+1)=r j+q (j+1))
  (h0:p 0=q 0) (hpl:∀ j,j≤n→(p j:Rat)≤tE v j*T) (hqh:∀ j,j≤n→tE v j*T≤(q j:Rat)) (h1:∀ j,j<n→(p j:Rat)*v1≤((p (j+1):Rat)+2)*(T*(nx j:Rat))) (h2:∀ j,j<n→((q (j+1):Rat)-2)*(T*(nx j:Rat))≤(q j:Rat)*v2) :
  ∀ j,j≤n→7*((r j:Rat)-(s j:Rat))+((q j:Rat)-(p j:Rat))≤8*(EP v j*(v2-v1))+32*(j:Rat):=by
 intro j
 induction j with
 | zero =>
  intro _
  rw[hs0,hr0,h0,show ((0:Nat):Rat)=0 from rfl]
  show _≤8*((0:Rat)*(v2-v1))+32*0
  grind
 | succ j ih =>
  intro hj
  have a:=ih (by omega)
  have l:=hpl j (by omega)
  have st:=sum_step hT (show (1:Rat)≤(nx j:Rat) from nx_mono (a:=0) (by omega)) h8 hv (h1 j (by omega)) (h2 j (by omega)) (Rat.le_trans l (hqh j (by omega))) (tE_nonneg hp j) l
  rw[hs j (by omega),hr j (by omega),Rat.intCast_add,Rat.intCast_add,show ((j+1:Nat):Rat)=(j:Rat)+1 by rw[Rat.natCast_add];rfl]
  show _≤8*((EP v j+tE v j)*(v2-v1))+32*((j:Rat)+1)
  grind
theorem sum_end {q:Nat→Int}{t:Nat}(h3:3≤t)(h0:q 0=2^t)(hs:∀ j,8≤q j→8*q (j+1)≤q j+16):∃ nn,1≤nn∧nn≤t∧∀ j,j<nn→(q (j+1)<8↔nn≤j+1):=by
 have ex:∃ j,j<t∧q (j+1)<8:=by
  refine Decidable.byContradiction fun hn=>?_
  have big:∀ j,j≤t→8≤q j:=by
   intro j hj
   cases j with
   | zero =>
    rw[h0]
    have:=Int.ofNat_le.2 (Nat.pow_le_pow_right (n:=2) (by omega) h3)
    rw[← pow_cast,← pow_cast] at this
    omega
   | succ j=>exact Decidable.byContradiction fun h=>hn ⟨j,by omega,by omega⟩
  have dec:∀ j,j≤t→q j*2^j≤2^t:=by
   intro j
   induction j with
   | zero=>intro _;rw[h0];omega
   | succ j ih =>
    intro hj
    have a:=ih (by omega)
    have b:=big j (by omega)
    have c:=hs j b
    have p:=two_pos j
    have m:q (j+1)*2^j*2≤q j*2^j:=by
     have:=Int.mul_le_mul_of_nonneg_right (show q (j+1)*2≤q j by omega) (Int.le_of_lt p)
     rw[Int.mul_right_comm] at this
     exact this
    rw[Int.pow_succ,← Int.mul_assoc]
    omega
  have a:=dec t (Nat.le_refl _)
  have b:=big t (Nat.le_refl _)
  have p:=two_pos t
  have m:=Int.mul_le_mul_of_nonneg_right b (Int.le_of_lt p)
  omega
 obtain⟨j0,hj0,hq0⟩:=ex
 obtain⟨m,m1,m2,m3⟩:=least (P:=fun j=>q (j+1)<8) (n:=j0) hq0
 refine⟨m+1,by omega,by omega,fun j hj=>⟨fun h=>?_,fun h=>?_⟩⟩
 ·exact Decidable.byContradiction fun hn=>m3 j (by omega) h
 ·rw[show j=m by omega];exact m2
end Go.Proofs.YtkkbddkpggjgpaaGreatDoor

namespace Go.Proofs.YtkkbddkpggjgpaaGreatDoor
open Go.RowKit
set_option maxRecDepth 100000
set_option maxHeartbeats 2000000
theorem fl2 {A T n:Int}(hT:0<T)(hn:0<n):A / T / n*(T*n)≤A∧A≤(A / T / n+1)*(T*n):=by
 rw[Int.ediv_ediv_of_nonneg (Int.le_of_lt hT)]
 have p:=Int.mul_pos hT hn
 exact⟨Int.ediv_mul_le _ oO,Int.le_of_lt (Int.lt_ediv_add_one_mul_self _ p)⟩
theorem ce2 {B T n:Int}(hT:0<T)(hn:0<n):B≤-(-(-(-B / T)) / n)*(T*n)∧(-(-(-(-B / T)) / n)-1)*(T*n)≤B:=by
 have f:=fl2 (A:=-B) hT hn
 rw[Int.neg_neg]
 generalize -B / T / n=g at *
 have e1:-g*(T*n)=-(g*(T*n)):=Int.neg_mul _ _
 have e2:(-g-1)*(T*n)=-((g+1)*(T*n)):=by rw[← Int.neg_mul];congr 1;omega
 omega
theorem L_big {x:Int}{t:Nat}(h:x.natAbs<2^(t+20))(ht:t≤20000):L x.natAbs≤700:=L_pow2 h oO
theorem exm_facts {T v1 v2:Int}(hT:16≤T)(h1:0≤v1)(h12:v1≤v2)(h8:8*v2≤T)(j:Nat) :
  (0≤(exM T v1 v2 T j).1∧(exM T v1 v2 T j).1≤T∧0≤(exM T v1 v2 T j).2∧(exM T v1 v2 T j).2≤T):=by
 induction j with
 | zero=>show 0≤T∧T≤T∧0≤T∧T≤T;omega
 | succ j ih =>
  obtain⟨a1,a2,b1,b2⟩:=ih
  show 0≤ptLo ((exM T v1 v2 T j).1*v1 / T) ((j:Int)+1)∧ptLo ((exM T v1 v2 T j).1*v1 / T) ((j:Int)+1)≤T∧0≤ptHi (-(-((exM T v1 v2 T j).2*v2) / T)) ((j:Int)+1)∧ptHi (-(-((exM T v1 v2 T j).2*v2) / T)) ((j:Int)+1)≤T
  generalize (exM T v1 v2 T j).1=p at *
  generalize (exM T v1 v2 T j).2=q at *
  have T0:0<T:=by omega
  have n0:(0:Int)<(j:Int)+1:=by omega
  have pv:=Int.mul_nonneg a1 h1
  have qv:=Int.mul_nonneg b1 (Int.le_trans h1 h12)
  have f0:=Int.ediv_nonneg pv (Int.le_of_lt T0)
  have c0:0≤-(-(q*v2) / T):=by have:=Int.ediv_le_ediv T0 (show -(q*v2)≤0 by omega);rw[Int.zero_ediv] at this;omega
  rw[ptLo_eq f0 n0,ptHi_eq c0 n0]
  have f:=fl2 (A:=p*v1) T0 n0
  have c:=ce2 (B:=q*v2) T0 n0
  have g0:0≤p*v1 / T / ((j:Int)+1):=Int.ediv_nonneg f0 (Int.le_of_lt n0)
  have d0:0≤-(-(-(-(q*v2) / T)) / ((j:Int)+1)):=by have:=Int.ediv_le_ediv n0 (show -(-(-(q*v2) / T))≤0 by omega);rw[Int.zero_ediv] at this;omega
  have Tn:T≤T*((j:Int)+1):=by have:=Int.mul_le_mul_of_nonneg_left (show (1:Int)≤(j:Int)+1 by omega) (Int.le_of_lt T0);omega
  have k1:p*v1≤T*v1:=Int.mul_le_mul_of_nonneg_right a2 h1
  have k2:q*v2≤T*v2:=Int.mul_le_mul_of_nonneg_right b2 (Int.le_trans h1 h12)
  generalize p*v1 / T / ((j:Int)+1)=g at *
  generalize -(-(-(-(q*v2) / T)) / ((j:Int)+1))=d at *
  generalize T*((j:Int)+1)=X at *
  have up:∀ z w:Int,0≤z→z*X≤w→w≤T*v2→z≤T:=by
   intro z w z0 zw wv
   refine Decidable.byContradiction fun hn=>?_
   have m1:=Int.mul_le_mul_of_nonneg_right (show T+1≤z by omega) (show 0≤X by omega)
   have m2:=Int.mul_le_mul_of_nonneg_left Tn (show 0≤T+1 by omega)
   have m3:=Int.mul_le_mul_of_nonneg_left (show v2≤T by omega) (Int.le_of_lt T0)
   rw[Int.add_mul] at m2
   omega
  refine⟨g0,up g (p*v1) g0 f.1 (Int.le_trans k1 (Int.mul_le_mul_of_nonneg_left h12 (Int.le_of_lt T0))),d0,?_⟩
  by_cases hd:d=0
  ·omega
  ·refine Decidable.byContradiction fun hn=>?_
   have m1:=Int.mul_le_mul_of_nonneg_right (show T≤d-1 by omega) (show 0≤X by omega)
   have m2:=Int.mul_le_mul_of_nonneg_left Tn (Int.le_of_lt T0)
   have m3:=Int.mul_le_mul_of_nonneg_left h8 (Int.le_of_lt T0)
   have m4:=Int.mul_pos T0 T0
   rw[← Int.mul_assoc,Int.mul_comm T 8,Int.mul_assoc] at m3
   omega
theorem exm_next {T v1 v2:Int}(hT:16≤T)(h1:0≤v1)(h12:v1≤v2)(h8:8*v2≤T)(j:Nat) :
  ((exM T v1 v2 T (j+1)).1*(T*nx j)≤(exM T v1 v2 T j).1*v1∧(exM T v1 v2 T j).1*v1≤((exM T v1 v2 T (j+1)).1+2)*(T*nx j)) ∧
  ((exM T v1 v2 T j).2*v2≤(exM T v1 v2 T (j+1)).2*(T*nx j)∧((exM T v1 v2 T (j+1)).2-2)*(T*nx j)≤(exM T v1 v2 T j).2*v2)∧8*(exM T v1 v2 T (j+1)).2≤(exM T v1 v2 T j).2+16 ∧
  ((0≤(exM T v1 v2 T j).1*v1 / T∧(exM T v1 v2 T j).1*v1 / T≤T)∧0≤-(-((exM T v1 v2 T j).2*v2) / T)∧-(-((exM T v1 v2 T j).2*v2) / T)≤T+1):=by
 obtain⟨a1,a2,b1,b2⟩:=exm_facts hT h1 h12 h8 j
 show (ptLo ((exM T v1 v2 T j).1*v1 / T) ((j:Int)+1)*(T*((j:Int)+1))≤_∧_≤(ptLo ((exM T v1 v2 T j).1*v1 / T) ((j:Int)+1)+2)*(T*((j:Int)+1)))∧(_≤ptHi (-(-((exM T v1 v2 T j).2*v2) / T)) ((j:Int)+1)*(T*((j:Int)+1))∧(ptHi (-(-((exM T v1 v2 T j).2*v2) / T)) ((j:Int)+1)-2)*(T*((j:Int)+1))≤_)∧8*ptHi (-(-((exM T v1 v2 T j).2*v2) / T)) ((j:Int)+1)≤_∧_
 generalize (exM T v1 v2 T j).1=p at *
 generalize (exM T v1 v2 T j).2=q at *
 have T0:0<T:=by omega
 have n0:(0:Int)<(j:Int)+1:=by omega
 have pv:=Int.mul_nonneg a1 h1
 have qv:=Int.mul_nonneg b1 (Int.le_trans h1 h12)
 have f0:=Int.ediv_nonneg pv (Int.le_of_lt T0)
 have c0:0≤-(-(q*v2) / T):=by have:=Int.ediv_le_ediv T0 (show -(q*v2)≤0 by omega);rw[Int.zero_ediv] at this;omega
 rw[ptLo_eq f0 n0,ptHi_eq c0 n0]
 have f:=fl2 (A:=p*v1) T0 n0
 have c:=ce2 (B:=q*v2) T0 n0
 have d0:0≤-(-(-(-(q*v2) / T)) / ((j:Int)+1)):=by have:=Int.ediv_le_ediv n0 (show -(-(-(q*v2) / T))≤0 by omega);rw[Int.zero_ediv] at this;omega
 have Tn:T≤T*((j:Int)+1):=by have:=Int.mul_le_mul_of_nonneg_left (show (1:Int)≤(j:Int)+1 by omega) (Int.le_of_lt T0);omega
 have k1:p*v1≤T*v1:=Int.mul_le_mul_of_nonneg_right a2 h1
 have k2:q*v2≤T*v2:=Int.mul_le_mul_of_nonneg_right b2 (Int.le_trans h1 h12)
 have k3:q*(8*v2)≤q*T:=Int.mul_le_mul_of_nonneg_left h8 b1
 have e1:p*v1 / T≤T:=by
  have a:=Int.ediv_mul_le (p*v1) (show T≠0 by omega)
  refine Decidable.byContradiction fun hn=>?_
  have m:=Int.mul_le_mul_of_nonneg_right (show T+1≤p*v1 / T by omega) (Int.le_of_lt T0)
  have m3:=Int.mul_le_mul_of_nonneg_left (show v1≤T by omega) (Int.le_of_lt T0)
  rw[Int.add_mul] at m
  omega
 have e2:-(-(q*v2) / T)≤T+1:=by
  have a:=Int.lt_ediv_add_one_mul_self (-(q*v2)) T0
  refine Decidable.byContradiction fun hn=>?_
  have m:=Int.mul_le_mul_of_nonneg_right (show -(q*v2) / T+1≤-T by omega) (Int.le_of_lt T0)
  have m3:=Int.mul_le_mul_of_nonneg_left (show v2≤T by omega) (Int.le_of_lt T0)
  rw[Int.neg_mul] at m
  omega
 have nxe:nx j=(j:Int)+1:=rfl
 generalize -(-(-(-(q*v2) / T)) / ((j:Int)+1))=d at *
 generalize p*v1 / T / ((j:Int)+1)=g at *
 generalize hX:T*((j:Int)+1)=X at *
 have X0:0≤X:=by omega
 have s1:(g+2)*X=(g+1)*X+X:=by rw[show g+2=g+1+1 by omega,Int.add_mul,Int.one_mul]
 have s2:(d-2)*X=(d-1)*X-X:=by rw[show d-2=d-1-1 by omega,Int.sub_mul,Int.one_mul]
 refine⟨⟨f.1,by omega⟩,⟨c.1,by omega⟩,?_,⟨⟨f0,e1⟩,c0,e2⟩⟩
 by_cases hd:d=0
 ·omega
 ·have m1:=Int.mul_le_mul_of_nonneg_left Tn (show 0≤d-1 by omega)
  refine Decidable.byContradiction fun hn=>?_
  have m2:=Int.mul_le_mul_of_nonneg_right (show q+9≤8*d by omega) (Int.le_of_lt T0)
  rw[← Int.mul_assoc,Int.mul_comm q 8,Int.mul_assoc] at k3
  rw[Int.add_mul,Int.mul_assoc] at m2
  rw[Int.sub_mul,Int.one_mul] at m1
  omega
end Go.Proofs.YtkkbddkpggjgpaaGreatDoor

namespace Go.Proofs.YtkkbddkpggjgpaaGreatDoor
open Go.RowKit
set_option maxRecDepth 100000
set_option maxHeartbeats 2000000
theorem sqS_facts {a b T:Int}(hT:0<T)(i:Nat):(sqS a b T (i+1)).1*T≤(sqS a b T i).1*(sqS a b T i).1∧(sqS a b T i).1*(sqS a b T i).1<((sqS a b T (i+1)).1+1)*T ∧
  (sqS a b T i).2*(sqS a b T i).2≤(sqS a b T (i+1)).2*T∧((sqS a b T (i+1)).2-1)*T≤(sqS a b T i).2*(sqS a b T i).2:=by
 show (sqS a b T i).1*(sqS a b T i).1 / T*T≤_∧_<((sqS a b T i).1*(sqS a b T i).1 / T+1)*T∧_≤-(-((sqS a b T i).2*(sqS a b T i).2) / T)*T∧(-(-((sqS a b T i).2*(sqS a b T i).2) / T)-1)*T≤_
 generalize (sqS a b T i).1*(sqS a b T i).1=A
 generalize (sqS a b T i).2*(sqS a b T i).2=B
 have f1:=Int.ediv_mul_le A (show T≠0 by omega)
 have f2:=Int.lt_ediv_add_one_mul_self A hT
 have g1:=Int.ediv_mul_le (-B) (show T≠0 by omega)
 have g2:=Int.lt_ediv_add_one_mul_self (-B) hT
 generalize -B / T=z at *
 have e1:-z*T=-(z*T):=Int.neg_mul _ _
 have e2:(-z-1)*T=-((z+1)*T):=by rw[← Int.neg_mul];congr 1;omega
 omega
theorem sqS_ge {a b T:Int}(hT:0<T)(ha:T≤a)(hb:T≤b):∀ i,T≤(sqS a b T i).1∧T≤(sqS a b T i).2
 | 0=>⟨ha,hb⟩
 | i+1=>by
  obtain⟨x,y⟩:=sqS_ge hT ha hb i
  have f:=sqS_facts (a:=a) (b:=b) hT i
  have m1:=Int.mul_le_mul x x (Int.le_of_lt hT) oO
  have m2:=Int.mul_le_mul y y (Int.le_of_lt hT) oO
  generalize (sqS a b T i).1*(sqS a b T i).1=A at *
  generalize (sqS a b T i).2*(sqS a b T i).2=B at *
  constructor
  ·refine Decidable.byContradiction fun hn=>?_
   have m:=Int.mul_le_mul_of_nonneg_right (show (sqS a b T (i+1)).1+1≤T by omega) (Int.le_of_lt hT)
   omega
  ·refine Decidable.byContradiction fun hn=>?_
   have m3:=Int.mul_le_mul_of_nonneg_right (show (sqS a b T (i+1)).2≤T-1 by omega) (Int.le_of_lt hT)
   rw[Int.sub_mul] at m3
   omega
theorem saS_le {p:Nat→Int}{T:Int}(h:∀ j,0≤p j∧p j≤T):∀ j:Nat,0≤saS p j∧saS p j≤((j:Int)+1)*T∧p 0≤saS p j
 | 0=>by have:=h 0;show 0≤p 0∧p 0≤((0:Int)+1)*T∧p 0≤p 0;omega
 | j+1=>by
  have a:=saS_le h j
  have b:=h (j+1)
  show 0≤saS p j+p (j+1)∧saS p j+p (j+1)≤(((j+1:Nat):Int)+1)*T∧p 0≤saS p j+p (j+1)
  have e:(((j+1:Nat):Int)+1)*T=((j:Int)+1)*T+T:=by
   rw[show ((j+1:Nat):Int)=(j:Int)+1 from rfl,Int.add_mul _ 1 T,Int.one_mul]
  omega
end Go.Proofs.YtkkbddkpggjgpaaGreatDoor
