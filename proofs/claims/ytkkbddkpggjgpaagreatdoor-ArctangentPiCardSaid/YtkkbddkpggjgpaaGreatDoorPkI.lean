/-
  Lower layers: what functions of the program compute, and plain facts. Conditions: as the theorems say.
-/
import Derived.Test.YtkkbddkpggjgpaaGreatDoorPkH
set_option linter.unusedVariables false
set_option linter.unusedSimpArgs false
namespace Go.Proofs.YtkkbddkpggjgpaaGreatDoor
open Go.RowKit
set_option maxRecDepth 100000
def nat_Shl_0_mk (a:Nat)(n:Int)(x:Int × List V × List V × List Nat):St:=⟨mkS 66 [(5,(.val (.int .i64 (Int.tdiv n (32:Int))))),(6,(.val (.int .u64 (wRem n (32:Int))))),(7,(.osl 0 0 (((((List.take (((L a:Int)-0).toNat) (List.drop 0 (lim a))).length:Int)+(Int.tdiv n (32:Int)))+1).toNat) 1)),(31,(.val (.sl 1 x.2.1))),(32,(.val (.int .i64 ((List.take (((L a:Int)-0).toNat) (List.drop 0 (lim a))).length:Int)))),(33,(.val (.int .i64 x.1)))],[⟨true,false,x.2.2.1⟩]⟩
def nat_Shl_0_I (a:Nat)(n:Int)(x:Int × List V × List V × List Nat):Prop:=x.2.1=lim a∧x.2.2.1=U x.2.2.2∧ShlInv a n.toNat x.1 x.2.2.2
def nat_Shl_0_mu (a:Nat)(_:Int)(x:Int × List V × List V × List Nat):Nat:=((L a:Int)-x.1).toNat
def nat_Shl_0_ex (a:Nat)(n:Int)(y:List Nat):Ex × St:=(.exit 0,⟨mkS 66 [(7,(.osl 0 0 (((((List.take (((L a:Int)-0).toNat) (List.drop 0 (lim a))).length:Int)+(Int.tdiv n (32:Int)))+1).toNat) 1))],[⟨true,false,(U y)⟩]⟩)
def nat_Shl_0_J (a:Nat)(n:Int)(y:List Nat):Prop:=ShlInv a n.toNat (L a:Int) y
abbrev nat_Shl_0_N (a:Nat)(n:Int):=NX (nat_Shl_0_mk a n) (nat_Shl_0_I a n) (nat_Shl_0_mu a n) (nat_Shl_0_ex a n) (nat_Shl_0_J a n)
theorem nat_Shl_0 (a:Nat)(n:Int)(c0:L a≤67108864)(c1:0≤n∧n≤1048576)(x0:Int × List V × List V × List Nat)(hI:nat_Shl_0_I a n x0):LoopOk Tryz.prog Amb (loopN Tryz.f144 0) (nat_Shl_0_mk a n x0) (fun e st_=>∃ y,nat_Shl_0_J a n y∧nat_Shl_0_ex a n y=(e,st_)) :=
 loop_ob hP hAmb ⟨[5,6,7,31,32,33],1,[]⟩ (nat_Shl_0_mk a n) (nat_Shl_0_I a n) (nat_Shl_0_mu a n) (nat_Shl_0_ex a n) (nat_Shl_0_J a n) x0 hI (fun (i,s,o,l)=>.lit<|.both (.yes<|.yes<|.lit<|.yes<|.yes<|.yes<|.lit<|.yes<|.yes<|.yes<|.lit<|.no<|.lit<|.yes<|.yes<|.lit<|.yes<|.lit<|.yes<|.lits 2<|.no<|.yes<|.yes<|.lit<|.yes<|.fin2 ⟨[5,6,7,31,32,33],1,[]⟩) (.fin2 ⟨[7],1,[]⟩)) (by
  rintro ⟨i,s,o,l⟩ hI
  have hI:s=lim a∧o=U l∧ShlInv a n.toNat i l:=hI
  obtain⟨rfl,rfl,h1⟩:=hI
  have ⟨p0,p1,p2,_⟩:=h1
  have e0:=L_len a
  have g0:=gi_lt (dig_limbs a) i.toNat
  have g1:=gi_nonneg (limbs a) i.toNat
  have g4:=U_len l
  have t0:=tdiv32 c1.1
  have t1:=wRem32 c1.1
  have e3:(List.take (((L a:Int)-0).toNat) (List.drop 0 (lim a))).length=L a:=by rw[cut_self,L_len]
  have hb:=shl_word a i.toNat c1.1
  exact cast_ob (aI True.intro (aI (fun (h101:(iLt i ((List.take (((L a:Int)-0).toNat) (List.drop 0 (lim a))).length:Int))=true)=>have _gh101:=iLt_t h101;aI (inB_mk oA:(inB i ((lim a).length))=true) (aI (ld_L oA:(Nat.blt i.toNat (lim a).length && isIntK .u32 (nth (lim a) i.toNat .unk))=true) (aI (fits_u64 oA:(fits .u64 (gi (limbs a) i.toNat))=true) (aI (iLe_mk oA:(iLe 0 (wRem n (32:Int)))=true) (aI (fits_u64 oA:(fits .u64 ((gi (limbs a) i.toNat)*2^(min (wRem n (32:Int)).toNat (IntKind.bits .u64))))=true) (aI (fits_i64 oA:(fits .i64 (i+(Int.tdiv n (32:Int))))=true) (aI (inB_mk oA:(inB (i+(Int.tdiv n (32:Int))) (((((List.take (((L a:Int)-0).toNat) (List.drop 0 (lim a))).length:Int)+(Int.tdiv n (32:Int)))+1).toNat))=true) (aI (ld_U oA:(Nat.blt (0+(i+(Int.tdiv n (32:Int))).toNat) (U l).length && isIntK .u32 (nth (U l) (0+(i+(Int.tdiv n (32:Int))).toNat) .unk))=true) (aI (inB_mk oA:(inB (i+(Int.tdiv n (32:Int))) (((((List.take (((L a:Int)-0).toNat) (List.drop 0 (lim a))).length:Int)+(Int.tdiv n (32:Int)))+1).toNat))=true) (aI (st_ok oA:(Nat.ble ((0+(i+(Int.tdiv n (32:Int))).toNat)+1) (U l).length)=true) (aI (fits_i64 oA:(fits .i64 (i+(Int.tdiv n (32:Int))))=true) (aI (fits_i64 oA:(fits .i64 ((i+(Int.tdiv n (32:Int)))+1))=true) (aI (inB_mk oA:(inB ((i+(Int.tdiv n (32:Int)))+1) (((((List.take (((L a:Int)-0).toNat) (List.drop 0 (lim a))).length:Int)+(Int.tdiv n (32:Int)))+1).toNat))=true) (aI (st_ok oA:(Nat.ble ((0+((i+(Int.tdiv n (32:Int)))+1).toNat)+1) (List.set (U l) (0+(i+(Int.tdiv n (32:Int))).toNat) (.int .u32 (wOr .u32 (gi l (0+(i+(Int.tdiv n (32:Int))).toNat)) (IntKind.wrap .u32 ((gi (limbs a) i.toNat)*2^(min (wRem n (32:Int)).toNat (IntKind.bits .u64))))))).length)=true) (aI (fits_i64 oA:(fits .i64 (i+1))=true) (aI tT ((nx_next ((i+1),(lim a),(List.set (List.set (U l) (0+(i+(Int.tdiv n (32:Int))).toNat) (.int .u32 (wOr .u32 (gi l (0+(i+(Int.tdiv n (32:Int))).toNat)) (IntKind.wrap .u32 ((gi (limbs a) i.toNat)*2^(min (wRem n (32:Int)).toNat (IntKind.bits .u64))))))) (0+((i+(Int.tdiv n (32:Int)))+1).toNat) (.int .u32 (IntKind.wrap .u32 (Int.fdiv ((gi (limbs a) i.toNat)*2^(min (wRem n (32:Int)).toNat (IntKind.bits .u64))) (2^32))))),((l.set (i.toNat+n.toNat / 32) (wOr .u32 (gi l (0+(i+(Int.tdiv n (32:Int))).toNat)) (IntKind.wrap .u32 ((gi (limbs a) i.toNat)*2^(min (wRem n (32:Int)).toNat (IntKind.bits .u64))))).toNat).set (i.toNat+n.toNat / 32+1) (IntKind.wrap .u32 (Int.fdiv ((gi (limbs a) i.toNat)*2^(min (wRem n (32:Int)).toNat (IntKind.bits .u64))) (2^32))).toNat)) (show (lim a)=lim a∧(List.set (List.set (U l) (0+(i+(Int.tdiv n (32:Int))).toNat) (.int .u32 (wOr .u32 (gi l (0+(i+(Int.tdiv n (32:Int))).toNat)) (IntKind.wrap .u32 ((gi (limbs a) i.toNat)*2^(min (wRem n (32:Int)).toNat (IntKind.bits .u64))))))) (0+((i+(Int.tdiv n (32:Int)))+1).toNat) (.int .u32 (IntKind.wrap .u32 (Int.fdiv ((gi (limbs a) i.toNat)*2^(min (wRem n (32:Int)).toNat (IntKind.bits .u64))) (2^32)))))=U ((l.set (i.toNat+n.toNat / 32) (wOr .u32 (gi l (0+(i+(Int.tdiv n (32:Int))).toNat)) (IntKind.wrap .u32 ((gi (limbs a) i.toNat)*2^(min (wRem n (32:Int)).toNat (IntKind.bits .u64))))).toNat).set (i.toNat+n.toNat / 32+1) (IntKind.wrap .u32 (Int.fdiv ((gi (limbs a) i.toNat)*2^(min (wRem n (32:Int)).toNat (IntKind.bits .u64))) (2^32))).toNat)∧ShlInv a n.toNat (i+1) ((l.set (i.toNat+n.toNat / 32) (wOr .u32 (gi l (0+(i+(Int.tdiv n (32:Int))).toNat)) (IntKind.wrap .u32 ((gi (limbs a) i.toNat)*2^(min (wRem n (32:Int)).toNat (IntKind.bits .u64))))).toNat).set (i.toNat+n.toNat / 32+1) (IntKind.wrap .u32 (Int.fdiv ((gi (limbs a) i.toNat)*2^(min (wRem n (32:Int)).toNat (IntKind.bits .u64))) (2^32))).toNat) from ⟨rfl,set2 _ oO (wOr_pos _ _) oO (wrap_pos _),shl_next h1 oO (by rw[show 0+(i+Int.tdiv n 32).toNat=i.toNat+n.toNat / 32 by omega]) (by rw[min_rest c1.1])⟩) (show ((L a:Int)-(i+1)).toNat<((L a:Int)-i).toNat by omega):nat_Shl_0_N a n (i,(lim a),(U l),l) .normal (nat_Shl_0_mk a n ((i+1),(lim a),(List.set (List.set (U l) (0+(i+(Int.tdiv n (32:Int))).toNat) (.int .u32 (wOr .u32 (gi l (0+(i+(Int.tdiv n (32:Int))).toNat)) (IntKind.wrap .u32 ((gi (limbs a) i.toNat)*2^(min (wRem n (32:Int)).toNat (IntKind.bits .u64))))))) (0+((i+(Int.tdiv n (32:Int)))+1).toNat) (.int .u32 (IntKind.wrap .u32 (Int.fdiv ((gi (limbs a) i.toNat)*2^(min (wRem n (32:Int)).toNat (IntKind.bits .u64))) (2^32))))),((l.set (i.toNat+n.toNat / 32) (wOr .u32 (gi l (0+(i+(Int.tdiv n (32:Int))).toNat)) (IntKind.wrap .u32 ((gi (limbs a) i.toNat)*2^(min (wRem n (32:Int)).toNat (IntKind.bits .u64))))).toNat).set (i.toNat+n.toNat / 32+1) (IntKind.wrap .u32 (Int.fdiv ((gi (limbs a) i.toNat)*2^(min (wRem n (32:Int)).toNat (IntKind.bits .u64))) (2^32))).toNat))))))))))))))))))))) (fun (h102:(iLt i ((List.take (((L a:Int)-0).toNat) (List.drop 0 (lim a))).length:Int))=false)=>have _gh102:=iLt_f h102;aI tT ((nx_exit 0 ((nat_Shl_0_ex a n l).2) l (show ShlInv a n.toNat (L a:Int) l from (show i=(L a:Int) by omega) ▸ h1) rfl:nat_Shl_0_N a n (i,(lim a),(U l),l) (.exit 0) ((nat_Shl_0_ex a n l).2)))))) (by kernel_rfl))
theorem nat_Shl (a:Nat)(n:Int)(c0:L a≤67108864)(c1:(0:Int)≤n∧n≤1048576):Impl Tryz.prog Amb 144 [(N a),(.int .i64 n)] (N (a*2^(n).toNat)):=by
 have e0:=L_len a
 have e3:(List.take (((L a:Int)-0).toNat) (List.drop 0 (lim a))).length=L a:=by rw[cut_self,L_len]
 have t0:=tdiv32 c1.1
 have t1:=wRem32 c1.1
 exact impl_ob hP hAmb Tryz.func144 (by kernel_rfl) (.lit<|.call (.int .i64 n)<|.lit<|.call (.int .i64 (L a:Int))<|.yes<|.lit<|.both (.lit<|.ret) (.lit<|.yes<|.lits 2<|.yes<|.lit<|.yes<|.lit<|.yes<|.yes<|.loop ⟨[5,6,7,31,32,33],1,[]⟩ ((nat_Shl_0_mk a n (0,(List.take (((L a:Int)-0).toNat) (List.drop 0 (lim a))),(List.replicate (((((List.take (((L a:Int)-0).toNat) (List.drop 0 (lim a))).length:Int)+(Int.tdiv n (32:Int)))+1).toNat) (.int .u32 0)),(List.replicate (L a+n.toNat / 32+1) 0)))) (List Nat) (nat_Shl_0_ex a n) (nat_Shl_0_J a n) (fun y=>.yes<|.call (.int .i64 ((limbs (val y)).length:Int))<|.yes<|.yes<|.ret)))
  (cast_ob (aI True.intro (aI (nat_places n oA) (aI (nat_sizeN a oA) (aI (and_mk (and_mk (rfl) (iLe_mk oA)) (iLe_mk oA):((true && (iLe (0:Int) (L a:Int))) && (iLe (L a:Int) ((lim a).length:Int)))=true) (aI (fun (h1:(iEq ((List.take (((L a:Int)-0).toNat) (List.drop 0 (lim a))).length:Int) 0)=true)=>have _gh1:=iEq_t h1;(by have:a=0:=Decidable.byContradiction (fun h=>by have:=L_pos h;omega);subst this;rw[Nat.zero_mul];show vsub .nil (.sl 1 (U (limbs 0)));rw[limbs_zero];exact vsub_nil 1:vsub .nil (N (a*2^(n).toNat)))) (fun (h2:(iEq ((List.take (((L a:Int)-0).toNat) (List.drop 0 (lim a))).length:Int) 0)=false)=>have _gh2:=iEq_f h2;aI (fits_i64 oA:(fits .i64 (Int.tdiv n (32:Int)))=true) (aI (fits_u64 oA:(fits .u64 (wRem n (32:Int)))=true) (aI (fits_i64 oA:(fits .i64 (((List.take (((L a:Int)-0).toNat) (List.drop 0 (lim a))).length:Int)+(Int.tdiv n (32:Int))))=true) (aI (fits_i64 oA:(fits .i64 ((((List.take (((L a:Int)-0).toNat) (List.drop 0 (lim a))).length:Int)+(Int.tdiv n (32:Int)))+1))=true) (aI (mk_ok oA:(((iEq ((((List.take (((L a:Int)-0).toNat) (List.drop 0 (lim a))).length:Int)+(Int.tdiv n (32:Int)))+1) ((((List.take (((L a:Int)-0).toNat) (List.drop 0 (lim a))).length:Int)+(Int.tdiv n (32:Int)))+1)) && (iLe 0 ((((List.take (((L a:Int)-0).toNat) (List.drop 0 (lim a))).length:Int)+(Int.tdiv n (32:Int)))+1))) && (iLe ((((List.take (((L a:Int)-0).toNat) (List.drop 0 (lim a))).length:Int)+(Int.tdiv n (32:Int)))+1) 1073741824))=true) (aI tT (aI (rfl:(nat_Shl_0_mk a n (0,(List.take (((L a:Int)-0).toNat) (List.drop 0 (lim a))),(List.replicate (((((List.take (((L a:Int)-0).toNat) (List.drop 0 (lim a))).length:Int)+(Int.tdiv n (32:Int)))+1).toNat) (.int .u32 0)),(List.replicate (L a+n.toNat / 32+1) 0)))=(nat_Shl_0_mk a n (0,(List.take (((L a:Int)-0).toNat) (List.drop 0 (lim a))),(List.replicate (((((List.take (((L a:Int)-0).toNat) (List.drop 0 (lim a))).length:Int)+(Int.tdiv n (32:Int)))+1).toNat) (.int .u32 0)),(List.replicate (L a+n.toNat / 32+1) 0)))) (aI (nat_Shl_0 a n c0 c1 (0,(List.take (((L a:Int)-0).toNat) (List.drop 0 (lim a))),(List.replicate (((((List.take (((L a:Int)-0).toNat) (List.drop 0 (lim a))).length:Int)+(Int.tdiv n (32:Int)))+1).toNat) (.int .u32 0)),(List.replicate (L a+n.toNat / 32+1) 0)) (show (List.take (((L a:Int)-0).toNat) (List.drop 0 (lim a)))=lim a∧(List.replicate (((((List.take (((L a:Int)-0).toNat) (List.drop 0 (lim a))).length:Int)+(Int.tdiv n (32:Int)))+1).toNat) (.int .u32 0))=U (List.replicate (L a+n.toNat / 32+1) 0)∧ShlInv a n.toNat 0 (List.replicate (L a+n.toNat / 32+1) 0) from ⟨cut_self a,by rw[show (((((List.take (((L a:Int)-0).toNat) (List.drop 0 (lim a))).length:Int)+(Int.tdiv n (32:Int)))+1).toNat)=L a+n.toNat / 32+1 by omega];exact U_rep _,shl_init _ _⟩)) (fun y (hJ:nat_Shl_0_J a n y)=>have hJ:ShlInv a n.toNat (L a:Int) y:=hJ;have ⟨q0,q1,q2⟩:=shl_end hJ;have q5:=U_len y;have q6:=limbs_len_le q0;aI (ok_arg oA:((true && Nat.ble (0+(((((List.take (((L a:Int)-0).toNat) (List.drop 0 (lim a))).length:Int)+(Int.tdiv n (32:Int)))+1).toNat)) (U y).length) && true)=true) (aI (nat_sizeC (List.take (((((List.take (((L a:Int)-0).toNat) (List.drop 0 (lim a))).length:Int)+(Int.tdiv n (32:Int)))+1).toNat) (List.drop 0 (U y))) y (tkU rfl oO) q0 oO) (aI (and_mk (and_mk (and_mk (rfl) (iLe_mk oA)) (iLe_mk oA)) (rfl):(((true && (iLe (0:Int) ((limbs (val y)).length:Int))) && (iLe ((limbs (val y)).length:Int) ((((((List.take (((L a:Int)-0).toNat) (List.drop 0 (lim a))).length:Int)+(Int.tdiv n (32:Int)))+1).toNat):Int))) && true)=true) (aI (ok_res oA:((true && Nat.ble (0+(((limbs (val y)).length:Int)-0).toNat) (U y).length) && true)=true) (vsub_of (congrArg (V.sl 1) (fin_lim rfl q0 q2)):vsub (.sl 1 (List.take ((((limbs (val y)).length:Int)-0).toNat) (List.drop 0 (U y)))) (N (a*2^(n).toNat)))))))))))))))))))) (by kernel_rfl))
def nat_Shr_0_mk (a:Nat)(n:Int)(x:Int × List V × List Nat):St:=⟨mkS 68 [(0,(.val (N a))),(5,(.val (.int .i64 (Int.tdiv n (32:Int))))),(6,(.val (.int .u64 (wRem n (32:Int))))),(7,(.osl 0 0 ((((lim a).length:Int)-(Int.tdiv n (32:Int))).toNat) 1)),(27,(.val (.int .i64 (((((lim a).length:Int)-(Int.tdiv n (32:Int))).toNat):Int)))),(28,(.val (.int .i64 x.1)))],[⟨true,false,x.2.1⟩]⟩
def nat_Shr_0_I (a:Nat)(n:Int)(x:Int × List V × List Nat):Prop:=x.2.1=U x.2.2∧ShrInv a n.toNat x.1 x.2.2
def nat_Shr_0_mu (a:Nat)(n:Int)(x:Int × List V × List Nat):Nat:=(((L a-n.toNat / 32:Nat):Int)-x.1).toNat
def nat_Shr_0_ex (a:Nat)(n:Int)(y:List Nat):Ex × St:=(.exit 0,⟨mkS 68 [(7,(.osl 0 0 ((((lim a).length:Int)-(Int.tdiv n (32:Int))).toNat) 1))],[⟨true,false,(U y)⟩]⟩)
def nat_Shr_0_J (a:Nat)(n:Int)(y:List Nat):Prop:=ShrInv a n.toNat ((L a-n.toNat / 32:Nat):Int) y
abbrev nat_Shr_0_N (a:Nat)(n:Int):=NX (nat_Shr_0_mk a n) (nat_Shr_0_I a n) (nat_Shr_0_mu a n) (nat_Shr_0_ex a n) (nat_Shr_0_J a n)
theorem nat_Shr_0 (a:Nat)(n:Int)(c0:L a≤67108864)(c1:0≤n∧n≤1048576)(c2:n.toNat / 32<L a)(x0:Int × List V × List Nat)(hI:nat_Shr_0_I a n x0):LoopOk Tryz.prog Amb (loopN Tryz.f134 0) (nat_Shr_0_mk a n x0) (fun e st_=>∃ y,nat_Shr_0_J a n y∧nat_Shr_0_ex a n y=(e,st_)) :=
 loop_ob hP hAmb ⟨[0,5,6,7,27,28],1,[]⟩ (nat_Shr_0_mk a n) (nat_Shr_0_I a n) (nat_Shr_0_mu a n) (nat_Shr_0_ex a n) (nat_Shr_0_J a n) x0 hI (fun (i,o,l)=>.lit<|.both (.lit<|.yes<|.yes<|.yes<|.lit<|.yes<|.lit<|.yes<|.lit<|.yes<|.lit<|.both (.lit<|.yes<|.lit<|.yes<|.yes<|.yes<|.lit<|.yes<|.lit<|.yes<|.lit<|.yes<|.lit<|.no<|.yes<|.yes<|.lit<|.yes<|.fin2 ⟨[0,5,6,7,27,28],1,[]⟩) (.yes<|.lit<|.no<|.yes<|.yes<|.lit<|.yes<|.fin2 ⟨[0,5,6,7,27,28],1,[]⟩)) (.fin2 ⟨[7],1,[]⟩)) (by
  rintro ⟨i,o,l⟩ hI
  have hI:o=U l∧ShrInv a n.toNat i l:=hI
  obtain⟨rfl,h1⟩:=hI
  have ⟨p0,p1,p2,_⟩:=h1
  have e0:=L_len a
  have g4:=U_len l
  have t0:=tdiv32 c1.1
  have t1:=wRem32 c1.1
  have k1:(i+(Int.tdiv n (32:Int))).toNat=i.toNat+n.toNat / 32:=by omega
  have k2:((i+(Int.tdiv n (32:Int)))+1).toNat=i.toNat+n.toNat / 32+1:=by omega
  have g0:=gi_lt (dig_limbs a) (i+(Int.tdiv n (32:Int))).toNat
  have g1:=gi_nonneg (limbs a) (i+(Int.tdiv n (32:Int))).toNat
  have g2:=gi_lt (dig_limbs a) ((i+(Int.tdiv n (32:Int)))+1).toNat
  have g3:=gi_nonneg (limbs a) ((i+(Int.tdiv n (32:Int)))+1).toNat
  exact cast_ob (aI True.intro (aI (fun (h101:(iLt i (((((lim a).length:Int)-(Int.tdiv n (32:Int))).toNat):Int))=true)=>have _gh101:=iLt_t h101;aI (fits_i64 oA:(fits .i64 (i+(Int.tdiv n (32:Int))))=true) (aI (inB_mk oA:(inB (i+(Int.tdiv n (32:Int))) ((lim a).length))=true) (aI (ld_L oA:(Nat.blt ((i+(Int.tdiv n (32:Int))).toNat) (lim a).length && isIntK .u32 (nth (lim a) ((i+(Int.tdiv n (32:Int))).toNat) .unk))=true) (aI (fits_u64 oA:(fits .u64 (gi (limbs a) ((i+(Int.tdiv n (32:Int))).toNat)))=true) (aI (fits_i64 oA:(fits .i64 (i+(Int.tdiv n (32:Int))))=true) (aI (fits_i64 oA:(fits .i64 ((i+(Int.tdiv n (32:Int)))+1))=true) (aI (fun (h102:(iLt ((i+(Int.tdiv n (32:Int)))+1) ((lim a).length:Int))=true)=>have _gh102:=iLt_t h102;aI (fits_i64 oA:(fits .i64 (i+(Int.tdiv n (32:Int))))=true) (aI (fits_i64 oA:(fits .i64 ((i+(Int.tdiv n (32:Int)))+1))=true) (aI (inB_mk oA:(inB ((i+(Int.tdiv n (32:Int)))+1) ((lim a).length))=true) (aI (ld_L oA:(Nat.blt (((i+(Int.tdiv n (32:Int)))+1).toNat) (lim a).length && isIntK .u32 (nth (lim a) (((i+(Int.tdiv n (32:Int)))+1).toNat) .unk))=true) (aI (fits_u64 oA:(fits .u64 (gi (limbs a) (((i+(Int.tdiv n (32:Int)))+1).toNat)))=true) (aI (fits_u64 oA:(fits .u64 ((gi (limbs a) (((i+(Int.tdiv n (32:Int)))+1).toNat))*2^32))=true) (aI (iLe_mk oA:(iLe 0 (wRem n (32:Int)))=true) (aI (inB_mk oA:(inB i ((((lim a).length:Int)-(Int.tdiv n (32:Int))).toNat))=true) (aI (st_ok oA:(Nat.ble ((0+i.toNat)+1) (U l).length)=true) (aI (fits_i64 oA:(fits .i64 (i+1))=true) (aI tT ((nx_next ((i+1),(List.set (U l) (0+i.toNat) (.int .u32 (IntKind.wrap .u32 (Int.fdiv (wOr .u64 (gi (limbs a) ((i+(Int.tdiv n (32:Int))).toNat)) ((gi (limbs a) (((i+(Int.tdiv n (32:Int)))+1).toNat))*2^32)) (2^(min (wRem n (32:Int)).toNat (IntKind.bits .u64))))))),(l.set i.toNat (IntKind.wrap .u32 (Int.fdiv (wOr .u64 (gi (limbs a) ((i+(Int.tdiv n (32:Int))).toNat)) ((gi (limbs a) (((i+(Int.tdiv n (32:Int)))+1).toNat))*2^32)) (2^(min (wRem n (32:Int)).toNat (IntKind.bits .u64))))).toNat)) (show (List.set (U l) (0+i.toNat) (.int .u32 (IntKind.wrap .u32 (Int.fdiv (wOr .u64 (gi (limbs a) ((i+(Int.tdiv n (32:Int))).toNat)) ((gi (limbs a) (((i+(Int.tdiv n (32:Int)))+1).toNat))*2^32)) (2^(min (wRem n (32:Int)).toNat (IntKind.bits .u64)))))))=U (l.set i.toNat (IntKind.wrap .u32 (Int.fdiv (wOr .u64 (gi (limbs a) ((i+(Int.tdiv n (32:Int))).toNat)) ((gi (limbs a) (((i+(Int.tdiv n (32:Int)))+1).toNat))*2^32)) (2^(min (wRem n (32:Int)).toNat (IntKind.bits .u64))))).toNat)∧ShrInv a n.toNat (i+1) (l.set i.toNat (IntKind.wrap .u32 (Int.fdiv (wOr .u64 (gi (limbs a) ((i+(Int.tdiv n (32:Int))).toNat)) ((gi (limbs a) (((i+(Int.tdiv n (32:Int)))+1).toNat))*2^32)) (2^(min (wRem n (32:Int)).toNat (IntKind.bits .u64))))).toNat) from ⟨setU _ oO (wrap_pos _),by rw[min_rest c1.1];exact shr_next h1 oO (by first | (rw[k1,k2];exact wOr_gi _ _ _) | (rw[k1,gi_out (show (limbs a).length≤i.toNat+n.toNat / 32+1 from (show L a≤i.toNat+n.toNat / 32+1 by omega))];omega))⟩) (show (((L a-n.toNat / 32:Nat):Int)-(i+1)).toNat<(((L a-n.toNat / 32:Nat):Int)-i).toNat by omega):nat_Shr_0_N a n (i,(U l),l) .normal (nat_Shr_0_mk a n ((i+1),(List.set (U l) (0+i.toNat) (.int .u32 (IntKind.wrap .u32 (Int.fdiv (wOr .u64 (gi (limbs a) ((i+(Int.tdiv n (32:Int))).toNat)) ((gi (limbs a) (((i+(Int.tdiv n (32:Int)))+1).toNat))*2^32)) (2^(min (wRem n (32:Int)).toNat (IntKind.bits .u64))))))),(l.set i.toNat (IntKind.wrap .u32 (Int.fdiv (wOr .u64 (gi (limbs a) ((i+(Int.tdiv n (32:Int))).toNat)) ((gi (limbs a) (((i+(Int.tdiv n (32:Int)))+1).toNat))*2^32)) (2^(min (wRem n (32:Int)).toNat (IntKind.bits .u64))))).toNat)))))))))))))))) (fun (h103:(iLt ((i+(Int.tdiv n (32:Int)))+1) ((lim a).length:Int))=false)=>have _gh103:=iLt_f h103;aI (iLe_mk oA:(iLe 0 (wRem n (32:Int)))=true) (aI (inB_mk oA:(inB i ((((lim a).length:Int)-(Int.tdiv n (32:Int))).toNat))=true) (aI (st_ok oA:(Nat.ble ((0+i.toNat)+1) (U l).length)=true) (aI (fits_i64 oA:(fits .i64 (i+1))=true) (aI tT ((nx_next ((i+1),(List.set (U l) (0+i.toNat) (.int .u32 (IntKind.wrap .u32 (Int.fdiv (gi (limbs a) ((i+(Int.tdiv n (32:Int))).toNat)) (2^(min (wRem n (32:Int)).toNat (IntKind.bits .u64))))))),(l.set i.toNat (IntKind.wrap .u32 (Int.fdiv (gi (limbs a) ((i+(Int.tdiv n (32:Int))).toNat)) (2^(min (wRem n (32:Int)).toNat (IntKind.bits .u64))))).toNat)) (show (List.set (U l) (0+i.toNat) (.int .u32 (IntKind.wrap .u32 (Int.fdiv (gi (limbs a) ((i+(Int.tdiv n (32:Int))).toNat)) (2^(min (wRem n (32:Int)).toNat (IntKind.bits .u64)))))))=U (l.set i.toNat (IntKind.wrap .u32 (Int.fdiv (gi (limbs a) ((i+(Int.tdiv n (32:Int))).toNat)) (2^(min (wRem n (32:Int)).toNat (IntKind.bits .u64))))).toNat)∧ShrInv a n.toNat (i+1) (l.set i.toNat (IntKind.wrap .u32 (Int.fdiv (gi (limbs a) ((i+(Int.tdiv n (32:Int))).toNat)) (2^(min (wRem n (32:Int)).toNat (IntKind.bits .u64))))).toNat) from ⟨setU _ oO (wrap_pos _),by rw[min_rest c1.1];exact shr_next h1 oO (by first | (rw[k1,k2];exact wOr_gi _ _ _) | (rw[k1,gi_out (show (limbs a).length≤i.toNat+n.toNat / 32+1 from (show L a≤i.toNat+n.toNat / 32+1 by omega))];omega))⟩) (show (((L a-n.toNat / 32:Nat):Int)-(i+1)).toNat<(((L a-n.toNat / 32:Nat):Int)-i).toNat by omega):nat_Shr_0_N a n (i,(U l),l) .normal (nat_Shr_0_mk a n ((i+1),(List.set (U l) (0+i.toNat) (.int .u32 (IntKind.wrap .u32 (Int.fdiv (gi (limbs a) ((i+(Int.tdiv n (32:Int))).toNat)) (2^(min (wRem n (32:Int)).toNat (IntKind.bits .u64))))))),(l.set i.toNat (IntKind.wrap .u32 (Int.fdiv (gi (limbs a) ((i+(Int.tdiv n (32:Int))).toNat)) (2^(min (wRem n (32:Int)).toNat (IntKind.bits .u64))))).toNat))))))))))))))))) (fun (h104:(iLt i (((((lim a).length:Int)-(Int.tdiv n (32:Int))).toNat):Int))=false)=>have _gh104:=iLt_f h104;aI tT ((nx_exit 0 ((nat_Shr_0_ex a n l).2) l (show ShrInv a n.toNat ((L a-n.toNat / 32:Nat):Int) l from (show i=((L a-n.toNat / 32:Nat):Int) by omega) ▸ h1) rfl:nat_Shr_0_N a n (i,(U l),l) (.exit 0) ((nat_Shr_0_ex a n l).2)))))) (by kernel_rfl))
theorem nat_Shr (a:Nat)(n:Int)(c0:L a≤67108864)(c1:(0:Int)≤n∧n≤1048576):Impl Tryz.prog Amb 134 [(N a),(.int .i64 n)] (N (a / 2^(n).toNat)):=by
 have e0:=L_len a
 have t0:=tdiv32 c1.1
 have t1:=wRem32 c1.1
 exact impl_ob hP hAmb Tryz.func134 (by kernel_rfl) (.lit<|.call (.int .i64 n)<|.lit<|.yes<|.lits 2<|.yes<|.lit<|.both (.lit<|.ret) (.lit<|.yes<|.yes<|.loop ⟨[0,5,6,7,27,28],1,[]⟩ ((nat_Shr_0_mk a n (0,(List.replicate ((((lim a).length:Int)-(Int.tdiv n (32:Int))).toNat) (.int .u32 0)),(List.replicate (L a-n.toNat / 32) 0)))) (List Nat) (nat_Shr_0_ex a n) (nat_Shr_0_J a n) (fun y=>.yes<|.call (.int .i64 ((limbs (val y)).length:Int))<|.yes<|.yes<|.ret)))
  (cast_ob (aI True.intro (aI (nat_places n oA) (aI (fits_i64 oA:(fits .i64 (Int.tdiv n (32:Int)))=true) (aI (fits_u64 oA:(fits .u64 (wRem n (32:Int)))=true) (aI (fun (h1:(iGe (Int.tdiv n (32:Int)) ((lim a).length:Int))=true)=>have _gh1:=iGe_t h1;(by rw[shr_zero (show L a≤n.toNat / 32 by omega)];show vsub .nil (.sl 1 (U (limbs 0)));rw[limbs_zero];exact vsub_nil 1:vsub .nil (N (a / 2^(n).toNat)))) (fun (h2:(iGe (Int.tdiv n (32:Int)) ((lim a).length:Int))=false)=>have _gh2:=iGe_f h2;aI (fits_i64 oA:(fits .i64 (((lim a).length:Int)-(Int.tdiv n (32:Int))))=true) (aI (mk_ok oA:(((iEq (((lim a).length:Int)-(Int.tdiv n (32:Int))) (((lim a).length:Int)-(Int.tdiv n (32:Int)))) && (iLe 0 (((lim a).length:Int)-(Int.tdiv n (32:Int))))) && (iLe (((lim a).length:Int)-(Int.tdiv n (32:Int))) 1073741824))=true) (aI tT (aI (rfl:(nat_Shr_0_mk a n (0,(List.replicate ((((lim a).length:Int)-(Int.tdiv n (32:Int))).toNat) (.int .u32 0)),(List.replicate (L a-n.toNat / 32) 0)))=(nat_Shr_0_mk a n (0,(List.replicate ((((lim a).length:Int)-(Int.tdiv n (32:Int))).toNat) (.int .u32 0)),(List.replicate (L a-n.toNat / 32) 0)))) (aI (nat_Shr_0 a n oO c1 oO (0,(List.replicate ((((lim a).length:Int)-(Int.tdiv n (32:Int))).toNat) (.int .u32 0)),(List.replicate (L a-n.toNat / 32) 0)) (show (List.replicate ((((lim a).length:Int)-(Int.tdiv n (32:Int))).toNat) (.int .u32 0))=U (List.replicate (L a-n.toNat / 32) 0)∧ShrInv a n.toNat 0 (List.replicate (L a-n.toNat / 32) 0) from ⟨by rw[show ((((lim a).length:Int)-(Int.tdiv n (32:Int))).toNat)=L a-n.toNat / 32 by omega];exact U_rep _,shr_init _ _⟩)) (fun y (hJ:nat_Shr_0_J a n y)=>have hJ:ShrInv a n.toNat ((L a-n.toNat / 32:Nat):Int) y:=hJ;have ⟨q0,q1,q2⟩:=shr_end hJ oO;have q5:=U_len y;have q6:=limbs_len_le q0;aI (ok_arg oA:((true && Nat.ble (0+((((lim a).length:Int)-(Int.tdiv n (32:Int))).toNat)) (U y).length) && true)=true) (aI (nat_sizeC (List.take ((((lim a).length:Int)-(Int.tdiv n (32:Int))).toNat) (List.drop 0 (U y))) y (tkU rfl oO) q0 oO) (aI (and_mk (and_mk (and_mk (rfl) (iLe_mk oA)) (iLe_mk oA)) (rfl):(((true && (iLe (0:Int) ((limbs (val y)).length:Int))) && (iLe ((limbs (val y)).length:Int) (((((lim a).length:Int)-(Int.tdiv n (32:Int))).toNat):Int))) && true)=true) (aI (ok_res oA:((true && Nat.ble (0+(((limbs (val y)).length:Int)-0).toNat) (U y).length) && true)=true) (vsub_of (congrArg (V.sl 1) (fin_lim rfl q0 q2)):vsub (.sl 1 (List.take ((((limbs (val y)).length:Int)-0).toNat) (List.drop 0 (U y)))) (N (a / 2^(n).toNat))))))))))))))))) (by kernel_rfl))
theorem nat_Bits (a:Nat)(c0:L a≤67108864):Impl Tryz.prog Amb 140 [(N a)] (.int .i64 (nbits a:Int)):=by
 have e0:=L_len a
 have g0:=gi_lt (dig_limbs a) ((L a:Int)-1).toNat
 have g1:=gi_nonneg (limbs a) ((L a:Int)-1).toNat
 have b0:=top_bits a
 exact impl_ob hP hAmb Tryz.func140 (by kernel_rfl) (.lit<|.call (.int .i64 (L a:Int))<|.lit<|.both (.lit<|.ret) (.lit<|.yes<|.lit<|.yes<|.lit<|.yes<|.yes<|.yes<|.lit<|.call (.int .i64 (Lib.bitLen ((gi (limbs a) (((L a:Int)-1).toNat))).toNat:Int))<|.lit<|.yes<|.lit<|.ret))
  (cast_ob (aI True.intro (aI (nat_sizeN a oA) (aI (fun (h1:(iEq (L a:Int) 0)=true)=>have _gh1:=iEq_t h1;(vsub_of (congrArg (V.int .i64) (by rw[show a=0 from Decidable.byContradiction fun h=>by have:=L_pos h;omega];rfl)):vsub (.int .i64 0) (.int .i64 (nbits a:Int)))) (fun (h2:(iEq (L a:Int) 0)=false)=>have _gh2:=iEq_f h2;aI (fits_i64 oA:(fits .i64 ((L a:Int)-1))=true) (aI (fits_i64 oA:(fits .i64 ((32:Int)*((L a:Int)-1)))=true) (aI (fits_i64 oA:(fits .i64 ((L a:Int)-1))=true) (aI (inB_mk oA:(inB ((L a:Int)-1) ((lim a).length))=true) (aI (ld_L oA:(Nat.blt (((L a:Int)-1).toNat) (lim a).length && isIntK .u32 (nth (lim a) (((L a:Int)-1).toNat) .unk))=true) (aI (len32 (gi (limbs a) (((L a:Int)-1).toNat)) oA) (aI (fits_i64 oA:(fits .i64 (((32:Int)*((L a:Int)-1))+(Lib.bitLen ((gi (limbs a) (((L a:Int)-1).toNat))).toNat:Int)))=true) ((vsub_of (congrArg (V.int .i64) (by have:=b0;omega)):vsub (.int .i64 (((32:Int)*((L a:Int)-1))+(Lib.bitLen ((gi (limbs a) (((L a:Int)-1).toNat))).toNat:Int))) (.int .i64 (nbits a:Int)))))))))))))) (by kernel_rfl))
theorem nat_Bit (a:Nat)(i:Int)(c0:L a≤67108864)(c1:(0:Int)≤i∧i≤1000000000000):Impl Tryz.prog Amb 187 [(N a),(.int .i64 i)] (.bool (a.testBit (i).toNat)):=by
 have e0:=L_len a
 have t0:=tdiv32 c1.1
 have t1:=wRem32 c1.1
 exact impl_ob hP hAmb Tryz.func187 (by kernel_rfl) (.lit<|.both (.lits 2<|.yes<|.lits 5<|.both (.lits 3<|.yes<|.lit<|.yes<|.lit<|.yes<|.lits 4<|.yes<|.lits 6<|.ret) (.lits 11<|.ret)) (.lits 17<|.ret))
  (cast_ob (aI True.intro (aI (fun (h1:(iGe i 0)=true)=>have _gh1:=iGe_t h1;aI (fits_i64 oA:(fits .i64 (Int.tdiv i (32:Int)))=true) (aI (fun (h2:(iLt (Int.tdiv i (32:Int)) ((lim a).length:Int))=true)=>have _gh2:=iLt_t h2;aI (fits_i64 oA:(fits .i64 (Int.tdiv i (32:Int)))=true) (aI (inB_mk oA:(inB (Int.tdiv i (32:Int)) ((lim a).length))=true) (aI (ld_L oA:(Nat.blt ((Int.tdiv i (32:Int)).toNat) (lim a).length && isIntK .u32 (nth (lim a) ((Int.tdiv i (32:Int)).toNat) .unk))=true) (aI (iLe_mk oA:(iLe 0 (wRem i (32:Int)))=true) ((vsub_of (congrArg V.bool (bit_t c1.1)):vsub (.bool (iEq (wAnd .u32 (Int.fdiv (gi (limbs a) ((Int.tdiv i (32:Int)).toNat)) (2^(min (wRem i (32:Int)).toNat (IntKind.bits .u32)))) (1:Int)) 1)) (.bool (a.testBit (i).toNat)))))))) (fun (h3:(iLt (Int.tdiv i (32:Int)) ((lim a).length:Int))=false)=>have _gh3:=iLt_f h3;(vsub_of (congrArg V.bool (bit_f c1.1 oO).symm):vsub (.bool false) (.bool (a.testBit (i).toNat)))))) (fun (h4:(iGe i 0)=false)=>have _gh4:=iGe_f h4;(absurd c1.1 oO:vsub (.bool false) (.bool (a.testBit (i).toNat)))))) (by kernel_rfl))
def nat_Zeros_0_mk (a:Nat)(x:Int):St:=⟨mkS 20 [(5,(.val (N a))),(6,(.val (.int .i64 ((lim a).length:Int)))),(7,(.val (.int .i64 x)))],[]⟩
def nat_Zeros_0_I (a:Nat)(x:Int):Prop:=0≤x∧x≤L a∧(limbs a).take (x).toNat=List.replicate (x).toNat 0
def nat_Zeros_0_mu (a:Nat)(x:Int):Nat:=((L a:Int)-x).toNat
def nat_Zeros_0_ex (_:Nat)(y:(Int)⊕(Unit)):Ex × St:=Sum.elim (fun (y:Int)=>(.ret,⟨mkS 20 [(2,(.val (.int .i64 y)))],[]⟩)) (fun (y:Unit)=>(.exit 0,⟨mkS 20 [],[]⟩)) y
def nat_Zeros_0_J (a:Nat)(y:(Int)⊕(Unit)):Prop:=Sum.elim (fun (y:Int)=>y=(tz a:Int)) (fun (y:Unit)=>tz a=0) y
abbrev nat_Zeros_0_N (a:Nat):=NX (nat_Zeros_0_mk a) (nat_Zeros_0_I a) (nat_Zeros_0_mu a) (nat_Zeros_0_ex a) (nat_Zeros_0_J a)
theorem nat_Zeros_0 (a:Nat)(c1:L a≤1073741824)(x0:Int)(hI:nat_Zeros_0_I a x0):LoopOk Tryz.prog Amb (loopN Tryz.f133 0) (nat_Zeros_0_mk a x0) (fun e st_=>∃ y,nat_Zeros_0_J a y∧nat_Zeros_0_ex a y=(e,st_)) :=
 loop_ob hP hAmb ⟨[5,6,7],0,[]⟩ (nat_Zeros_0_mk a) (nat_Zeros_0_I a) (nat_Zeros_0_mu a) (nat_Zeros_0_ex a) (nat_Zeros_0_J a) x0 hI (fun i=>.lit<|.both (.yes<|.yes<|.lit<|.both (.lit<|.yes<|.lit<|.call (.int .i64 (Lib.ctz 32 ((gi (limbs a) i.toNat)).toNat:Int))<|.lit<|.yes<|.fin2 ⟨[2],0,[]⟩) (.lit<|.yes<|.fin2 ⟨[5,6,7],0,[]⟩)) (.fin2 ⟨[],0,[]⟩)) (by
  rintro i hI
  have hI:0≤i∧i≤L a∧(limbs a).take (i).toNat=List.replicate (i).toNat 0:=hI
  obtain⟨h1,h2,h3⟩:=hI
  have e0:=L_len a
  have g0:=gi_lt (dig_limbs a) i.toNat
  have g1:=gi_nonneg (limbs a) i.toNat
  have z1:i<L a→gi (limbs a) i.toNat≠0→Lib.ctz 32 (gi (limbs a) i.toNat).toNat<32:=fun p q=>(zeros_hit h1 h3 p q).2
  exact cast_ob (aI True.intro (aI (fun (h101:(iLt i ((lim a).length:Int))=true)=>have _gh101:=iLt_t h101;aI (inB_mk (by first | omega | (have:=z1 oO (by assumption);omega)):(inB i ((lim a).length))=true) (aI (ld_L (by first | omega | (have:=z1 oO (by assumption);omega)):(Nat.blt i.toNat (lim a).length && isIntK .u32 (nth (lim a) i.toNat .unk))=true) (aI (fun (h102:(iNe (gi (limbs a) i.toNat) 0)=true)=>have _gh102:=iNe_t h102;aI (fits_i64 (by first | omega | (have:=z1 oO (by assumption);omega)):(fits .i64 ((32:Int)*i))=true) (aI (tz32 (gi (limbs a) i.toNat) (by first | omega | (have:=z1 oO (by assumption);omega))) (aI (fits_i64 (by first | omega | (have:=z1 oO (by assumption);omega)):(fits .i64 (((32:Int)*i)+(Lib.ctz 32 ((gi (limbs a) i.toNat)).toNat:Int)))=true) (aI tT ((nx_ret ((nat_Zeros_0_ex a (.inl (((32:Int)*i)+(Lib.ctz 32 ((gi (limbs a) i.toNat)).toNat:Int)))).2) (.inl (((32:Int)*i)+(Lib.ctz 32 ((gi (limbs a) i.toNat)).toNat:Int))) (show (((32:Int)*i)+(Lib.ctz 32 ((gi (limbs a) i.toNat)).toNat:Int))=(tz a:Int) from (zeros_hit h1 h3 oO (by assumption)).1) rfl:nat_Zeros_0_N a i .ret ((nat_Zeros_0_ex a (.inl (((32:Int)*i)+(Lib.ctz 32 ((gi (limbs a) i.toNat)).toNat:Int)))).2))))))) (fun (h103:(iNe (gi (limbs a) i.toNat) 0)=false)=>have _gh103:=iNe_f h103;aI (fits_i64 (by first | omega | (have:=z1 oO (by assumption);omega)):(fits .i64 (i+1))=true) (aI tT ((nx_next (i+1) (show 0≤(i+1)∧(i+1)≤L a∧(limbs a).take ((i+1)).toNat=List.replicate ((i+1)).toNat 0 from ⟨by omega,by omega,by rw[show (i+1).toNat=i.toNat+1 by omega];exact zeros_step h3 oO (by assumption)⟩) (show ((L a:Int)-(i+1)).toNat<((L a:Int)-i).toNat by omega):nat_Zeros_0_N a i .normal (nat_Zeros_0_mk a (i+1))))))))) (fun (h104:(iLt i ((lim a).length:Int))=false)=>have _gh104:=iLt_f h104;aI tT ((nx_exit 0 ((nat_Zeros_0_ex a (.inr ())).2) (.inr ()) (show tz a=0 from zeros_end (by rw[show L a=i.toNat by omega];exact h3)) rfl:nat_Zeros_0_N a i (.exit 0) ((nat_Zeros_0_ex a (.inr ())).2)))))) (by kernel_rfl))
theorem nat_Zeros (a:Nat)(c0:L a≤67108864):Impl Tryz.prog Amb 133 [(N a)] (.int .i64 (tz a:Int)):=by
 have e0:=L_len a
 exact impl_ob hP hAmb Tryz.func133 (by kernel_rfl) (.loop2 ⟨[5,6,7],0,[]⟩ ((nat_Zeros_0_mk a (0:Int))) (Int) (Unit) (nat_Zeros_0_ex a) (nat_Zeros_0_J a) (fun y=>.lit<|.ret) (fun y=>.lit<|.ret))
  (cast_ob (aI True.intro (aI tT (aI (rfl:(nat_Zeros_0_mk a (0:Int))=(nat_Zeros_0_mk a (0:Int))) (aI (nat_Zeros_0 a oO (0:Int) (show 0≤(0:Int)∧(0:Int)≤L a∧(limbs a).take ((0:Int)).toNat=List.replicate ((0:Int)).toNat 0 from ⟨by omega,by omega,by simp⟩)) (aI (fun (y:Int) (hJ:nat_Zeros_0_J a (.inl y))=>have hJ:y=(tz a:Int):=hJ;(vsub_of (congrArg (V.int .i64) hJ):vsub (.int .i64 y) (.int .i64 (tz a:Int)))) (fun (y:Unit) (hJ:nat_Zeros_0_J a (.inr y))=>have hJ:tz a=0:=hJ;(vsub_of (congrArg (V.int .i64) (by rw[show tz a=0 from hJ];rfl)):vsub (.int .i64 0) (.int .i64 (tz a:Int))))))))) (by kernel_rfl))
theorem nat_Low (a:Nat)(n:Int)(c0:L a≤67108864)(c1:(0:Int)≤n∧n≤1048576):Impl Tryz.prog Amb 220 [(N a),(.int .i64 n)] (N (a%2^(n).toNat)):=by
 have e0:=L_len a
 have t0:=tdiv32 c1.1
 have t1:=wRem32 c1.1
 have mk:=mask_ok c1.1
 have h5:=fun h=>low_len (a:=a) c1.1 h
 exact impl_ob hP hAmb Tryz.func220 (by kernel_rfl) (.lit<|.call (.int .i64 n)<|.lit<|.yes<|.lits 2<|.yes<|.lit<|.both (.lit<|.call (N a)<|.lit<|.ret) (.lit<|.yes<|.yes<|.lit<|.callO 1 (0+(List.take ((((Int.tdiv n (32:Int))+1)-0).toNat) (List.drop 0 (lim a))).length) (List.take ((((Int.tdiv n (32:Int))+1)-0).toNat) (List.drop 0 (lim a)))<|.yes<|.yes<|.yes<|.yes<|.lit<|.yes<|.lit<|.yes<|.yes<|.yes<|.call (.int .i64 ((limbs (val (((limbs a).take (n.toNat / 32+1)).set (n.toNat / 32) ((limbs a).getD (n.toNat / 32) 0%2^(n.toNat%32))))).length:Int))<|.yes<|.yes<|.ret))
  (cast_ob (aI True.intro (aI (nat_places n (by first | omega | (have:=low_len c1.1 (show n.toNat / 32<L a by omega);have:=(low_dig (show n.toNat / 32<L a by omega)).2.1;have:=limbs_len_le (low_dig (show n.toNat / 32<L a by omega)).1;first | omega | (rw[List.length_set];omega)))) (aI (fits_i64 (by first | omega | (have:=low_len c1.1 (show n.toNat / 32<L a by omega);have:=(low_dig (show n.toNat / 32<L a by omega)).2.1;have:=limbs_len_le (low_dig (show n.toNat / 32<L a by omega)).1;first | omega | (rw[List.length_set];omega))):(fits .i64 (Int.tdiv n (32:Int)))=true) (aI (fits_u64 (by first | omega | (have:=low_len c1.1 (show n.toNat / 32<L a by omega);have:=(low_dig (show n.toNat / 32<L a by omega)).2.1;have:=limbs_len_le (low_dig (show n.toNat / 32<L a by omega)).1;first | omega | (rw[List.length_set];omega))):(fits .u64 (wRem n (32:Int)))=true) (aI (fun (h1:(iGe (Int.tdiv n (32:Int)) ((lim a).length:Int))=true)=>have _gh1:=iGe_t h1;aI (nat_TrimN a (by first | omega | (have:=low_len c1.1 (show n.toNat / 32<L a by omega);have:=(low_dig (show n.toNat / 32<L a by omega)).2.1;have:=limbs_len_le (low_dig (show n.toNat / 32<L a by omega)).1;first | omega | (rw[List.length_set];omega)))) ((vsub_of (congrArg N (low_all (show L a≤n.toNat / 32 by omega)).symm):vsub (N a) (N (a%2^(n).toNat))))) (fun (h2:(iGe (Int.tdiv n (32:Int)) ((lim a).length:Int))=false)=>have _gh2:=iGe_f h2;aI (fits_i64 (by first | omega | (have:=low_len c1.1 (show n.toNat / 32<L a by omega);have:=(low_dig (show n.toNat / 32<L a by omega)).2.1;have:=limbs_len_le (low_dig (show n.toNat / 32<L a by omega)).1;first | omega | (rw[List.length_set];omega))):(fits .i64 ((Int.tdiv n (32:Int))+1))=true) (aI (and_mk (and_mk (rfl) (iLe_mk (by first | omega | (have:=low_len c1.1 (show n.toNat / 32<L a by omega);have:=(low_dig (show n.toNat / 32<L a by omega)).2.1;have:=limbs_len_le (low_dig (show n.toNat / 32<L a by omega)).1;first | omega | (rw[List.length_set];omega))))) (iLe_mk (by first | omega | (have:=low_len c1.1 (show n.toNat / 32<L a by omega);have:=(low_dig (show n.toNat / 32<L a by omega)).2.1;have:=limbs_len_le (low_dig (show n.toNat / 32<L a by omega)).1;first | omega | (rw[List.length_set];omega)))):((true && (iLe (0:Int) ((Int.tdiv n (32:Int))+1))) && (iLe ((Int.tdiv n (32:Int))+1) ((lim a).length:Int)))=true) (aI (cloneO_u32 (List.take ((((Int.tdiv n (32:Int))+1)-0).toNat) (List.drop 0 (lim a))) (by rw[low_cut c1.1 oO];exact U_prim _) (by rw[low_cut c1.1 oO];exact U_cells _) (by rw[low_len c1.1 oO];omega) (by rw[low_len c1.1 oO];omega)) (aI (inB_mk (by first | omega | (have:=low_len c1.1 (show n.toNat / 32<L a by omega);have:=(low_dig (show n.toNat / 32<L a by omega)).2.1;have:=limbs_len_le (low_dig (show n.toNat / 32<L a by omega)).1;first | omega | (rw[List.length_set];omega))):(inB (Int.tdiv n (32:Int)) (0+(List.take ((((Int.tdiv n (32:Int))+1)-0).toNat) (List.drop 0 (lim a))).length))=true) (aI (low_ld c1.1 oO:(Nat.blt (0+(Int.tdiv n (32:Int)).toNat) (List.take ((((Int.tdiv n (32:Int))+1)-0).toNat) (List.drop 0 (lim a))).length && isIntK .u32 (nth (List.take ((((Int.tdiv n (32:Int))+1)-0).toNat) (List.drop 0 (lim a))) (0+(Int.tdiv n (32:Int)).toNat) .unk))=true) (aI (iLe_mk (by first | omega | (have:=low_len c1.1 (show n.toNat / 32<L a by omega);have:=(low_dig (show n.toNat / 32<L a by omega)).2.1;have:=limbs_len_le (low_dig (show n.toNat / 32<L a by omega)).1;first | omega | (rw[List.length_set];omega))):(iLe 0 (wRem n (32:Int)))=true) (aI (fits_u32 (by first | omega | (have:=low_len c1.1 (show n.toNat / 32<L a by omega);have:=(low_dig (show n.toNat / 32<L a by omega)).2.1;have:=limbs_len_le (low_dig (show n.toNat / 32<L a by omega)).1;first | omega | (rw[List.length_set];omega))):(fits .u32 ((1:Int)*2^(min (wRem n (32:Int)).toNat (IntKind.bits .u32))))=true) (aI (fits_u32 (by first | omega | (have:=low_len c1.1 (show n.toNat / 32<L a by omega);have:=(low_dig (show n.toNat / 32<L a by omega)).2.1;have:=limbs_len_le (low_dig (show n.toNat / 32<L a by omega)).1;first | omega | (rw[List.length_set];omega))):(fits .u32 (((1:Int)*2^(min (wRem n (32:Int)).toNat (IntKind.bits .u32)))-1))=true) (aI (inB_mk (by first | omega | (have:=low_len c1.1 (show n.toNat / 32<L a by omega);have:=(low_dig (show n.toNat / 32<L a by omega)).2.1;have:=limbs_len_le (low_dig (show n.toNat / 32<L a by omega)).1;first | omega | (rw[List.length_set];omega))):(inB (Int.tdiv n (32:Int)) (0+(List.take ((((Int.tdiv n (32:Int))+1)-0).toNat) (List.drop 0 (lim a))).length))=true) (aI (st_ok (by first | omega | (have:=low_len c1.1 (show n.toNat / 32<L a by omega);have:=(low_dig (show n.toNat / 32<L a by omega)).2.1;have:=limbs_len_le (low_dig (show n.toNat / 32<L a by omega)).1;first | omega | (rw[List.length_set];omega))):(Nat.ble ((0+(Int.tdiv n (32:Int)).toNat)+1) (List.take ((((Int.tdiv n (32:Int))+1)-0).toNat) (List.drop 0 (lim a))).length)=true) (aI (ok_arg (by first | omega | (have:=low_len c1.1 (show n.toNat / 32<L a by omega);have:=(low_dig (show n.toNat / 32<L a by omega)).2.1;have:=limbs_len_le (low_dig (show n.toNat / 32<L a by omega)).1;first | omega | (rw[List.length_set];omega))):((true && Nat.ble (0+(0+(List.take ((((Int.tdiv n (32:Int))+1)-0).toNat) (List.drop 0 (lim a))).length)) (List.set (List.take ((((Int.tdiv n (32:Int))+1)-0).toNat) (List.drop 0 (lim a))) (0+(Int.tdiv n (32:Int)).toNat) (.int .u32 (wAnd .u32 (intV (nth (List.take ((((Int.tdiv n (32:Int))+1)-0).toNat) (List.drop 0 (lim a))) (0+(Int.tdiv n (32:Int)).toNat) .unk)) (((1:Int)*2^(min (wRem n (32:Int)).toNat (IntKind.bits .u32)))-1)))).length) && true)=true) (aI (nat_sizeC (List.take (0+(List.take ((((Int.tdiv n (32:Int))+1)-0).toNat) (List.drop 0 (lim a))).length) (List.drop 0 (List.set (List.take ((((Int.tdiv n (32:Int))+1)-0).toNat) (List.drop 0 (lim a))) (0+(Int.tdiv n (32:Int)).toNat) (.int .u32 (wAnd .u32 (intV (nth (List.take ((((Int.tdiv n (32:Int))+1)-0).toNat) (List.drop 0 (lim a))) (0+(Int.tdiv n (32:Int)).toNat) .unk)) (((1:Int)*2^(min (wRem n (32:Int)).toNat (IntKind.bits .u32)))-1)))))) (((limbs a).take (n.toNat / 32+1)).set (n.toNat / 32) ((limbs a).getD (n.toNat / 32) 0%2^(n.toNat%32))) (tkU (low_set c1.1 oO) (by rw[low_len c1.1 oO,(low_dig oO).2.1];omega)) (low_dig oO).1 (by rw[(low_dig oO).2.1];omega)) (aI (and_mk (and_mk (and_mk (rfl) (iLe_mk (by first | omega | (have:=low_len c1.1 (show n.toNat / 32<L a by omega);have:=(low_dig (show n.toNat / 32<L a by omega)).2.1;have:=limbs_len_le (low_dig (show n.toNat / 32<L a by omega)).1;first | omega | (rw[List.length_set];omega))))) (iLe_mk (by first | omega | (have:=low_len c1.1 (show n.toNat / 32<L a by omega);have:=(low_dig (show n.toNat / 32<L a by omega)).2.1;have:=limbs_len_le (low_dig (show n.toNat / 32<L a by omega)).1;first | omega | (rw[List.length_set];omega))))) (rfl):(((true && (iLe (0:Int) ((limbs (val (((limbs a).take (n.toNat / 32+1)).set (n.toNat / 32) ((limbs a).getD (n.toNat / 32) 0%2^(n.toNat%32))))).length:Int))) && (iLe ((limbs (val (((limbs a).take (n.toNat / 32+1)).set (n.toNat / 32) ((limbs a).getD (n.toNat / 32) 0%2^(n.toNat%32))))).length:Int) ((0+(List.take ((((Int.tdiv n (32:Int))+1)-0).toNat) (List.drop 0 (lim a))).length):Int))) && true)=true) (aI (ok_res (by first | omega | (have:=low_len c1.1 (show n.toNat / 32<L a by omega);have:=(low_dig (show n.toNat / 32<L a by omega)).2.1;have:=limbs_len_le (low_dig (show n.toNat / 32<L a by omega)).1;first | omega | (rw[List.length_set];omega))):((true && Nat.ble (0+(((limbs (val (((limbs a).take (n.toNat / 32+1)).set (n.toNat / 32) ((limbs a).getD (n.toNat / 32) 0%2^(n.toNat%32))))).length:Int)-0).toNat) (List.set (List.take ((((Int.tdiv n (32:Int))+1)-0).toNat) (List.drop 0 (lim a))) (0+(Int.tdiv n (32:Int)).toNat) (.int .u32 (wAnd .u32 (intV (nth (List.take ((((Int.tdiv n (32:Int))+1)-0).toNat) (List.drop 0 (lim a))) (0+(Int.tdiv n (32:Int)).toNat) .unk)) (((1:Int)*2^(min (wRem n (32:Int)).toNat (IntKind.bits .u32)))-1)))).length) && true)=true) (vsub_of (congrArg (V.sl 1) (fin_lim (low_set c1.1 oO) (low_dig oO).1 (low_dig oO).2.2)):vsub (.sl 1 (List.take ((((limbs (val (((limbs a).take (n.toNat / 32+1)).set (n.toNat / 32) ((limbs a).getD (n.toNat / 32) 0%2^(n.toNat%32))))).length:Int)-0).toNat) (List.drop 0 (List.set (List.take ((((Int.tdiv n (32:Int))+1)-0).toNat) (List.drop 0 (lim a))) (0+(Int.tdiv n (32:Int)).toNat) (.int .u32 (wAnd .u32 (intV (nth (List.take ((((Int.tdiv n (32:Int))+1)-0).toNat) (List.drop 0 (lim a))) (0+(Int.tdiv n (32:Int)).toNat) .unk)) (((1:Int)*2^(min (wRem n (32:Int)).toNat (IntKind.bits .u32)))-1))))))) (N (a%2^(n).toNat)))))))))))))))))))))) (by kernel_rfl))

end Go.Proofs.YtkkbddkpggjgpaaGreatDoor

namespace Go.Proofs.YtkkbddkpggjgpaaGreatDoor
def MulIn (b i:Nat)(x:Int)(l0:List Nat)(k c:Int)(l:List Nat):Prop :=
 0≤k∧k≤L b∧0≤c∧c<4294967296∧l.length=l0.length∧Dig l∧(∀ j,i+k.toNat≤j→l.getD j 0=l0.getD j 0) ∧
 val (l.take (i+k.toNat))+4294967296^(i+k.toNat)*c.toNat=val (l0.take (i+k.toNat))+4294967296^i*(x.toNat*val ((limbs b).take k.toNat))
theorem mulin_init (b i:Nat)(x:Int){l0:List Nat}(h:Dig l0):MulIn b i x l0 0 0 l0:=⟨by omega,by omega,by omega,by omega,rfl,h,fun _ _=>rfl,by simp [val]⟩
theorem mul_bound {x y z c:Int}(hx:0≤x∧x<4294967296)(hy:0≤y∧y<4294967296)(hz:0≤z∧z<4294967296)(hc:0≤c∧c<4294967296) :
  0≤x*y∧x*y≤18446744065119617025∧0≤c+(x*y+z)∧c+(x*y+z)≤18446744073709551615:=by
 have h1:0≤x*y:=Int.mul_nonneg hx.1 hy.1
 have h2:x*y≤4294967295*4294967295:=Int.mul_le_mul (by omega) (by omega) hy.1 (by omega)
 omega
theorem mulin_next {b i:Nat}{x k c s:Int}{l0 l:List Nat}(h:MulIn b i x l0 k c l)(hk:k<L b)(hx:0≤x∧x<4294967296)(hlen:i+k.toNat<l0.length)
  (hs:s=c+(x*gi (limbs b) k.toNat+gi l (i+k.toNat))) :
  MulIn b i x l0 (k+1) (Int.fdiv s (2^32)) (l.set (i+k.toNat) (IntKind.wrap .u32 s).toNat):=by
 obtain⟨h0,h1,h2,h3,h4,h5,h6,h7⟩:=h
 have hb:=mul_bound hx ⟨gi_nonneg (limbs b) k.toNat,gi_lt (dig_limbs b) k.toNat⟩ ⟨gi_nonneg l (i+k.toNat),gi_lt h5 (i+k.toNat)⟩ ⟨h2,h3⟩
 have hl:=h6 (i+k.toNat) (Nat.le_refl _)
 rw[gi_eq,gi_eq] at hb
 rw[gi_eq,gi_eq] at hs
 have hb1:=take_succ_val (limbs b) k.toNat
 have hb2:=take_succ_val l0 (i+k.toNat)
 rw[hl] at hs hb
 generalize (limbs b).getD k.toNat 0=y at *
 generalize l0.getD (i+k.toNat) 0=z at *
 obtain⟨x,rfl⟩:=Int.eq_ofNat_of_zero_le hx.1
 obtain⟨c,rfl⟩:=Int.eq_ofNat_of_zero_le h2
 have hsN:s=((c+(x*y+z):Nat):Int):=by rw[hs];simp
 rw[← hs] at hb
 generalize hS:c+(x*y+z)=S at *
 subst hsN
 have e1:IntKind.wrap .u32 ((S:Nat):Int)=((S%4294967296:Nat):Int):=by rw[wrap_u32];omega
 rw[e1,fdiv_B,Int.toNat_natCast]
 refine⟨by omega,by omega,by omega,by omega,by simpa using h4,dig_set h5 (by omega) _,?_,?_⟩
 ·intro j hj
  rw[set_getD_ne _ _ (by omega)]
  exact h6 j (by omega)
 ·rw[show i+(k+1).toNat=i+k.toNat+1 by omega,set_val _ _ (by omega),hb2,show (k+1).toNat=k.toNat+1 by omega,hb1]
  simp only [Int.toNat_natCast] at h7 ⊢
  rw[show ((S:Int) / 4294967296).toNat=S / 4294967296 by omega,Nat.pow_succ,Nat.mul_assoc (4294967296^_),Nat.add_assoc,← Nat.mul_add,Nat.mod_add_div,← hS]
  rw[Nat.mul_add (4294967296^(i+k.toNat)) c,← Nat.add_assoc,h7,Nat.mul_add x,Nat.mul_add (4294967296^i)]
  have e2:4294967296^i*(x*(4294967296^k.toNat*y))=4294967296^(i+k.toNat)*(x*y):=by
   rw[Nat.pow_add,Nat.mul_left_comm x,Nat.mul_assoc]
  rw[e2,Nat.mul_add (4294967296^(i+k.toNat)) (x*y)]
  omega
def MulInv (a b:Nat)(i:Int)(l:List Nat):Prop :=
 0≤i∧i≤L a∧l.length=L a+L b∧Dig l∧val (l.take (i.toNat+L b))=val ((limbs a).take i.toNat)*b
theorem mul_init (a b:Nat):MulInv a b 0 (List.replicate (L a+L b) 0):=by
 refine⟨by omega,by omega,by simp,dig_rep _,?_⟩
 rw[List.take_replicate,val_rep];simp [val]
theorem mul_next {a b:Nat}{i x c:Int}{l0 l:List Nat}(h:MulInv a b i l0)(hi:i<L a)(hx:x=gi (limbs a) i.toNat)(hin:MulIn b i.toNat x l0 (L b:Int) c l) :
  MulInv a b (i+1) (l.set (i.toNat+L b) (IntKind.wrap .u32 c).toNat):=by
 obtain⟨h0,h1,h2,h3,h4⟩:=h
 obtain⟨_,_,g2,g3,g4,g5,_,g7⟩:=hin
 have ht:=take_succ_val (limbs a) i.toNat
 rw[gi_eq] at hx
 generalize (limbs a).getD i.toNat 0=X at *
 subst hx
 rw[Int.toNat_natCast,Int.toNat_natCast,val_lim b (Nat.le_refl _),h4] at g7
 have e1:(IntKind.wrap .u32 c).toNat=c.toNat:=by rw[wrap_u32];omega
 rw[e1]
 refine⟨by omega,by omega,by simp;omega,dig_set g5 (by omega) _,?_⟩
 rw[show (i+1).toNat+L b=i.toNat+L b+1 by omega,set_val _ _ (by omega),g7,show (i+1).toNat=i.toNat+1 by omega,ht,Nat.add_mul,Nat.mul_assoc]
theorem mul_end {a b:Nat}{l:List Nat}(h:MulInv a b (L a:Int) l):Dig l∧l.length=L a+L b∧val l=a*b:=by
 obtain⟨h0,h1,h2,h3,h4⟩:=h
 refine⟨h3,h2,?_⟩
 rw[Int.toNat_natCast,val_lim a (Nat.le_refl _),val_all l (by omega)] at h4
 exact h4
def SmInv (a d:Nat)(i r:Int)(q:List Nat):Prop :=
 -1≤i∧i<L a∧q.length=L a∧Dig q∧r=((a / 4294967296^(i+1).toNat%d:Nat):Int)∧val (q.drop (i+1).toNat)=a / 4294967296^(i+1).toNat / d
theorem sm_init (a d:Nat):SmInv a d ((L a:Int)-1) 0 (List.replicate (L a) 0):=by
 have:a / 4294967296^L a=0:=Nat.div_eq_of_lt (L_lt a)
 refine⟨by omega,by omega,by simp,dig_rep _,?_,?_⟩
 ·rw[show ((L a:Int)-1+1).toNat=L a by omega,this];simp
 ·rw[show ((L a:Int)-1+1).toNat=L a by omega,this];simp [val]
theorem wOr_lo {x:Nat}{r:Int}(hr:0≤r∧r<4294967296)(hx:x<4294967296):wOr .u64 (r*2^32) (x:Int)=r*4294967296+(x:Int):=by
 obtain⟨r,rfl⟩:=Int.eq_ofNat_of_zero_le hr.1
 have h1:4294967296*r ||| x=4294967296*r+x:=by rw[Nat.or_comm,or_add (r:=32) hx,Nat.add_comm]
 have e:(r:Int)*2^32=((4294967296*r:Nat):Int):=by omega
 rw[e]
 show IntKind.wrap .u64 ((BitVec.ofInt 64 ((4294967296*r:Nat):Int) ||| BitVec.ofInt 64 (x:Int)).toNat:Int)=_
 rw[BitVec.toNat_or,ofInt64 (by omega),ofInt64 (by omega),wrap_u64,Int.toNat_natCast,Int.toNat_natCast,Nat.mod_eq_of_lt (show x<18446744073709551616 by omega),Nat.mod_eq_of_lt (by omega),h1]
 omega
theorem sm_word {a d:Nat}{i r:Int}{q:List Nat}(h:SmInv a d i r q)(hd:0<d)(hd2:d<4294967296) :
  wOr .u64 (r*2^32) (gi (limbs a) i.toNat)=r*4294967296+gi (limbs a) i.toNat∧0≤r∧r<d∧0≤gi (limbs a) i.toNat∧gi (limbs a) i.toNat<4294967296:=by
 have hm:=Nat.mod_lt (a / 4294967296^(i+1).toNat) hd
 have hr:=h.2.2.2.2.1
 refine⟨?_,by omega,by omega,gi_nonneg _ _,gi_lt (dig_limbs a) _⟩
 rw[gi_eq]
 exact wOr_lo (by omega) (dig_get (dig_limbs a) _)
theorem sm_next {a d:Nat}{i r s:Int}{q:List Nat}(h:SmInv a d i r q)(hi:0≤i)(hd:0<d)(hd2:d<4294967296)(hs:s=r*4294967296+gi (limbs a) i.toNat) :
  SmInv a d (i-1) (wRem s (d:Int)) (q.set i.toNat (IntKind.wrap .u32 (Int.tdiv s (d:Int))).toNat)∧0≤Int.tdiv s (d:Int)∧Int.tdiv s (d:Int)<4294967296:=by
 obtain⟨h0,h1,h2,h3,h4,h5⟩:=h
 rw[gi_eq,limb_eq] at hs
 rw[show (i+1).toNat=i.toNat+1 by omega,Nat.pow_succ,← Nat.div_div_eq_div_mul] at h4 h5
 have hV:a / 4294967296^i.toNat=a / 4294967296^i.toNat%4294967296+4294967296*(a / 4294967296^i.toNat / 4294967296):=by omega
 generalize a / 4294967296^i.toNat / 4294967296=V at *
 have hx:a / 4294967296^i.toNat%4294967296<4294967296:=Nat.mod_lt _ (by omega)
 have hle:(i-1+1).toNat=i.toNat:=by omega
 generalize hA:a / 4294967296^i.toNat=A at *
 generalize A%4294967296=x at *
 have hm:=Nat.mod_lt V hd
 have hdm:=Nat.div_add_mod V d
 generalize hQ:V / d=Q at *
 generalize hR:V%d=R at *
 have hsN:s=((R*4294967296+x:Nat):Int):=by rw[hs,h4];simp
 generalize hS:R*4294967296+x=S at *
 subst hsN
 have hq:S / d<4294967296:=by
  apply Nat.div_lt_of_lt_mul
  have:(R+1)*4294967296≤d*4294967296:=Nat.mul_le_mul_right _ hm
  omega
 have hAS:A=S+d*(4294967296*Q):=by
  rw[hV,← hdm,← hS,Nat.mul_add,Nat.mul_left_comm 4294967296 d];omega
 have t1:Int.tdiv ((S:Nat):Int) (d:Int)=((S / d:Nat):Int):=by rw[Int.tdiv_eq_ediv_of_nonneg (Int.natCast_nonneg _),Int.natCast_ediv]
 have t2:wRem ((S:Nat):Int) (d:Int)=((S%d:Nat):Int):=by unfold wRem;rw[Int.tmod_eq_emod_of_nonneg (Int.natCast_nonneg _),Int.natCast_emod]
 have d1:A / d=S / d+4294967296*Q:=by rw[hAS,Nat.add_mul_div_left _ _ hd]
 have d2:A%d=S%d:=by rw[hAS,Nat.add_mul_mod_self_left]
 rw[t1,t2]
 generalize S / d=D at *
 generalize S%d=M at *
 have e1:IntKind.wrap .u32 ((D:Nat):Int)=((D:Nat):Int):=by rw[wrap_u32];omega
 rw[e1,Int.toNat_natCast]
 refine⟨⟨by omega,by omega,by simpa using h2,dig_set h3 hq _,?_,?_⟩,by omega,by omega⟩
 ·rw[hle,hA,d2]
 ·rw[hle,hA,d1]
  have hl:i.toNat<(q.set i.toNat D).length:=by simp;omega
  rw[List.drop_eq_getElem_cons hl,val,List.getElem_set_self,List.drop_set_of_lt (by omega),h5]
theorem sm_end {a d:Nat}{r:Int}{q:List Nat}(h:SmInv a d (-1) r q):Dig q∧q.length=L a∧val q=a / d∧r=((a%d:Nat):Int):=by
 obtain⟨h0,h1,h2,h3,h4,h5⟩:=h
 refine⟨h3,h2,?_,?_⟩
 ·simpa using h5
 ·simpa using h4
end Go.Proofs.YtkkbddkpggjgpaaGreatDoor

namespace Go.Proofs.YtkkbddkpggjgpaaGreatDoor
open Go.RowKit
set_option maxRecDepth 100000
theorem nat_TrimC (c:List V)(l:List Nat)(c0:c=U l)(c1:Dig l)(c2:l.length≤1073741824):Impl Tryz.prog Amb 181 [.sl 1 c] (N (val l)):=by
 subst c0
 exact nat_Trim l c1 c2
def quot_Small_0_mk (a d:Nat)(x:Int × Int × List V × List Nat):St:=⟨mkS 46 [(0,(.val (N a))),(1,(.val (.int .u32 (d:Int)))),(7,(.osl 0 0 (((lim a).length:Int).toNat) 1)),(8,(.val (.int .u64 x.2.1))),(9,(.val (.int .i64 x.1)))],[⟨true,false,x.2.2.1⟩]⟩
def quot_Small_0_I (a d:Nat)(x:Int × Int × List V × List Nat):Prop:=x.2.2.1=U x.2.2.2∧SmInv a d x.1 x.2.1 x.2.2.2
def quot_Small_0_mu (_ _:Nat)(x:Int × Int × List V × List Nat):Nat:=(x.1+1).toNat
def quot_Small_0_ex (a _:Nat)(y:Int × List Nat):Ex × St:=(.exit 0,⟨mkS 46 [(7,(.osl 0 0 (((lim a).length:Int).toNat) 1)),(8,(.val (.int .u64 y.1)))],[⟨true,false,(U y.2)⟩]⟩)
def quot_Small_0_J (a d:Nat)(y:Int × List Nat):Prop:=SmInv a d (-1) y.1 y.2
abbrev quot_Small_0_N (a d:Nat):=NX (quot_Small_0_mk a d) (quot_Small_0_I a d) (quot_Small_0_mu a d) (quot_Small_0_ex a d) (quot_Small_0_J a d)
theorem quot_Small_0 (a d:Nat)(c0:L a≤67108864)(c1:0<d)(c2:d<4294967296)(x0:Int × Int × List V × List Nat)(hI:quot_Small_0_I a d x0):LoopOk Tryz.prog Amb (loopN Tryz.f143 0) (quot_Small_0_mk a d x0) (fun e st_=>∃ y,quot_Small_0_J a d y∧quot_Small_0_ex a d y=(e,st_)) :=
 loop_ob hP hAmb ⟨[0,1,7,8,9],1,[]⟩ (quot_Small_0_mk a d) (quot_Small_0_I a d) (quot_Small_0_mu a d) (quot_Small_0_ex a d) (quot_Small_0_J a d) x0 hI (fun (i,r,o,l)=>.lit<|.both (.lit<|.yes<|.yes<|.yes<|.lit<|.yes<|.lits 2<|.yes<|.yes<|.yes<|.lit<|.no<|.yes<|.yes<|.lit<|.yes<|.yes<|.lit<|.yes<|.fin2 ⟨[0,1,7,8,9],1,[]⟩) (.fin2 ⟨[7,8],1,[]⟩)) (by
  rintro ⟨i,r,o,l⟩ hI
  have hI:o=U l∧SmInv a d i r l:=hI
  obtain⟨rfl,h1⟩:=hI
  have ⟨p0,p1,p2,_⟩:=h1
  have e0:=L_len a
  have g4:=U_len l
  have hw:=sm_word h1 c1 c2
  have hn:=fun hi=>(sm_next h1 hi c1 c2 hw.1).2
  exact cast_ob (aI True.intro (aI (fun (h101:(iGe i 0)=true)=>have _gh101:=iGe_t h101;aI (fits_u64 (by first | omega | (have:=hn oO;omega) | (simp<;>omega)):(fits .u64 (r*2^32))=true) (aI (inB_mk (by first | omega | (have:=hn oO;omega) | (simp<;>omega)):(inB i ((lim a).length))=true) (aI (ld_L (by first | omega | (have:=hn oO;omega) | (simp<;>omega)):(Nat.blt i.toNat (lim a).length && isIntK .u32 (nth (lim a) i.toNat .unk))=true) (aI (fits_u64 (by first | omega | (have:=hn oO;omega) | (simp<;>omega)):(fits .u64 (gi (limbs a) i.toNat))=true) (aI (fits_u64 (by first | omega | (have:=hn oO;omega) | (simp<;>omega)):(fits .u64 (d:Int))=true) (aI (and_mk (rfl) (iNe_mk (by first | omega | (have:=hn oO;omega) | (simp<;>omega))):(true && (iNe (d:Int) 0))=true) (aI (fits_u64 (by first | omega | (have:=hn oO;omega) | (simp<;>omega)):(fits .u64 (Int.tdiv (wOr .u64 (r*2^32) (gi (limbs a) i.toNat)) (d:Int)))=true) (aI (inB_mk (by first | omega | (have:=hn oO;omega) | (simp<;>omega)):(inB i (((lim a).length:Int).toNat))=true) (aI (st_ok (by first | omega | (have:=hn oO;omega) | (simp<;>omega)):(Nat.ble ((0+i.toNat)+1) (U l).length)=true) (aI (fits_u64 (by first | omega | (have:=hn oO;omega) | (simp<;>omega)):(fits .u64 (d:Int))=true) (aI (iNe_mk (by first | omega | (have:=hn oO;omega) | (simp<;>omega)):(iNe (d:Int) 0)=true) (aI (fits_i64 (by first | omega | (have:=hn oO;omega) | (simp<;>omega)):(fits .i64 (i-1))=true) (aI tT ((nx_next ((i-1),(wRem (wOr .u64 (r*2^32) (gi (limbs a) i.toNat)) (d:Int)),(List.set (U l) (0+i.toNat) (.int .u32 (IntKind.wrap .u32 (Int.tdiv (wOr .u64 (r*2^32) (gi (limbs a) i.toNat)) (d:Int))))),(l.set i.toNat (IntKind.wrap .u32 (Int.tdiv (wOr .u64 (r*2^32) (gi (limbs a) i.toNat)) (d:Int))).toNat)) (show (List.set (U l) (0+i.toNat) (.int .u32 (IntKind.wrap .u32 (Int.tdiv (wOr .u64 (r*2^32) (gi (limbs a) i.toNat)) (d:Int)))))=U (l.set i.toNat (IntKind.wrap .u32 (Int.tdiv (wOr .u64 (r*2^32) (gi (limbs a) i.toNat)) (d:Int))).toNat)∧SmInv a d (i-1) (wRem (wOr .u64 (r*2^32) (gi (limbs a) i.toNat)) (d:Int)) (l.set i.toNat (IntKind.wrap .u32 (Int.tdiv (wOr .u64 (r*2^32) (gi (limbs a) i.toNat)) (d:Int))).toNat) from ⟨setU _ oO (wrap_pos _),(sm_next h1 oO c1 c2 hw.1).1⟩) (show (i-1+1).toNat<(i+1).toNat by omega):quot_Small_0_N a d (i,r,(U l),l) .normal (quot_Small_0_mk a d ((i-1),(wRem (wOr .u64 (r*2^32) (gi (limbs a) i.toNat)) (d:Int)),(List.set (U l) (0+i.toNat) (.int .u32 (IntKind.wrap .u32 (Int.tdiv (wOr .u64 (r*2^32) (gi (limbs a) i.toNat)) (d:Int))))),(l.set i.toNat (IntKind.wrap .u32 (Int.tdiv (wOr .u64 (r*2^32) (gi (limbs a) i.toNat)) (d:Int))).toNat)))))))))))))))))) (fun (h102:(iGe i 0)=false)=>have _gh102:=iGe_f h102;aI tT ((nx_exit 0 ((quot_Small_0_ex a d (r,l)).2) (r,l) (show SmInv a d (-1) r l from (show i=-1 by omega) ▸ h1) rfl:quot_Small_0_N a d (i,r,(U l),l) (.exit 0) ((quot_Small_0_ex a d (r,l)).2)))))) (by kernel_rfl))
theorem quot_Small (a:Nat)(d:Nat)(c0:L a≤67108864)(c1:d≠0)(c2:d<4294967296):Impl Tryz.prog Amb 143 [(N a),(.int .u32 (d:Int))] (.tup [(N (a / d)),(.int .u32 ((a%d:Nat):Int)),(.bool true)]):=by
 have e0:=L_len a
 exact impl_ob hP hAmb Tryz.func143 (by kernel_rfl) (.lit<|.both (.lit<|.ret) (.yes<|.lit<|.yes<|.loop ⟨[0,1,7,8,9],1,[]⟩ ((quot_Small_0_mk a d ((((lim a).length:Int)-1),0,(List.replicate (((lim a).length:Int).toNat) (.int .u32 0)),(List.replicate (L a) 0)))) (Int × List Nat) (quot_Small_0_ex a d) (quot_Small_0_J a d) (fun y=>.yes<|.call (N (val y.2))<|.lit<|.no<|.lit<|.ret)))
  (cast_ob (aI True.intro (aI (fun (h1:(iEq (d:Int) 0)=true)=>have _gh1:=iEq_t h1;(absurd (show (d:Int)=0 by assumption) oO:vsub (.tup [.nil,(.int .u32 0),(.bool false)]) (.tup [(N (a / d)),(.int .u32 ((a%d:Nat):Int)),(.bool true)]))) (fun (h2:(iEq (d:Int) 0)=false)=>have _gh2:=iEq_f h2;aI (mk_ok oA:(((iEq ((lim a).length:Int) ((lim a).length:Int)) && (iLe 0 ((lim a).length:Int))) && (iLe ((lim a).length:Int) 1073741824))=true) (aI (fits_i64 oA:(fits .i64 (((lim a).length:Int)-1))=true) (aI tT (aI (rfl:(quot_Small_0_mk a d ((((lim a).length:Int)-1),0,(List.replicate (((lim a).length:Int).toNat) (.int .u32 0)),(List.replicate (L a) 0)))=(quot_Small_0_mk a d ((((lim a).length:Int)-1),0,(List.replicate (((lim a).length:Int).toNat) (.int .u32 0)),(List.replicate (L a) 0)))) (aI (quot_Small_0 a d c0 oO c2 ((((lim a).length:Int)-1),0,(List.replicate (((lim a).length:Int).toNat) (.int .u32 0)),(List.replicate (L a) 0)) (show (List.replicate (((lim a).length:Int).toNat) (.int .u32 0))=U (List.replicate (L a) 0)∧SmInv a d (((lim a).length:Int)-1) 0 (List.replicate (L a) 0) from ⟨by rw[show ((lim a).length:Int).toNat=L a by omega];exact U_rep _,by rw[L_len];exact sm_init _ _⟩)) (fun y (hJ:quot_Small_0_J a d y)=>have hJ:SmInv a d (-1) y.1 y.2:=hJ;have ⟨q0,q1,q2,q3⟩:=sm_end hJ;have q5:=U_len y.2;aI (ok_arg oA:((true && Nat.ble (0+((lim a).length:Int).toNat) (U y.2).length) && true)=true) (aI (nat_TrimC (List.take (((lim a).length:Int).toNat) (List.drop 0 (U y.2))) y.2 (tkU rfl oO) q0 oO) ((by rw[q2,show IntKind.wrap .u32 y.1=((a%d:Nat):Int) by rw[wrap_u32];have:=Nat.mod_lt a (show 0<d by omega);omega];exact vsub_refl _:vsub (.tup [(N (val y.2)),(.int .u32 (IntKind.wrap .u32 y.1)),(.bool true)]) (.tup [(N (a / d)),(.int .u32 ((a%d:Nat):Int)),(.bool true)])))))))))))) (by kernel_rfl))
theorem quot_SmallI (a:Nat)(d:Int)(c0:L a≤67108864)(c1:0<d∧d<4294967296):Impl Tryz.prog Amb 143 [N a,.int .u32 d] (.tup [N (a / d.toNat),.int .u32 ((a%d.toNat:Nat):Int),.bool true]):=by
 have h:=quot_Small a d.toNat c0 oO oO
 rwa [Int.toNat_of_nonneg oO] at h
def mul_in_mk (a b:Nat)(i xv:Int)(_:List Nat)(x:Int × Int × List V × List Nat):St:=⟨mkS 67 [(1,(.val (N b))),(5,(.osl 0 0 ((((lim a).length:Int)+((lim b).length:Int)).toNat) 1)),(6,(.val (.int .i64 i))),(7,(.val (.int .u32 xv))),(8,(.val (.int .u64 x.2.1))),(17,(.val (N a))),(18,(.val (.int .i64 ((lim a).length:Int)))),(19,(.val (.int .i64 i))),(24,(.val (N b))),(25,(.val (.int .i64 ((lim b).length:Int)))),(26,(.val (.int .i64 x.1)))],[⟨true,false,x.2.2.1⟩]⟩
def mul_in_I (_ b:Nat)(i xv:Int)(l0:List Nat)(x:Int × Int × List V × List Nat):Prop:=x.2.2.1=U x.2.2.2∧MulIn b i.toNat xv l0 x.1 x.2.1 x.2.2.2
def mul_in_mu (_ b:Nat)(_ _:Int)(_:List Nat)(x:Int × Int × List V × List Nat):Nat:=((L b:Int)-x.1).toNat
def mul_in_ex (a b:Nat)(i _:Int)(_:List Nat)(y:Int × List Nat):Ex × St:=(.exit 2,⟨mkS 67 [(1,(.val (N b))),(5,(.osl 0 0 ((((lim a).length:Int)+((lim b).length:Int)).toNat) 1)),(6,(.val (.int .i64 i))),(8,(.val (.int .u64 y.1))),(17,(.val (N a))),(18,(.val (.int .i64 ((lim a).length:Int)))),(19,(.val (.int .i64 i)))],[⟨true,false,(U y.2)⟩]⟩)
def mul_in_J (_ b:Nat)(i xv:Int)(l0:List Nat)(y:Int × List Nat):Prop:=MulIn b i.toNat xv l0 (L b:Int) y.1 y.2
abbrev mul_in_N (a b:Nat)(i xv:Int)(l0:List Nat):=NX (mul_in_mk a b i xv l0) (mul_in_I a b i xv l0) (mul_in_mu a b i xv l0) (mul_in_ex a b i xv l0) (mul_in_J a b i xv l0)
theorem mul_in (a b:Nat)(i xv:Int)(l0:List Nat)(c0:L a≤33554432∧L b≤33554432)(c1:0≤i∧i<L a)(c2:0≤xv∧xv<4294967296)(c3:l0.length=L a+L b)(x0:Int × Int × List V × List Nat)(hI:mul_in_I a b i xv l0 x0):LoopOk Tryz.prog Amb (loopN Tryz.f206 1) (mul_in_mk a b i xv l0 x0) (fun e st_=>∃ y,mul_in_J a b i xv l0 y∧mul_in_ex a b i xv l0 y=(e,st_)) :=
 loop_ob hP hAmb ⟨[1,5,6,7,8,17,18,19,24,25,26],1,[]⟩ (mul_in_mk a b i xv l0) (mul_in_I a b i xv l0) (mul_in_mu a b i xv l0) (mul_in_ex a b i xv l0) (mul_in_J a b i xv l0) x0 hI (fun (k,c,o,l)=>.lit<|.both (.yes<|.yes<|.lit<|.yes<|.lit<|.yes<|.lit<|.yes<|.lit<|.yes<|.yes<|.yes<|.lit<|.yes<|.lit<|.yes<|.lit<|.yes<|.lit<|.yes<|.lit<|.no<|.yes<|.yes<|.lits 2<|.yes<|.fin2 ⟨[1,5,6,7,8,17,18,19,24,25,26],1,[]⟩) (.fin2 ⟨[1,5,6,8,17,18,19],1,[]⟩)) (by
  rintro ⟨k,c,o,l⟩ hI
  have hI:o=U l∧MulIn b i.toNat xv l0 k c l:=hI
  obtain⟨rfl,h1⟩:=hI
  have ⟨p0,p1,p2,p3,p4,p5,_⟩:=h1
  have e0:=L_len a
  have e1:=L_len b
  have g4:=U_len l
  have hik:0+(i+k).toNat=i.toNat+k.toNat:=by omega
  have hb:=mul_bound c2 ⟨gi_nonneg (limbs b) k.toNat,gi_lt (dig_limbs b) k.toNat⟩ ⟨gi_nonneg l (0+(i+k).toNat),gi_lt p5 _⟩ ⟨p2,p3⟩
  have g0:=gi_nonneg (limbs b) k.toNat
  have g1:=gi_lt (dig_limbs b) k.toNat
  have g2:=gi_nonneg l (0+(i+k).toNat)
  have g3:=gi_lt p5 (0+(i+k).toNat)
  exact cast_ob (aI True.intro (aI (fun (h101:(iLt k ((lim b).length:Int))=true)=>have _gh101:=iLt_t h101;aI (inB_mk oA:(inB k ((lim b).length))=true) (aI (ld_L oA:(Nat.blt k.toNat (lim b).length && isIntK .u32 (nth (lim b) k.toNat .unk))=true) (aI (fits_u64 oA:(fits .u64 xv)=true) (aI (fits_u64 oA:(fits .u64 (gi (limbs b) k.toNat))=true) (aI (fits_u64 oA:(fits .u64 (xv*(gi (limbs b) k.toNat)))=true) (aI (fits_i64 oA:(fits .i64 (i+k))=true) (aI (inB_mk oA:(inB (i+k) ((((lim a).length:Int)+((lim b).length:Int)).toNat))=true) (aI (ld_U oA:(Nat.blt (0+(i+k).toNat) (U l).length && isIntK .u32 (nth (U l) (0+(i+k).toNat) .unk))=true) (aI (fits_u64 oA:(fits .u64 (gi l (0+(i+k).toNat)))=true) (aI (fits_u64 oA:(fits .u64 ((xv*(gi (limbs b) k.toNat))+(gi l (0+(i+k).toNat))))=true) (aI (fits_u64 oA:(fits .u64 (c+((xv*(gi (limbs b) k.toNat))+(gi l (0+(i+k).toNat)))))=true) (aI (fits_i64 oA:(fits .i64 (i+k))=true) (aI (inB_mk oA:(inB (i+k) ((((lim a).length:Int)+((lim b).length:Int)).toNat))=true) (aI (st_ok oA:(Nat.ble ((0+(i+k).toNat)+1) (U l).length)=true) (aI (fits_i64 oA:(fits .i64 (k+1))=true) (aI tT ((nx_next ((k+1),(Int.fdiv (c+((xv*(gi (limbs b) k.toNat))+(gi l (0+(i+k).toNat)))) (2^32)),(List.set (U l) (0+(i+k).toNat) (.int .u32 (IntKind.wrap .u32 (c+((xv*(gi (limbs b) k.toNat))+(gi l (0+(i+k).toNat))))))),(l.set (i.toNat+k.toNat) (IntKind.wrap .u32 (c+((xv*(gi (limbs b) k.toNat))+(gi l (0+(i+k).toNat))))).toNat)) (show (List.set (U l) (0+(i+k).toNat) (.int .u32 (IntKind.wrap .u32 (c+((xv*(gi (limbs b) k.toNat))+(gi l (0+(i+k).toNat)))))))=U (l.set (i.toNat+k.toNat) (IntKind.wrap .u32 (c+((xv*(gi (limbs b) k.toNat))+(gi l (0+(i+k).toNat))))).toNat)∧MulIn b i.toNat xv l0 (k+1) (Int.fdiv (c+((xv*(gi (limbs b) k.toNat))+(gi l (0+(i+k).toNat)))) (2^32)) (l.set (i.toNat+k.toNat) (IntKind.wrap .u32 (c+((xv*(gi (limbs b) k.toNat))+(gi l (0+(i+k).toNat))))).toNat) from ⟨setU _ hik (wrap_pos _),mulin_next h1 oO c2 oO (by rw[← hik])⟩) (show ((L b:Int)-(k+1)).toNat<((L b:Int)-k).toNat by omega):mul_in_N a b i xv l0 (k,c,(U l),l) .normal (mul_in_mk a b i xv l0 ((k+1),(Int.fdiv (c+((xv*(gi (limbs b) k.toNat))+(gi l (0+(i+k).toNat)))) (2^32)),(List.set (U l) (0+(i+k).toNat) (.int .u32 (IntKind.wrap .u32 (c+((xv*(gi (limbs b) k.toNat))+(gi l (0+(i+k).toNat))))))),(l.set (i.toNat+k.toNat) (IntKind.wrap .u32 (c+((xv*(gi (limbs b) k.toNat))+(gi l (0+(i+k).toNat))))).toNat))))))))))))))))))))) (fun (h102:(iLt k ((lim b).length:Int))=false)=>have _gh102:=iLt_f h102;aI tT ((nx_exit 2 ((mul_in_ex a b i xv l0 (c,l)).2) (c,l) (show MulIn b i.toNat xv l0 (L b:Int) c l from (show k=(L b:Int) by omega) ▸ h1) rfl:mul_in_N a b i xv l0 (k,c,(U l),l) (.exit 2) ((mul_in_ex a b i xv l0 (c,l)).2)))))) (by kernel_rfl))
def mul_out_mk (a b:Nat)(x:Int × List V × List Nat):St:=⟨mkS 67 [(1,(.val (N b))),(5,(.osl 0 0 ((((lim a).length:Int)+((lim b).length:Int)).toNat) 1)),(17,(.val (N a))),(18,(.val (.int .i64 ((lim a).length:Int)))),(19,(.val (.int .i64 x.1)))],[⟨true,false,x.2.1⟩]⟩
def mul_out_I (a b:Nat)(x:Int × List V × List Nat):Prop:=x.2.1=U x.2.2∧MulInv a b x.1 x.2.2
def mul_out_mu (a _:Nat)(x:Int × List V × List Nat):Nat:=((L a:Int)-x.1).toNat
def mul_out_ex (a b:Nat)(y:List Nat):Ex × St:=(.exit 0,⟨mkS 67 [(5,(.osl 0 0 ((((lim a).length:Int)+((lim b).length:Int)).toNat) 1))],[⟨true,false,(U y)⟩]⟩)
def mul_out_J (a b:Nat)(y:List Nat):Prop:=MulInv a b (L a:Int) y
abbrev mul_out_N (a b:Nat):=NX (mul_out_mk a b) (mul_out_I a b) (mul_out_mu a b) (mul_out_ex a b) (mul_out_J a b)
theorem mul_out (a b:Nat)(c0:L a≤33554432∧L b≤33554432)(x0:Int × List V × List Nat)(hI:mul_out_I a b x0):LoopOk Tryz.prog Amb (loopN Tryz.f206 0) (mul_out_mk a b x0) (fun e st_=>∃ y,mul_out_J a b y∧mul_out_ex a b y=(e,st_)) :=
 loop_ob hP hAmb ⟨[1,5,17,18,19],1,[]⟩ (mul_out_mk a b) (mul_out_I a b) (mul_out_mu a b) (mul_out_ex a b) (mul_out_J a b) x0 hI (fun (i,o,l)=>.lit<|.both (.yes<|.yes<|.loop ⟨[1,5,6,7,8,17,18,19,24,25,26],1,[]⟩ ((mul_in_mk a b i (gi (limbs a) i.toNat) l (0,0,o,l))) (Int × List Nat) (mul_in_ex a b i (gi (limbs a) i.toNat) l) (mul_in_J a b i (gi (limbs a) i.toNat) l) (fun y=>.lit<|.yes<|.lit<|.no<|.yes<|.yes<|.lit<|.yes<|.fin2 ⟨[1,5,17,18,19],1,[]⟩)) (.fin2 ⟨[5],1,[]⟩)) (by
  rintro ⟨i,o,l⟩ hI
  have hI:o=U l∧MulInv a b i l:=hI
  obtain⟨rfl,h1⟩:=hI
  have ⟨p0,p1,p2,_⟩:=h1
  have e0:=L_len a
  have e1:=L_len b
  have g4:=U_len l
  exact cast_ob (aI True.intro (aI (fun (h101:(iLt i ((lim a).length:Int))=true)=>have _gh101:=iLt_t h101;aI (inB_mk oA:(inB i ((lim a).length))=true) (aI (ld_L oA:(Nat.blt i.toNat (lim a).length && isIntK .u32 (nth (lim a) i.toNat .unk))=true) (aI tT (aI (rfl:(mul_in_mk a b i (gi (limbs a) i.toNat) l (0,0,(U l),l))=(mul_in_mk a b i (gi (limbs a) i.toNat) l (0,0,(U l),l))) (aI (mul_in a b i (gi (limbs a) i.toNat) l c0 oO (⟨gi_nonneg _ _,gi_lt (dig_limbs a) _⟩) oO (0,0,(U l),l) (show (U l)=U l∧MulIn b i.toNat (gi (limbs a) i.toNat) l 0 0 l from ⟨rfl,mulin_init _ _ _ h1.2.2.2.1⟩)) (fun y (hJ:mul_in_J a b i (gi (limbs a) i.toNat) l y)=>have hJ:MulIn b i.toNat (gi (limbs a) i.toNat) l (L b:Int) y.1 y.2:=hJ;have ⟨_,_,y2,y3,y4,_⟩:=hJ;have y5:=U_len y.2;aI (fits_i64 oA:(fits .i64 (i+((lim b).length:Int)))=true) (aI (inB_mk oA:(inB (i+((lim b).length:Int)) ((((lim a).length:Int)+((lim b).length:Int)).toNat))=true) (aI (st_ok oA:(Nat.ble ((0+(i+((lim b).length:Int)).toNat)+1) (U y.2).length)=true) (aI (fits_i64 oA:(fits .i64 (i+1))=true) (aI tT ((nx_next ((i+1),(List.set (U y.2) (0+(i+((lim b).length:Int)).toNat) (.int .u32 (IntKind.wrap .u32 y.1))),(y.2.set (i.toNat+L b) (IntKind.wrap .u32 y.1).toNat)) (show (List.set (U y.2) (0+(i+((lim b).length:Int)).toNat) (.int .u32 (IntKind.wrap .u32 y.1)))=U (y.2.set (i.toNat+L b) (IntKind.wrap .u32 y.1).toNat)∧MulInv a b (i+1) (y.2.set (i.toNat+L b) (IntKind.wrap .u32 y.1).toNat) from ⟨setU _ oO (wrap_pos _),mul_next h1 oO rfl hJ⟩) (show ((L a:Int)-(i+1)).toNat<((L a:Int)-i).toNat by omega):mul_out_N a b (i,(U l),l) .normal (mul_out_mk a b ((i+1),(List.set (U y.2) (0+(i+((lim b).length:Int)).toNat) (.int .u32 (IntKind.wrap .u32 y.1))),(y.2.set (i.toNat+L b) (IntKind.wrap .u32 y.1).toNat))))))))))))))) (fun (h102:(iLt i ((lim a).length:Int))=false)=>have _gh102:=iLt_f h102;aI tT ((nx_exit 0 ((mul_out_ex a b l).2) l (show MulInv a b (L a:Int) l from (show i=(L a:Int) by omega) ▸ h1) rfl:mul_out_N a b (i,(U l),l) (.exit 0) ((mul_out_ex a b l).2)))))) (by kernel_rfl))
theorem prod_Mul (a:Nat)(b:Nat)(c0:L a≤33554432)(c1:L b≤33554432):Impl Tryz.prog Amb 206 [(N a),(N b)] (N (a*b)):=by
 have e0:=L_len a
 have e1:=L_len b
 exact impl_ob hP hAmb Tryz.func206 (by kernel_rfl) (.lit<|.yes<|.yes<|.loop ⟨[1,5,17,18,19],1,[]⟩ ((mul_out_mk a b (0,(List.replicate ((((lim a).length:Int)+((lim b).length:Int)).toNat) (.int .u32 0)),(List.replicate (L a+L b) 0)))) (List Nat) (mul_out_ex a b) (mul_out_J a b) (fun y=>.yes<|.call (N (val y))<|.lit<|.ret))
  (cast_ob (aI True.intro (aI (fits_i64 oA:(fits .i64 (((lim a).length:Int)+((lim b).length:Int)))=true) (aI (mk_ok oA:(((iEq (((lim a).length:Int)+((lim b).length:Int)) (((lim a).length:Int)+((lim b).length:Int))) && (iLe 0 (((lim a).length:Int)+((lim b).length:Int)))) && (iLe (((lim a).length:Int)+((lim b).length:Int)) 1073741824))=true) (aI tT (aI (rfl:(mul_out_mk a b (0,(List.replicate ((((lim a).length:Int)+((lim b).length:Int)).toNat) (.int .u32 0)),(List.replicate (L a+L b) 0)))=(mul_out_mk a b (0,(List.replicate ((((lim a).length:Int)+((lim b).length:Int)).toNat) (.int .u32 0)),(List.replicate (L a+L b) 0)))) (aI (mul_out a b oO (0,(List.replicate ((((lim a).length:Int)+((lim b).length:Int)).toNat) (.int .u32 0)),(List.replicate (L a+L b) 0)) (show (List.replicate ((((lim a).length:Int)+((lim b).length:Int)).toNat) (.int .u32 0))=U (List.replicate (L a+L b) 0)∧MulInv a b 0 (List.replicate (L a+L b) 0) from ⟨by rw[show ((((lim a).length:Int)+((lim b).length:Int)).toNat)=L a+L b by omega];exact U_rep _,mul_init _ _⟩)) (fun y (hJ:mul_out_J a b y)=>have hJ:MulInv a b (L a:Int) y:=hJ;have ⟨q0,q1,q2⟩:=mul_end hJ;have q5:=U_len y;aI (ok_arg oA:((true && Nat.ble (0+((((lim a).length:Int)+((lim b).length:Int)).toNat)) (U y).length) && true)=true) (aI (nat_TrimC (List.take ((((lim a).length:Int)+((lim b).length:Int)).toNat) (List.drop 0 (U y))) y (tkU rfl oO) q0 oO) ((vsub_of (congrArg N q2):vsub (N (val y)) (N (a*b)))))))))))) (by kernel_rfl))
end Go.Proofs.YtkkbddkpggjgpaaGreatDoor

namespace Go.Proofs.YtkkbddkpggjgpaaGreatDoor
def sgn (b:Bool)(a:Nat):Int:=if b then -(a:Int) else a
theorem sgn_nat {p:Prop}[Decidable p]{a:Nat}{z:Int}(h1:p→z=-(a:Int))(h2:¬ p→z=(a:Int)):sgn (decide p) a=z:=by
 unfold sgn
 by_cases h:p
 ·simp [h,h1 h]
 ·simp [h,h2 h]
theorem sgn_t (a:Nat):sgn true a=-(a:Int):=rfl
theorem sgn_f (a:Nat):sgn false a=(a:Int):=rfl
theorem sgn_abs (b:Bool)(a:Nat):(sgn b a).natAbs=a:=by unfold sgn;split<;>omega
theorem bEq_t {p q:Prop}[Decidable p][Decidable q](h:bEq (decide p) (decide q)=true):p↔q:=by
 unfold bEq at h;simpa using h
theorem bEq_f {p q:Prop}[Decidable p][Decidable q](h:bEq (decide p) (decide q)=false):¬ (p↔q):=by
 unfold bEq at h;simpa using h
theorem Z_mk {b:Bool}{n:Nat}{z:Int}(hb:b=decide (z<0))(hn:n=z.natAbs):V.agg [.bool b,N n]=Z z:=by subst hb;subst hn;rfl
theorem Z_of {x y:Int}(h:x=y):vsub (Z x) (Z y):=vsub_of (congrArg Z h)
theorem L_abs_add (x y:Int):L (x+y).natAbs≤max (L x.natAbs) (L y.natAbs)+1:=by
 have h:=L_add x.natAbs y.natAbs
 have:=L_mono (show (x+y).natAbs≤x.natAbs+y.natAbs by omega)
 omega
theorem L_abs_mul (x y:Int):L (x*y).natAbs≤L x.natAbs+L y.natAbs:=by rw[Int.natAbs_mul];exact L_mul _ _
theorem L_abs_neg (x:Int):L (-x).natAbs=L x.natAbs:=by rw[Int.natAbs_neg]
def cmpI (x y:Int):Int:=if x<y then -1 else if y<x then 1 else 0
theorem L_pos_iff (n:Nat):0<L n↔0<n:=by
 constructor
 ·intro h;rcases Nat.eq_zero_or_pos n with q | q
  ·subst q;rw[L_zero] at h;omega
  ·exact q
 ·intro h;exact L_pos (by omega)
theorem nbits_zero_iff (n:Nat):nbits n=0↔n=0:=by unfold nbits;split<;>omega
theorem sgn_mul (x y:Int):sgn (!bEq (decide (x<0)) (decide (y<0))) (x.natAbs*y.natAbs)=x*y:=by
 unfold sgn bEq
 by_cases hx:x<0<;>by_cases hy:y<0<;>simp [hx,hy]
 ·rw[show ((x.natAbs:Nat):Int)=-x by omega,show ((y.natAbs:Nat):Int)=-y by omega,Int.neg_mul_neg]
 ·rw[show ((x.natAbs:Nat):Int)=-x by omega,show ((y.natAbs:Nat):Int)=y by omega,Int.neg_mul,Int.neg_neg]
 ·rw[show ((x.natAbs:Nat):Int)=x by omega,show ((y.natAbs:Nat):Int)=-y by omega,Int.mul_neg,Int.neg_neg]
 ·rw[show ((x.natAbs:Nat):Int)=x by omega,show ((y.natAbs:Nat):Int)=y by omega]
theorem sgn_shl (x:Int)(k:Nat):sgn (decide (x<0)) (x.natAbs*2^k)=x*2^k:=by
 have h:((x.natAbs*2^k:Nat):Int)=((x.natAbs:Nat):Int)*2^k:=by rw[Int.natCast_mul,pow_cast]
 refine sgn_nat (fun hx=>?_) (fun hx=>?_)
 ·rw[h,show ((x.natAbs:Nat):Int)=-x by omega,Int.neg_mul,Int.neg_neg]
 ·rw[h,show ((x.natAbs:Nat):Int)=x by omega]
theorem shr_pos {x:Int}(hx:¬ x<0)(k:Nat):sgn (decide (x<0)) (x.natAbs / 2^k)=x / 2^k:=by
 rw[show decide (x<0)=false by simpa using hx,sgn_f,Int.natCast_ediv,← pow_cast,show ((x.natAbs:Nat):Int)=x by omega]
theorem shr_neg0 {x:Int}(hx:x<0)(k:Nat)(h0:x.natAbs%2^k=0):sgn (decide (x<0)) (x.natAbs / 2^k)=x / 2^k:=by
 obtain⟨m,hm⟩:=Nat.dvd_of_mod_eq_zero h0
 have hp:=Nat.two_pow_pos k
 have e:x=(2^k:Int)*(-(m:Int)):=by
  have:(x.natAbs:Int)=(2^k:Int)*m:=by rw[hm,Int.natCast_mul,← pow_cast]
  rw[Int.mul_neg,← this];omega
 have hq:x / 2^k=-(m:Int):=by
  conv=>lhs;rw[e]
  exact Int.mul_ediv_cancel_left _ (by rw[pow_cast];omega)
 rw[hq,hm,Nat.mul_div_cancel_left _ hp,show decide (x<0)=true by simpa using hx,sgn_t]
theorem shr_neg1 {x:Int}(hx:x<0)(k:Nat)(h0:0<x.natAbs%2^k):sgn (decide (x<0)) (x.natAbs / 2^k+1)=x / 2^k:=by
 have hp:=Nat.two_pow_pos k
 have hdm:=Nat.div_add_mod x.natAbs (2^k)
 have hlt:=Nat.mod_lt x.natAbs hp
 rw[show decide (x<0)=true by simpa using hx,sgn_t,pow_cast]
 generalize 2^k=p at *
 generalize x.natAbs / p=q at *
 generalize x.natAbs%p=r at *
 symm
 rw[Int.ediv_eq_iff_of_pos (by omega)]
 have hxe:x=-((p*q+r:Nat):Int):=by omega
 rw[hxe]
 push_cast
 constructor
 ·rw[Int.neg_mul,Int.add_mul,Int.mul_comm (q:Int)];omega
 ·rw[Int.neg_mul,Int.add_mul,Int.mul_comm (q:Int)];omega
theorem nat_ret1 {b:Bool}(hb:b=true)(a:Nat):vsub (.agg [.bool (iGt ((lim a).length:Int) 0),N a]) (Z (sgn b a)):=by
 subst hb
 refine vsub_of (Z_mk ?_ (sgn_abs _ _).symm)
 have:=L_pos_iff a
 have:=L_len a
 rw[sgn_t]
 by_cases h:0<a
 ·rw[iGt_mk (by omega)];exact (decide_eq_true (by omega)).symm
 ·rw[iGt_mkF (by omega)];exact (decide_eq_false (by omega)).symm
theorem nat_ret2 {b:Bool}(hb:b=false)(a:Nat):vsub (.agg [.bool false,N a]) (Z (sgn b a)):=by
 subst hb
 refine vsub_of (Z_mk ?_ (sgn_abs _ _).symm)
 rw[sgn_f]
 exact (decide_eq_false (by omega)).symm
theorem of_neg {n:Int}(h:n<0):vsub (.agg [.bool true,N ((0-(n+1))+1).toNat]) (Z n):=vsub_of (Z_mk (decide_eq_true h).symm (by omega))
theorem of_pos {n:Int}(h:0≤n):vsub (.agg [.bool false,N n.toNat]) (Z n):=vsub_of (Z_mk (decide_eq_false (by omega)).symm (by omega))
end Go.Proofs.YtkkbddkpggjgpaaGreatDoor

namespace Go.Proofs.YtkkbddkpggjgpaaGreatDoor
open Go.RowKit
set_option maxRecDepth 100000
theorem nat_SubF (a b:Nat)(c0:L a≤67108864)(c1:L b≤67108864)(c2:a<b):Impl Tryz.prog Amb 196 [N a,N b] (.tup [N (a-b),.bool false]):=by
 have e2:cmpN a b<0:=by rw[cmpN_lt c2];omega
 exact impl_ob hP hAmb Tryz.func196 (by kernel_rfl) (.lit<|.call (.int .i64 (cmpN a b))<|.lit<|.yes<|.lit<|.ret)
  (cast_ob (aI True.intro (aI (nat_Cmp a b oA oA) (aI (iLt_mk oO:(iLt (cmpN a b) 0)=true) ((vsub_tup2 (by rw[show a-b=0 by omega];show vsub .nil (.sl 1 (U (limbs 0)));rw[limbs_zero];exact vsub_nil 1) (vsub_refl _):vsub (.tup [.nil,(.bool false)]) (.tup [(N (a-b)),(.bool false)])))))) (by kernel_rfl))
theorem nat_Sub2 (a b:Nat)(c0:L a≤67108864)(c1:L b≤67108864):Impl Tryz.prog Amb 196 [N a,N b] (.tup [N (a-b),.bool (decide (b≤a))]):=by
 by_cases h:b≤a
 ·rw[show decide (b≤a)=true by simpa using h]
  exact nat_Sub a b c0 c1 h
 ·rw[show decide (b≤a)=false by simpa using h]
  exact nat_SubF a b c0 c1 oO
theorem int_Nat (b:Bool)(a:Nat)(c0:L a≤67108864):Impl Tryz.prog Amb 129 [(.bool b),(N a)] (zV (sgn b a)):=by
 exact impl_ob hP hAmb Tryz.func129 (by kernel_rfl) (.lit<|.call (N a)<|.both (.lits 7<|.ret) (.lits 6<|.ret))
  (cast_ob (aI True.intro (aI (nat_TrimN a oA) (aI (fun (h1:b=true)=>(nat_ret1 h1 a:vsub (.agg [(.bool (iGt ((lim a).length:Int) 0)),(N a)]) (zV (sgn b a)))) (fun (h2:b=false)=>(nat_ret2 h2 a:vsub (.agg [(.bool false),(N a)]) (zV (sgn b a))))))) (by kernel_rfl))
theorem int_Of (n:Int)(c0:(-9223372036854775808:Int)≤n∧n≤9223372036854775807):Impl Tryz.prog Amb 130 [(.int .i64 n)] (zV n):=by
 exact impl_ob hP hAmb Tryz.func130 (by kernel_rfl) (.lit<|.both (.lit<|.yes<|.lit<|.yes<|.lit<|.yes<|.lit<|.yes<|.lit<|.call (N (((((0:Int)-(n+1))+1)).toNat))<|.lits 3<|.ret) (.lit<|.yes<|.lit<|.call (N ((n).toNat))<|.lits 3<|.ret))
  (cast_ob (aI True.intro (aI (fun (h1:(iLt n 0)=true)=>have _gh1:=iLt_t h1;aI (fits_i64 oA:(fits .i64 (n+1))=true) (aI (fits_i64 oA:(fits .i64 ((0:Int)-(n+1)))=true) (aI (fits_u64 oA:(fits .u64 ((0:Int)-(n+1)))=true) (aI (fits_u64 oA:(fits .u64 (((0:Int)-(n+1))+1))=true) (aI (nat_Of (((0:Int)-(n+1))+1) oA) ((of_neg oO:vsub (.agg [(.bool true),(N (((((0:Int)-(n+1))+1)).toNat))]) (zV n)))))))) (fun (h2:(iLt n 0)=false)=>have _gh2:=iLt_f h2;aI (fits_u64 oA:(fits .u64 n)=true) (aI (nat_Of n oA) ((of_pos oO:vsub (.agg [(.bool false),(N ((n).toNat))]) (zV n))))))) (by kernel_rfl))
theorem int_Sign (x:Int)(c0:L (x).natAbs≤67108864):Impl Tryz.prog Amb 132 [(zV x)] (.int .i64 ((x).sign)):=by
 exact impl_ob hP hAmb Tryz.func132 (by kernel_rfl) (.lits 2<|.call (.int .i64 (nbits x.natAbs:Int))<|.lit<|.both (.lit<|.ret) (.lit<|.both (.lit<|.ret) (.lit<|.ret)))
  (cast_ob (aI True.intro (aI (nat_Bits x.natAbs oA) (aI (fun (h1:(iEq (nbits x.natAbs:Int) 0)=true)=>have _gh1:=iEq_t h1;(vsub_of (congrArg (V.int .i64) (by rw[show x=0 by have:=(nbits_zero_iff x.natAbs).1 oO;omega];rfl)):vsub (.int .i64 0) (.int .i64 ((x).sign)))) (fun (h2:(iEq (nbits x.natAbs:Int) 0)=false)=>have _gh2:=iEq_f h2;aI (fun (h3:(decide (x<0))=true)=>have _gh3:=of_decide_eq_true h3;(vsub_of (congrArg (V.int .i64) (Int.sign_eq_neg_one_of_neg oO).symm):vsub (.int .i64 (-1)) (.int .i64 ((x).sign)))) (fun (h4:(decide (x<0))=false)=>have _gh4:=of_decide_eq_false h4;(vsub_of (congrArg (V.int .i64) (Int.sign_eq_one_of_pos (by have:=(nbits_zero_iff x.natAbs).2;omega)).symm):vsub (.int .i64 1) (.int .i64 ((x).sign)))))))) (by kernel_rfl))
theorem int_Valid (x:Int)(c0:L (x).natAbs≤67108864):Impl Tryz.prog Amb 186 [(zV x)] (.bool true):=by
 have e0:=L_len x.natAbs
 have e1:=L_pos_iff x.natAbs
 exact impl_ob hP hAmb Tryz.func186 (by kernel_rfl) (.lits 2<|.call (.bool true)<|.lits 7<|.both (.lits 6<|.ret) (.lits 8<|.ret))
  (cast_ob (aI True.intro (aI (nat_Valid x.natAbs oA) (aI (fun (h1:(iGt ((lim x.natAbs).length:Int) 0)=true)=>have _gh1:=iGt_t h1;(vsub_refl (.bool true))) (fun (h2:(iGt ((lim x.natAbs).length:Int) 0)=false)=>have _gh2:=iGt_f h2;(vsub_of (congrArg V.bool (by first | rfl | (apply iGt_mk;omega) | (apply iGt_mk;rw[L_len];omega) | simp_all | (simp;omega))):vsub (.bool (!(decide (x<0)))) (.bool true)))))) (by kernel_rfl))
theorem int_Neg (x:Int)(c0:L (x).natAbs≤67108864):Impl Tryz.prog Amb 155 [(zV x)] (zV (-x)):=by
 exact impl_ob hP hAmb Tryz.func155 (by kernel_rfl) (.lits 4<|.call (zV (sgn (!(decide (x<0))) x.natAbs))<|.lits 2<|.ret)
  (cast_ob (aI True.intro (aI (int_Nat (!(decide (x<0))) x.natAbs oA) ((Z_of (by unfold sgn;by_cases h:x<0<;>simp [h]<;>omega):vsub (zV (sgn (!(decide (x<0))) x.natAbs)) (zV (-x)))))) (by kernel_rfl))
theorem int_Cmp (x y:Int)(c0:L (x).natAbs≤67108864)(c1:L (y).natAbs≤67108864):Impl Tryz.prog Amb 162 [(zV x),(zV y)] (.int .i64 (cmpI x y)):=by
 exact impl_ob hP hAmb Tryz.func162 (by kernel_rfl) (.lit<|.both (.lits 3<|.both (.lits 3<|.call (.int .i64 (cmpN y.natAbs x.natAbs))<|.lit<|.ret) (.lit<|.both (.lit<|.ret) (.lit<|.both (.lit<|.ret) (.lits 3<|.call (.int .i64 (cmpN x.natAbs y.natAbs))<|.lit<|.ret)))) (.lits 4<|.both (.lit<|.ret) (.lit<|.both (.lit<|.ret) (.lits 3<|.call (.int .i64 (cmpN x.natAbs y.natAbs))<|.lit<|.ret))))
  (cast_ob (aI True.intro (aI (fun (h1:(decide (x<0))=true)=>have _gh1:=of_decide_eq_true h1;aI (fun (h2:(decide (y<0))=true)=>have _gh2:=of_decide_eq_true h2;aI (nat_Cmp y.natAbs x.natAbs oA oA) ((vsub_of (congrArg (V.int .i64) (by unfold cmpI;(try unfold cmpN);repeat' split<;>omega)):vsub (.int .i64 (cmpN y.natAbs x.natAbs)) (.int .i64 (cmpI x y))))) (fun (h3:(decide (y<0))=false)=>have _gh3:=of_decide_eq_false h3;aI (fun (h4:(decide (x<0))=true)=>have _gh4:=of_decide_eq_true h4;(vsub_of (congrArg (V.int .i64) (by unfold cmpI;(try unfold cmpN);repeat' split<;>omega)):vsub (.int .i64 (-1)) (.int .i64 (cmpI x y)))) (fun (h5:(decide (x<0))=false)=>have _gh5:=of_decide_eq_false h5;aI (fun (h6:(decide (y<0))=true)=>have _gh6:=of_decide_eq_true h6;(vsub_of (congrArg (V.int .i64) (by unfold cmpI;(try unfold cmpN);repeat' split<;>omega)):vsub (.int .i64 1) (.int .i64 (cmpI x y)))) (fun (h7:(decide (y<0))=false)=>have _gh7:=of_decide_eq_false h7;aI (nat_Cmp x.natAbs y.natAbs oA oA) ((vsub_of (congrArg (V.int .i64) (by unfold cmpI;(try unfold cmpN);repeat' split<;>omega)):vsub (.int .i64 (cmpN x.natAbs y.natAbs)) (.int .i64 (cmpI x y)))))))) (fun (h8:(decide (x<0))=false)=>have _gh8:=of_decide_eq_false h8;aI (fun (h9:(decide (x<0))=true)=>have _gh9:=of_decide_eq_true h9;(vsub_of (congrArg (V.int .i64) (by unfold cmpI;(try unfold cmpN);repeat' split<;>omega)):vsub (.int .i64 (-1)) (.int .i64 (cmpI x y)))) (fun (h10:(decide (x<0))=false)=>have _gh10:=of_decide_eq_false h10;aI (fun (h11:(decide (y<0))=true)=>have _gh11:=of_decide_eq_true h11;(vsub_of (congrArg (V.int .i64) (by unfold cmpI;(try unfold cmpN);repeat' split<;>omega)):vsub (.int .i64 1) (.int .i64 (cmpI x y)))) (fun (h12:(decide (y<0))=false)=>have _gh12:=of_decide_eq_false h12;aI (nat_Cmp x.natAbs y.natAbs oA oA) ((vsub_of (congrArg (V.int .i64) (by unfold cmpI;(try unfold cmpN);repeat' split<;>omega)):vsub (.int .i64 (cmpN x.natAbs y.natAbs)) (.int .i64 (cmpI x y))))))))) (by kernel_rfl))
theorem int_Add (x y:Int)(c0:L (x).natAbs≤33554432)(c1:L (y).natAbs≤33554432):Impl Tryz.prog Amb 146 [(zV x),(zV y)] (zV (x+y)):=by
 have l0:=L_add x.natAbs y.natAbs
 have l1:=L_sub x.natAbs y.natAbs
 have l2:=L_sub y.natAbs x.natAbs
 exact impl_ob hP hAmb Tryz.func146 (by kernel_rfl) (.lits 3<|.both (.lits 4<|.call (N (x.natAbs+y.natAbs))<|.lit<|.call (zV (sgn (decide (x<0)) (x.natAbs+y.natAbs)))<|.lits 2<|.ret) (.lits 3<|.call (.tup [(N (x.natAbs-y.natAbs)),(.bool (decide (y.natAbs≤x.natAbs)))])<|.both (.lits 2<|.call (zV (sgn (decide (x<0)) (x.natAbs-y.natAbs)))<|.lits 2<|.ret) (.lits 3<|.call (.tup [(N (y.natAbs-x.natAbs)),(.bool (decide (x.natAbs≤y.natAbs)))])<|.lits 2<|.call (zV (sgn (decide (y<0)) (y.natAbs-x.natAbs)))<|.lits 2<|.ret)))
  (cast_ob (aI True.intro (aI (fun (h1:(bEq (decide (x<0)) (decide (y<0)))=true)=>have _gh1:=bEq_t h1;aI (nat_Add x.natAbs y.natAbs oA oA) (aI (int_Nat (decide (x<0)) (x.natAbs+y.natAbs) oA) ((Z_of (sgn_nat (fun h=>by omega) (fun h=>by omega)):vsub (zV (sgn (decide (x<0)) (x.natAbs+y.natAbs))) (zV (x+y)))))) (fun (h2:(bEq (decide (x<0)) (decide (y<0)))=false)=>have _gh2:=bEq_f h2;aI (nat_Sub2 x.natAbs y.natAbs oA oA) (aI (fun (h3:(decide (y.natAbs≤x.natAbs))=true)=>have _gh3:=of_decide_eq_true h3;aI (int_Nat (decide (x<0)) (x.natAbs-y.natAbs) oA) ((Z_of (sgn_nat (fun h=>by omega) (fun h=>by omega)):vsub (zV (sgn (decide (x<0)) (x.natAbs-y.natAbs))) (zV (x+y))))) (fun (h4:(decide (y.natAbs≤x.natAbs))=false)=>have _gh4:=of_decide_eq_false h4;aI (nat_Sub2 y.natAbs x.natAbs oA oA) (aI (int_Nat (decide (y<0)) (y.natAbs-x.natAbs) oA) ((Z_of (sgn_nat (fun h=>by omega) (fun h=>by omega)):vsub (zV (sgn (decide (y<0)) (y.natAbs-x.natAbs))) (zV (x+y)))))))))) (by kernel_rfl))
theorem int_Sub (x y:Int)(c0:L (x).natAbs≤33554432)(c1:L (y).natAbs≤33554432):Impl Tryz.prog Amb 192 [(zV x),(zV y)] (zV (x-y)):=by
 have l0:=L_abs_neg y
 exact impl_ob hP hAmb Tryz.func192 (by kernel_rfl) (.lits 3<|.call (zV (-y))<|.lit<|.call (zV (x+(-y)))<|.lits 2<|.ret)
  (cast_ob (aI True.intro (aI (int_Neg y oA) (aI (int_Add x (-y) oA oA) ((Z_of oO:vsub (zV (x+(-y))) (zV (x-y))))))) (by kernel_rfl))
theorem int_Mul (x y:Int)(c0:L (x).natAbs≤33554432)(c1:L (y).natAbs≤33554432):Impl Tryz.prog Amb 160 [(zV x),(zV y)] (zV (x*y)):=by
 have l0:=L_mul x.natAbs y.natAbs
 exact impl_ob hP hAmb Tryz.func160 (by kernel_rfl) (.lits 6<|.call (N (x.natAbs*y.natAbs))<|.lit<|.call (zV (sgn (!(bEq (decide (x<0)) (decide (y<0)))) (x.natAbs*y.natAbs)))<|.lits 2<|.ret)
  (cast_ob (aI True.intro (aI (prod_Mul x.natAbs y.natAbs oA oA) (aI (int_Nat (!(bEq (decide (x<0)) (decide (y<0)))) (x.natAbs*y.natAbs) oA) ((Z_of (sgn_mul x y):vsub (zV (sgn (!(bEq (decide (x<0)) (decide (y<0)))) (x.natAbs*y.natAbs))) (zV (x*y))))))) (by kernel_rfl))
theorem int_Shl (x n:Int)(c0:L (x).natAbs≤33554432)(c1:(0:Int)≤n∧n≤1048576):Impl Tryz.prog Amb 153 [(zV x),(.int .i64 n)] (zV (x*2^(n).toNat)):=by
 have l0:=L_shl x.natAbs n.toNat
 exact impl_ob hP hAmb Tryz.func153 (by kernel_rfl) (.lits 3<|.call (N (x.natAbs*2^(n).toNat))<|.lit<|.call (zV (sgn (decide (x<0)) (x.natAbs*2^(n).toNat)))<|.lits 2<|.ret)
  (cast_ob (aI True.intro (aI (nat_Shl x.natAbs n oA oA) (aI (int_Nat (decide (x<0)) (x.natAbs*2^(n).toNat) oA) ((Z_of (sgn_shl x _):vsub (zV (sgn (decide (x<0)) (x.natAbs*2^(n).toNat))) (zV (x*2^(n).toNat))))))) (by kernel_rfl))
theorem int_Shr (x n:Int)(c0:L (x).natAbs≤33554432)(c1:(0:Int)≤n∧n≤1048576):Impl Tryz.prog Amb 193 [(zV x),(.int .i64 n)] (zV (x / 2^(n).toNat)):=by
 have l0:=L_div x.natAbs (2^n.toNat)
 have l1:=L_add (x.natAbs / 2^n.toNat) 1
 have l2:=L_mod x.natAbs (2^n.toNat)
 have e1:=L_len (x.natAbs%2^n.toNat)
 have e2:=L_pos_iff (x.natAbs%2^n.toNat)
 have l3:=L_le (n:=1) (k:=1) (by decide)
 exact impl_ob hP hAmb Tryz.func193 (by kernel_rfl) (.lits 2<|.call (N (x.natAbs / 2^(n).toNat))<|.lit<|.both (.lits 5<|.call (N (x.natAbs%2^(n).toNat))<|.lits 4<|.both (.lit<|.call (N 1)<|.lit<|.call (N ((x.natAbs / 2^(n).toNat)+1))<|.lits 2<|.call (zV (sgn (decide (x<0)) ((x.natAbs / 2^(n).toNat)+1)))<|.lits 2<|.ret) (.lits 2<|.call (zV (sgn (decide (x<0)) (x.natAbs / 2^(n).toNat)))<|.lits 2<|.ret)) (.lits 9<|.call (zV (sgn (decide (x<0)) (x.natAbs / 2^(n).toNat)))<|.lits 2<|.ret))
  (cast_ob (aI True.intro (aI (nat_Shr x.natAbs n oA oA) (aI (fun (h1:(decide (x<0))=true)=>have _gh1:=of_decide_eq_true h1;aI (nat_Low x.natAbs n oA oA) (aI (fun (h2:(iGt ((lim (x.natAbs%2^(n).toNat)).length:Int) 0)=true)=>have _gh2:=iGt_t h2;aI (nat_Of 1 oA) (aI (nat_Add (x.natAbs / 2^(n).toNat) 1 oA oA) (aI (int_Nat (decide (x<0)) ((x.natAbs / 2^(n).toNat)+1) oA) ((Z_of (shr_neg1 oO _ oO):vsub (zV (sgn (decide (x<0)) ((x.natAbs / 2^(n).toNat)+1))) (zV (x / 2^(n).toNat))))))) (fun (h3:(iGt ((lim (x.natAbs%2^(n).toNat)).length:Int) 0)=false)=>have _gh3:=iGt_f h3;aI (int_Nat (decide (x<0)) (x.natAbs / 2^(n).toNat) oA) ((Z_of (shr_neg0 oO _ oO):vsub (zV (sgn (decide (x<0)) (x.natAbs / 2^(n).toNat))) (zV (x / 2^(n).toNat))))))) (fun (h4:(decide (x<0))=false)=>have _gh4:=of_decide_eq_false h4;aI (int_Nat (decide (x<0)) (x.natAbs / 2^(n).toNat) oA) ((Z_of (shr_pos oO _):vsub (zV (sgn (decide (x<0)) (x.natAbs / 2^(n).toNat))) (zV (x / 2^(n).toNat)))))))) (by kernel_rfl))
end Go.Proofs.YtkkbddkpggjgpaaGreatDoor
