/-
  Lower layers: what functions of the program compute, and plain facts. Conditions: as the theorems say.
-/
import Derived.BigRegion
import Derived.RegionTactic
import Derived.ChangeAlike
import Derived.WalkKit
import Derived.Test.YtkkbddkpggjgpaaGreatDoorPiN
set_option linter.unusedVariables false
set_option linter.unusedSimpArgs false
namespace Go.Proofs.YtkkbddkpggjgpaaGreatDoor
open Go.RowKit
set_option maxRecDepth 100000
theorem qdm_loop (a b:Nat)(s:Int)(c0:L a≤16777216∧L b≤16777216)(c1:2≤L (b*2^s.toNat))(c2:2147483648≤(limbs (b*2^s.toNat)).getD (L (b*2^s.toNat)-1) 0)(c3:0≤s∧s≤32)(x0:Int × List V × List V × List Nat × List Nat)(hI:qdm_loop_I a b s x0):LoopOk Tryz.prog Amb (loopN Tryz.f200 0) (qdm_loop_mk a b s x0) (fun e st_=>∃ y,qdm_loop_J a b s y∧qdm_loop_ex a b s y=(e,st_)) :=
 loop_ob hP hAmb ⟨[10,11,12,13,14,15],4,[]⟩ (qdm_loop_mk a b s) (qdm_loop_I a b s) (qdm_loop_mu a b s) (qdm_loop_ex a b s) (qdm_loop_J a b s) x0 hI (fun (k,o0,o,lu,lq)=>.lit<|.both (.lit<|.yes<|.lit<|.yes<|.yes<|.yes<|.callM (U (lowL lu ((0+k.toNat)+L (b*2^s.toNat)+1) (Xd lu (0+k.toNat) (L (b*2^s.toNat))%(4294967296^(0+k.toNat)*(b*2^s.toNat))))) (.int .u32 ((kq lu (0+k.toNat) (b*2^s.toNat):Nat):Int))<|.lit<|.yes<|.yes<|.lit<|.yes<|.fin2 ⟨[10,11,12,13,14,15],4,[]⟩) (.fin2 ⟨[10,11,12,13,14],4,[]⟩)) (by
  rintro ⟨k,o0,o,lu,lq⟩ hI
  have hI:(o0=U lu∧o=U lq)∧DvIn (a*2^s.toNat) (b*2^s.toNat) (L (a*2^s.toNat)+1-L (b*2^s.toNat)) k lu lq:=hI
  obtain⟨⟨rfl,rfl⟩,h1⟩:=hI
  have e0:=L_len (b*2^s.toNat)
  have e1:=U_len lu
  have e2:=U_len lq
  have ⟨p0,p1,p2,p3,p4,p5,_⟩:=h1
  have hkn:0≤k→Kn lu (0+k.toNat) (b*2^s.toNat):=fun q=>by rw[Nat.zero_add];exact dv_kn h1 q c1 c2
  have hls:=L_shl a s.toNat
  have hz:0+k.toNat=k.toNat:=Nat.zero_add _
  have hnx:0≤k→DvIn (a*2^s.toNat) (b*2^s.toNat) (L (a*2^s.toNat)+1-L (b*2^s.toNat)) (k-1) (lowL lu (0+k.toNat+L (b*2^s.toNat)+1) (Xd lu (0+k.toNat) (L (b*2^s.toNat))%(4294967296^(0+k.toNat)*(b*2^s.toNat)))) (lq.set k.toNat (kq lu (0+k.toNat) (b*2^s.toNat))):=fun q=>by rw[hz];exact dv_next h1 q c1 c2
  have hx:=fun q=>(hkn q).qlt
  exact cast_ob (aI True.intro (aI (fun (h101:(iGe k 0)=true)=>have _gh101:=iGe_t h101;aI (fits_i64 oO:(fits .i64 (k+((lim (b*2^s.toNat)).length:Int)))=true) (aI (fits_i64 oO:(fits .i64 ((k+((lim (b*2^s.toNat)).length:Int))+1))=true) (aI (and_mk (and_mk (and_mk (iLe_mk oO) (iLe_mk oO)) (iLe_mk oO)) (or_mk2 oO):((((iLe (0:Int) k) && (iLe k ((k+((lim (b*2^s.toNat)).length:Int))+1))) && (iLe ((k+((lim (b*2^s.toNat)).length:Int))+1) ((L (a*2^s.toNat)+1):Int))) && ((iEq k 0) || (iLt k ((L (a*2^s.toNat)+1):Int))))=true) (aI (ok_arg oO:((true && Nat.ble ((0+k.toNat)+(((k+((lim (b*2^s.toNat)).length:Int))+1)-k).toNat) (U lu).length) && (true && true))=true) (aI (quot_digit lu (0+k.toNat) ((((k+((lim (b*2^s.toNat)).length:Int))+1)-k).toNat) (b*2^s.toNat) (hkn oO) oO oO) (aI (inB_mk oO:(inB k ((((L (a*2^s.toNat)+1):Int)-((lim (b*2^s.toNat)).length:Int)).toNat))=true) (aI (st_ok oO:(Nat.ble ((0+k.toNat)+1) (U lq).length)=true) (aI (fits_i64 oO:(fits .i64 (k-1))=true) (aI tT ((nx_next ((k-1),(U (lowL lu ((0+k.toNat)+L (b*2^s.toNat)+1) (Xd lu (0+k.toNat) (L (b*2^s.toNat))%(4294967296^(0+k.toNat)*(b*2^s.toNat))))),(List.set (U lq) (0+k.toNat) (.int .u32 ((kq lu (0+k.toNat) (b*2^s.toNat):Nat):Int))),(lowL lu ((0+k.toNat)+L (b*2^s.toNat)+1) (Xd lu (0+k.toNat) (L (b*2^s.toNat))%(4294967296^(0+k.toNat)*(b*2^s.toNat)))),(lq.set k.toNat (kq lu (0+k.toNat) (b*2^s.toNat)))) (show ((U (lowL lu ((0+k.toNat)+L (b*2^s.toNat)+1) (Xd lu (0+k.toNat) (L (b*2^s.toNat))%(4294967296^(0+k.toNat)*(b*2^s.toNat)))))=U (lowL lu ((0+k.toNat)+L (b*2^s.toNat)+1) (Xd lu (0+k.toNat) (L (b*2^s.toNat))%(4294967296^(0+k.toNat)*(b*2^s.toNat))))∧(List.set (U lq) (0+k.toNat) (.int .u32 ((kq lu (0+k.toNat) (b*2^s.toNat):Nat):Int)))=U (lq.set k.toNat (kq lu (0+k.toNat) (b*2^s.toNat))))∧DvIn (a*2^s.toNat) (b*2^s.toNat) (L (a*2^s.toNat)+1-L (b*2^s.toNat)) (k-1) (lowL lu ((0+k.toNat)+L (b*2^s.toNat)+1) (Xd lu (0+k.toNat) (L (b*2^s.toNat))%(4294967296^(0+k.toNat)*(b*2^s.toNat)))) (lq.set k.toNat (kq lu (0+k.toNat) (b*2^s.toNat))) from ⟨⟨rfl,setU _ oO rfl⟩,hnx oO⟩) (show (k-1+1).toNat<(k+1).toNat by omega):qdm_loop_N a b s (k,(U lu),(U lq),lu,lq) .normal (qdm_loop_mk a b s ((k-1),(U (lowL lu ((0+k.toNat)+L (b*2^s.toNat)+1) (Xd lu (0+k.toNat) (L (b*2^s.toNat))%(4294967296^(0+k.toNat)*(b*2^s.toNat))))),(List.set (U lq) (0+k.toNat) (.int .u32 ((kq lu (0+k.toNat) (b*2^s.toNat):Nat):Int))),(lowL lu ((0+k.toNat)+L (b*2^s.toNat)+1) (Xd lu (0+k.toNat) (L (b*2^s.toNat))%(4294967296^(0+k.toNat)*(b*2^s.toNat)))),(lq.set k.toNat (kq lu (0+k.toNat) (b*2^s.toNat)))))))))))))))) (fun (h102:(iGe k 0)=false)=>have _gh102:=iGe_f h102;aI tT ((nx_exit 1 ((qdm_loop_ex a b s (lu,lq)).2) (lu,lq) (show DvIn (a*2^s.toNat) (b*2^s.toNat) (L (a*2^s.toNat)+1-L (b*2^s.toNat)) (-1) lu lq from (show k=-1 by omega) ▸ h1) rfl:qdm_loop_N a b s (k,(U lu),(U lq),lu,lq) (.exit 1) ((qdm_loop_ex a b s (lu,lq)).2)))))) (by kernel_rfl))
theorem quot_DivMod (a:Nat)(b:Nat)(c0:L a≤16777216)(c1:L b≤16777216)(c2:0<b):Impl Tryz.prog Amb 200 [(N a),(N b)] (.tup [(N (a / b)),(N (a%b)),(.bool true)]):=by
 have e0:=L_len a
 have e1:=L_len b
 have p0:=L_pos (show b≠0 by omega)
 have hcm:=cmpN_or a b
 have tb:=top_bits b p0
 have g0:=gi_b (dig_limbs b) (((lim b).length:Int)-1).toNat
 have g1:=gi_b (dig_limbs b) 0
 have eT:(((lim b).length:Int)-1).toNat=((L b:Int)-1).toNat:=by rw[L_len]
 have hs:nbits b+((32-(Lib.bitLen (gi (limbs b) (((lim b).length:Int)-1).toNat).toNat:Int))).toNat=32*L b:=by rw[eT];omega
 have hsr:0≤(32-(Lib.bitLen (gi (limbs b) (((lim b).length:Int)-1).toNat).toNat:Int))∧(32-(Lib.bitLen (gi (limbs b) (((lim b).length:Int)-1).toNat).toNat:Int))≤32:=by rw[eT];omega
 have hno0:=kn_norm (show b≠0 by omega) hs
 have hno:L (b*2^((32-(Lib.bitLen (gi (limbs b) (((lim b).length:Int)-1).toNat).toNat:Int))).toNat)=L b∧2147483648≤(limbs (b*2^((32-(Lib.bitLen (gi (limbs b) (((lim b).length:Int)-1).toNat).toNat:Int))).toNat)).getD (L (b*2^((32-(Lib.bitLen (gi (limbs b) (((lim b).length:Int)-1).toNat).toNat:Int))).toNat)-1) 0:=by rw[hno0.1];exact⟨rfl,hno0.2⟩
 have e2:=L_len (b*2^((32-(Lib.bitLen (gi (limbs b) (((lim b).length:Int)-1).toNat).toNat:Int))).toNat)
 have hls:=L_shl a ((32-(Lib.bitLen (gi (limbs b) (((lim b).length:Int)-1).toNat).toNat:Int))).toNat
 have hft:b≤a→(a*2^((32-(Lib.bitLen (gi (limbs b) (((lim b).length:Int)-1).toNat).toNat:Int))).toNat)<4294967296^(L (a*2^((32-(Lib.bitLen (gi (limbs b) (((lim b).length:Int)-1).toNat).toNat:Int))).toNat)+1-L (b*2^((32-(Lib.bitLen (gi (limbs b) (((lim b).length:Int)-1).toNat).toNat:Int))).toNat))*(b*2^((32-(Lib.bitLen (gi (limbs b) (((lim b).length:Int)-1).toNat).toNat:Int))).toNat)∧L (a*2^((32-(Lib.bitLen (gi (limbs b) (((lim b).length:Int)-1).toNat).toNat:Int))).toNat)+1=(L (a*2^((32-(Lib.bitLen (gi (limbs b) (((lim b).length:Int)-1).toNat).toNat:Int))).toNat)+1-L (b*2^((32-(Lib.bitLen (gi (limbs b) (((lim b).length:Int)-1).toNat).toNat:Int))).toNat))+L (b*2^((32-(Lib.bitLen (gi (limbs b) (((lim b).length:Int)-1).toNat).toNat:Int))).toNat):=fun h=>dv_fit (Nat.mul_le_mul_right _ h) (fun q=>by rw[q,L_zero] at hno;omega)
 have g3:L b=1→gi (limbs b) 0=(b:Int):=gi_one
 have gm:L b=1→0≤((a%(gi (limbs b) 0).toNat:Nat):Int)∧((a%(gi (limbs b) 0).toNat:Nat):Int)<4294967296:=fun q=>by have:=Nat.mod_lt a (show 0<(gi (limbs b) 0).toNat by rw[gi_one q];omega);omega
 exact impl_ob hP hAmb Tryz.func200 (by kernel_rfl) (.lit<|.call (N a)<|.lit<|.call (N b)<|.lit<|.no<|.lit<|.call (.int .i64 (cmpN a b))<|.lit<|.both (.lit<|.ret) (.lit<|.both (.yes<|.yes<|.lit<|.call (.tup [(N (a / ((gi (limbs b) 0)).toNat)),(.int .u32 ((a%((gi (limbs b) 0)).toNat:Nat):Int)),(.bool true)])<|.lit<|.yes<|.lit<|.call (N ((((a%((gi (limbs b) 0)).toNat:Nat):Int)).toNat))<|.lit<|.ret) (.lit<|.yes<|.yes<|.yes<|.lit<|.call (.int .i64 (32-(Lib.bitLen ((gi (limbs b) ((((lim b).length:Int)-1).toNat))).toNat:Int)))<|.lit<|.call (N (b*2^((32-(Lib.bitLen ((gi (limbs b) ((((lim b).length:Int)-1).toNat))).toNat:Int))).toNat))<|.lit<|.callO 1 (L (a*2^((32-(Lib.bitLen ((gi (limbs b) ((((lim b).length:Int)-1).toNat))).toNat:Int))).toNat)) (lim (a*2^((32-(Lib.bitLen ((gi (limbs b) ((((lim b).length:Int)-1).toNat))).toNat:Int))).toNat))<|.yes<|.lit<|.yes<|.yes<|.lit<|.yes<|.lit<|.yes<|.loop ⟨[10,11,12,13,14,15],4,[]⟩ ((qdm_loop_mk a b (32-(Lib.bitLen (gi (limbs b) (((lim b).length:Int)-1).toNat).toNat:Int)) ((((((L (a*2^((32-(Lib.bitLen ((gi (limbs b) ((((lim b).length:Int)-1).toNat))).toNat:Int))).toNat))+1):Int)-((lim (b*2^((32-(Lib.bitLen ((gi (limbs b) ((((lim b).length:Int)-1).toNat))).toNat:Int))).toNat)).length:Int))-1),((lim (a*2^((32-(Lib.bitLen ((gi (limbs b) ((((lim b).length:Int)-1).toNat))).toNat:Int))).toNat)) ++ [(V.int .u32 0)]),(List.replicate (((((L (a*2^((32-(Lib.bitLen ((gi (limbs b) ((((lim b).length:Int)-1).toNat))).toNat:Int))).toNat))+1):Int)-((lim (b*2^((32-(Lib.bitLen ((gi (limbs b) ((((lim b).length:Int)-1).toNat))).toNat:Int))).toNat)).length:Int)).toNat) (.int .u32 0)),(limbs (a*2^(32-(Lib.bitLen (gi (limbs b) (((lim b).length:Int)-1).toNat).toNat:Int)).toNat) ++ [0]),(List.replicate (L (a*2^(32-(Lib.bitLen (gi (limbs b) (((lim b).length:Int)-1).toNat).toNat:Int)).toNat)+1-L (b*2^(32-(Lib.bitLen (gi (limbs b) (((lim b).length:Int)-1).toNat).toNat:Int)).toNat)) 0)))) (List Nat × List Nat) (qdm_loop_ex a b (32-(Lib.bitLen (gi (limbs b) (((lim b).length:Int)-1).toNat).toNat:Int))) (qdm_loop_J a b (32-(Lib.bitLen (gi (limbs b) (((lim b).length:Int)-1).toNat).toNat:Int))) (fun y=>.yes<|.call (N (val y.2))<|.yes<|.yes<|.call (N (val (y.1.take (L (b*2^((32-(Lib.bitLen (gi (limbs b) (((lim b).length:Int)-1).toNat).toNat:Int))).toNat)))))<|.lit<|.call (N ((val (y.1.take (L (b*2^((32-(Lib.bitLen (gi (limbs b) (((lim b).length:Int)-1).toNat).toNat:Int))).toNat)))) / 2^((32-(Lib.bitLen (gi (limbs b) (((lim b).length:Int)-1).toNat).toNat:Int))).toNat))<|.lit<|.ret))))
  (cast_ob (aI True.intro (aI (nat_TrimN a oA) (aI (nat_TrimN b oA) (aI (iEq_mkF oO:(iEq ((lim b).length:Int) 0)=false) (aI (nat_Cmp a b oA oA) (aI (fun (h1:(iLt (cmpN a b) 0)=true)=>have _gh1:=iLt_t h1;(by have h:a<b:=oO;rw[Nat.div_eq_of_lt h,Nat.mod_eq_of_lt h];exact vsub_tup3 (by show vsub .nil (.sl 1 (U (limbs 0)));rw[limbs_zero];exact vsub_nil 1) (vsub_refl _) (vsub_refl _):vsub (.tup [.nil,(N a),(.bool true)]) (.tup [(N (a / b)),(N (a%b)),(.bool true)]))) (fun (h2:(iLt (cmpN a b) 0)=false)=>have _gh2:=iLt_f h2;aI (fun (h3:(iEq ((lim b).length:Int) 1)=true)=>have _gh3:=iEq_t h3;aI (inB_mk oA:(inB (0:Int) ((lim b).length))=true) (aI (ld_L oA:(Nat.blt 0 (lim b).length && isIntK .u32 (nth (lim b) 0 .unk))=true) (aI (quot_SmallI a (gi (limbs b) 0) oA oA) (aI (fits_u64 oA:(fits .u64 ((a%((gi (limbs b) 0)).toNat:Nat):Int))=true) (aI (nat_Of ((a%((gi (limbs b) 0)).toNat:Nat):Int) oA) ((by rw[gi_one (show L b=1 by omega)];exact vsub_refl _:vsub (.tup [(N (a / ((gi (limbs b) 0)).toNat)),(N ((((a%((gi (limbs b) 0)).toNat:Nat):Int)).toNat)),(.bool true)]) (.tup [(N (a / b)),(N (a%b)),(.bool true)])))))))) (fun (h4:(iEq ((lim b).length:Int) 1)=false)=>have _gh4:=iEq_f h4;aI (fits_i64 oA:(fits .i64 (((lim b).length:Int)-1))=true) (aI (inB_mk oA:(inB (((lim b).length:Int)-1) ((lim b).length))=true) (aI (ld_L oA:(Nat.blt ((((lim b).length:Int)-1).toNat) (lim b).length && isIntK .u32 (nth (lim b) ((((lim b).length:Int)-1).toNat) .unk))=true) (aI (bits_LZ32 (gi (limbs b) ((((lim b).length:Int)-1).toNat)) oA) (aI (nat_Shl b (32-(Lib.bitLen ((gi (limbs b) ((((lim b).length:Int)-1).toNat))).toNat:Int)) oA oA) (aI (nat_ShlO a (32-(Lib.bitLen ((gi (limbs b) ((((lim b).length:Int)-1).toNat))).toNat:Int)) oA oA oA) (aI (and_mk (and_mk (and_mk (rfl) rfl) (st_ok oA)) (by first | rfl | (simp<;>omega) | (rw[L_len];simp)):(true && true && Nat.ble ((L (a*2^((32-(Lib.bitLen ((gi (limbs b) ((((lim b).length:Int)-1).toNat))).toNat:Int))).toNat))+1) 1073741824 && Nat.beq (lim (a*2^((32-(Lib.bitLen ((gi (limbs b) ((((lim b).length:Int)-1).toNat))).toNat:Int))).toNat)).length (L (a*2^((32-(Lib.bitLen ((gi (limbs b) ((((lim b).length:Int)-1).toNat))).toNat:Int))).toNat)))=true) (aI (fits_i64 oA:(fits .i64 ((((L (a*2^((32-(Lib.bitLen ((gi (limbs b) ((((lim b).length:Int)-1).toNat))).toNat:Int))).toNat))+1):Int)-((lim (b*2^((32-(Lib.bitLen ((gi (limbs b) ((((lim b).length:Int)-1).toNat))).toNat:Int))).toNat)).length:Int)))=true) (aI (mk_ok oA:(((iEq ((((L (a*2^((32-(Lib.bitLen ((gi (limbs b) ((((lim b).length:Int)-1).toNat))).toNat:Int))).toNat))+1):Int)-((lim (b*2^((32-(Lib.bitLen ((gi (limbs b) ((((lim b).length:Int)-1).toNat))).toNat:Int))).toNat)).length:Int)) ((((L (a*2^((32-(Lib.bitLen ((gi (limbs b) ((((lim b).length:Int)-1).toNat))).toNat:Int))).toNat))+1):Int)-((lim (b*2^((32-(Lib.bitLen ((gi (limbs b) ((((lim b).length:Int)-1).toNat))).toNat:Int))).toNat)).length:Int))) && (iLe 0 ((((L (a*2^((32-(Lib.bitLen ((gi (limbs b) ((((lim b).length:Int)-1).toNat))).toNat:Int))).toNat))+1):Int)-((lim (b*2^((32-(Lib.bitLen ((gi (limbs b) ((((lim b).length:Int)-1).toNat))).toNat:Int))).toNat)).length:Int)))) && (iLe ((((L (a*2^((32-(Lib.bitLen ((gi (limbs b) ((((lim b).length:Int)-1).toNat))).toNat:Int))).toNat))+1):Int)-((lim (b*2^((32-(Lib.bitLen ((gi (limbs b) ((((lim b).length:Int)-1).toNat))).toNat:Int))).toNat)).length:Int)) 1073741824))=true) (aI (fits_i64 oA:(fits .i64 ((((L (a*2^((32-(Lib.bitLen ((gi (limbs b) ((((lim b).length:Int)-1).toNat))).toNat:Int))).toNat))+1):Int)-((lim (b*2^((32-(Lib.bitLen ((gi (limbs b) ((((lim b).length:Int)-1).toNat))).toNat:Int))).toNat)).length:Int)))=true) (aI (fits_i64 oA:(fits .i64 (((((L (a*2^((32-(Lib.bitLen ((gi (limbs b) ((((lim b).length:Int)-1).toNat))).toNat:Int))).toNat))+1):Int)-((lim (b*2^((32-(Lib.bitLen ((gi (limbs b) ((((lim b).length:Int)-1).toNat))).toNat:Int))).toNat)).length:Int))-1))=true) (aI tT (aI (rfl:(qdm_loop_mk a b (32-(Lib.bitLen (gi (limbs b) (((lim b).length:Int)-1).toNat).toNat:Int)) ((((((L (a*2^((32-(Lib.bitLen ((gi (limbs b) ((((lim b).length:Int)-1).toNat))).toNat:Int))).toNat))+1):Int)-((lim (b*2^((32-(Lib.bitLen ((gi (limbs b) ((((lim b).length:Int)-1).toNat))).toNat:Int))).toNat)).length:Int))-1),((lim (a*2^((32-(Lib.bitLen ((gi (limbs b) ((((lim b).length:Int)-1).toNat))).toNat:Int))).toNat)) ++ [(V.int .u32 0)]),(List.replicate (((((L (a*2^((32-(Lib.bitLen ((gi (limbs b) ((((lim b).length:Int)-1).toNat))).toNat:Int))).toNat))+1):Int)-((lim (b*2^((32-(Lib.bitLen ((gi (limbs b) ((((lim b).length:Int)-1).toNat))).toNat:Int))).toNat)).length:Int)).toNat) (.int .u32 0)),(limbs (a*2^(32-(Lib.bitLen (gi (limbs b) (((lim b).length:Int)-1).toNat).toNat:Int)).toNat) ++ [0]),(List.replicate (L (a*2^(32-(Lib.bitLen (gi (limbs b) (((lim b).length:Int)-1).toNat).toNat:Int)).toNat)+1-L (b*2^(32-(Lib.bitLen (gi (limbs b) (((lim b).length:Int)-1).toNat).toNat:Int)).toNat)) 0)))=(qdm_loop_mk a b (32-(Lib.bitLen (gi (limbs b) (((lim b).length:Int)-1).toNat).toNat:Int)) ((((((L (a*2^((32-(Lib.bitLen ((gi (limbs b) ((((lim b).length:Int)-1).toNat))).toNat:Int))).toNat))+1):Int)-((lim (b*2^((32-(Lib.bitLen ((gi (limbs b) ((((lim b).length:Int)-1).toNat))).toNat:Int))).toNat)).length:Int))-1),((lim (a*2^((32-(Lib.bitLen ((gi (limbs b) ((((lim b).length:Int)-1).toNat))).toNat:Int))).toNat)) ++ [(V.int .u32 0)]),(List.replicate (((((L (a*2^((32-(Lib.bitLen ((gi (limbs b) ((((lim b).length:Int)-1).toNat))).toNat:Int))).toNat))+1):Int)-((lim (b*2^((32-(Lib.bitLen ((gi (limbs b) ((((lim b).length:Int)-1).toNat))).toNat:Int))).toNat)).length:Int)).toNat) (.int .u32 0)),(limbs (a*2^(32-(Lib.bitLen (gi (limbs b) (((lim b).length:Int)-1).toNat).toNat:Int)).toNat) ++ [0]),(List.replicate (L (a*2^(32-(Lib.bitLen (gi (limbs b) (((lim b).length:Int)-1).toNat).toNat:Int)).toNat)+1-L (b*2^(32-(Lib.bitLen (gi (limbs b) (((lim b).length:Int)-1).toNat).toNat:Int)).toNat)) 0)))) (aI (qdm_loop a b (32-(Lib.bitLen (gi (limbs b) (((lim b).length:Int)-1).toNat).toNat:Int)) (⟨c0,c1⟩) oO hno.2 hsr ((((((L (a*2^((32-(Lib.bitLen ((gi (limbs b) ((((lim b).length:Int)-1).toNat))).toNat:Int))).toNat))+1):Int)-((lim (b*2^((32-(Lib.bitLen ((gi (limbs b) ((((lim b).length:Int)-1).toNat))).toNat:Int))).toNat)).length:Int))-1),((lim (a*2^((32-(Lib.bitLen ((gi (limbs b) ((((lim b).length:Int)-1).toNat))).toNat:Int))).toNat)) ++ [(V.int .u32 0)]),(List.replicate (((((L (a*2^((32-(Lib.bitLen ((gi (limbs b) ((((lim b).length:Int)-1).toNat))).toNat:Int))).toNat))+1):Int)-((lim (b*2^((32-(Lib.bitLen ((gi (limbs b) ((((lim b).length:Int)-1).toNat))).toNat:Int))).toNat)).length:Int)).toNat) (.int .u32 0)),(limbs (a*2^(32-(Lib.bitLen (gi (limbs b) (((lim b).length:Int)-1).toNat).toNat:Int)).toNat) ++ [0]),(List.replicate (L (a*2^(32-(Lib.bitLen (gi (limbs b) (((lim b).length:Int)-1).toNat).toNat:Int)).toNat)+1-L (b*2^(32-(Lib.bitLen (gi (limbs b) (((lim b).length:Int)-1).toNat).toNat:Int)).toNat)) 0)) (show (((lim (a*2^((32-(Lib.bitLen ((gi (limbs b) ((((lim b).length:Int)-1).toNat))).toNat:Int))).toNat)) ++ [(V.int .u32 0)])=U (limbs (a*2^(32-(Lib.bitLen (gi (limbs b) (((lim b).length:Int)-1).toNat).toNat:Int)).toNat) ++ [0])∧(List.replicate (((((L (a*2^((32-(Lib.bitLen ((gi (limbs b) ((((lim b).length:Int)-1).toNat))).toNat:Int))).toNat))+1):Int)-((lim (b*2^((32-(Lib.bitLen ((gi (limbs b) ((((lim b).length:Int)-1).toNat))).toNat:Int))).toNat)).length:Int)).toNat) (.int .u32 0))=U (List.replicate (L (a*2^(32-(Lib.bitLen (gi (limbs b) (((lim b).length:Int)-1).toNat).toNat:Int)).toNat)+1-L (b*2^(32-(Lib.bitLen (gi (limbs b) (((lim b).length:Int)-1).toNat).toNat:Int)).toNat)) 0))∧DvIn (a*2^(32-(Lib.bitLen (gi (limbs b) (((lim b).length:Int)-1).toNat).toNat:Int)).toNat) (b*2^(32-(Lib.bitLen (gi (limbs b) (((lim b).length:Int)-1).toNat).toNat:Int)).toNat) (L (a*2^(32-(Lib.bitLen (gi (limbs b) (((lim b).length:Int)-1).toNat).toNat:Int)).toNat)+1-L (b*2^(32-(Lib.bitLen (gi (limbs b) (((lim b).length:Int)-1).toNat).toNat:Int)).toNat)) (((((L (a*2^((32-(Lib.bitLen ((gi (limbs b) ((((lim b).length:Int)-1).toNat))).toNat:Int))).toNat))+1):Int)-((lim (b*2^((32-(Lib.bitLen ((gi (limbs b) ((((lim b).length:Int)-1).toNat))).toNat:Int))).toNat)).length:Int))-1) (limbs (a*2^(32-(Lib.bitLen (gi (limbs b) (((lim b).length:Int)-1).toNat).toNat:Int)).toNat) ++ [0]) (List.replicate (L (a*2^(32-(Lib.bitLen (gi (limbs b) (((lim b).length:Int)-1).toNat).toNat:Int)).toNat)+1-L (b*2^(32-(Lib.bitLen (gi (limbs b) (((lim b).length:Int)-1).toNat).toNat:Int)).toNat)) 0) from ⟨⟨U_append _ [0],by rw[show ((((L (a*2^(32-(Lib.bitLen (gi (limbs b) (((lim b).length:Int)-1).toNat).toNat:Int)).toNat)+1):Int)-((lim (b*2^(32-(Lib.bitLen (gi (limbs b) (((lim b).length:Int)-1).toNat).toNat:Int)).toNat)).length:Int)).toNat)=(L (a*2^(32-(Lib.bitLen (gi (limbs b) (((lim b).length:Int)-1).toNat).toNat:Int)).toNat)+1-L (b*2^(32-(Lib.bitLen (gi (limbs b) (((lim b).length:Int)-1).toNat).toNat:Int)).toNat)) by omega];exact U_rep _⟩,by have:=dv_init (hft oO).1 (hft oO).2;rwa [show (((L (a*2^(32-(Lib.bitLen (gi (limbs b) (((lim b).length:Int)-1).toNat).toNat:Int)).toNat)+1-L (b*2^(32-(Lib.bitLen (gi (limbs b) (((lim b).length:Int)-1).toNat).toNat:Int)).toNat)):Nat):Int)-1=(((((L (a*2^((32-(Lib.bitLen ((gi (limbs b) ((((lim b).length:Int)-1).toNat))).toNat:Int))).toNat))+1):Int)-((lim (b*2^((32-(Lib.bitLen ((gi (limbs b) ((((lim b).length:Int)-1).toNat))).toNat:Int))).toNat)).length:Int))-1) by omega] at this⟩)) (fun y (hJ:qdm_loop_J a b (32-(Lib.bitLen (gi (limbs b) (((lim b).length:Int)-1).toNat).toNat:Int)) y)=>have hJ:DvIn (a*2^(32-(Lib.bitLen (gi (limbs b) (((lim b).length:Int)-1).toNat).toNat:Int)).toNat) (b*2^(32-(Lib.bitLen (gi (limbs b) (((lim b).length:Int)-1).toNat).toNat:Int)).toNat) (L (a*2^(32-(Lib.bitLen (gi (limbs b) (((lim b).length:Int)-1).toNat).toNat:Int)).toNat)+1-L (b*2^(32-(Lib.bitLen (gi (limbs b) (((lim b).length:Int)-1).toNat).toNat:Int)).toNat)) (-1) y.1 y.2:=hJ;have ⟨d0,d1,d2,d3,d4,d5⟩:=dv_end hJ;have d6:=U_len y.1;have d7:=U_len y.2;have d8:L (val (y.1.take (L (b*2^((32-(Lib.bitLen (gi (limbs b) (((lim b).length:Int)-1).toNat).toNat:Int))).toNat))))≤L (a*2^((32-(Lib.bitLen (gi (limbs b) (((lim b).length:Int)-1).toNat).toNat:Int))).toNat):=(by rw[d4];exact L_mod _ _);aI (ok_arg oA:((true && Nat.ble (0+((((L (a*2^(32-(Lib.bitLen (gi (limbs b) (((lim b).length:Int)-1).toNat).toNat:Int)).toNat)+1):Int)-((lim (b*2^(32-(Lib.bitLen (gi (limbs b) (((lim b).length:Int)-1).toNat).toNat:Int)).toNat)).length:Int)).toNat)) (U y.2).length) && true)=true) (aI (nat_TrimC (List.take ((((L (a*2^(32-(Lib.bitLen (gi (limbs b) (((lim b).length:Int)-1).toNat).toNat:Int)).toNat)+1):Int)-((lim (b*2^(32-(Lib.bitLen (gi (limbs b) (((lim b).length:Int)-1).toNat).toNat:Int)).toNat)).length:Int)).toNat) (List.drop 0 (U y.2))) y.2 (tkU rfl oO) d3 oO) (aI (and_mk (and_mk (and_mk (rfl) (iLe_mk oA)) (iLe_mk oA)) (rfl):(((true && (iLe (0:Int) ((lim (b*2^(32-(Lib.bitLen (gi (limbs b) (((lim b).length:Int)-1).toNat).toNat:Int)).toNat)).length:Int))) && (iLe ((lim (b*2^(32-(Lib.bitLen (gi (limbs b) (((lim b).length:Int)-1).toNat).toNat:Int)).toNat)).length:Int) ((L (a*2^(32-(Lib.bitLen (gi (limbs b) (((lim b).length:Int)-1).toNat).toNat:Int)).toNat)+1):Int))) && true)=true) (aI (ok_arg oA:((true && Nat.ble (0+(((lim (b*2^(32-(Lib.bitLen (gi (limbs b) (((lim b).length:Int)-1).toNat).toNat:Int)).toNat)).length:Int)-0).toNat) (U y.1).length) && true)=true) (aI (nat_TrimC (List.take ((((lim (b*2^(32-(Lib.bitLen (gi (limbs b) (((lim b).length:Int)-1).toNat).toNat:Int)).toNat)).length:Int)-0).toNat) (List.drop 0 (U y.1))) (y.1.take (L (b*2^((32-(Lib.bitLen (gi (limbs b) (((lim b).length:Int)-1).toNat).toNat:Int))).toNat))) (tkU2 oO) (dig_take d1 _) (by rw[List.length_take];omega)) (aI (nat_Shr (val (y.1.take (L (b*2^((32-(Lib.bitLen (gi (limbs b) (((lim b).length:Int)-1).toNat).toNat:Int))).toNat)))) (32-(Lib.bitLen (gi (limbs b) (((lim b).length:Int)-1).toNat).toNat:Int)) oA oA) ((by rw[d5,d4,shl_div,shl_mod];exact vsub_refl _:vsub (.tup [(N (val y.2)),(N ((val (y.1.take (L (b*2^((32-(Lib.bitLen (gi (limbs b) (((lim b).length:Int)-1).toNat).toNat:Int))).toNat)))) / 2^((32-(Lib.bitLen (gi (limbs b) (((lim b).length:Int)-1).toNat).toNat:Int))).toNat)),(.bool true)]) (.tup [(N (a / b)),(N (a%b)),(.bool true)])))))))))))))))))))))))))))))) (by kernel_rfl))
theorem int_DivMod (x y:Int)(c0:L (x).natAbs≤16777216)(c1:L (y).natAbs≤16777216)(c2:y≠0):Impl Tryz.prog Amb 154 [(zV x),(zV y)] (.tup [(zV (Int.fdiv x y)),(zV (x-(Int.fdiv x y)*y)),(.bool true)]):=by
 have l3:=L_div x.natAbs y.natAbs
 have l1:=L_le (n:=1) (k:=1) (by decide)
 have l4:=L_pos_iff (x.natAbs%y.natAbs)
 have l5:=L_len (x.natAbs%y.natAbs)
 have l6:=Nat.mod_lt x.natAbs (show 0<y.natAbs by omega)
 have l7:=L_add (x.natAbs / y.natAbs) 1
 have l8:=L_sub y.natAbs (x.natAbs%y.natAbs)
 exact impl_ob hP hAmb Tryz.func154 (by kernel_rfl) (.lits 3<|.call (.tup [(N (x.natAbs / y.natAbs)),(N (x.natAbs%y.natAbs)),(.bool true)])<|.lits 5<|.both (.lits 4<|.both (.lit<|.call (N 1)<|.lit<|.call (N ((x.natAbs / y.natAbs)+1))<|.lits 2<|.call (.tup [(N (y.natAbs-(x.natAbs%y.natAbs))),(.bool (decide ((x.natAbs%y.natAbs)≤y.natAbs)))])<|.lits 4<|.call (zV (sgn (!(bEq (decide (x<0)) (decide (y<0)))) ((x.natAbs / y.natAbs)+1)))<|.lits 2<|.call (zV (sgn (decide (y<0)) (y.natAbs-(x.natAbs%y.natAbs))))<|.lits 3<|.ret) (.lits 4<|.call (zV (sgn (!(bEq (decide (x<0)) (decide (y<0)))) (x.natAbs / y.natAbs)))<|.lits 2<|.call (zV (sgn (decide (y<0)) (x.natAbs%y.natAbs)))<|.lits 3<|.ret)) (.lits 8<|.call (zV (sgn (!(bEq (decide (x<0)) (decide (y<0)))) (x.natAbs / y.natAbs)))<|.lits 2<|.call (zV (sgn (decide (y<0)) (x.natAbs%y.natAbs)))<|.lits 3<|.ret))
  (cast_ob (aI True.intro (aI (quot_DivMod x.natAbs y.natAbs oA oA oA) (have f6:=L_mod x.natAbs y.natAbs;have f5:=L_div x.natAbs y.natAbs;aI (fun (h1:(!(bEq (decide (x<0)) (decide (y<0))))=true)=>aI (fun (h2:(iGt ((lim (x.natAbs%y.natAbs)).length:Int) 0)=true)=>have _gh2:=iGt_t h2;aI (nat_Of 1 oA) (aI (nat_Add (x.natAbs / y.natAbs) 1 oA oA) (aI (nat_Sub2 y.natAbs (x.natAbs%y.natAbs) oA oA) (aI (int_Nat (!(bEq (decide (x<0)) (decide (y<0)))) ((x.natAbs / y.natAbs)+1) oA) (aI (int_Nat (decide (y<0)) (y.natAbs-(x.natAbs%y.natAbs)) oA) ((vsub_tup3 (Z_of (by rw[sgn_one (by first | assumption | simp_all)];exact dm5_1 c2 (by first | assumption | simp_all) oO)) (Z_of (rm5_1 c2 (by first | assumption | simp_all) oO)) (vsub_refl _):vsub (.tup [(zV (sgn (!(bEq (decide (x<0)) (decide (y<0)))) ((x.natAbs / y.natAbs)+1))),(zV (sgn (decide (y<0)) (y.natAbs-(x.natAbs%y.natAbs)))),(.bool true)]) (.tup [(zV (Int.fdiv x y)),(zV (x-(Int.fdiv x y)*y)),(.bool true)])))))))) (fun (h3:(iGt ((lim (x.natAbs%y.natAbs)).length:Int) 0)=false)=>have _gh3:=iGt_f h3;aI (int_Nat (!(bEq (decide (x<0)) (decide (y<0)))) (x.natAbs / y.natAbs) oA) (aI (int_Nat (decide (y<0)) (x.natAbs%y.natAbs) oA) ((vsub_tup3 (Z_of (dm5_2 c2 oO)) (Z_of (rm5_2 c2 oO)) (vsub_refl _):vsub (.tup [(zV (sgn (!(bEq (decide (x<0)) (decide (y<0)))) (x.natAbs / y.natAbs))),(zV (sgn (decide (y<0)) (x.natAbs%y.natAbs))),(.bool true)]) (.tup [(zV (Int.fdiv x y)),(zV (x-(Int.fdiv x y)*y)),(.bool true)])))))) (fun (h4:(!(bEq (decide (x<0)) (decide (y<0))))=false)=>aI (int_Nat (!(bEq (decide (x<0)) (decide (y<0)))) (x.natAbs / y.natAbs) oA) (aI (int_Nat (decide (y<0)) (x.natAbs%y.natAbs) oA) ((vsub_tup3 (Z_of (dm5_3 c2 (by first | assumption | simp_all))) (Z_of (rm5_3 c2 (by first | assumption | simp_all))) (vsub_refl _):vsub (.tup [(zV (sgn (!(bEq (decide (x<0)) (decide (y<0)))) (x.natAbs / y.natAbs))),(zV (sgn (decide (y<0)) (x.natAbs%y.natAbs))),(.bool true)]) (.tup [(zV (Int.fdiv x y)),(zV (x-(Int.fdiv x y)*y)),(.bool true)])))))))) (by kernel_rfl))

end Go.Proofs.YtkkbddkpggjgpaaGreatDoor

namespace Go.Proofs.YtkkbddkpggjgpaaGreatDoor
def dv (m e:Int):Rat:=(m:Rat)*(2:Rat)^e
theorem two_ne:(2:Rat)≠0:=by decide
theorem zp_add (a b:Int):(2:Rat)^(a+b)=2^a*2^b:=Rat.zpow_add two_ne a b
theorem zp_pos (a:Int):(0:Rat)<2^a:=Rat.zpow_pos (by decide)
theorem zp_ne (a:Int):(2:Rat)^a≠0:=fun h=>by have:=zp_pos a;rw[h] at this;exact absurd this Rat.lt_irrefl
theorem zp_nat (n:Nat):(2:Rat)^(n:Int)=(((2:Int)^n:Int):Rat):=by
 rw[Rat.zpow_natCast,Rat.intCast_pow];rfl
theorem zp_zero:(2:Rat)^(0:Int)=1:=Rat.zpow_zero 2
theorem zp_cancel (a:Int):(2:Rat)^a*2^(-a)=1:=by rw[← zp_add,Int.add_right_neg,zp_zero]
theorem dv_shl (m e:Int)(k:Nat):dv (m*2^k) e=dv m (e+k):=by
 unfold dv
 rw[zp_add,zp_nat,Rat.intCast_mul]
 grind
theorem dv_at {m e c:Int}(h:c≤e):dv m e=dv (m*2^(e-c).toNat) c:=by
 rw[dv_shl];congr 1;omega
theorem dv_lt {m n c:Int}:dv m c<dv n c↔m<n:=by
 unfold dv;rw[Rat.mul_lt_mul_right (zp_pos c),Rat.intCast_lt_intCast]
theorem dv_le {m n c:Int}:dv m c≤dv n c↔m≤n:=by
 rw[← Rat.not_lt,dv_lt];omega
theorem dv_zero (e:Int):dv 0 e=0:=by unfold dv;rw[Rat.intCast_zero,Rat.zero_mul]
theorem dv_int (m:Int):dv m 0=(m:Rat):=by unfold dv;rw[zp_zero,Rat.mul_one]
theorem dv_neg (m e:Int):dv (-m) e=-dv m e:=by unfold dv;rw[Rat.intCast_neg,Rat.neg_mul]
def cmpQ (x y:Rat):Int:=if x<y then -1 else if y<x then 1 else 0
theorem cmpD_dv (m e n f:Int):cmpD m e n f=cmpQ (dv m e) (dv n f):=by
 have h:=iMin_range e f
 unfold cmpD cmpI cmpQ
 rw[dv_at (m:=m) (show iMin e f≤e by omega),dv_at (m:=n) (show iMin e f≤f by omega)]
 simp only [dv_lt]
theorem dv_pos {m e:Int}:0<dv m e↔0<m:=by rw[← dv_zero e,dv_lt]
theorem dv_dm (m e:Int):dv (dm m) (de m e)=dv m e:=by
 unfold de;rw[← dv_shl,dm_mul]
theorem dv_mk {m e:Int}(h:mkE m e=0):dv (mkM m e) (mkX m e)=dv m e:=by
 unfold mkM mkX
 rw[if_pos h]
 by_cases h0:m=0
 ·rw[h0,dm_zero,dv_zero,dv_zero]
 ·rw[if_pos ⟨h,h0⟩,dv_dm]
theorem vdb_mk {m e:Int}:vdb (mkM m e) (mkX m e)=true:=by
 by_cases h:mkE m e=0
 ·by_cases h0:m=0
  ·have:mkM m e=0∧mkX m e=0:=by unfold mkM mkX;rw[if_pos h,if_neg (fun q=>q.2 h0),h0,dm_zero];exact⟨rfl,rfl⟩
   rw[this.1,this.2];rfl
  ·have e1:mkM m e=dm m:=by unfold mkM;rw[if_pos h]
   have e2:mkX m e=de m e:=by unfold mkX;rw[if_pos ⟨h,h0⟩]
   rw[e1,e2]
   unfold mkE at h
   split at h
   ·omega
   ·try rw[if_neg h0] at h
    split at h
    ·assumption
    ·omega
 ·rw[(mk_no h).1,(mk_no h).2];rfl
def flr (r:Rat)(p:Int):Int:=(r*2^p).floor
def cei (r:Rat)(p:Int):Int:=-(flr (-r) p)
theorem floor_div (n d:Int)(hd:0<d):((n:Rat) / (d:Rat)).floor=n / d:=by
 have hq:(0:Rat)<(d:Rat):=Rat.intCast_pos.2 hd
 have key:∀ x:Int,x≤((n:Rat) / (d:Rat)).floor↔x≤n / d:=fun x=>by
  rw[Rat.le_floor_iff,Int.le_ediv_iff_mul_le hd,← Rat.intCast_le_intCast (a:=x*d),Rat.intCast_mul,← Rat.not_lt,Rat.div_lt_iff hq,Rat.not_lt]
 have h1:=(key _).1 (Int.le_refl _)
 have h2:=(key _).2 (Int.le_refl _)
 omega
theorem flr_dv (m e p:Int):flr (dv m e) p=if 0≤e+p then m*2^(e+p).toNat else m / 2^(-(e+p)).toNat:=by
 have h:dv m e*2^p=dv m (e+p):=by unfold dv;rw[zp_add];grind
 unfold flr
 rw[h]
 split
 ·rename_i h0
  rw[dv_at h0,dv_int,Rat.floor_intCast,Int.sub_zero]
 ·rename_i h0
  rw[← floor_div _ _ (two_pos _)]
  congr 1
  have h1:=zp_cancel (e+p)
  have h2:=zp_nat (-(e+p)).toNat
  rw[show (((-(e+p)).toNat:Nat):Int)=-(e+p) by omega] at h2
  rw[← h2]
  unfold dv
  have h3:=zp_ne (-(e+p))
  grind
theorem flr_le (r:Rat)(p:Int):dv (flr r p) (-p)≤r:=by
 have h3:=Rat.mul_le_mul_of_nonneg_right (Rat.floor_le (r*2^p)) (Rat.le_of_lt (zp_pos (-p)))
 rw[Rat.mul_assoc r,zp_cancel,Rat.mul_one] at h3
 exact h3
theorem flr_lt (r:Rat)(p:Int):r<dv (flr r p+1) (-p):=by
 have h3:=Rat.mul_lt_mul_of_pos_right (Rat.lt_floor_add_one (r*2^p)) (zp_pos (-p))
 rw[Rat.mul_assoc r,zp_cancel,Rat.mul_one] at h3
 exact h3
end Go.Proofs.YtkkbddkpggjgpaaGreatDoor

namespace Go.Proofs.YtkkbddkpggjgpaaGreatDoor
theorem cmpQ_range (x y:Rat):(cmpQ x y=-1∧x<y)∨(cmpQ x y=1∧y<x)∨(cmpQ x y=0∧x=y):=by
 unfold cmpQ
 by_cases h:x<y
 ·exact .inl ⟨if_pos h,h⟩
 ·rw[if_neg h]
  by_cases h2:y<x
  ·exact .inr (.inl ⟨if_pos h2,h2⟩)
  ·exact .inr (.inr ⟨if_neg h2,Rat.le_antisymm (Rat.not_lt.1 h2) (Rat.not_lt.1 h)⟩)
end Go.Proofs.YtkkbddkpggjgpaaGreatDoor

namespace Go.Proofs.YtkkbddkpggjgpaaGreatDoor
open Go.RowKit
theorem tmod_lo (v:Int){n:Int}(hn:0<n):-n<v.tmod n:=by
 have:=Int.tmod_lt_of_pos (-v) hn
 rw[Int.neg_tmod] at this
 omega
theorem mod_neg {v n:Int}(hn:0<n)(h:wRem v n<0):wRem v n+n=v%n:=by
 unfold wRem at *
 have h1:=Int.tmod_add_mul_tdiv v n
 have h2:=tmod_lo v hn
 have h3:v%n=(v.tmod n)%n:=by
  conv=>lhs;rw[← h1]
  rw[Int.add_mul_emod_self_left]
 rw[h3,← Int.add_emod_right,Int.emod_eq_of_lt (by omega) (by omega)]
theorem mod_pos {v n:Int}(hn:0<n)(h:0≤wRem v n):wRem v n=v%n:=by
 unfold wRem at *
 have h1:=Int.tmod_add_mul_tdiv v n
 have h2:=Int.tmod_lt_of_pos v hn
 have h3:v%n=(v.tmod n)%n:=by
  conv=>lhs;rw[← h1]
  rw[Int.add_mul_emod_self_left]
 rw[h3,Int.emod_eq_of_lt h h2]
theorem wRem_abs {v n:Int}(hn:0<n):-n<wRem v n∧wRem v n<n:=⟨tmod_lo v hn,Int.tmod_lt_of_pos v hn⟩
theorem mk_cases {m e:Int}(hE:mkE m e=0):(m=0∧mkM m e=0∧mkX m e=0)∨(m≠0∧mkM m e=dm m∧mkX m e=de m e∧vdb (dm m) (de m e)=true):=by
 by_cases hm:m=0
 ·refine .inl ⟨hm,?_,?_⟩
  ·unfold mkM;rw[if_pos hE,hm,dm_zero]
  ·unfold mkX;rw[if_neg (fun q=>q.2 hm)]
 ·refine .inr ⟨hm,?_,?_,?_⟩
  ·unfold mkM;rw[if_pos hE]
  ·unfold mkX;rw[if_pos ⟨hE,hm⟩]
  ·unfold mkE at hE
   split at hE
   ·omega
   ·first
    | (rw[if_neg hm] at hE;split at hE;assumption;omega)
    | (split at hE;assumption;omega)
theorem mk_fine2 {m e:Int}(h:L m.natAbs≤900)(he:-60000≤e∧e≤30000):mkE m e=0:=by
 by_cases hm:m=0
 ·exact (mk_r2 (by omega) hm).2.2
 ·refine (mk_r4 (by omega) hm ?_).2.2
  rw[vdb_iff]
  have h1:=L_dm m
  have h2:=nbits_L (dm m).natAbs
  have h3:=tz_L m.natAbs
  have h4:=dm_odd hm
  unfold de
  exact .inr ⟨dm_ne hm,by omega,by omega,by omega,h4⟩
end Go.Proofs.YtkkbddkpggjgpaaGreatDoor

namespace Go.Proofs.YtkkbddkpggjgpaaGreatDoor
open Go.RowKit
def rawI (b:Bool)(l:List Nat)(n:Int):Int:=if (l.length:Int)≤n then sgn b (val l) else 0
theorem rawI_yes {b:Bool}{l:List Nat}{n:Int}(h:(l.length:Int)≤n):rawI b l n=sgn b (val l):=by unfold rawI;rw[if_pos h]
theorem rawI_no {b:Bool}{l:List Nat}{n:Int}(h:n<(l.length:Int)):rawI b l n=0:=by unfold rawI;rw[if_neg (by omega)]
theorem rawI_L {b:Bool}{l:List Nat}(hl:Dig l){n:Int}(hn:0≤n):(L (rawI b l n).natAbs:Int)≤n:=by
 by_cases h:(l.length:Int)≤n
 ·rw[rawI_yes h]
  have:=L_sgn b (val l)
  have:=L_val hl
  omega
 ·rw[rawI_no (by omega)]
  have:L (0:Int).natAbs=0:=L_zero
  omega
theorem raw_ret1 {b:Bool}{l:List Nat}{n:Int}(h:n<(l.length:Int)):vsub (.tup [.agg [.bool false,.nil],.bool false]) (.tup [.agg [.bool (decide (rawI b l n<0)),N (rawI b l n).natAbs],.bool (decide ((l.length:Int)≤n))]):=by
 rw[rawI_no h,decide_eq_false (show ¬((l.length:Int)≤n) by omega)]
 exact vsub_tup2 vsub_zero2 (vsub_refl _)
theorem raw_ret2 {b:Bool}{l:List Nat}{n:Int}(h:(l.length:Int)≤n):vsub (.tup [.agg [.bool (decide (sgn b (val l)<0)),N (sgn b (val l)).natAbs],.bool true]) (.tup [.agg [.bool (decide (rawI b l n<0)),N (rawI b l n).natAbs],.bool (decide ((l.length:Int)≤n))]):=by
 rw[rawI_yes h,decide_eq_true h]
 exact vsub_refl _
theorem mk_zero (e:Int):mkM 0 e=0∧mkX 0 e=0:=by
 refine⟨?_,?_⟩
 ·unfold mkM;split
  ·exact dm_zero
  ·rfl
 ·unfold mkX;rw[if_neg (fun q=>q.2 rfl)]
theorem rawd_ret1 {b:Bool}{l:List Nat}{n e:Int}(h:n<(l.length:Int)):vsub (.tup [.agg [.bool false,.nil,.int .i64 0],.bool false])
  (.tup [.agg [.bool (decide (mkM (rawI b l n) e<0)),N (mkM (rawI b l n) e).natAbs,.int .i64 (mkX (rawI b l n) e)],.bool (decide ((l.length:Int)≤n))]):=by
 rw[rawI_no h,(mk_zero e).1,(mk_zero e).2,decide_eq_false (show ¬((l.length:Int)≤n) by omega)]
 exact vsub_tup2 vsub_zero3 (vsub_refl _)
theorem rawd_ok {m e:Int}{p:Prop}[Decidable p](h:mkE m e=0)(hp:p):iEq (mkE m e) 0=decide p:=by rw[h,decide_eq_true hp];rfl
def swM (m e n f:Int):Int:=if 0<cmpD m e n f then n else m
def swX (m e n f:Int):Int:=if 0<cmpD m e n f then f else e
def swN (m e n f:Int):Int:=if 0<cmpD m e n f then m else n
def swF (m e n f:Int):Int:=if 0<cmpD m e n f then e else f
theorem sw_yes {m e n f:Int}(h:0<cmpD m e n f):n=swM m e n f∧f=swX m e n f∧m=swN m e n f∧e=swF m e n f:=by unfold swM swX swN swF;simp [h]
theorem sw_no {m e n f:Int}(h:cmpD m e n f≤0):m=swM m e n f∧e=swX m e n f∧n=swN m e n f∧f=swF m e n f:=by
 have h':¬ 0<cmpD m e n f:=by omega
 unfold swM swX swN swF;simp [h']
theorem sw_facts (m e n f:Int):(0<cmpD m e n f∧swM m e n f=n∧swX m e n f=f∧swN m e n f=m∧swF m e n f=e∧L (swM m e n f).natAbs=L n.natAbs∧L (swN m e n f).natAbs=L m.natAbs) ∨
  (cmpD m e n f≤0∧swM m e n f=m∧swX m e n f=e∧swN m e n f=n∧swF m e n f=f∧L (swM m e n f).natAbs=L m.natAbs∧L (swN m e n f).natAbs=L n.natAbs):=by
 by_cases h:0<cmpD m e n f
 ·have:=sw_yes h;exact .inl ⟨h,this.1.symm,this.2.1.symm,this.2.2.1.symm,this.2.2.2.symm,by rw[← this.1],by rw[← this.2.2.1]⟩
 ·have:=sw_no (show cmpD m e n f≤0 by omega);exact .inr ⟨by omega,this.1.symm,this.2.1.symm,this.2.2.1.symm,this.2.2.2.symm,by rw[← this.1],by rw[← this.2.2.1]⟩
theorem W_of {m e n f m' e' n' f':Int}{a b:Bool}(h:m=m'∧e=e'∧n=n'∧f=f')(hb:a=b) :
  vsub (.tup [.agg [.bool (decide (m<0)),N m.natAbs,.int .i64 e,.bool (decide (n<0)),N n.natAbs,.int .i64 f],.bool a]) (.tup [.agg [.bool (decide (m'<0)),N m'.natAbs,.int .i64 e',.bool (decide (n'<0)),N n'.natAbs,.int .i64 f'],.bool b]):=by
 obtain⟨rfl,rfl,rfl,rfl⟩:=h;subst hb;exact vsub_refl _
end Go.Proofs.YtkkbddkpggjgpaaGreatDoor

namespace Go.Proofs.YtkkbddkpggjgpaaGreatDoor
def scl (x n:Int):Int:=if n<0 then x / 2^(-n).toNat else x*2^n.toNat
theorem scl_L (x n:Int):(L (scl x n).natAbs:Int)≤L x.natAbs+n.toNat / 32+1:=by
 unfold scl
 split
 ·have:=L_abs_shr x (-n).toNat;omega
 ·have:=L_abs_shl x n.toNat;omega
theorem flr_scl (m e p:Int):flr (dv m e) p=scl m (e+p):=by
 rw[flr_dv];unfold scl
 by_cases h:0≤e+p
 ·rw[if_pos h,if_neg (by omega)]
 ·rw[if_neg h,if_pos (by omega)]
theorem flr_LD (m e p:Int):(L (flr (dv m e) p).natAbs:Int)≤L m.natAbs+(e+p).toNat / 32+1∧(L (cei (dv m e) p).natAbs:Int)≤L m.natAbs+(e+p).toNat / 32+1:=by
 have h1:=scl_L m (e+p)
 have h2:=scl_L (-m) (e+p)
 rw[← flr_scl] at h1 h2
 rw[Int.natAbs_neg] at h2
 unfold cei
 rw[Int.natAbs_neg,← dv_neg]
 exact⟨h1,h2⟩
end Go.Proofs.YtkkbddkpggjgpaaGreatDoor




namespace Go.Proofs.YtkkbddkpggjgpaaGreatDoor
theorem cmpD_neg {m e n f:Int}:cmpD n f m e<0↔dv n f<dv m e:=by
 rw[cmpD_dv]
 rcases cmpQ_range (dv n f) (dv m e) with ⟨h,k⟩ | ⟨h,k⟩ | ⟨h,k⟩
 ·rw[h];exact⟨fun _=>k,fun _=>by omega⟩
 ·rw[h];exact⟨fun q=>by omega,fun q=>absurd (Rat.lt_iff_le_and_ne.1 q).1 (Rat.not_le.2 k)⟩
 ·rw[h,k];exact⟨fun q=>by omega,fun q=>absurd q Rat.lt_irrefl⟩
theorem cmpD_pos {m e n f:Int}:0<cmpD n f m e↔dv m e<dv n f:=by
 rw[cmpD_swap,← cmpD_neg];omega
theorem impl_eq {P:Program}{C:World→Prop}{f:FuncId}{ds:List V}{r r':V}(h:r=r')(k:Impl P C f ds r):Impl P C f ds r':=h ▸ k
end Go.Proofs.YtkkbddkpggjgpaaGreatDoor



namespace Go.Proofs.YtkkbddkpggjgpaaGreatDoor
open Go.RowKit
set_option maxRecDepth 100000
theorem mill_Mod (v n:Int)(c0:(0:Int)<n∧n≤1000000000)(c1:(-9223372036854775808:Int)≤v∧v≤9223372036854775807):Impl Tryz.prog Amb 14 [(.int .i64 v),(.int .i64 n)] (.int .i64 (v%n)):=by
 have r0:=wRem_abs (v:=v) (n:=n) oO
 exact impl_ob hP hAmb Tryz.func14 (by kernel_rfl) (.yes<|.lit<|.both (.lit<|.yes<|.lit<|.ret) (.lit<|.ret))
  (cast_ob (aI True.intro (aI (iNe_mk oA:(iNe n 0)=true) (aI (fun (h1:(iLt (wRem v n) 0)=true)=>have _gh1:=iLt_t h1;aI (fits_i64 oA:(fits .i64 ((wRem v n)+n))=true) ((vsub_of (congrArg (V.int .i64) (mod_neg oO oO)):vsub (.int .i64 ((wRem v n)+n)) (.int .i64 (v%n))))) (fun (h2:(iLt (wRem v n) 0)=false)=>have _gh2:=iLt_f h2;(vsub_of (congrArg (V.int .i64) (mod_pos oO oO)):vsub (.int .i64 (wRem v n)) (.int .i64 (v%n))))))) (by kernel_rfl))
theorem mill_Int (b:Bool)(l:List Nat)(n:Int)(c0:Dig l)(c1:l.length≤9223372036854775807)(c2:(0:Int)≤n∧n≤1000):Impl Tryz.prog Amb 66 [(.agg [(.bool b),(.sl 1 (U l))]),(.int .i64 n)] (.tup [(zV (rawI b l n)),(.bool (decide ((l.length:Int)≤n)))]):=by
 have e0:=U_len l
 exact impl_ob hP hAmb Tryz.func66 (by kernel_rfl) (.lits 2<|.both (.lits 3<|.ret) (.lits 3<|.call (zV (sgn b (val l)))<|.lits 2<|.ret))
  (cast_ob (aI True.intro (aI (fun (h1:(iGt ((U l).length:Int) n)=true)=>have _gh1:=iGt_t h1;(raw_ret1 oO:vsub (.tup [(.agg [(.bool false),.nil]),(.bool false)]) (.tup [(zV (rawI b l n)),(.bool (decide ((l.length:Int)≤n)))]))) (fun (h2:(iGt ((U l).length:Int) n)=false)=>have _gh2:=iGt_f h2;aI (r05_NatC b (U l) l rfl c0 oO) (have f4:=L_val ‹Dig l›;have f3:=L_sgn b (val l);(raw_ret2 oO:vsub (.tup [(zV (sgn b (val l))),(.bool true)]) (.tup [(zV (rawI b l n)),(.bool (decide ((l.length:Int)≤n)))])))))) (by kernel_rfl))
theorem mill_Dyadic (b:Bool)(l:List Nat)(e n k:Int)(c0:Dig l)(c1:l.length≤9223372036854775807)(c2:(-9223372036854775808:Int)≤e∧e≤9223372036854775807)(c3:(0:Int)≤n∧n≤800)(c4:(0:Int)≤k∧k≤20000):Impl Tryz.prog Amb 18 [(.agg [(.bool b),(.sl 1 (U l)),(.int .i64 e)]),(.int .i64 n),(.int .i64 k)] (.tup [(yV (mkM (rawI b l n) (e%(2*k+1)-k)) (mkX (rawI b l n) (e%(2*k+1)-k))),(.bool (decide ((l.length:Int)≤n)))]):=by
 have ej:=Int.emod_nonneg e (show (2*k+1:Int)≠0 by omega)
 have ek:=Int.emod_lt_of_pos e (show (0:Int)<2*k+1 by omega)
 exact impl_ob hP hAmb Tryz.func18 (by kernel_rfl) (.lits 2<|.call (.tup [(zV (rawI b l n)),(.bool (decide ((l.length:Int)≤n)))])<|.lits 2<|.both (.lits 3<|.ret) (.lits 3<|.yes<|.lit<|.yes<|.lit<|.call (.int .i64 (e%(((2:Int)*k)+1)))<|.lit<|.yes<|.lit<|.call (mkT (rawI b l n) ((e%(((2:Int)*k)+1))-k))<|.lits 4<|.ret))
  (cast_ob (aI True.intro (aI (mill_Int b l n oA oA oA) (have f6:=(rawI_L (b:=b) ‹Dig l› (show (0:Int)≤n by first | omega | (simp<;>omega)));aI (fun (h1:(!(decide ((l.length:Int)≤n)))=true)=>have _gh1:=of_decide_eq_false (notb_t h1);(rawd_ret1 oO:vsub (.tup [(.agg [(.bool false),.nil,(.int .i64 0)]),(.bool false)]) (.tup [(yV (mkM (rawI b l n) (e%(2*k+1)-k)) (mkX (rawI b l n) (e%(2*k+1)-k))),(.bool (decide ((l.length:Int)≤n)))]))) (fun (h2:(!(decide ((l.length:Int)≤n)))=false)=>have _gh2:=of_decide_eq_true (notb_f h2);aI (fits_i64 oA:(fits .i64 ((2:Int)*k))=true) (aI (fits_i64 oA:(fits .i64 (((2:Int)*k)+1))=true) (aI (mill_Mod e (((2:Int)*k)+1) oA oA) (have f5:=Int.emod_lt_of_pos e (show (0:Int)<(((2:Int)*k)+1) by first | omega | (simp<;>omega));have f4:=Int.emod_nonneg e (show ((((2:Int)*k)+1):Int)≠0 by first | omega | (simp<;>omega));aI (fits_i64 oA:(fits .i64 ((e%(((2:Int)*k)+1))-k))=true) (aI (r08_Make (rawI b l n) ((e%(((2:Int)*k)+1))-k) oA oA) (have f3:=mk_facts (rawI b l n) ((e%(((2:Int)*k)+1))-k);(vsub_tup2 (vsub_refl _) (vsub_of (congrArg V.bool (rawd_ok (mk_fine2 oO oO) oO))):vsub (.tup [(yV (mkM (rawI b l n) ((e%(((2:Int)*k)+1))-k)) (mkX (rawI b l n) ((e%(((2:Int)*k)+1))-k))),(.bool (iEq (mkE (rawI b l n) ((e%(((2:Int)*k)+1))-k)) 0))]) (.tup [(yV (mkM (rawI b l n) (e%(2*k+1)-k)) (mkX (rawI b l n) (e%(2*k+1)-k))),(.bool (decide ((l.length:Int)≤n)))]))))))))))) (by kernel_rfl))
theorem mill_Interval (b:Bool)(l:List Nat)(e:Int)(c:Bool)(r:List Nat)(f n k:Int)(c0:Dig l)(c1:l.length≤9223372036854775807)(c2:Dig r)(c3:r.length≤9223372036854775807)(c4:(-9223372036854775808:Int)≤e∧e≤9223372036854775807)(c5:(-9223372036854775808:Int)≤f∧f≤9223372036854775807)(c6:(0:Int)≤n∧n≤800)(c7:(0:Int)≤k∧k≤20000):Impl Tryz.prog Amb 12 [(.agg [(.bool b),(.sl 1 (U l)),(.int .i64 e),(.bool c),(.sl 1 (U r)),(.int .i64 f)]),(.int .i64 n),(.int .i64 k)] (.tup [(wV (swM (mkM (rawI b l n) (e%(2*k+1)-k)) (mkX (rawI b l n) (e%(2*k+1)-k)) (mkM (rawI c r n) (f%(2*k+1)-k)) (mkX (rawI c r n) (f%(2*k+1)-k))) (swX (mkM (rawI b l n) (e%(2*k+1)-k)) (mkX (rawI b l n) (e%(2*k+1)-k)) (mkM (rawI c r n) (f%(2*k+1)-k)) (mkX (rawI c r n) (f%(2*k+1)-k))) (swN (mkM (rawI b l n) (e%(2*k+1)-k)) (mkX (rawI b l n) (e%(2*k+1)-k)) (mkM (rawI c r n) (f%(2*k+1)-k)) (mkX (rawI c r n) (f%(2*k+1)-k))) (swF (mkM (rawI b l n) (e%(2*k+1)-k)) (mkX (rawI b l n) (e%(2*k+1)-k)) (mkM (rawI c r n) (f%(2*k+1)-k)) (mkX (rawI c r n) (f%(2*k+1)-k)))),(.bool (decide ((l.length:Int)≤n∧(r.length:Int)≤n)))]):=by
 exact impl_ob hP hAmb Tryz.func12 (by kernel_rfl) (.lits 2<|.call (.tup [(yV (mkM (rawI b l n) (e%(2*k+1)-k)) (mkX (rawI b l n) (e%(2*k+1)-k))),(.bool (decide ((l.length:Int)≤n)))])<|.lits 3<|.call (.tup [(yV (mkM (rawI c r n) (f%(2*k+1)-k)) (mkX (rawI c r n) (f%(2*k+1)-k))),(.bool (decide ((r.length:Int)≤n)))])<|.lits 4<|.call (.int .i64 (cmpD (mkM (rawI b l n) (e%(2*k+1)-k)) (mkX (rawI b l n) (e%(2*k+1)-k)) (mkM (rawI c r n) (f%(2*k+1)-k)) (mkX (rawI c r n) (f%(2*k+1)-k))))<|.lit<|.both (.lits 7<|.both (.lits 3<|.ret) (.lits 3<|.ret)) (.lits 3<|.both (.lits 3<|.ret) (.lits 3<|.ret)))
  (cast_ob (aI True.intro (aI (mill_Dyadic b l e n k oA oA oA oA oA) (have f11:=(rawI_L (b:=b) ‹Dig l› (show (0:Int)≤n by first | omega | (simp<;>omega)));have f10:=mk_facts (rawI b l n) (e%(2*k+1)-k);aI (mill_Dyadic c r f n k oA oA oA oA oA) (have f9:=(rawI_L (b:=c) ‹Dig r› (show (0:Int)≤n by first | omega | (simp<;>omega)));have f8:=mk_facts (rawI c r n) (f%(2*k+1)-k);aI (r08_Cmp (mkM (rawI b l n) (e%(2*k+1)-k)) (mkX (rawI b l n) (e%(2*k+1)-k)) (mkM (rawI c r n) (f%(2*k+1)-k)) (mkX (rawI c r n) (f%(2*k+1)-k)) oA oA oA oA) (have f7:=cmpD_range (mkM (rawI b l n) (e%(2*k+1)-k)) (mkX (rawI b l n) (e%(2*k+1)-k)) (mkM (rawI c r n) (f%(2*k+1)-k)) (mkX (rawI c r n) (f%(2*k+1)-k));aI (fun (h1:(iGt (cmpD (mkM (rawI b l n) (e%(2*k+1)-k)) (mkX (rawI b l n) (e%(2*k+1)-k)) (mkM (rawI c r n) (f%(2*k+1)-k)) (mkX (rawI c r n) (f%(2*k+1)-k))) 0)=true)=>have _gh1:=iGt_t h1;aI (fun (h2:(decide ((l.length:Int)≤n))=true)=>have _gh2:=of_decide_eq_true h2;(W_of (sw_yes oO) (decide_eq_decide.2 oO):vsub (.tup [(wV (mkM (rawI c r n) (f%(2*k+1)-k)) (mkX (rawI c r n) (f%(2*k+1)-k)) (mkM (rawI b l n) (e%(2*k+1)-k)) (mkX (rawI b l n) (e%(2*k+1)-k))),(.bool (decide ((r.length:Int)≤n)))]) (.tup [(wV (swM (mkM (rawI b l n) (e%(2*k+1)-k)) (mkX (rawI b l n) (e%(2*k+1)-k)) (mkM (rawI c r n) (f%(2*k+1)-k)) (mkX (rawI c r n) (f%(2*k+1)-k))) (swX (mkM (rawI b l n) (e%(2*k+1)-k)) (mkX (rawI b l n) (e%(2*k+1)-k)) (mkM (rawI c r n) (f%(2*k+1)-k)) (mkX (rawI c r n) (f%(2*k+1)-k))) (swN (mkM (rawI b l n) (e%(2*k+1)-k)) (mkX (rawI b l n) (e%(2*k+1)-k)) (mkM (rawI c r n) (f%(2*k+1)-k)) (mkX (rawI c r n) (f%(2*k+1)-k))) (swF (mkM (rawI b l n) (e%(2*k+1)-k)) (mkX (rawI b l n) (e%(2*k+1)-k)) (mkM (rawI c r n) (f%(2*k+1)-k)) (mkX (rawI c r n) (f%(2*k+1)-k)))),(.bool (decide ((l.length:Int)≤n∧(r.length:Int)≤n)))]))) (fun (h3:(decide ((l.length:Int)≤n))=false)=>have _gh3:=of_decide_eq_false h3;(W_of (sw_yes oO) (decide_eq_false oO).symm:vsub (.tup [(wV (mkM (rawI c r n) (f%(2*k+1)-k)) (mkX (rawI c r n) (f%(2*k+1)-k)) (mkM (rawI b l n) (e%(2*k+1)-k)) (mkX (rawI b l n) (e%(2*k+1)-k))),(.bool false)]) (.tup [(wV (swM (mkM (rawI b l n) (e%(2*k+1)-k)) (mkX (rawI b l n) (e%(2*k+1)-k)) (mkM (rawI c r n) (f%(2*k+1)-k)) (mkX (rawI c r n) (f%(2*k+1)-k))) (swX (mkM (rawI b l n) (e%(2*k+1)-k)) (mkX (rawI b l n) (e%(2*k+1)-k)) (mkM (rawI c r n) (f%(2*k+1)-k)) (mkX (rawI c r n) (f%(2*k+1)-k))) (swN (mkM (rawI b l n) (e%(2*k+1)-k)) (mkX (rawI b l n) (e%(2*k+1)-k)) (mkM (rawI c r n) (f%(2*k+1)-k)) (mkX (rawI c r n) (f%(2*k+1)-k))) (swF (mkM (rawI b l n) (e%(2*k+1)-k)) (mkX (rawI b l n) (e%(2*k+1)-k)) (mkM (rawI c r n) (f%(2*k+1)-k)) (mkX (rawI c r n) (f%(2*k+1)-k)))),(.bool (decide ((l.length:Int)≤n∧(r.length:Int)≤n)))])))) (fun (h4:(iGt (cmpD (mkM (rawI b l n) (e%(2*k+1)-k)) (mkX (rawI b l n) (e%(2*k+1)-k)) (mkM (rawI c r n) (f%(2*k+1)-k)) (mkX (rawI c r n) (f%(2*k+1)-k))) 0)=false)=>have _gh4:=iGt_f h4;aI (fun (h5:(decide ((l.length:Int)≤n))=true)=>have _gh5:=of_decide_eq_true h5;(W_of (sw_no oO) (decide_eq_decide.2 oO):vsub (.tup [(wV (mkM (rawI b l n) (e%(2*k+1)-k)) (mkX (rawI b l n) (e%(2*k+1)-k)) (mkM (rawI c r n) (f%(2*k+1)-k)) (mkX (rawI c r n) (f%(2*k+1)-k))),(.bool (decide ((r.length:Int)≤n)))]) (.tup [(wV (swM (mkM (rawI b l n) (e%(2*k+1)-k)) (mkX (rawI b l n) (e%(2*k+1)-k)) (mkM (rawI c r n) (f%(2*k+1)-k)) (mkX (rawI c r n) (f%(2*k+1)-k))) (swX (mkM (rawI b l n) (e%(2*k+1)-k)) (mkX (rawI b l n) (e%(2*k+1)-k)) (mkM (rawI c r n) (f%(2*k+1)-k)) (mkX (rawI c r n) (f%(2*k+1)-k))) (swN (mkM (rawI b l n) (e%(2*k+1)-k)) (mkX (rawI b l n) (e%(2*k+1)-k)) (mkM (rawI c r n) (f%(2*k+1)-k)) (mkX (rawI c r n) (f%(2*k+1)-k))) (swF (mkM (rawI b l n) (e%(2*k+1)-k)) (mkX (rawI b l n) (e%(2*k+1)-k)) (mkM (rawI c r n) (f%(2*k+1)-k)) (mkX (rawI c r n) (f%(2*k+1)-k)))),(.bool (decide ((l.length:Int)≤n∧(r.length:Int)≤n)))]))) (fun (h6:(decide ((l.length:Int)≤n))=false)=>have _gh6:=of_decide_eq_false h6;(W_of (sw_no oO) (decide_eq_false oO).symm:vsub (.tup [(wV (mkM (rawI b l n) (e%(2*k+1)-k)) (mkX (rawI b l n) (e%(2*k+1)-k)) (mkM (rawI c r n) (f%(2*k+1)-k)) (mkX (rawI c r n) (f%(2*k+1)-k))),(.bool false)]) (.tup [(wV (swM (mkM (rawI b l n) (e%(2*k+1)-k)) (mkX (rawI b l n) (e%(2*k+1)-k)) (mkM (rawI c r n) (f%(2*k+1)-k)) (mkX (rawI c r n) (f%(2*k+1)-k))) (swX (mkM (rawI b l n) (e%(2*k+1)-k)) (mkX (rawI b l n) (e%(2*k+1)-k)) (mkM (rawI c r n) (f%(2*k+1)-k)) (mkX (rawI c r n) (f%(2*k+1)-k))) (swN (mkM (rawI b l n) (e%(2*k+1)-k)) (mkX (rawI b l n) (e%(2*k+1)-k)) (mkM (rawI c r n) (f%(2*k+1)-k)) (mkX (rawI c r n) (f%(2*k+1)-k))) (swF (mkM (rawI b l n) (e%(2*k+1)-k)) (mkX (rawI b l n) (e%(2*k+1)-k)) (mkM (rawI c r n) (f%(2*k+1)-k)) (mkX (rawI c r n) (f%(2*k+1)-k)))),(.bool (decide ((l.length:Int)≤n∧(r.length:Int)≤n)))]))))))))) (by kernel_rfl))
end Go.Proofs.YtkkbddkpggjgpaaGreatDoor

namespace Go.Proofs.YtkkbddkpggjgpaaGreatDoor
theorem mkX_b {m e:Int}(hE:mkE m e=0):(m=0∧mkX m e=0)∨(m≠0∧e≤mkX m e∧mkX m e≤e+32*(L m.natAbs:Int)):=by
 rcases mk_cases hE with ⟨h,_,k⟩ | ⟨h,_,k,_⟩
 ·exact .inl ⟨h,k⟩
 ·have:=tz_L m.natAbs
  refine .inr ⟨h,?_,?_⟩<;>rw[k]<;>unfold de<;>omega
theorem mk_fit {m e:Int}(h:L m.natAbs≤900)(he:-60000≤e∧e≤30000):mkE m e=0∧L (mkM m e).natAbs≤L m.natAbs∧iMin e 0≤mkX m e∧mkX m e≤iMax e 0+32*(L m.natAbs:Int)∧vdb (mkM m e) (mkX m e)=true∧dv (mkM m e) (mkX m e)=dv m e:=by
 have hE:=mk_fine2 h he
 have h1:=mk_facts m e
 have h2:=iMin_range e 0
 have h3:e≤iMax e 0∧0≤iMax e 0:=by unfold iMax;split<;>omega
 refine⟨hE,h1.1,?_,?_,vdb_mk,dv_mk hE⟩<;>rcases mkX_b hE with ⟨_,k⟩ | ⟨_,k,l⟩<;>omega
theorem of_fit {n:Int}(h:-9223372036854775808≤n∧n≤9223372036854775807):mkE n 0=0∧L (mkM n 0).natAbs≤2∧0≤mkX n 0∧mkX n 0≤64∧vdb (mkM n 0) (mkX n 0)=true∧dv (mkM n 0) (mkX n 0)=(n:Rat):=by
 have hl:=L_i64 h
 have h1:=mk_fit (m:=n) (e:=0) (by omega) (by omega)
 have h2:iMin 0 0=0:=rfl
 have h3:iMax 0 0=0:=rfl
 rw[h2,h3,dv_int] at h1
 exact⟨h1.1,by omega,h1.2.2.1,by omega,h1.2.2.2.2.1,h1.2.2.2.2.2⟩
theorem rawD_fit {b:Bool}{l:List Nat}{n e k:Int}(hl:Dig l)(hn:0≤n∧n≤800)(hk:0≤k∧k≤20000) :
  L (mkM (rawI b l n) (e%(2*k+1)-k)).natAbs≤n∧-k≤mkX (rawI b l n) (e%(2*k+1)-k)∧mkX (rawI b l n) (e%(2*k+1)-k)≤k+32*n ∧
  vdb (mkM (rawI b l n) (e%(2*k+1)-k)) (mkX (rawI b l n) (e%(2*k+1)-k))=true:=by
 have h1:=rawI_L (b:=b) hl hn.1
 have h2:=Int.emod_nonneg e (show (2*k+1:Int)≠0 by omega)
 have h3:=Int.emod_lt_of_pos e (show (0:Int)<2*k+1 by omega)
 generalize hd:e%(2*k+1)-k=d
 have h4:=mk_fit (m:=rawI b l n) (e:=d) (by omega) (by omega)
 have h5:=iMin_range d 0
 have h6:iMax d 0=d∨iMax d 0=0:=by unfold iMax;split<;>simp
 refine⟨by omega,by omega,by omega,h4.2.2.2.2.1⟩
theorem sw_fit {m e n f:Int}(h1:vdb m e=true)(h2:vdb n f=true):vdb (swM m e n f) (swX m e n f)=true∧vdb (swN m e n f) (swF m e n f)=true∧dv (swM m e n f) (swX m e n f)≤dv (swN m e n f) (swF m e n f):=by
 rcases sw_facts m e n f with ⟨h,a,b,c,d,_⟩ | ⟨h,a,b,c,d,_⟩
 ·rw[a,b,c,d]
  exact⟨h2,h1,Rat.le_of_lt (cmpD_pos.1 h)⟩
 ·rw[a,b,c,d]
  refine⟨h1,h2,Rat.not_lt.1 fun q=>?_⟩
  have:=cmpD_pos.2 q
  omega
theorem rawI_fit {b c:Bool}{l r:List Nat}{n e f k:Int}(hl:Dig l)(hr:Dig r)(hn:0≤n∧n≤800)(hk:0≤k∧k≤20000){m1 x1 m2 x2:Int}(e1:m1=mkM (rawI b l n) (e%(2*k+1)-k))(e2:x1=mkX (rawI b l n) (e%(2*k+1)-k))
  (e3:m2=mkM (rawI c r n) (f%(2*k+1)-k)) (e4:x2=mkX (rawI c r n) (f%(2*k+1)-k)) :
  (L (swM m1 x1 m2 x2).natAbs≤n∧-k≤swX m1 x1 m2 x2∧swX m1 x1 m2 x2≤k+32*n)∧(L (swN m1 x1 m2 x2).natAbs≤n∧-k≤swF m1 x1 m2 x2∧swF m1 x1 m2 x2≤k+32*n) ∧
  vdb (swM m1 x1 m2 x2) (swX m1 x1 m2 x2)=true∧vdb (swN m1 x1 m2 x2) (swF m1 x1 m2 x2)=true∧dv (swM m1 x1 m2 x2) (swX m1 x1 m2 x2)≤dv (swN m1 x1 m2 x2) (swF m1 x1 m2 x2):=by
 have h1:=rawD_fit (b:=b) (e:=e) hl hn hk
 have h2:=rawD_fit (b:=c) (e:=f) hr hn hk
 rw[← e1,← e2] at h1
 rw[← e3,← e4] at h2
 obtain⟨a1,a2,a3,a4⟩:=h1
 obtain⟨b1,b2,b3,b4⟩:=h2
 have h3:=sw_fit a4 b4
 rcases sw_facts m1 x1 m2 x2 with ⟨_,a,b,c,d,g,i⟩ | ⟨_,a,b,c,d,g,i⟩
 ·exact⟨⟨by omega,by omega,by omega⟩,⟨by omega,by omega,by omega⟩,h3⟩
 ·exact⟨⟨by omega,by omega,by omega⟩,⟨by omega,by omega,by omega⟩,h3⟩
theorem cmpQ_le {x y:Rat}:cmpQ x y≤0↔x≤y:=by
 rcases cmpQ_range x y with ⟨q,k⟩ | ⟨q,k⟩ | ⟨q,k⟩
 ·exact⟨fun _=>Rat.le_of_lt k,fun _=>by omega⟩
 ·exact⟨fun h=>by omega,fun h=>absurd h (Rat.not_le.2 k)⟩
 ·exact⟨fun _=>by rw[k];exact Rat.le_refl,fun _=>by omega⟩
end Go.Proofs.YtkkbddkpggjgpaaGreatDoor


namespace Go.Proofs.YtkkbddkpggjgpaaGreatDoor
theorem oM {p:Prop}(h:p:=by first | omega | exact ml_fine (by omega) (by omega) (by omega) (by omega) | exact ad_fine (by omega) (by omega) (by omega) (by omega) | exact (en_vdb _ _ _).1 | exact (en_vdb _ _ _).2):p:=h
theorem oD {p:Prop}(h:p:=by first | omega | exact ml_fine (by omega) (by omega) (by omega) (by omega) | exact ad_fine (by omega) (by omega) (by omega) (by omega) | exact (en_vdb _ _ _).1 | exact (en_vdb _ _ _).2 | decide):p:=h
theorem oN {p:Prop}(h:p:=by first | omega | exact ml_fine (by omega) (by omega) (by omega) (by omega) | exact ad_fine (by omega) (by omega) (by omega) (by omega) | exact (en_vdb _ _ _).1 | exact (en_vdb _ _ _).2 | assumption):p:=h
theorem oN2 {p:Prop}(h:p:=by first | omega | exact ml_fine (by omega) (by omega) (by omega) (by omega) | exact ad_fine (by omega) (by omega) (by omega) (by omega) | exact (en_vdb _ _ _).1 | exact (en_vdb _ _ _).2 | assumption | exact ad_fine (by omega) (by omega) (by omega) (by omega)):p:=h
theorem oP {p:Prop}(h:p:=by first | assumption | omega | exact o1.2.2.2.2.1):p:=h
theorem oW {p:Prop}(h:p:=by first | assumption | exact pw_or (by omega) | (simp;done) | omega):p:=h
theorem oS {p:Prop}(h:p:=by first | omega | assumption):p:=h
theorem oR {p:Prop}(h:p:=by first | omega | assumption | exact Rat.le_refl):p:=h
theorem oT {p:Prop}(h:p:=by first | assumption | omega | exact Rat.le_refl | exact of0.2.2.2.2.1):p:=h
theorem oU {p:Prop}(h:p:=by first | assumption | omega):p:=h
end Go.Proofs.YtkkbddkpggjgpaaGreatDoor




namespace Go.Proofs.YtkkbddkpggjgpaaGreatDoor
theorem mul_pw (a b:Rat)(k:Nat):(a*b)^k=a^k*b^k:=by
 induction k with
 | zero=>rw[Rat.pow_zero,Rat.pow_zero,Rat.pow_zero,Rat.mul_one]
 | succ k ih=>rw[Rat.pow_succ,Rat.pow_succ,Rat.pow_succ,ih];grind
theorem pw_add (a:Rat)(j k:Nat):a^(j+k)=a^j*a^k:=by
 induction k with
 | zero=>rw[Rat.pow_zero,Rat.mul_one];rfl
 | succ k ih=>rw[← Nat.add_assoc,Rat.pow_succ,Rat.pow_succ,ih,Rat.mul_assoc]
theorem pw_nonneg {a:Rat}(h:0≤a)(k:Nat):0≤a^k:=by
 induction k with
 | zero=>rw[Rat.pow_zero];decide
 | succ k ih=>rw[Rat.pow_succ];exact Rat.mul_nonneg ih h
theorem pw_mono {a b:Rat}(h:0≤a)(hab:a≤b)(k:Nat):a^k≤b^k:=by
 induction k with
 | zero=>rw[Rat.pow_zero,Rat.pow_zero];exact Rat.le_refl
 | succ k ih =>
  rw[Rat.pow_succ,Rat.pow_succ]
  have h1:=Rat.mul_le_mul_of_nonneg_right ih h
  have h2:=Rat.mul_le_mul_of_nonneg_left hab (pw_nonneg (Rat.le_trans h hab) k)
  exact Rat.le_trans h1 h2
theorem sq_pw (a:Rat)(k:Nat):a^(2*k)=(a*a)^k:=by
 rw[mul_pw,← pw_add];congr 1;omega
theorem neg_odd (a:Rat){k:Nat}(h:k%2=1):(-a)^k=-(a^k):=by
 obtain⟨j,rfl⟩:∃ j,k=2*j+1:=⟨k / 2,by omega⟩
 rw[Rat.pow_succ,Rat.pow_succ,sq_pw,sq_pw,show (-a)*(-a)=a*a by grind];grind
theorem odd_mono {a b:Rat}(hab:a≤b){k:Nat}(h:k%2=1):a^k≤b^k:=by
 rcases (Rat.le_total:0≤a∨a≤0) with q | q
 ·exact pw_mono q hab k
 ·rcases (Rat.le_total:0≤b∨b≤0) with q2 | q2
  ·have h1:a^k≤0:=by have:=pw_nonneg (show 0≤-a by grind) k;rw[neg_odd a h] at this;grind
   exact Rat.le_trans h1 (pw_nonneg q2 k)
  ·have:=pw_mono (show 0≤-b by grind) (show -b≤-a by grind) k
   rw[neg_odd a h,neg_odd b h] at this;grind
end Go.Proofs.YtkkbddkpggjgpaaGreatDoor

namespace Go.Proofs.YtkkbddkpggjgpaaGreatDoor
theorem fl_R {a T:Int}(hT:0<T):((a / T:Int):Rat)*(T:Rat)≤(a:Rat)∧(a:Rat)<((a / T:Int):Rat)*(T:Rat)+(T:Rat):=by
 have h1:=Int.ediv_mul_le a (show T≠0 by omega)
 have h2:=Int.lt_ediv_add_one_mul_self a hT
 rw[Int.add_mul,Int.one_mul] at h2
 rw[← Rat.intCast_mul,← Rat.intCast_add,Rat.intCast_le_intCast,Rat.intCast_lt_intCast]
 exact⟨h1,h2⟩
theorem ce_R {a T:Int}(hT:0<T):(a:Rat)≤((-(-a / T):Int):Rat)*(T:Rat)∧((-(-a / T):Int):Rat)*(T:Rat)<(a:Rat)+(T:Rat):=by
 have h:=fl_R (a:=-a) hT
 rw[Rat.intCast_neg] at h ⊢
 constructor<;>grind
theorem pf_lo {a c T:Int}{y z:Rat}(hT:0<T)(ha:0≤a)(hc:0≤c)(h1:(a:Rat)≤y*T)(h2:(c:Rat)≤z*T):((a*c / T:Int):Rat)≤y*z*T:=by
 have T0:(0:Rat)<T:=Rat.intCast_pos.2 hT
 have a0:(0:Rat)≤a:=Rat.intCast_nonneg.2 ha
 have c0:(0:Rat)≤c:=Rat.intCast_nonneg.2 hc
 have f:=(fl_R (a:=a*c) hT).1
 rw[Rat.intCast_mul a c] at f
 have m1:=Rat.mul_le_mul_of_nonneg_right h1 c0
 have m2:=Rat.mul_le_mul_of_nonneg_left h2 (Rat.le_trans a0 h1)
 exact Rat.le_of_mul_le_mul_right (c:=(T:Rat)) (by grind) T0
theorem pf_hi {b d T:Int}{y z:Rat}(hT:0<T)(hy:0≤y)(hz:0≤z)(h1:y*T≤(b:Rat))(h2:z*T≤(d:Rat)):y*z*T≤((-(-(b*d) / T):Int):Rat):=by
 have T0:(0:Rat)<T:=Rat.intCast_pos.2 hT
 have y0:(0:Rat)≤y*T:=Rat.mul_nonneg hy (Rat.le_of_lt T0)
 have z0:(0:Rat)≤z*T:=Rat.mul_nonneg hz (Rat.le_of_lt T0)
 have f:=(ce_R (a:=b*d) hT).1
 rw[Rat.intCast_mul b d] at f
 have m1:=Rat.mul_le_mul_of_nonneg_right h1 z0
 have m2:=Rat.mul_le_mul_of_nonneg_left h2 (Rat.le_trans y0 h1)
 exact Rat.le_of_mul_le_mul_right (c:=(T:Rat)) (by grind) T0
theorem df_lo {a n:Int}{y:Rat}(hn:0<n)(h:(a:Rat)≤y):((a / n:Int):Rat)≤y / (n:Rat):=by
 have n0:(0:Rat)<n:=Rat.intCast_pos.2 hn
 have f:=(fl_R (a:=a) hn).1
 have e:=Rat.div_mul_cancel (a:=y) (b:=(n:Rat)) (by grind)
 exact Rat.le_of_mul_le_mul_right (c:=(n:Rat)) (by rw[e];exact Rat.le_trans f h) n0
theorem df_hi {b n:Int}{y:Rat}(hn:0<n)(h:y≤(b:Rat)):y / (n:Rat)≤((-(-b / n):Int):Rat):=by
 have n0:(0:Rat)<n:=Rat.intCast_pos.2 hn
 have f:=(ce_R (a:=b) hn).1
 have e:=Rat.div_mul_cancel (a:=y) (b:=(n:Rat)) (by grind)
 exact Rat.le_of_mul_le_mul_right (c:=(n:Rat)) (by rw[e];exact Rat.le_trans h f) n0
def odn (j:Nat):Int:=2*(j:Int)+1
theorem odn_pos (j:Nat):0<odn j:=by unfold odn;omega
def PL (z:Rat):Nat→Rat
 | 0=>0
 | k+1=>PL z k+z^(2*k+1) / (odn k:Rat)
theorem odd_succ (z:Rat)(k:Nat):z^(2*(k+1)+1)=z^(2*k+1)*(z*z):=by
 rw[show 2*(k+1)+1=2*k+1+1+1 by omega,Rat.pow_succ,Rat.pow_succ,Rat.mul_assoc]
theorem div_nn {y:Rat}{j:Nat}(h:0≤y):0≤y / (odn j:Rat)∧y / (odn j:Rat)≤y:=by
 have n0:(1:Rat)≤(odn j:Rat):=by rw[show (1:Rat)=((1:Int):Rat) from rfl,Rat.intCast_le_intCast];unfold odn;omega
 have e:=Rat.div_mul_cancel (a:=y) (b:=(odn j:Rat)) (by grind)
 have h0:0≤y / (odn j:Rat):=by
  rw[Rat.div_def]
  exact Rat.mul_nonneg h (Rat.le_of_lt (Rat.inv_pos.2 (by grind)))
 refine⟨h0,?_⟩
 have m:=Rat.mul_le_mul_of_nonneg_left n0 h0
 grind
theorem PL_neg (z:Rat):∀ k,PL (-z) k=-PL z k
 | 0=>by show (0:Rat)=-0;grind
 | k+1=>by
  show PL (-z) k+(-z)^(2*k+1) / (odn k:Rat)=-(PL z k+z^(2*k+1) / (odn k:Rat))
  rw[PL_neg z k,neg_odd z (by omega),Rat.div_def,Rat.div_def];grind
theorem PL_mono {z:Rat}(hz:0≤z){j:Nat}:∀ k,PL z j≤PL z (j+k)
 | 0=>Rat.le_refl
 | k+1=>by
  have h:=PL_mono hz (j:=j) k
  have d:=(div_nn (j:=j+k) (Rat.pow_nonneg (n:=2*(j+k)+1) hz)).1
  show PL z j≤PL z (j+k)+z^(2*(j+k)+1) / (odn (j+k):Rat)
  grind
theorem PL_tail {z:Rat}(hz:0≤z)(h2:2*z≤1){j:Nat}:∀ k,PL z (j+1+k)+z^(2*(j+k)+1)≤PL z (j+1)+z^(2*j+1)
 | 0=>Rat.le_refl
 | k+1=>by
  have h:=PL_tail hz h2 (j:=j) k
  have p0:=Rat.pow_nonneg (n:=2*(j+k)+1) hz
  have p1:=Rat.pow_nonneg (n:=2*(j+k+1)+1) hz
  have d:=(div_nn (j:=j+1+k) (Rat.pow_nonneg (n:=2*(j+1+k)+1) hz)).2
  have e:=odd_succ z (j+k)
  show PL z (j+1+k)+z^(2*(j+1+k)+1) / (odn (j+1+k):Rat)+z^(2*(j+(k+1))+1)≤_
  rw[show j+1+k=j+k+1 by omega] at d ⊢
  rw[show j+(k+1)=j+k+1 by omega]
  rw[show j+1+k=j+k+1 by omega] at h
  have zz:z*z*4≤1:=by
   have a:=Rat.mul_le_mul_of_nonneg_left h2 hz
   grind
  have m:=Rat.mul_le_mul_of_nonneg_left zz p0
  grind
theorem PL_hi {z:Rat}(hz:0≤z)(h2:2*z≤1){j K:Nat}(h:j+1≤K):PL z (j+1)≤PL z K∧PL z K≤PL z (j+1)+z^(2*j+1):=by
 obtain⟨k,rfl⟩:∃ k,K=j+1+k:=⟨K-(j+1),by omega⟩
 refine⟨PL_mono hz k,?_⟩
 have t:=PL_tail hz h2 (j:=j) k
 have p0:=Rat.pow_nonneg (n:=2*(j+k)+1) hz
 grind
theorem least {P:Nat→Prop}[DecidablePred P]:∀ {n:Nat},P n→∃ N,N≤n∧P N∧∀ j,j<N→¬ P j
 | 0,h=>⟨0,Nat.le_refl _,h,fun j hj=>by omega⟩
 | n+1,h=>by
  by_cases q:∃ m,m≤n∧P m
  ·obtain⟨m,hm,pm⟩:=q
   obtain⟨N,hN,pN,hj⟩:=least pm
   exact⟨N,by omega,pN,hj⟩
  ·exact⟨n+1,Nat.le_refl _,h,fun j hj pj=>q ⟨j,by omega,pj⟩⟩
def ptLo (a d:Int):Int:=((a.natAbs / d.toNat:Nat):Int)
def ptHi (b d:Int):Int:=((b.natAbs / d.toNat+(if b.natAbs%d.toNat=0 then 0 else 1):Nat):Int)
theorem ptLo_eq {a d:Int}(ha:0≤a)(hd:0<d):ptLo a d=a / d:=by
 unfold ptLo
 obtain⟨x,rfl⟩:=Int.eq_ofNat_of_zero_le ha
 obtain⟨y,rfl⟩:=Int.eq_ofNat_of_zero_le (show 0≤d by omega)
 simp
theorem ptHi_eq {b d : Int} (hb : 0 ≤ b) (hd : 0 < d) : ptHi b d = -(-b / d) := by
  unfold ptHi
  obtain ⟨x, rfl⟩ := Int.eq_ofNat_of_zero_le hb
  obtain ⟨y, rfl⟩ := Int.eq_ofNat_of_zero_le (show 0 ≤ d by omega)
  simp only [Int.natAbs_natCast, Int.toNat_natCast]
  have e := Nat.div_add_mod x y
  have l := Nat.mod_lt x (show 0 < y by omega)
  have key : ∀ q : Int, q * (y : Int) ≤ -(x : Int) → -(x : Int) < (q + 1) * (y : Int) → -(x : Int) / (y : Int) = q := by
    intro q h1 h2
    have a1 := Int.le_ediv_of_mul_le hd h1
    have a2 := Int.ediv_lt_of_lt_mul hd h2
    omega
  have ei : ((y : Int)) * ((x / y : Nat) : Int) + ((x % y : Nat) : Int) = (x : Int) := by
    have := congrArg (Nat.cast : Nat → Int) e
    push_cast at this ⊢
    exact this
  split
  · rename_i h0
    rw [key (-((x / y : Nat) : Int)) (by rw [h0] at ei; grind) (by rw [h0] at ei; grind)]
    omega
  · rename_i h0
    rw [key (-((x / y : Nat) : Int) - 1) (by have : ((x % y : Nat) : Int) ≤ y := by omega
                                             grind) (by have : (0 : Int) < ((x % y : Nat) : Int) := by omega
                                                        grind)]
    omega
def arP (T q1 q2 x1 x2:Int):Nat→Int × Int
 | 0=>(x1,x2)
 | j+1=>((arP T q1 q2 x1 x2 j).1*q1 / T,-(-((arP T q1 q2 x1 x2 j).2*q2) / T))
def arA (T q1 q2 x1 x2:Int):Nat→Int × Int
 | 0=>(x1,x2)
 | j+1=>((arA T q1 q2 x1 x2 j).1+ptLo (arP T q1 q2 x1 x2 (j+1)).1 (odn (j+1)),(arA T q1 q2 x1 x2 j).2+ptHi (arP T q1 q2 x1 x2 (j+1)).2 (odn (j+1)))
theorem ar_w {T p1 p2 q1 q2 D:Int}(hT:0<T)(h1:0≤p2)(h2:2*p2≤T)(h3:q2-q1≤D+2)(hD:0≤D)(h4:0≤q1)(h5:4*q1≤T)(h6:p2-p1≤D+6):-(-(p2*q2) / T)-p1*q1 / T≤D+6:=by
 have f1:=Int.lt_ediv_add_one_mul_self (p1*q1) hT
 have f2:=Int.lt_ediv_add_one_mul_self (-(p2*q2)) hT
 generalize p1*q1 / T=u at *
 generalize -(p2*q2) / T=v at *
 have m1:=Int.mul_le_mul_of_nonneg_left h3 h1
 have m2:=Int.mul_le_mul_of_nonneg_right h2 (show 0≤D+2 by omega)
 have m3:=Int.mul_le_mul_of_nonneg_right h6 h4
 have m4:=Int.mul_le_mul_of_nonneg_left h5 (show 0≤D+6 by omega)
 have m6:=Int.mul_nonneg hD (show 0≤T by omega)
 refine Decidable.byContradiction fun hn=>?_
 have m5:=Int.mul_le_mul_of_nonneg_right (show D+7≤-v-u by omega) (show 0≤T by omega)
 grind
theorem ar_q {T x1 x2:Int}(hT:0<T)(h1:0≤x1)(h2:x1≤x2)(h3:2*x2≤T) :
  0≤x1*x1 / T∧4*(x1*x1 / T)≤T∧-(-(x2*x2) / T)-x1*x1 / T≤(x2-x1)+2∧0≤-(-(x2*x2) / T)∧4*-(-(x2*x2) / T)≤T+3:=by
 have f0:=Int.ediv_mul_le (x1*x1) (show T≠0 by omega)
 have f1:=Int.lt_ediv_add_one_mul_self (x1*x1) hT
 have f2:=Int.lt_ediv_add_one_mul_self (-(x2*x2)) hT
 have f3:=Int.ediv_mul_le (-(x2*x2)) (show T≠0 by omega)
 have n1:=Int.ediv_nonneg (Int.mul_nonneg h1 h1) (show 0≤T by omega)
 have n2:=Int.mul_nonneg (show 0≤x2 by omega) (show 0≤x2 by omega)
 generalize x1*x1 / T=u at *
 generalize -(x2*x2) / T=v at *
 have s1:=Int.mul_le_mul_of_nonneg_left (show x1≤x2 by omega) h1
 have s2:=Int.mul_le_mul_of_nonneg_right (show x1≤x2 by omega) (show 0≤x2 by omega)
 have s3:=Int.mul_le_mul_of_nonneg_left h3 (show 0≤x2 by omega)
 have s4:=Int.mul_le_mul_of_nonneg_right h3 (show 0≤T by omega)
 refine⟨n1,?_,?_,?_,?_⟩
 ·refine Decidable.byContradiction fun hn=>?_
  have m:=Int.mul_le_mul_of_nonneg_right (show T+1≤4*u by omega) (show 0≤T by omega)
  grind
 ·refine Decidable.byContradiction fun hn=>?_
  have m:=Int.mul_le_mul_of_nonneg_right (show (x2-x1)+3≤-v-u by omega) (show 0≤T by omega)
  have k:=Int.mul_le_mul_of_nonneg_left (show x1+x2≤T by omega) (show 0≤x2-x1 by omega)
  grind
 ·refine Decidable.byContradiction fun hn=>?_
  have m:=Int.mul_le_mul_of_nonneg_right (show 1≤v by omega) (show 0≤T by omega)
  grind
 ·refine Decidable.byContradiction fun hn=>?_
  have m:=Int.mul_le_mul_of_nonneg_right (show T+4≤4*-v by omega) (show 0≤T by omega)
  grind
theorem ar_p {T p2 q2:Int}(hT:0<T)(h1:0≤p2)(h2:2*p2≤T)(h4:0≤q2)(h5:4*q2≤T+3):0≤-(-(p2*q2) / T)∧4*-(-(p2*q2) / T)≤p2+5:=by
 have f2:=Int.lt_ediv_add_one_mul_self (-(p2*q2)) hT
 have f3:=Int.ediv_mul_le (-(p2*q2)) (show T≠0 by omega)
 have n2:=Int.mul_nonneg h1 h4
 generalize -(p2*q2) / T=v at *
 have m1:=Int.mul_le_mul_of_nonneg_left h5 h1
 refine⟨?_,?_⟩
 ·refine Decidable.byContradiction fun hn=>?_
  have m:=Int.mul_le_mul_of_nonneg_right (show 1≤v by omega) (show 0≤T by omega)
  grind
 ·refine Decidable.byContradiction fun hn=>?_
  have m:=Int.mul_le_mul_of_nonneg_right (show p2+6≤4*-v by omega) (show 0≤T by omega)
  grind
structure ArH (T x1 x2:Int):Prop where
 hT:8≤T
 h1:0≤x1
 h2:x1≤x2
 h3:2*x2≤T
def arQ1 (T x1:Int):Int:=x1*x1 / T
def arQ2 (T x2:Int):Int:=-(-(x2*x2) / T)
abbrev aP (T x1 x2:Int)(j:Nat):Int × Int:=arP T (arQ1 T x1) (arQ2 T x2) x1 x2 j
abbrev aA (T x1 x2:Int)(j:Nat):Int × Int:=arA T (arQ1 T x1) (arQ2 T x2) x1 x2 j
theorem aP_facts {T x1 x2:Int}(h:ArH T x1 x2):∀ j,0≤(aP T x1 x2 j).1∧0≤(aP T x1 x2 j).2∧2*(aP T x1 x2 j).2≤T∧(aP T x1 x2 j).2-(aP T x1 x2 j).1≤(x2-x1)+6
 | 0=>⟨h.h1,by have:=h.h1;have:=h.h2;show 0≤x2;omega,h.h3,by show x2-x1≤_;omega⟩
 | j+1=>by
  obtain⟨a1,a2,a3,a4⟩:=aP_facts h j
  have hT:=h.hT
  obtain⟨q1,q2,q3,q4,q5⟩:=ar_q (T:=T) (by omega) h.h1 h.h2 h.h3
  have p:=ar_p (T:=T) (by omega) a2 a3 q4 q5
  have w:=ar_w (T:=T) (D:=x2-x1) (by omega) a2 a3 q3 (by have:=h.h2;omega) q1 q2 a4
  have n:=Int.ediv_nonneg (Int.mul_nonneg a1 q1) (show 0≤T by omega)
  exact⟨n,p.1,by have:=p.2;show 2*(-(-((aP T x1 x2 j).2*-(-(x2*x2) / T)) / T))≤T;omega,w⟩
theorem aP_step {T x1 x2:Int}(h:ArH T x1 x2)(j:Nat):4*(aP T x1 x2 (j+1)).2≤(aP T x1 x2 j).2+5:=by
 obtain⟨a1,a2,a3,a4⟩:=aP_facts h j
 have hT:=h.hT
 obtain⟨q1,q2,q3,q4,q5⟩:=ar_q (T:=T) (by omega) h.h1 h.h2 h.h3
 exact (ar_p (T:=T) (by omega) a2 a3 q4 q5).2
theorem aP_small {t:Nat}{x1 x2:Int}(h:ArH (2^t) x1 x2):∃ N,N≤t∧(aP (2^t) x1 x2 N).2<8∧∀ j,j<N→¬ (aP (2^t) x1 x2 j).2<8:=by
 by_cases q:∃ m,m≤t∧(aP (2^t) x1 x2 m).2<8
 ·obtain⟨m,hm,pm⟩:=q
  obtain⟨N,hN,r⟩:=least (P:=fun m=>(aP (2^t) x1 x2 m).2<8) pm
  exact⟨N,by omega,r⟩
 ·have key:∀ j,j≤t→(aP (2^t) x1 x2 j).2*2^j≤2^t:=by
   intro j
   induction j with
   | zero=>intro _;have:=h.h3;have:=h.h1;have:=h.h2;show x2*1≤_;omega
   | succ j ih =>
    intro hj
    have i:=ih (by omega)
    have s:=aP_step h j
    have b:¬ (aP (2^t) x1 x2 j).2<8:=fun hb=>q ⟨j,by omega,hb⟩
    have m:=Int.mul_le_mul_of_nonneg_right (show 2*(aP (2^t) x1 x2 (j+1)).2≤(aP (2^t) x1 x2 j).2 by omega) (show (0:Int)≤2^j from Int.le_of_lt (two_pos j))
    rw[Int.pow_succ]
    grind
  have k:=key t (Nat.le_refl _)
  have b:¬ (aP (2^t) x1 x2 t).2<8:=fun hb=>q ⟨t,Nat.le_refl _,hb⟩
  have m:=Int.mul_le_mul_of_nonneg_right (show 8≤(aP (2^t) x1 x2 t).2 by omega) (show (0:Int)≤2^t from Int.le_of_lt (two_pos t))
  have:=two_pos t
  omega
theorem aP_enc {T x1 x2:Int}{X:Rat}(h:ArH T x1 x2)(e1:(x1:Rat)≤X*T)(e2:X*T≤(x2:Rat)):∀ j,((aP T x1 x2 j).1:Rat)≤X^(2*j+1)*T∧X^(2*j+1)*T≤((aP T x1 x2 j).2:Rat)
 | 0=>by
  rw[show X^(2*0+1)=X by rw[Rat.pow_succ,Rat.pow_zero,Rat.one_mul]]
  exact⟨e1,e2⟩
 | j+1=>by
  have hT:=h.hT
  have T0:(0:Rat)<T:=Rat.intCast_pos.2 (by omega)
  have X0:0≤X:=by
   have:(0:Rat)*T≤X*T:=by rw[Rat.zero_mul];exact Rat.le_trans (Rat.intCast_nonneg.2 h.h1) e1
   exact Rat.le_of_mul_le_mul_right this T0
  have i:=aP_enc h e1 e2 j
  obtain⟨a1,a2,a3,a4⟩:=aP_facts h j
  obtain⟨q1,q2,q3,q4,q5⟩:=ar_q (T:=T) (by omega) h.h1 h.h2 h.h3
  have s1:=pf_lo (T:=T) (by omega) h.h1 h.h1 e1 e1
  have s2:=pf_hi (T:=T) (by omega) X0 X0 e2 e2
  rw[odd_succ]
  exact⟨pf_lo (by omega) a1 q1 i.1 s1,pf_hi (by omega) (Rat.pow_nonneg X0) (Rat.mul_nonneg X0 X0) i.2 s2⟩
theorem aA_enc {T x1 x2:Int}{X:Rat}(h:ArH T x1 x2)(e1:(x1:Rat)≤X*T)(e2:X*T≤(x2:Rat)):∀ j,((aA T x1 x2 j).1:Rat)≤PL X (j+1)*T∧PL X (j+1)*T≤((aA T x1 x2 j).2:Rat)
 | 0=>by
  have e:PL X (0+1)=X:=by
   show (0:Rat)+X^(2*0+1) / (odn 0:Rat)=X
   rw[show X^(2*0+1)=X by rw[Rat.pow_succ,Rat.pow_zero,Rat.one_mul],show (odn 0:Rat)=1 from rfl]
   grind
  rw[e]
  exact⟨e1,e2⟩
 | j+1=>by
  have i:=aA_enc h e1 e2 j
  have p:=aP_enc h e1 e2 (j+1)
  obtain⟨a1,a2,_⟩:=aP_facts h (j+1)
  have d1:=df_lo (odn_pos (j+1)) p.1
  have d2:=df_hi (odn_pos (j+1)) p.2
  rw[← ptLo_eq a1 (odn_pos _)] at d1
  rw[← ptHi_eq a2 (odn_pos _)] at d2
  have e:PL X (j+1+1)*T=PL X (j+1)*T+X^(2*(j+1)+1)*T / (odn (j+1):Rat):=by
   show (PL X (j+1)+X^(2*(j+1)+1) / (odn (j+1):Rat))*T=_
   rw[Rat.div_def,Rat.div_def];grind
  rw[e]
  constructor
  ·show (((aA T x1 x2 j).1+ptLo (aP T x1 x2 (j+1)).1 (odn (j+1)):Int):Rat)≤_
   rw[Rat.intCast_add];grind
  ·show _≤(((aA T x1 x2 j).2+ptHi (aP T x1 x2 (j+1)).2 (odn (j+1)):Int):Rat)
   rw[Rat.intCast_add];grind
theorem aA_facts {T x1 x2:Int}(h:ArH T x1 x2):∀ j,0≤(aA T x1 x2 j).1∧(aA T x1 x2 j).2≤((j:Int)+1)*T∧(aA T x1 x2 j).2-(aA T x1 x2 j).1≤(x2-x1)+(j:Int)*((x2-x1)+8)∧0≤(aA T x1 x2 j).2
 | 0=>⟨h.h1,by have:=h.h1;have:=h.h2;have:=h.h3;show x2≤((0:Nat)+1:Int)*T;omega,by show x2-x1≤_;omega,by have:=h.h1;have:=h.h2;show 0≤x2;omega⟩
 | j+1=>by
  obtain⟨a1,a2,a3,a4⟩:=aA_facts h j
  obtain⟨b1,b2,b3,b4⟩:=aP_facts h (j+1)
  have hn:=odn_pos (j+1)
  have hT:=h.hT
  have l1:ptLo (aP T x1 x2 (j+1)).1 (odn (j+1))=_:=ptLo_eq b1 hn
  have l2:ptHi (aP T x1 x2 (j+1)).2 (odn (j+1))=_:=ptHi_eq b2 hn
  have f1:=Int.lt_ediv_add_one_mul_self (aP T x1 x2 (j+1)).1 hn
  have f2:=Int.lt_ediv_add_one_mul_self (-(aP T x1 x2 (j+1)).2) hn
  have n1:=Int.ediv_nonneg b1 (show 0≤odn (j+1) by omega)
  have n3:3≤odn (j+1):=by unfold odn;omega
  have g1:ptLo (aP T x1 x2 (j+1)).1 (odn (j+1))=(aP T x1 x2 (j+1)).1 / odn (j+1):=l1
  show 0≤(aA T x1 x2 j).1+ptLo (aP T x1 x2 (j+1)).1 (odn (j+1))∧(aA T x1 x2 j).2+ptHi (aP T x1 x2 (j+1)).2 (odn (j+1))≤(((j+1:Nat):Int)+1)*T ∧
   ((aA T x1 x2 j).2+ptHi (aP T x1 x2 (j+1)).2 (odn (j+1)))-((aA T x1 x2 j).1+ptLo (aP T x1 x2 (j+1)).1 (odn (j+1)))≤(x2-x1)+((j+1:Nat):Int)*((x2-x1)+8)∧0≤(aA T x1 x2 j).2+ptHi (aP T x1 x2 (j+1)).2 (odn (j+1))
  have p0:(0:Int)≤ptHi (aP T x1 x2 (j+1)).2 (odn (j+1)):=by unfold ptHi;exact Int.natCast_nonneg _
  rw[l1,l2] at *
  generalize (aP T x1 x2 (j+1)).1 / odn (j+1)=u at *
  generalize -(aP T x1 x2 (j+1)).2 / odn (j+1)=v at *
  have hx:=h.h2
  have kv:-v≤T:=by
   refine Decidable.byContradiction fun hq=>?_
   have m:=Int.mul_le_mul_of_nonneg_right (show T+1≤-v by omega) (show 0≤odn (j+1) by omega)
   have m2:=Int.mul_le_mul_of_nonneg_left n3 (show 0≤T by omega)
   grind
  have kw:-v-u≤(x2-x1)+8:=by
   refine Decidable.byContradiction fun hq=>?_
   have m:=Int.mul_le_mul_of_nonneg_right (show (x2-x1)+9≤-v-u by omega) (show 0≤odn (j+1) by omega)
   have m2:=Int.mul_le_mul_of_nonneg_left n3 (show 0≤(x2-x1)+7 by omega)
   grind
  refine⟨by omega,?_,?_,by omega⟩
  ·rw[Int.natCast_add,Int.natCast_one];grind
  ·rw[Int.natCast_add,Int.natCast_one];grind
theorem area_enc {T x1 x2:Int}{X:Rat}(h:ArH T x1 x2)(e1:(x1:Rat)≤X*T)(e2:X*T≤(x2:Rat))(N:Nat){K:Nat}(hK:N+1≤K) :
  ((aA T x1 x2 N).1:Rat)≤PL X K*T∧PL X K*T≤(((aA T x1 x2 N).2+(aP T x1 x2 N).2:Int):Rat):=by
 have hT:=h.hT
 have T0:(0:Rat)<T:=Rat.intCast_pos.2 (by omega)
 have X0:0≤X:=by
  have:(0:Rat)*T≤X*T:=by rw[Rat.zero_mul];exact Rat.le_trans (Rat.intCast_nonneg.2 h.h1) e1
  exact Rat.le_of_mul_le_mul_right this T0
 have X2:2*X≤1:=by
  refine Rat.le_of_mul_le_mul_right (c:=(T:Rat)) ?_ T0
  have:((2*x2:Int):Rat)≤(T:Rat):=Rat.intCast_le_intCast.2 h.h3
  rw[Rat.intCast_mul] at this
  rw[show ((2:Int):Rat)=2 from rfl] at this
  grind
 have p:=PL_hi X0 X2 hK
 have a:=aA_enc h e1 e2 N
 have q:=aP_enc h e1 e2 N
 have m1:=Rat.mul_le_mul_of_nonneg_right p.1 (Rat.le_of_lt T0)
 have m2:=Rat.mul_le_mul_of_nonneg_right p.2 (Rat.le_of_lt T0)
 refine⟨Rat.le_trans a.1 m1,?_⟩
 rw[Rat.intCast_add]
 grind
end Go.Proofs.YtkkbddkpggjgpaaGreatDoor

namespace Go.Proofs.YtkkbddkpggjgpaaGreatDoor
theorem dv_sc (x:Int)(t:Nat):dv x (-(t:Int))*((2^t:Int):Rat)=(x:Rat):=by
 have e:((2^t:Int):Rat)=(2:Rat)^(t:Int):=(zp_nat t).symm
 unfold dv
 rw[e,Rat.mul_assoc,Rat.mul_comm ((2:Rat)^(-(t:Int))),zp_cancel,Rat.mul_one]
theorem flr_sc (r:Rat)(t:Nat):((flr r t:Int):Rat)≤r*((2^t:Int):Rat)∧r*((2^t:Int):Rat)<((flr r t:Int):Rat)+1:=by
 have T0:(0:Rat)<((2^t:Int):Rat):=Rat.intCast_pos.2 (two_pos t)
 have a:=Rat.mul_le_mul_of_nonneg_right (flr_le r t) (Rat.le_of_lt T0)
 have b:=Rat.mul_lt_mul_of_pos_right (flr_lt r t) T0
 rw[dv_sc] at a b
 rw[Rat.intCast_add] at b
 exact⟨a,b⟩
theorem cei_sc (r:Rat)(t:Nat):r*((2^t:Int):Rat)≤((cei r t:Int):Rat)∧((cei r t:Int):Rat)<r*((2^t:Int):Rat)+1:=by
 have h:=flr_sc (-r) t
 unfold cei
 rw[Rat.intCast_neg]
 constructor<;>grind
theorem flr_cei1 (r:Rat)(t:Nat):cei r t≤flr r t+1∧flr r t≤cei r t:=by
 have a:=flr_sc r t
 have b:=cei_sc r t
 constructor
 ·refine Decidable.byContradiction fun hn=>?_
  have:((flr r t+2:Int):Rat)≤((cei r t:Int):Rat):=Rat.intCast_le_intCast.2 (by omega)
  rw[Rat.intCast_add,show ((2:Int):Rat)=2 from rfl] at this
  grind
 ·refine Rat.intCast_le_intCast.1 ?_
  grind
structure LnH (T:Int) (M Z:Rat) (d1 d2 xa xb:Int):Prop where
 hT:256≤T
 m1:3≤4*M
 m2:2*M≤3
 xa1:(xa:Rat)≤M*(T:Rat)
 xb1:M*(T:Rat)≤(xb:Rat)
 x2:xb≤xa+1
 d0:0≤d1
 d3:d2≤d1+1
 z0:0≤Z
 z2:2*(Z*(M+1))≤1
 dz1:(d1:Rat)≤Z*(M+1)*(T:Rat)
 dz2:Z*(M+1)*(T:Rat)≤(d2:Rat)
theorem two_R:((2:Int):Rat)=2:=rfl
theorem ln_quo {T d1 d2 xa xb z1 z2:Int}{M Z:Rat}(h:LnH T M Z d1 d2 xa xb)(e1:z1=d1*T / (xb+T))(e2:z2=-(-(d2*T) / (xa+T))) :
  ArH T z1 z2∧(z1:Rat)≤Z*T∧Z*T≤(z2:Rat)∧z2-z1≤4:=by
 obtain⟨hT,m1,m2,xa1,xb1,x2,d0,d3,z0,zz,dz1,dz2⟩:=h
 have T0:(0:Rat)<T:=Rat.intCast_pos.2 (by omega)
 have A:3*T≤4*xb:=by
  refine Rat.intCast_le_intCast.1 ?_
  rw[Rat.intCast_mul,Rat.intCast_mul,show ((3:Int):Rat)=3 from rfl,show ((4:Int):Rat)=4 from rfl]
  have m:=Rat.mul_le_mul_of_nonneg_right m1 (Rat.le_of_lt T0)
  grind
 have C:2*d1≤T:=by
  refine Rat.intCast_le_intCast.1 ?_
  rw[Rat.intCast_mul,two_R]
  have m:=Rat.mul_le_mul_of_nonneg_right zz (Rat.le_of_lt T0)
  grind
 have B:2*xa≤3*T:=by
  refine Rat.intCast_le_intCast.1 ?_
  rw[Rat.intCast_mul,Rat.intCast_mul,show ((3:Int):Rat)=3 from rfl,two_R]
  have m:=Rat.mul_le_mul_of_nonneg_right m2 (Rat.le_of_lt T0)
  grind
 have hb:0<xb+T:=by omega
 have ha:0<xa+T:=by omega
 have f1:=Int.ediv_mul_le (d1*T) (show xb+T≠0 by omega)
 have f2:=Int.lt_ediv_add_one_mul_self (d1*T) hb
 have f3:=Int.ediv_mul_le (-(d2*T)) (show xa+T≠0 by omega)
 have f4:=Int.lt_ediv_add_one_mul_self (-(d2*T)) ha
 have n1:=Int.ediv_nonneg (Int.mul_nonneg d0 (show 0≤T by omega)) (show 0≤xb+T by omega)
 rw[← e1] at f1 f2 n1
 have e3:-(d2*T) / (xa+T)=-z2:=by omega
 rw[e3] at f3 f4
 clear e1 e2 e3
 have E1:(z1:Rat)≤Z*T:=by
  have c:((z1*(xb+T):Int):Rat)≤((d1*T:Int):Rat):=Rat.intCast_le_intCast.2 f1
  rw[Rat.intCast_mul,Rat.intCast_mul,Rat.intCast_add] at c
  have z0':(0:Rat)≤z1:=Rat.intCast_nonneg.2 n1
  have p1:=Rat.mul_le_mul_of_nonneg_left (show (M+1)*(T:Rat)≤(xb:Rat)+T by grind) z0'
  have p2:=Rat.mul_le_mul_of_nonneg_right dz1 (Rat.le_of_lt T0)
  have q:(0:Rat)<(M+1)*T:=Rat.mul_pos (by grind) T0
  refine Rat.le_of_mul_le_mul_right (c:=(M+1)*(T:Rat)) ?_ q
  grind
 have N2:0≤d2:=by
  refine Rat.intCast_le_intCast.1 (Rat.le_trans ?_ dz2)
  exact Rat.mul_nonneg (Rat.mul_nonneg z0 (by grind)) (Rat.le_of_lt T0)
 have Z2:0≤z2:=by
  refine Decidable.byContradiction fun hn=>?_
  have m:=Int.mul_le_mul_of_nonneg_right (show z2≤-1 by omega) (show 0≤xa+T by omega)
  have m2:=Int.mul_nonneg N2 (show 0≤T by omega)
  grind
 have E2:Z*T≤(z2:Rat):=by
  have c:((d2*T:Int):Rat)≤((z2*(xa+T):Int):Rat):=Rat.intCast_le_intCast.2 (by grind)
  rw[Rat.intCast_mul,Rat.intCast_mul,Rat.intCast_add] at c
  have z0':(0:Rat)≤z2:=Rat.intCast_nonneg.2 Z2
  have p1:=Rat.mul_le_mul_of_nonneg_left (show (xa:Rat)+T≤(M+1)*(T:Rat) by grind) z0'
  have p2:=Rat.mul_le_mul_of_nonneg_right dz2 (Rat.le_of_lt T0)
  have q:(0:Rat)<(M+1)*T:=Rat.mul_pos (by grind) T0
  refine Rat.le_of_mul_le_mul_right (c:=(M+1)*(T:Rat)) ?_ q
  grind
 have O:z1≤z2:=Rat.intCast_le_intCast.1 (Rat.le_trans E1 E2)
 refine⟨⟨by omega,n1,O,?_⟩,E1,E2,?_⟩
 ·refine Decidable.byContradiction fun hn=>?_
  have m:=Int.mul_le_mul_of_nonneg_right (show T+1≤2*z2 by omega) (show 0≤xa+T by omega)
  have m2:=Int.mul_le_mul_of_nonneg_right (show d2≤d1+1 by omega) (show 0≤T by omega)
  have m3:=Int.mul_le_mul_of_nonneg_right C (show 0≤T by omega)
  have m4:=Int.mul_nonneg (show 0≤4*xa-3*T+4 by omega) (show 0≤T by omega)
  have m5:=Int.mul_le_mul_of_nonneg_right hT (show 0≤T by omega)
  grind
 ·refine Decidable.byContradiction fun hn=>?_
  have m:=Int.mul_le_mul_of_nonneg_right (show 5≤z2-z1 by omega) (show 0≤xa+T by omega)
  have m2:=Int.mul_le_mul_of_nonneg_right (show d2≤d1+1 by omega) (show 0≤T by omega)
  have m3:=Int.mul_le_mul_of_nonneg_left (show xb-xa≤1 by omega) n1
  have m4:z1≤T:=by
   refine Decidable.byContradiction fun hq=>?_
   have m5:=Int.mul_le_mul_of_nonneg_right (show T+1≤z1 by omega) (show 0≤xb+T by omega)
   have m6:=Int.mul_le_mul_of_nonneg_right (show d1≤xb+T by omega) (show 0≤T by omega)
   grind
  grind
end Go.Proofs.YtkkbddkpggjgpaaGreatDoor

namespace Go.Proofs.YtkkbddkpggjgpaaGreatDoor
def mn4 (a b c d:Int):Int:=min (min (min (a*c) (a*d)) (b*c)) (b*d)
def mx4 (a b c d:Int):Int:=max (max (max (a*c) (a*d)) (b*c)) (b*d)
def rm1 (a b c d T:Int):Int:=mn4 a b c d / T
def rm2 (a b c d T:Int):Int:=-(-(mx4 a b c d) / T)
def rP (T q1 q2 x1 x2:Int):Nat→Int × Int
 | 0=>(x1,x2)
 | j+1=>(rm1 (rP T q1 q2 x1 x2 j).1 (rP T q1 q2 x1 x2 j).2 q1 q2 T,rm2 (rP T q1 q2 x1 x2 j).1 (rP T q1 q2 x1 x2 j).2 q1 q2 T)
def ovLo (a b n:Int):Int:=Int.fdiv (min a b) n
def ovHi (a b n:Int):Int:=-(Int.fdiv (-(max a b)) n)
def rA (T q1 q2 x1 x2:Int):Nat→Int × Int
 | 0=>(0,0)
 | j+1=>((rA T q1 q2 x1 x2 j).1+ovLo (rP T q1 q2 x1 x2 j).1 (rP T q1 q2 x1 x2 j).2 (odn j),(rA T q1 q2 x1 x2 j).2+ovHi (rP T q1 q2 x1 x2 j).1 (rP T q1 q2 x1 x2 j).2 (odn j))
structure RrH (v:Nat) (x1 x2:Int):Prop where
 hv:8≤v
 h1:x1.natAbs≤2^(v-1)
 h2:x2.natAbs≤2^(v-1)
def rq1 (T x1 x2:Int):Int:=rm1 x1 x2 x1 x2 T
def rq2 (T x1 x2:Int):Int:=rm2 x1 x2 x1 x2 T
abbrev sA (v:Nat)(x1 x2:Int)(j:Nat):Int × Int:=rA (2^v) (rq1 (2^v) x1 x2) (rq2 (2^v) x1 x2) x1 x2 j
end Go.Proofs.YtkkbddkpggjgpaaGreatDoor

namespace Go.Proofs.YtkkbddkpggjgpaaGreatDoor
theorem of_ge {m e s:Int}(h:0≤e+s):m*2^(e+s).toNat=flr (dv m e) s∧m*2^(e+s).toNat=cei (dv m e) s:=by
 have a:flr (dv m e) s=m*2^(e+s).toNat:=by rw[flr_dv,if_pos h]
 have b:flr (dv (-m) e) s=-m*2^(e+s).toNat:=by rw[flr_dv,if_pos h]
 refine⟨a.symm,?_⟩
 unfold cei
 rw[← dv_neg,b,Int.neg_mul,Int.neg_neg]
theorem of_lt {m e s:Int}(h:e+s<0):m / 2^(0-(e+s)).toNat=flr (dv m e) s∧-(-m / 2^(0-(e+s)).toNat)=cei (dv m e) s:=by
 have a:flr (dv m e) s=m / 2^(-(e+s)).toNat:=by rw[flr_dv,if_neg (by omega)]
 have b:flr (dv (-m) e) s=-m / 2^(-(e+s)).toNat:=by rw[flr_dv,if_neg (by omega)]
 rw[show (0:Int)-(e+s)=-(e+s) by omega]
 refine⟨a.symm,?_⟩
 unfold cei
 rw[← dv_neg,b]
theorem half_enc {a b:Int}{X:Rat}{t s n:Nat}(h:t=s+n)(h1:(a:Rat)≤X*((2^t:Int):Rat))(h2:X*((2^t:Int):Rat)≤(b:Rat)) :
  ((a / 2^n:Int):Rat)≤X*((2^s:Int):Rat)∧X*((2^s:Int):Rat)≤((-(-b / 2^n):Int):Rat):=by
 have n0:(0:Rat)<((2^n:Int):Rat):=Rat.intCast_pos.2 (two_pos n)
 have e:((2^t:Int):Rat)=((2^s:Int):Rat)*((2^n:Int):Rat):=by rw[h,Int.pow_add,Rat.intCast_mul]
 rw[e,← Rat.mul_assoc] at h1 h2
 have f:=(fl_R (a:=a) (two_pos n)).1
 have g:=(ce_R (a:=b) (two_pos n)).1
 exact⟨Rat.le_of_mul_le_mul_right (Rat.le_trans f h1) n0,Rat.le_of_mul_le_mul_right (Rat.le_trans h2 g) n0⟩
theorem half_w {a b W:Int}{n:Nat}(h:b-a≤W*2^n):-(-b / 2^n)-a / 2^n≤W+1:=by
 have n0:=two_pos n
 have f1:=Int.lt_ediv_add_one_mul_self a n0
 have f2:=Int.lt_ediv_add_one_mul_self (-b) n0
 generalize a / 2^n=u at *
 generalize -b / 2^n=v at *
 generalize (2:Int)^n=T at *
 refine Decidable.byContradiction fun hn=>?_
 have m:=Int.mul_le_mul_of_nonneg_right (show W+2≤-v-u by omega) (show 0≤T by omega)
 grind
def tmLo (a b k:Int):Int:=if k<0 then b*k else a*k
def tmHi (a b k:Int):Int:=if k<0 then a*k else b*k
theorem tm_enc {a b k:Int}{y:Rat}(h1:(a:Rat)≤y)(h2:y≤(b:Rat)):((tmLo a b k:Int):Rat)≤y*k∧y*k≤((tmHi a b k:Int):Rat):=by
 unfold tmLo tmHi
 split
 ·rename_i h
  have k0:(0:Rat)≤-(k:Rat):=by rw[← Rat.intCast_neg];exact Rat.intCast_nonneg.2 (by omega)
  have m1:=Rat.mul_le_mul_of_nonneg_right h1 k0
  have m2:=Rat.mul_le_mul_of_nonneg_right h2 k0
  rw[Rat.intCast_mul,Rat.intCast_mul]
  constructor<;>grind
 ·rename_i h
  have k0:(0:Rat)≤(k:Rat):=Rat.intCast_nonneg.2 (by omega)
  have m1:=Rat.mul_le_mul_of_nonneg_right h1 k0
  have m2:=Rat.mul_le_mul_of_nonneg_right h2 k0
  rw[Rat.intCast_mul,Rat.intCast_mul]
  exact⟨m1,m2⟩
theorem tm_w {a b k W:Int}(hab:a≤b)(hk:-W≤k∧k≤W)(h:b-a<16777216):tmHi a b k-tmLo a b k≤16777216*W:=by
 unfold tmLo tmHi
 have key:∀ {x y:Int},0≤x→x≤16777216→0≤y→y≤W→x*y≤16777216*W:=fun h1 h2 h3 h4 =>
  Int.le_trans (Int.mul_le_mul_of_nonneg_right h2 h3) (Int.mul_le_mul_of_nonneg_left h4 (by omega))
 split
 ·have:=key (x:=b-a) (y:=-k) (by omega) (by omega) (by omega) (by omega)
  rw[Int.mul_neg,Int.sub_mul] at this
  omega
 ·have:=key (x:=b-a) (y:=k) (by omega) (by omega) (by omega) (by omega)
  rw[Int.sub_mul] at this
  omega
def ptLn:Int:=1921868181103848789005135799070027024580345152612047297481125309024332866685277824573051215291055110282969622901371337173642342478
def cLn:Rat:=dv ptLn (-430)
theorem cl_sc {x:Int}{t:Nat}{P:Int}(ht:t≤430):(x*2^(430-t)≤P→(x:Rat)≤dv P (-430)*((2^t:Int):Rat))∧(P≤x*2^(430-t)→dv P (-430)*((2^t:Int):Rat)≤(x:Rat)):=by
 have T0:(0:Rat)<((2^t:Int):Rat):=Rat.intCast_pos.2 (two_pos t)
 have e:dv (x*2^(430-t)) (-430)*((2^t:Int):Rat)=(x:Rat):=by
  rw[dv_shl,show (-430:Int)+((430-t:Nat):Int)=-(t:Int) by omega,dv_sc]
 constructor
 ·intro h
  have a:=Rat.mul_le_mul_of_nonneg_right ((dv_le (c:=-430)).2 h) (Rat.le_of_lt T0)
  rwa [e] at a
 ·intro h
  have a:=Rat.mul_le_mul_of_nonneg_right ((dv_le (c:=-430)).2 h) (Rat.le_of_lt T0)
  rwa [e] at a
def LnF (M:Rat)(k:Int)(K:Nat):Rat:=2*PL ((M-1) / (M+1)) K+(k:Rat)*cLn
def Encl (f:Nat→Rat)(s:Nat)(lo hi:Int):Prop:=∃ N,∀ K,N≤K→(lo:Rat)≤f K*((2^s:Int):Rat)∧f K*((2^s:Int):Rat)≤(hi:Rat)
theorem Encl.half {f:Nat→Rat}{t s n:Nat}{a b:Int}(h:Encl f t a b)(e:t=s+n):Encl f s (a / 2^n) (-(-b / 2^n)):=by
 obtain⟨N,h⟩:=h
 exact⟨N,fun K hK=>half_enc e (h K hK).1 (h K hK).2⟩
theorem Encl.le {f:Nat→Rat}{s:Nat}{a b:Int}(h:Encl f s a b):a≤b:=by
 obtain⟨N,h⟩:=h
 exact Rat.intCast_le_intCast.1 (Rat.le_trans (h N (Nat.le_refl _)).1 (h N (Nat.le_refl _)).2)
theorem ln_add {M:Rat}{t:Nat}{k u1 u2 v1 v2:Int}{g:Bool}{Z:Rat}(hz:(M-1) / (M+1)=if g then -Z else Z){N:Nat}
  (h:∀ K,N≤K→(u1:Rat)≤PL Z K*((2^t:Int):Rat)∧PL Z K*((2^t:Int):Rat)≤(u2:Rat)) (h1:(v1:Rat)≤cLn*((2^t:Int):Rat)) (h2:cLn*((2^t:Int):Rat)≤(v2:Rat)) :
  Encl (LnF M k) t ((if g then -(u2*2) else u1*2)+tmLo v1 v2 k) ((if g then -(u1*2) else u2*2)+tmHi v1 v2 k):=by
 have m:=tm_enc (k:=k) h1 h2
 refine⟨N,fun K hK=>?_⟩
 have q:=h K hK
 unfold LnF
 rw[hz]
 cases g with
 | false =>
  simp only [Bool.false_eq_true,if_false]
  rw[Rat.intCast_add,Rat.intCast_add,Rat.intCast_mul,Rat.intCast_mul,two_R]
  constructor<;>grind
 | true =>
  simp only [if_true]
  rw[PL_neg,Rat.intCast_add,Rat.intCast_add,Rat.intCast_neg,Rat.intCast_neg,Rat.intCast_mul,Rat.intCast_mul,two_R]
  constructor<;>grind
theorem cmpI_le (x y:Int):cmpI x y≤0↔x≤y:=by unfold cmpI;split<;>(try split)<;>omega
theorem Sp_of {a b c d:Int}(h1:a=c)(h2:b=d):vsub (.agg [.bool (decide (a<0)),N a.natAbs,.bool (decide (b<0)),N b.natAbs]) (.agg [.bool (decide (c<0)),N c.natAbs,.bool (decide (d<0)),N d.natAbs]):=by
 subst h1;subst h2;exact vsub_refl _
theorem pt_hi1 {b d:Int}(h:((b.natAbs%d.toNat:Nat):Int)≠0):sgn false (b.natAbs / d.toNat+(1:Int).toNat)=ptHi b d:=by
 unfold ptHi
 rw[if_neg (by omega)];rfl
theorem pt_hi2 {b d:Int}(h:((b.natAbs%d.toNat:Nat):Int)=0):sgn false (b.natAbs / d.toNat)=ptHi b d:=by
 unfold ptHi
 rw[if_pos (by omega)];rfl
theorem tiny_8 {b:Int}:iLe (nbits b.natAbs:Int) 3=decide (b.natAbs<8):=by
 unfold iLe
 have h:(nbits b.natAbs:Int)≤3↔b.natAbs<8:=by
  constructor
  ·intro h
   have l:=nbits_lt b.natAbs
   have:=Nat.pow_le_pow_right (n:=2) (by omega) (show nbits b.natAbs≤3 by omega)
   omega
  ·intro h
   have:=nbits_of_lt (x:=b.natAbs) (k:=3) (by omega)
   omega
 exact decide_eq_decide.2 h
theorem arcT_pos (n:Int)(g:Bool)(s:Int):0≤(arcT n g s).1:=by
 have key:∀ (f:Nat) (n:Nat) (k:Int) (p:Nat) (a:Int),0≤k→0≤(arcG n g f k p a).1:=by
  intro f
  induction f with
  | zero=>intro n k p a h;exact h
  | succ f ih =>
   intro n k p a h
   rw[arcG]
   split
   ·exact h
   ·exact ih _ _ _ _ (by omega)
 exact key _ _ _ _ _ (Int.le_refl _)
end Go.Proofs.YtkkbddkpggjgpaaGreatDoor

namespace Go.Proofs.YtkkbddkpggjgpaaGreatDoor
open Go.RowKit
set_option maxRecDepth 100000
theorem fx_One (s:Int)(c0:(0:Int)≤s∧s≤20000):Impl Tryz.prog Amb 174 [(.int .i64 s)] (sV ((1:Int)*2^(s).toNat) ((1:Int)*2^(s).toNat)):=by
 exact impl_ob hP hAmb Tryz.func174 (by kernel_rfl) (.lit<|.call (zV (1:Int))<|.lit<|.call (zV ((1:Int)*2^(s).toNat))<|.lit<|.call (sV ((1:Int)*2^(s).toNat) ((1:Int)*2^(s).toNat))<|.lits 2<|.ret)
  (cast_ob (aI True.intro (aI (int_Of 1 oO) (have f2:=(L_i64 oO:L (1:Int).natAbs≤2);aI (int_Shl (1:Int) s oO oO) (have f1:=L_abs_shl (1:Int) (s).toNat;aI (fx_Exact ((1:Int)*2^(s).toNat) oO) ((vsub_refl (sV ((1:Int)*2^(s).toNat) ((1:Int)*2^(s).toNat)))))))) (by kernel_rfl))
theorem fx_Of (m e s:Int)(c0:L (m).natAbs≤8192)(c1:(-200000:Int)≤e∧e≤200000)(c2:(0:Int)≤s∧s≤20000):Impl Tryz.prog Amb 173 [(yV m e),(.int .i64 s)] (sV (flr (dv m e) s) (cei (dv m e) s)):=by
 exact impl_ob hP hAmb Tryz.func173 (by kernel_rfl) (.lits 2<|.yes<|.lit<|.both (.lits 2<|.call (zV (m*2^((e+s)).toNat))<|.lit<|.call (sV (m*2^((e+s)).toNat) (m*2^((e+s)).toNat))<|.lits 2<|.ret) (.lits 2<|.call (sV m m)<|.lit<|.yes<|.lit<|.call (sV (m / 2^(((0:Int)-(e+s))).toNat) (-(-m / 2^(((0:Int)-(e+s))).toNat)))<|.lits 2<|.ret))
  (cast_ob (aI True.intro (aI (fits_i64 oO:(fits .i64 (e+s))=true) (aI (fun (h1:(iGe (e+s) 0)=true)=>have _gh1:=iGe_t h1;aI (int_Shl m (e+s) oO oO) (have f2:=L_abs_shl m ((e+s)).toNat;aI (fx_Exact (m*2^((e+s)).toNat) oO) ((by rw[← (of_ge (m:=m) (e:=e) (s:=s) oO).1,← (of_ge (m:=m) (e:=e) (s:=s) oO).2];exact vsub_refl _:vsub (sV (m*2^((e+s)).toNat) (m*2^((e+s)).toNat)) (sV (flr (dv m e) s) (cei (dv m e) s)))))) (fun (h3:(iGe (e+s) 0)=false)=>have _gh3:=iGe_f h3;aI (fx_Exact m oO) (aI (fits_i64 oO:(fits .i64 ((0:Int)-(e+s)))=true) (aI (fx_Half m m ((0:Int)-(e+s)) oO oO oO) (have f7:=L_abs_neg (-m / 2^(((0:Int)-(e+s))).toNat);have f6:=L_abs_shr (-m) (((0:Int)-(e+s))).toNat;have f5:=L_abs_neg m;have f4:=L_abs_shr m (((0:Int)-(e+s))).toNat;(by rw[← (of_lt (m:=m) (e:=e) (s:=s) oO).1,← (of_lt (m:=m) (e:=e) (s:=s) oO).2];exact vsub_refl _:vsub (sV (m / 2^(((0:Int)-(e+s))).toNat) (-(-m / 2^(((0:Int)-(e+s))).toNat))) (sV (flr (dv m e) s) (cei (dv m e) s)))))))))) (by kernel_rfl))
theorem fx_Twice (a b n:Int)(c0:L (a).natAbs≤65536)(c1:L (b).natAbs≤65536)(c2:(0:Int)≤n∧n≤20000):Impl Tryz.prog Amb 189 [(sV a b),(.int .i64 n)] (sV (a*2^(n).toNat) (b*2^(n).toNat)):=by
 exact impl_ob hP hAmb Tryz.func189 (by kernel_rfl) (.lits 2<|.call (zV (a*2^(n).toNat))<|.lits 2<|.call (zV (b*2^(n).toNat))<|.lits 3<|.ret)
  (cast_ob (aI True.intro (aI (int_Shl a n oO oO) (have f2:=L_abs_shl a (n).toNat;aI (int_Shl b n oO oO) (have f1:=L_abs_shl b (n).toNat;(vsub_refl (sV (a*2^(n).toNat) (b*2^(n).toNat))))))) (by kernel_rfl))
theorem fx_Mul (a b c d s:Int)(c0:L (a).natAbs≤8192)(c1:L (b).natAbs≤8192)(c2:L (c).natAbs≤8192)(c3:L (d).natAbs≤8192)(c4:(0:Int)≤s∧s≤20000):Impl Tryz.prog Amb 210 [(sV a b),(sV c d),(.int .i64 s)] (sV (a*c / 2^(s).toNat) (-(-(b*d) / 2^(s).toNat))):=by
 exact impl_ob hP hAmb Tryz.func210 (by kernel_rfl) (.lits 3<|.call (zV (a*c))<|.lit<|.call (zV ((a*c) / 2^(s).toNat))<|.lits 3<|.call (zV (b*d))<|.lit<|.call (zV (-(-(b*d) / 2^(s).toNat)))<|.lits 3<|.ret)
  (cast_ob (aI True.intro (aI (int_Mul a c oO oO) (have f6:=L_abs_mul a c;aI (int_Shr (a*c) s oO oO) (have f5:=L_abs_shr (a*c) (s).toNat;aI (int_Mul b d oO oO) (have f4:=L_abs_mul b d;aI (fx_up (b*d) s oO oO) (have f3:=L_abs_neg (-(b*d) / 2^(s).toNat);have f2:=L_abs_shr (-(b*d)) (s).toNat;have f1:=L_abs_neg (b*d);(vsub_of (by first | rfl | simp_all):vsub (sV ((a*c) / 2^(s).toNat) (-(-(b*d) / 2^(s).toNat))) (sV (a*c / 2^(s).toNat) (-(-(b*d) / 2^(s).toNat)))))))))) (by kernel_rfl))
theorem fx_TimesN (a b n:Int)(c0:L (a).natAbs≤65536)(c1:L (b).natAbs≤65536)(c2:(-9223372036854775808:Int)≤n∧n<0):Impl Tryz.prog Amb 163 [(sV a b),(.int .i64 n)] (sV (b*n) (a*n)):=by
 exact impl_ob hP hAmb Tryz.func163 (by kernel_rfl) (.lit<|.call (zV n)<|.lits 2<|.yes<|.lits 3<|.call (zV (b*n))<|.lits 3<|.call (zV (a*n))<|.lits 3<|.ret)
  (cast_ob (aI True.intro (aI (int_Of n oO) (have f3:=(L_i64 oO:L (n:Int).natAbs≤2);aI (iLt_mk oO:(iLt n 0)=true) (aI (int_Mul b n oO oO) (have f2:=L_abs_mul b n;aI (int_Mul a n oO oO) (have f1:=L_abs_mul a n;(vsub_refl (sV (b*n) (a*n))))))))) (by kernel_rfl))
theorem fx_TimesA (a b n:Int)(c0:L (a).natAbs≤65536)(c1:L (b).natAbs≤65536)(c2:(-9223372036854775808:Int)≤n∧n≤9223372036854775807):Impl Tryz.prog Amb 163 [(sV a b),.int .i64 n] (sV (tmLo a b n) (tmHi a b n)):=by
 by_cases h:n<0
 ·unfold tmLo tmHi
  rw[if_pos h,if_pos h]
  exact fx_TimesN a b n c0 c1 ⟨by omega,h⟩
 ·unfold tmLo tmHi
  rw[if_neg h,if_neg h]
  exact fx_Times a b n c0 c1 ⟨by omega,by omega⟩
theorem fx_Part (a b d:Int)(c0:L (a).natAbs≤65536)(c1:L (b).natAbs≤65536)(c2:(0:Int)<d∧d<4294967296):Impl Tryz.prog Amb 213 [(sV a b),(.int .u32 d)] (sV (ptLo a d) (ptHi b d)):=by
 have z1:=L_lit 1 (by decide)
 exact impl_ob hP hAmb Tryz.func213 (by kernel_rfl) (.lits 2<|.call (.tup [(N (a.natAbs / (d).toNat)),(.int .u32 ((a.natAbs%(d).toNat:Nat):Int)),(.bool true)])<|.lits 2<|.call (.tup [(N (b.natAbs / (d).toNat)),(.int .u32 ((b.natAbs%(d).toNat:Nat):Int)),(.bool true)])<|.lit<|.both (.lit<|.call (N 1)<|.lit<|.call (N ((b.natAbs / (d).toNat)+1))<|.lit<|.call (zV (sgn false (a.natAbs / (d).toNat)))<|.lit<|.call (zV (sgn false ((b.natAbs / (d).toNat)+1)))<|.lits 3<|.ret) (.lit<|.call (zV (sgn false (a.natAbs / (d).toNat)))<|.lit<|.call (zV (sgn false (b.natAbs / (d).toNat)))<|.lits 3<|.ret))
  (cast_ob (aI True.intro (aI (quot_SmallI a.natAbs d oO oO) (have f9:=L_div a.natAbs (d).toNat;aI (quot_SmallI b.natAbs d oO oO) (have f8:=L_div b.natAbs (d).toNat;aI (fun (h1:(iNe ((b.natAbs%(d).toNat:Nat):Int) 0)=true)=>have _gh1:=iNe_t h1;aI (nat_Of 1 oO) (aI (nat_Add (b.natAbs / (d).toNat) 1 oO oO) (have f4:=L_add (b.natAbs / (d).toNat) 1;aI (int_Nat false (a.natAbs / (d).toNat) oO) (have f3:=L_sgn false (a.natAbs / (d).toNat);aI (int_Nat false ((b.natAbs / (d).toNat)+1) oO) (have f2:=L_sgn false ((b.natAbs / (d).toNat)+1);(Sp_of rfl (pt_hi1 oO):vsub (sV (sgn false (a.natAbs / (d).toNat)) (sgn false ((b.natAbs / (d).toNat)+1))) (sV (ptLo a d) (ptHi b d)))))))) (fun (h5:(iNe ((b.natAbs%(d).toNat:Nat):Int) 0)=false)=>have _gh5:=iNe_f h5;aI (int_Nat false (a.natAbs / (d).toNat) oO) (have f7:=L_sgn false (a.natAbs / (d).toNat);aI (int_Nat false (b.natAbs / (d).toNat) oO) (have f6:=L_sgn false (b.natAbs / (d).toNat);(Sp_of rfl (pt_hi2 oO):vsub (sV (sgn false (a.natAbs / (d).toNat)) (sgn false (b.natAbs / (d).toNat))) (sV (ptLo a d) (ptHi b d)))))))))) (by kernel_rfl))
theorem fx_Div (a b c d s:Int)(c0:L (a).natAbs≤8192)(c1:L (b).natAbs≤8192)(c2:L (c).natAbs≤8192)(c3:L (d).natAbs≤8192)(c4:(0:Int)≤s∧s≤20000)(c5:c≠0)(c6:d≠0):Impl Tryz.prog Amb 176 [(sV a b),(sV c d),(.int .i64 s)] (sV (Int.fdiv (a*2^(s).toNat) d) (-(Int.fdiv (-(b*2^(s).toNat)) c))):=by
 exact impl_ob hP hAmb Tryz.func176 (by kernel_rfl) (.lits 2<|.call (zV (a*2^(s).toNat))<|.lits 2<|.call (.tup [(zV (Int.fdiv (a*2^(s).toNat) d)),(zV ((a*2^(s).toNat)-(Int.fdiv (a*2^(s).toNat) d)*d)),(.bool true)])<|.lits 2<|.call (zV (b*2^(s).toNat))<|.lit<|.call (zV (-(b*2^(s).toNat)))<|.lits 2<|.call (.tup [(zV (Int.fdiv (-(b*2^(s).toNat)) c)),(zV ((-(b*2^(s).toNat))-(Int.fdiv (-(b*2^(s).toNat)) c)*c)),(.bool true)])<|.lits 3<|.call (zV (-(Int.fdiv (-(b*2^(s).toNat)) c)))<|.lits 3<|.ret)
  (cast_ob (aI True.intro (aI (int_Shl a s oO oO) (have f8:=L_abs_shl a (s).toNat;aI (int_DivMod (a*2^(s).toNat) d oO oO oO) (have f7:=L_rm (a*2^(s).toNat) d;have f6:=L_fdiv (a*2^(s).toNat) d;aI (int_Shl b s oO oO) (have f5:=L_abs_shl b (s).toNat;aI (int_Neg (b*2^(s).toNat) oO) (have f4:=L_abs_neg (b*2^(s).toNat);aI (int_DivMod (-(b*2^(s).toNat)) c oO oO oO) (have f3:=L_rm (-(b*2^(s).toNat)) c;have f2:=L_fdiv (-(b*2^(s).toNat)) c;aI (int_Neg (Int.fdiv (-(b*2^(s).toNat)) c) oO) (have f1:=L_abs_neg (Int.fdiv (-(b*2^(s).toNat)) c);(vsub_refl (sV (Int.fdiv (a*2^(s).toNat) d) (-(Int.fdiv (-(b*2^(s).toNat)) c)))))))))))) (by kernel_rfl))
theorem fx_tiny (b:Int)(c0:L (b).natAbs≤65536):Impl Tryz.prog Amb 225 [(zV b)] (.bool (decide ((b).natAbs<8))):=by
 exact impl_ob hP hAmb Tryz.func225 (by kernel_rfl) (.lits 2<|.call (.int .i64 (nbits b.natAbs:Int))<|.lits 2<|.ret)
  (cast_ob (aI True.intro (aI (nat_Bits b.natAbs oO) (have f1:=nbits_L b.natAbs;(vsub_of (congrArg V.bool tiny_8):vsub (.bool (iLe (nbits b.natAbs:Int) 3)) (.bool (decide ((b).natAbs<8))))))) (by kernel_rfl))
theorem fx_Tiny (a b:Int)(c0:L (b).natAbs≤65536):Impl Tryz.prog Amb 212 [(sV a b)] (.bool (decide ((b).natAbs<8))):=by
 exact impl_ob hP hAmb Tryz.func212 (by kernel_rfl) (.lits 2<|.call (.bool (decide ((b).natAbs<8)))<|.lit<|.ret)
  (cast_ob (aI True.intro (aI (fx_tiny b oO) ((vsub_refl (.bool (decide ((b).natAbs<8))))))) (by kernel_rfl))
end Go.Proofs.YtkkbddkpggjgpaaGreatDoor
