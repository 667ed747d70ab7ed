/-
  Lower layers: what functions of the program compute, and plain facts. Conditions: as the theorems say.
-/
import Derived.BigRegion
import Derived.RegionTactic
import Derived.ChangeAlike
import Derived.WalkKit
import Derived.Test.YtkkbddkpggjgpaaGreatDoorPdO
set_option linter.unusedVariables false
set_option linter.unusedSimpArgs false
namespace Go.Proofs.YtkkbddkpggjgpaaGreatDoor
open Go.RowKit
set_option maxRecDepth 100000
theorem qdm_loop (a b:Nat)(s:Int)(c0:L a≤16777216∧L b≤16777216)(c1:2≤L (b*2^s.toNat))(c2:2147483648≤(limbs (b*2^s.toNat)).getD (L (b*2^s.toNat)-1) 0)(c3:0≤s∧s≤32)(x0:Int × List V × List V × List Nat × List Nat)(hI:qdm_loop_I a b s x0):LoopOk Tryz.prog Amb (loopN Tryz.f200 0) (qdm_loop_mk a b s x0) (fun e st_=>∃ y,qdm_loop_J a b s y∧qdm_loop_ex a b s y=(e,st_)) :=
 loop_ob hP hAmb ⟨[10,11,12,13,14,15],4,[]⟩ (qdm_loop_mk a b s) (qdm_loop_I a b s) (qdm_loop_mu a b s) (qdm_loop_ex a b s) (qdm_loop_J a b s) x0 hI (fun (k,o0,o,lu,lq)=>.lit<|.both (.lit<|.yes<|.lit<|.yes<|.yes<|.yes<|.callM (U (lowL lu ((0+k.toNat)+L (b*2^s.toNat)+1) (Xd lu (0+k.toNat) (L (b*2^s.toNat))%(4294967296^(0+k.toNat)*(b*2^s.toNat))))) (.int .u32 ((kq lu (0+k.toNat) (b*2^s.toNat):Nat):Int))<|.lit<|.yes<|.yes<|.lit<|.yes<|.fin2 ⟨[10,11,12,13,14,15],4,[]⟩) (.fin2 ⟨[10,11,12,13,14],4,[]⟩)) (by
  rintro ⟨k,o0,o,lu,lq⟩ hI
  have hI:(o0=U lu∧o=U lq)∧DvIn (a*2^s.toNat) (b*2^s.toNat) (L (a*2^s.toNat)+1-L (b*2^s.toNat)) k lu lq:=hI
  obtain⟨⟨rfl,rfl⟩,h1⟩:=hI
  have e0:=L_len (b*2^s.toNat)
  have e1:=U_len lu
  have e2:=U_len lq
  have ⟨p0,p1,p2,p3,p4,p5,_⟩:=h1
  have hkn:0≤k→Kn lu (0+k.toNat) (b*2^s.toNat):=fun q=>by rw[Nat.zero_add];exact dv_kn h1 q c1 c2
  have hls:=L_shl a s.toNat
  have hz:0+k.toNat=k.toNat:=Nat.zero_add _
  have hnx:0≤k→DvIn (a*2^s.toNat) (b*2^s.toNat) (L (a*2^s.toNat)+1-L (b*2^s.toNat)) (k-1) (lowL lu (0+k.toNat+L (b*2^s.toNat)+1) (Xd lu (0+k.toNat) (L (b*2^s.toNat))%(4294967296^(0+k.toNat)*(b*2^s.toNat)))) (lq.set k.toNat (kq lu (0+k.toNat) (b*2^s.toNat))):=fun q=>by rw[hz];exact dv_next h1 q c1 c2
  have hx:=fun q=>(hkn q).qlt
  exact cast_ob (aI True.intro (aI (fun (h101:(iGe k 0)=true)=>have _gh101:=iGe_t h101;aI (fits_i64 oO:(fits .i64 (k+((lim (b*2^s.toNat)).length:Int)))=true) (aI (fits_i64 oO:(fits .i64 ((k+((lim (b*2^s.toNat)).length:Int))+1))=true) (aI (and_mk (and_mk (and_mk (iLe_mk oO) (iLe_mk oO)) (iLe_mk oO)) (or_mk2 oO):((((iLe (0:Int) k) && (iLe k ((k+((lim (b*2^s.toNat)).length:Int))+1))) && (iLe ((k+((lim (b*2^s.toNat)).length:Int))+1) ((L (a*2^s.toNat)+1):Int))) && ((iEq k 0) || (iLt k ((L (a*2^s.toNat)+1):Int))))=true) (aI (ok_arg oO:((true && Nat.ble ((0+k.toNat)+(((k+((lim (b*2^s.toNat)).length:Int))+1)-k).toNat) (U lu).length) && (true && true))=true) (aI (quot_digit lu (0+k.toNat) ((((k+((lim (b*2^s.toNat)).length:Int))+1)-k).toNat) (b*2^s.toNat) (hkn oO) oO oO) (aI (inB_mk oO:(inB k ((((L (a*2^s.toNat)+1):Int)-((lim (b*2^s.toNat)).length:Int)).toNat))=true) (aI (st_ok oO:(Nat.ble ((0+k.toNat)+1) (U lq).length)=true) (aI (fits_i64 oO:(fits .i64 (k-1))=true) (aI tT ((nx_next ((k-1),(U (lowL lu ((0+k.toNat)+L (b*2^s.toNat)+1) (Xd lu (0+k.toNat) (L (b*2^s.toNat))%(4294967296^(0+k.toNat)*(b*2^s.toNat))))),(List.set (U lq) (0+k.toNat) (.int .u32 ((kq lu (0+k.toNat) (b*2^s.toNat):Nat):Int))),(lowL lu ((0+k.toNat)+L (b*2^s.toNat)+1) (Xd lu (0+k.toNat) (L (b*2^s.toNat))%(4294967296^(0+k.toNat)*(b*2^s.toNat)))),(lq.set k.toNat (kq lu (0+k.toNat) (b*2^s.toNat)))) (show ((U (lowL lu ((0+k.toNat)+L (b*2^s.toNat)+1) (Xd lu (0+k.toNat) (L (b*2^s.toNat))%(4294967296^(0+k.toNat)*(b*2^s.toNat)))))=U (lowL lu ((0+k.toNat)+L (b*2^s.toNat)+1) (Xd lu (0+k.toNat) (L (b*2^s.toNat))%(4294967296^(0+k.toNat)*(b*2^s.toNat))))∧(List.set (U lq) (0+k.toNat) (.int .u32 ((kq lu (0+k.toNat) (b*2^s.toNat):Nat):Int)))=U (lq.set k.toNat (kq lu (0+k.toNat) (b*2^s.toNat))))∧DvIn (a*2^s.toNat) (b*2^s.toNat) (L (a*2^s.toNat)+1-L (b*2^s.toNat)) (k-1) (lowL lu ((0+k.toNat)+L (b*2^s.toNat)+1) (Xd lu (0+k.toNat) (L (b*2^s.toNat))%(4294967296^(0+k.toNat)*(b*2^s.toNat)))) (lq.set k.toNat (kq lu (0+k.toNat) (b*2^s.toNat))) from ⟨⟨rfl,setU _ oO rfl⟩,hnx oO⟩) (show (k-1+1).toNat<(k+1).toNat by omega):qdm_loop_N a b s (k,(U lu),(U lq),lu,lq) .normal (qdm_loop_mk a b s ((k-1),(U (lowL lu ((0+k.toNat)+L (b*2^s.toNat)+1) (Xd lu (0+k.toNat) (L (b*2^s.toNat))%(4294967296^(0+k.toNat)*(b*2^s.toNat))))),(List.set (U lq) (0+k.toNat) (.int .u32 ((kq lu (0+k.toNat) (b*2^s.toNat):Nat):Int))),(lowL lu ((0+k.toNat)+L (b*2^s.toNat)+1) (Xd lu (0+k.toNat) (L (b*2^s.toNat))%(4294967296^(0+k.toNat)*(b*2^s.toNat)))),(lq.set k.toNat (kq lu (0+k.toNat) (b*2^s.toNat)))))))))))))))) (fun (h102:(iGe k 0)=false)=>have _gh102:=iGe_f h102;aI tT ((nx_exit 1 ((qdm_loop_ex a b s (lu,lq)).2) (lu,lq) (show DvIn (a*2^s.toNat) (b*2^s.toNat) (L (a*2^s.toNat)+1-L (b*2^s.toNat)) (-1) lu lq from (show k=-1 by omega) ▸ h1) rfl:qdm_loop_N a b s (k,(U lu),(U lq),lu,lq) (.exit 1) ((qdm_loop_ex a b s (lu,lq)).2)))))) (by kernel_rfl))
theorem quot_DivMod (a:Nat)(b:Nat)(c0:L a≤16777216)(c1:L b≤16777216)(c2:0<b):Impl Tryz.prog Amb 200 [(N a),(N b)] (.tup [(N (a / b)),(N (a%b)),(.bool true)]):=by
 have e0:=L_len a
 have e1:=L_len b
 have p0:=L_pos (show b≠0 by omega)
 have hcm:=cmpN_or a b
 have tb:=top_bits b p0
 have g0:=gi_b (dig_limbs b) (((lim b).length:Int)-1).toNat
 have g1:=gi_b (dig_limbs b) 0
 have eT:(((lim b).length:Int)-1).toNat=((L b:Int)-1).toNat:=by rw[L_len]
 have hs:nbits b+((32-(Lib.bitLen (gi (limbs b) (((lim b).length:Int)-1).toNat).toNat:Int))).toNat=32*L b:=by rw[eT];omega
 have hsr:0≤(32-(Lib.bitLen (gi (limbs b) (((lim b).length:Int)-1).toNat).toNat:Int))∧(32-(Lib.bitLen (gi (limbs b) (((lim b).length:Int)-1).toNat).toNat:Int))≤32:=by rw[eT];omega
 have hno0:=kn_norm (show b≠0 by omega) hs
 have hno:L (b*2^((32-(Lib.bitLen (gi (limbs b) (((lim b).length:Int)-1).toNat).toNat:Int))).toNat)=L b∧2147483648≤(limbs (b*2^((32-(Lib.bitLen (gi (limbs b) (((lim b).length:Int)-1).toNat).toNat:Int))).toNat)).getD (L (b*2^((32-(Lib.bitLen (gi (limbs b) (((lim b).length:Int)-1).toNat).toNat:Int))).toNat)-1) 0:=by rw[hno0.1];exact⟨rfl,hno0.2⟩
 have e2:=L_len (b*2^((32-(Lib.bitLen (gi (limbs b) (((lim b).length:Int)-1).toNat).toNat:Int))).toNat)
 have hls:=L_shl a ((32-(Lib.bitLen (gi (limbs b) (((lim b).length:Int)-1).toNat).toNat:Int))).toNat
 have hft:b≤a→(a*2^((32-(Lib.bitLen (gi (limbs b) (((lim b).length:Int)-1).toNat).toNat:Int))).toNat)<4294967296^(L (a*2^((32-(Lib.bitLen (gi (limbs b) (((lim b).length:Int)-1).toNat).toNat:Int))).toNat)+1-L (b*2^((32-(Lib.bitLen (gi (limbs b) (((lim b).length:Int)-1).toNat).toNat:Int))).toNat))*(b*2^((32-(Lib.bitLen (gi (limbs b) (((lim b).length:Int)-1).toNat).toNat:Int))).toNat)∧L (a*2^((32-(Lib.bitLen (gi (limbs b) (((lim b).length:Int)-1).toNat).toNat:Int))).toNat)+1=(L (a*2^((32-(Lib.bitLen (gi (limbs b) (((lim b).length:Int)-1).toNat).toNat:Int))).toNat)+1-L (b*2^((32-(Lib.bitLen (gi (limbs b) (((lim b).length:Int)-1).toNat).toNat:Int))).toNat))+L (b*2^((32-(Lib.bitLen (gi (limbs b) (((lim b).length:Int)-1).toNat).toNat:Int))).toNat):=fun h=>dv_fit (Nat.mul_le_mul_right _ h) (fun q=>by rw[q,L_zero] at hno;omega)
 have g3:L b=1→gi (limbs b) 0=(b:Int):=gi_one
 have gm:L b=1→0≤((a%(gi (limbs b) 0).toNat:Nat):Int)∧((a%(gi (limbs b) 0).toNat:Nat):Int)<4294967296:=fun q=>by have:=Nat.mod_lt a (show 0<(gi (limbs b) 0).toNat by rw[gi_one q];omega);omega
 exact impl_ob hP hAmb Tryz.func200 (by kernel_rfl) (.lit<|.call (N a)<|.lit<|.call (N b)<|.lit<|.no<|.lit<|.call (.int .i64 (cmpN a b))<|.lit<|.both (.lit<|.ret) (.lit<|.both (.yes<|.yes<|.lit<|.call (.tup [(N (a / ((gi (limbs b) 0)).toNat)),(.int .u32 ((a%((gi (limbs b) 0)).toNat:Nat):Int)),(.bool true)])<|.lit<|.yes<|.lit<|.call (N ((((a%((gi (limbs b) 0)).toNat:Nat):Int)).toNat))<|.lit<|.ret) (.lit<|.yes<|.yes<|.yes<|.lit<|.call (.int .i64 (32-(Lib.bitLen ((gi (limbs b) ((((lim b).length:Int)-1).toNat))).toNat:Int)))<|.lit<|.call (N (b*2^((32-(Lib.bitLen ((gi (limbs b) ((((lim b).length:Int)-1).toNat))).toNat:Int))).toNat))<|.lit<|.callO 1 (L (a*2^((32-(Lib.bitLen ((gi (limbs b) ((((lim b).length:Int)-1).toNat))).toNat:Int))).toNat)) (lim (a*2^((32-(Lib.bitLen ((gi (limbs b) ((((lim b).length:Int)-1).toNat))).toNat:Int))).toNat))<|.yes<|.lit<|.yes<|.yes<|.lit<|.yes<|.lit<|.yes<|.loop ⟨[10,11,12,13,14,15],4,[]⟩ ((qdm_loop_mk a b (32-(Lib.bitLen (gi (limbs b) (((lim b).length:Int)-1).toNat).toNat:Int)) ((((((L (a*2^((32-(Lib.bitLen ((gi (limbs b) ((((lim b).length:Int)-1).toNat))).toNat:Int))).toNat))+1):Int)-((lim (b*2^((32-(Lib.bitLen ((gi (limbs b) ((((lim b).length:Int)-1).toNat))).toNat:Int))).toNat)).length:Int))-1),((lim (a*2^((32-(Lib.bitLen ((gi (limbs b) ((((lim b).length:Int)-1).toNat))).toNat:Int))).toNat)) ++ [(V.int .u32 0)]),(List.replicate (((((L (a*2^((32-(Lib.bitLen ((gi (limbs b) ((((lim b).length:Int)-1).toNat))).toNat:Int))).toNat))+1):Int)-((lim (b*2^((32-(Lib.bitLen ((gi (limbs b) ((((lim b).length:Int)-1).toNat))).toNat:Int))).toNat)).length:Int)).toNat) (.int .u32 0)),(limbs (a*2^(32-(Lib.bitLen (gi (limbs b) (((lim b).length:Int)-1).toNat).toNat:Int)).toNat) ++ [0]),(List.replicate (L (a*2^(32-(Lib.bitLen (gi (limbs b) (((lim b).length:Int)-1).toNat).toNat:Int)).toNat)+1-L (b*2^(32-(Lib.bitLen (gi (limbs b) (((lim b).length:Int)-1).toNat).toNat:Int)).toNat)) 0)))) (List Nat × List Nat) (qdm_loop_ex a b (32-(Lib.bitLen (gi (limbs b) (((lim b).length:Int)-1).toNat).toNat:Int))) (qdm_loop_J a b (32-(Lib.bitLen (gi (limbs b) (((lim b).length:Int)-1).toNat).toNat:Int))) (fun y=>.yes<|.call (N (val y.2))<|.yes<|.yes<|.call (N (val (y.1.take (L (b*2^((32-(Lib.bitLen (gi (limbs b) (((lim b).length:Int)-1).toNat).toNat:Int))).toNat)))))<|.lit<|.call (N ((val (y.1.take (L (b*2^((32-(Lib.bitLen (gi (limbs b) (((lim b).length:Int)-1).toNat).toNat:Int))).toNat)))) / 2^((32-(Lib.bitLen (gi (limbs b) (((lim b).length:Int)-1).toNat).toNat:Int))).toNat))<|.lit<|.ret))))
  (cast_ob (aI True.intro (aI (nat_TrimN a oA) (aI (nat_TrimN b oA) (aI (iEq_mkF oO:(iEq ((lim b).length:Int) 0)=false) (aI (nat_Cmp a b oA oA) (aI (fun (h1:(iLt (cmpN a b) 0)=true)=>have _gh1:=iLt_t h1;(by have h:a<b:=oO;rw[Nat.div_eq_of_lt h,Nat.mod_eq_of_lt h];exact vsub_tup3 (by show vsub .nil (.sl 1 (U (limbs 0)));rw[limbs_zero];exact vsub_nil 1) (vsub_refl _) (vsub_refl _):vsub (.tup [.nil,(N a),(.bool true)]) (.tup [(N (a / b)),(N (a%b)),(.bool true)]))) (fun (h2:(iLt (cmpN a b) 0)=false)=>have _gh2:=iLt_f h2;aI (fun (h3:(iEq ((lim b).length:Int) 1)=true)=>have _gh3:=iEq_t h3;aI (inB_mk oA:(inB (0:Int) ((lim b).length))=true) (aI (ld_L oA:(Nat.blt 0 (lim b).length && isIntK .u32 (nth (lim b) 0 .unk))=true) (aI (quot_SmallI a (gi (limbs b) 0) oA oA) (aI (fits_u64 oA:(fits .u64 ((a%((gi (limbs b) 0)).toNat:Nat):Int))=true) (aI (nat_Of ((a%((gi (limbs b) 0)).toNat:Nat):Int) oA) ((by rw[gi_one (show L b=1 by omega)];exact vsub_refl _:vsub (.tup [(N (a / ((gi (limbs b) 0)).toNat)),(N ((((a%((gi (limbs b) 0)).toNat:Nat):Int)).toNat)),(.bool true)]) (.tup [(N (a / b)),(N (a%b)),(.bool true)])))))))) (fun (h4:(iEq ((lim b).length:Int) 1)=false)=>have _gh4:=iEq_f h4;aI (fits_i64 oA:(fits .i64 (((lim b).length:Int)-1))=true) (aI (inB_mk oA:(inB (((lim b).length:Int)-1) ((lim b).length))=true) (aI (ld_L oA:(Nat.blt ((((lim b).length:Int)-1).toNat) (lim b).length && isIntK .u32 (nth (lim b) ((((lim b).length:Int)-1).toNat) .unk))=true) (aI (bits_LZ32 (gi (limbs b) ((((lim b).length:Int)-1).toNat)) oA) (aI (nat_Shl b (32-(Lib.bitLen ((gi (limbs b) ((((lim b).length:Int)-1).toNat))).toNat:Int)) oA oA) (aI (nat_ShlO a (32-(Lib.bitLen ((gi (limbs b) ((((lim b).length:Int)-1).toNat))).toNat:Int)) oA oA oA) (aI (and_mk (and_mk (and_mk (rfl) rfl) (st_ok oA)) (by first | rfl | (simp<;>omega) | (rw[L_len];simp)):(true && true && Nat.ble ((L (a*2^((32-(Lib.bitLen ((gi (limbs b) ((((lim b).length:Int)-1).toNat))).toNat:Int))).toNat))+1) 1073741824 && Nat.beq (lim (a*2^((32-(Lib.bitLen ((gi (limbs b) ((((lim b).length:Int)-1).toNat))).toNat:Int))).toNat)).length (L (a*2^((32-(Lib.bitLen ((gi (limbs b) ((((lim b).length:Int)-1).toNat))).toNat:Int))).toNat)))=true) (aI (fits_i64 oA:(fits .i64 ((((L (a*2^((32-(Lib.bitLen ((gi (limbs b) ((((lim b).length:Int)-1).toNat))).toNat:Int))).toNat))+1):Int)-((lim (b*2^((32-(Lib.bitLen ((gi (limbs b) ((((lim b).length:Int)-1).toNat))).toNat:Int))).toNat)).length:Int)))=true) (aI (mk_ok oA:(((iEq ((((L (a*2^((32-(Lib.bitLen ((gi (limbs b) ((((lim b).length:Int)-1).toNat))).toNat:Int))).toNat))+1):Int)-((lim (b*2^((32-(Lib.bitLen ((gi (limbs b) ((((lim b).length:Int)-1).toNat))).toNat:Int))).toNat)).length:Int)) ((((L (a*2^((32-(Lib.bitLen ((gi (limbs b) ((((lim b).length:Int)-1).toNat))).toNat:Int))).toNat))+1):Int)-((lim (b*2^((32-(Lib.bitLen ((gi (limbs b) ((((lim b).length:Int)-1).toNat))).toNat:Int))).toNat)).length:Int))) && (iLe 0 ((((L (a*2^((32-(Lib.bitLen ((gi (limbs b) ((((lim b).length:Int)-1).toNat))).toNat:Int))).toNat))+1):Int)-((lim (b*2^((32-(Lib.bitLen ((gi (limbs b) ((((lim b).length:Int)-1).toNat))).toNat:Int))).toNat)).length:Int)))) && (iLe ((((L (a*2^((32-(Lib.bitLen ((gi (limbs b) ((((lim b).length:Int)-1).toNat))).toNat:Int))).toNat))+1):Int)-((lim (b*2^((32-(Lib.bitLen ((gi (limbs b) ((((lim b).length:Int)-1).toNat))).toNat:Int))).toNat)).length:Int)) 1073741824))=true) (aI (fits_i64 oA:(fits .i64 ((((L (a*2^((32-(Lib.bitLen ((gi (limbs b) ((((lim b).length:Int)-1).toNat))).toNat:Int))).toNat))+1):Int)-((lim (b*2^((32-(Lib.bitLen ((gi (limbs b) ((((lim b).length:Int)-1).toNat))).toNat:Int))).toNat)).length:Int)))=true) (aI (fits_i64 oA:(fits .i64 (((((L (a*2^((32-(Lib.bitLen ((gi (limbs b) ((((lim b).length:Int)-1).toNat))).toNat:Int))).toNat))+1):Int)-((lim (b*2^((32-(Lib.bitLen ((gi (limbs b) ((((lim b).length:Int)-1).toNat))).toNat:Int))).toNat)).length:Int))-1))=true) (aI tT (aI (rfl:(qdm_loop_mk a b (32-(Lib.bitLen (gi (limbs b) (((lim b).length:Int)-1).toNat).toNat:Int)) ((((((L (a*2^((32-(Lib.bitLen ((gi (limbs b) ((((lim b).length:Int)-1).toNat))).toNat:Int))).toNat))+1):Int)-((lim (b*2^((32-(Lib.bitLen ((gi (limbs b) ((((lim b).length:Int)-1).toNat))).toNat:Int))).toNat)).length:Int))-1),((lim (a*2^((32-(Lib.bitLen ((gi (limbs b) ((((lim b).length:Int)-1).toNat))).toNat:Int))).toNat)) ++ [(V.int .u32 0)]),(List.replicate (((((L (a*2^((32-(Lib.bitLen ((gi (limbs b) ((((lim b).length:Int)-1).toNat))).toNat:Int))).toNat))+1):Int)-((lim (b*2^((32-(Lib.bitLen ((gi (limbs b) ((((lim b).length:Int)-1).toNat))).toNat:Int))).toNat)).length:Int)).toNat) (.int .u32 0)),(limbs (a*2^(32-(Lib.bitLen (gi (limbs b) (((lim b).length:Int)-1).toNat).toNat:Int)).toNat) ++ [0]),(List.replicate (L (a*2^(32-(Lib.bitLen (gi (limbs b) (((lim b).length:Int)-1).toNat).toNat:Int)).toNat)+1-L (b*2^(32-(Lib.bitLen (gi (limbs b) (((lim b).length:Int)-1).toNat).toNat:Int)).toNat)) 0)))=(qdm_loop_mk a b (32-(Lib.bitLen (gi (limbs b) (((lim b).length:Int)-1).toNat).toNat:Int)) ((((((L (a*2^((32-(Lib.bitLen ((gi (limbs b) ((((lim b).length:Int)-1).toNat))).toNat:Int))).toNat))+1):Int)-((lim (b*2^((32-(Lib.bitLen ((gi (limbs b) ((((lim b).length:Int)-1).toNat))).toNat:Int))).toNat)).length:Int))-1),((lim (a*2^((32-(Lib.bitLen ((gi (limbs b) ((((lim b).length:Int)-1).toNat))).toNat:Int))).toNat)) ++ [(V.int .u32 0)]),(List.replicate (((((L (a*2^((32-(Lib.bitLen ((gi (limbs b) ((((lim b).length:Int)-1).toNat))).toNat:Int))).toNat))+1):Int)-((lim (b*2^((32-(Lib.bitLen ((gi (limbs b) ((((lim b).length:Int)-1).toNat))).toNat:Int))).toNat)).length:Int)).toNat) (.int .u32 0)),(limbs (a*2^(32-(Lib.bitLen (gi (limbs b) (((lim b).length:Int)-1).toNat).toNat:Int)).toNat) ++ [0]),(List.replicate (L (a*2^(32-(Lib.bitLen (gi (limbs b) (((lim b).length:Int)-1).toNat).toNat:Int)).toNat)+1-L (b*2^(32-(Lib.bitLen (gi (limbs b) (((lim b).length:Int)-1).toNat).toNat:Int)).toNat)) 0)))) (aI (qdm_loop a b (32-(Lib.bitLen (gi (limbs b) (((lim b).length:Int)-1).toNat).toNat:Int)) (⟨c0,c1⟩) oO hno.2 hsr ((((((L (a*2^((32-(Lib.bitLen ((gi (limbs b) ((((lim b).length:Int)-1).toNat))).toNat:Int))).toNat))+1):Int)-((lim (b*2^((32-(Lib.bitLen ((gi (limbs b) ((((lim b).length:Int)-1).toNat))).toNat:Int))).toNat)).length:Int))-1),((lim (a*2^((32-(Lib.bitLen ((gi (limbs b) ((((lim b).length:Int)-1).toNat))).toNat:Int))).toNat)) ++ [(V.int .u32 0)]),(List.replicate (((((L (a*2^((32-(Lib.bitLen ((gi (limbs b) ((((lim b).length:Int)-1).toNat))).toNat:Int))).toNat))+1):Int)-((lim (b*2^((32-(Lib.bitLen ((gi (limbs b) ((((lim b).length:Int)-1).toNat))).toNat:Int))).toNat)).length:Int)).toNat) (.int .u32 0)),(limbs (a*2^(32-(Lib.bitLen (gi (limbs b) (((lim b).length:Int)-1).toNat).toNat:Int)).toNat) ++ [0]),(List.replicate (L (a*2^(32-(Lib.bitLen (gi (limbs b) (((lim b).length:Int)-1).toNat).toNat:Int)).toNat)+1-L (b*2^(32-(Lib.bitLen (gi (limbs b) (((lim b).length:Int)-1).toNat).toNat:Int)).toNat)) 0)) (show (((lim (a*2^((32-(Lib.bitLen ((gi (limbs b) ((((lim b).length:Int)-1).toNat))).toNat:Int))).toNat)) ++ [(V.int .u32 0)])=U (limbs (a*2^(32-(Lib.bitLen (gi (limbs b) (((lim b).length:Int)-1).toNat).toNat:Int)).toNat) ++ [0])∧(List.replicate (((((L (a*2^((32-(Lib.bitLen ((gi (limbs b) ((((lim b).length:Int)-1).toNat))).toNat:Int))).toNat))+1):Int)-((lim (b*2^((32-(Lib.bitLen ((gi (limbs b) ((((lim b).length:Int)-1).toNat))).toNat:Int))).toNat)).length:Int)).toNat) (.int .u32 0))=U (List.replicate (L (a*2^(32-(Lib.bitLen (gi (limbs b) (((lim b).length:Int)-1).toNat).toNat:Int)).toNat)+1-L (b*2^(32-(Lib.bitLen (gi (limbs b) (((lim b).length:Int)-1).toNat).toNat:Int)).toNat)) 0))∧DvIn (a*2^(32-(Lib.bitLen (gi (limbs b) (((lim b).length:Int)-1).toNat).toNat:Int)).toNat) (b*2^(32-(Lib.bitLen (gi (limbs b) (((lim b).length:Int)-1).toNat).toNat:Int)).toNat) (L (a*2^(32-(Lib.bitLen (gi (limbs b) (((lim b).length:Int)-1).toNat).toNat:Int)).toNat)+1-L (b*2^(32-(Lib.bitLen (gi (limbs b) (((lim b).length:Int)-1).toNat).toNat:Int)).toNat)) (((((L (a*2^((32-(Lib.bitLen ((gi (limbs b) ((((lim b).length:Int)-1).toNat))).toNat:Int))).toNat))+1):Int)-((lim (b*2^((32-(Lib.bitLen ((gi (limbs b) ((((lim b).length:Int)-1).toNat))).toNat:Int))).toNat)).length:Int))-1) (limbs (a*2^(32-(Lib.bitLen (gi (limbs b) (((lim b).length:Int)-1).toNat).toNat:Int)).toNat) ++ [0]) (List.replicate (L (a*2^(32-(Lib.bitLen (gi (limbs b) (((lim b).length:Int)-1).toNat).toNat:Int)).toNat)+1-L (b*2^(32-(Lib.bitLen (gi (limbs b) (((lim b).length:Int)-1).toNat).toNat:Int)).toNat)) 0) from ⟨⟨U_append _ [0],by rw[show ((((L (a*2^(32-(Lib.bitLen (gi (limbs b) (((lim b).length:Int)-1).toNat).toNat:Int)).toNat)+1):Int)-((lim (b*2^(32-(Lib.bitLen (gi (limbs b) (((lim b).length:Int)-1).toNat).toNat:Int)).toNat)).length:Int)).toNat)=(L (a*2^(32-(Lib.bitLen (gi (limbs b) (((lim b).length:Int)-1).toNat).toNat:Int)).toNat)+1-L (b*2^(32-(Lib.bitLen (gi (limbs b) (((lim b).length:Int)-1).toNat).toNat:Int)).toNat)) by omega];exact U_rep _⟩,by have:=dv_init (hft oO).1 (hft oO).2;rwa [show (((L (a*2^(32-(Lib.bitLen (gi (limbs b) (((lim b).length:Int)-1).toNat).toNat:Int)).toNat)+1-L (b*2^(32-(Lib.bitLen (gi (limbs b) (((lim b).length:Int)-1).toNat).toNat:Int)).toNat)):Nat):Int)-1=(((((L (a*2^((32-(Lib.bitLen ((gi (limbs b) ((((lim b).length:Int)-1).toNat))).toNat:Int))).toNat))+1):Int)-((lim (b*2^((32-(Lib.bitLen ((gi (limbs b) ((((lim b).length:Int)-1).toNat))).toNat:Int))).toNat)).length:Int))-1) by omega] at this⟩)) (fun y (hJ:qdm_loop_J a b (32-(Lib.bitLen (gi (limbs b) (((lim b).length:Int)-1).toNat).toNat:Int)) y)=>have hJ:DvIn (a*2^(32-(Lib.bitLen (gi (limbs b) (((lim b).length:Int)-1).toNat).toNat:Int)).toNat) (b*2^(32-(Lib.bitLen (gi (limbs b) (((lim b).length:Int)-1).toNat).toNat:Int)).toNat) (L (a*2^(32-(Lib.bitLen (gi (limbs b) (((lim b).length:Int)-1).toNat).toNat:Int)).toNat)+1-L (b*2^(32-(Lib.bitLen (gi (limbs b) (((lim b).length:Int)-1).toNat).toNat:Int)).toNat)) (-1) y.1 y.2:=hJ;have ⟨d0,d1,d2,d3,d4,d5⟩:=dv_end hJ;have d6:=U_len y.1;have d7:=U_len y.2;have d8:L (val (y.1.take (L (b*2^((32-(Lib.bitLen (gi (limbs b) (((lim b).length:Int)-1).toNat).toNat:Int))).toNat))))≤L (a*2^((32-(Lib.bitLen (gi (limbs b) (((lim b).length:Int)-1).toNat).toNat:Int))).toNat):=(by rw[d4];exact L_mod _ _);aI (ok_arg oA:((true && Nat.ble (0+((((L (a*2^(32-(Lib.bitLen (gi (limbs b) (((lim b).length:Int)-1).toNat).toNat:Int)).toNat)+1):Int)-((lim (b*2^(32-(Lib.bitLen (gi (limbs b) (((lim b).length:Int)-1).toNat).toNat:Int)).toNat)).length:Int)).toNat)) (U y.2).length) && true)=true) (aI (nat_TrimC (List.take ((((L (a*2^(32-(Lib.bitLen (gi (limbs b) (((lim b).length:Int)-1).toNat).toNat:Int)).toNat)+1):Int)-((lim (b*2^(32-(Lib.bitLen (gi (limbs b) (((lim b).length:Int)-1).toNat).toNat:Int)).toNat)).length:Int)).toNat) (List.drop 0 (U y.2))) y.2 (tkU rfl oO) d3 oO) (aI (and_mk (and_mk (and_mk (rfl) (iLe_mk oA)) (iLe_mk oA)) (rfl):(((true && (iLe (0:Int) ((lim (b*2^(32-(Lib.bitLen (gi (limbs b) (((lim b).length:Int)-1).toNat).toNat:Int)).toNat)).length:Int))) && (iLe ((lim (b*2^(32-(Lib.bitLen (gi (limbs b) (((lim b).length:Int)-1).toNat).toNat:Int)).toNat)).length:Int) ((L (a*2^(32-(Lib.bitLen (gi (limbs b) (((lim b).length:Int)-1).toNat).toNat:Int)).toNat)+1):Int))) && true)=true) (aI (ok_arg oA:((true && Nat.ble (0+(((lim (b*2^(32-(Lib.bitLen (gi (limbs b) (((lim b).length:Int)-1).toNat).toNat:Int)).toNat)).length:Int)-0).toNat) (U y.1).length) && true)=true) (aI (nat_TrimC (List.take ((((lim (b*2^(32-(Lib.bitLen (gi (limbs b) (((lim b).length:Int)-1).toNat).toNat:Int)).toNat)).length:Int)-0).toNat) (List.drop 0 (U y.1))) (y.1.take (L (b*2^((32-(Lib.bitLen (gi (limbs b) (((lim b).length:Int)-1).toNat).toNat:Int))).toNat))) (tkU2 oO) (dig_take d1 _) (by rw[List.length_take];omega)) (aI (nat_Shr (val (y.1.take (L (b*2^((32-(Lib.bitLen (gi (limbs b) (((lim b).length:Int)-1).toNat).toNat:Int))).toNat)))) (32-(Lib.bitLen (gi (limbs b) (((lim b).length:Int)-1).toNat).toNat:Int)) oA oA) ((by rw[d5,d4,shl_div,shl_mod];exact vsub_refl _:vsub (.tup [(N (val y.2)),(N ((val (y.1.take (L (b*2^((32-(Lib.bitLen (gi (limbs b) (((lim b).length:Int)-1).toNat).toNat:Int))).toNat)))) / 2^((32-(Lib.bitLen (gi (limbs b) (((lim b).length:Int)-1).toNat).toNat:Int))).toNat)),(.bool true)]) (.tup [(N (a / b)),(N (a%b)),(.bool true)])))))))))))))))))))))))))))))) (by kernel_rfl))
theorem int_DivMod (x y:Int)(c0:L (x).natAbs≤16777216)(c1:L (y).natAbs≤16777216)(c2:y≠0):Impl Tryz.prog Amb 154 [(zV x),(zV y)] (.tup [(zV (Int.fdiv x y)),(zV (x-(Int.fdiv x y)*y)),(.bool true)]):=by
 have l3:=L_div x.natAbs y.natAbs
 have l1:=L_le (n:=1) (k:=1) (by decide)
 have l4:=L_pos_iff (x.natAbs%y.natAbs)
 have l5:=L_len (x.natAbs%y.natAbs)
 have l6:=Nat.mod_lt x.natAbs (show 0<y.natAbs by omega)
 have l7:=L_add (x.natAbs / y.natAbs) 1
 have l8:=L_sub y.natAbs (x.natAbs%y.natAbs)
 exact impl_ob hP hAmb Tryz.func154 (by kernel_rfl) (.lits 3<|.call (.tup [(N (x.natAbs / y.natAbs)),(N (x.natAbs%y.natAbs)),(.bool true)])<|.lits 5<|.both (.lits 4<|.both (.lit<|.call (N 1)<|.lit<|.call (N ((x.natAbs / y.natAbs)+1))<|.lits 2<|.call (.tup [(N (y.natAbs-(x.natAbs%y.natAbs))),(.bool (decide ((x.natAbs%y.natAbs)≤y.natAbs)))])<|.lits 4<|.call (zV (sgn (!(bEq (decide (x<0)) (decide (y<0)))) ((x.natAbs / y.natAbs)+1)))<|.lits 2<|.call (zV (sgn (decide (y<0)) (y.natAbs-(x.natAbs%y.natAbs))))<|.lits 3<|.ret) (.lits 4<|.call (zV (sgn (!(bEq (decide (x<0)) (decide (y<0)))) (x.natAbs / y.natAbs)))<|.lits 2<|.call (zV (sgn (decide (y<0)) (x.natAbs%y.natAbs)))<|.lits 3<|.ret)) (.lits 8<|.call (zV (sgn (!(bEq (decide (x<0)) (decide (y<0)))) (x.natAbs / y.natAbs)))<|.lits 2<|.call (zV (sgn (decide (y<0)) (x.natAbs%y.natAbs)))<|.lits 3<|.ret))
  (cast_ob (aI True.intro (aI (quot_DivMod x.natAbs y.natAbs oA oA oA) (have f6:=L_mod x.natAbs y.natAbs;have f5:=L_div x.natAbs y.natAbs;aI (fun (h1:(!(bEq (decide (x<0)) (decide (y<0))))=true)=>aI (fun (h2:(iGt ((lim (x.natAbs%y.natAbs)).length:Int) 0)=true)=>have _gh2:=iGt_t h2;aI (nat_Of 1 oA) (aI (nat_Add (x.natAbs / y.natAbs) 1 oA oA) (aI (nat_Sub2 y.natAbs (x.natAbs%y.natAbs) oA oA) (aI (int_Nat (!(bEq (decide (x<0)) (decide (y<0)))) ((x.natAbs / y.natAbs)+1) oA) (aI (int_Nat (decide (y<0)) (y.natAbs-(x.natAbs%y.natAbs)) oA) ((vsub_tup3 (Z_of (by rw[sgn_one (by first | assumption | simp_all)];exact dm5_1 c2 (by first | assumption | simp_all) oO)) (Z_of (rm5_1 c2 (by first | assumption | simp_all) oO)) (vsub_refl _):vsub (.tup [(zV (sgn (!(bEq (decide (x<0)) (decide (y<0)))) ((x.natAbs / y.natAbs)+1))),(zV (sgn (decide (y<0)) (y.natAbs-(x.natAbs%y.natAbs)))),(.bool true)]) (.tup [(zV (Int.fdiv x y)),(zV (x-(Int.fdiv x y)*y)),(.bool true)])))))))) (fun (h3:(iGt ((lim (x.natAbs%y.natAbs)).length:Int) 0)=false)=>have _gh3:=iGt_f h3;aI (int_Nat (!(bEq (decide (x<0)) (decide (y<0)))) (x.natAbs / y.natAbs) oA) (aI (int_Nat (decide (y<0)) (x.natAbs%y.natAbs) oA) ((vsub_tup3 (Z_of (dm5_2 c2 oO)) (Z_of (rm5_2 c2 oO)) (vsub_refl _):vsub (.tup [(zV (sgn (!(bEq (decide (x<0)) (decide (y<0)))) (x.natAbs / y.natAbs))),(zV (sgn (decide (y<0)) (x.natAbs%y.natAbs))),(.bool true)]) (.tup [(zV (Int.fdiv x y)),(zV (x-(Int.fdiv x y)*y)),(.bool true)])))))) (fun (h4:(!(bEq (decide (x<0)) (decide (y<0))))=false)=>aI (int_Nat (!(bEq (decide (x<0)) (decide (y<0)))) (x.natAbs / y.natAbs) oA) (aI (int_Nat (decide (y<0)) (x.natAbs%y.natAbs) oA) ((vsub_tup3 (Z_of (dm5_3 c2 (by first | assumption | simp_all))) (Z_of (rm5_3 c2 (by first | assumption | simp_all))) (vsub_refl _):vsub (.tup [(zV (sgn (!(bEq (decide (x<0)) (decide (y<0)))) (x.natAbs / y.natAbs))),(zV (sgn (decide (y<0)) (x.natAbs%y.natAbs))),(.bool true)]) (.tup [(zV (Int.fdiv x y)),(zV (x-(Int.fdiv x y)*y)),(.bool true)])))))))) (by kernel_rfl))

end Go.Proofs.YtkkbddkpggjgpaaGreatDoor

namespace Go.Proofs.YtkkbddkpggjgpaaGreatDoor
def dv (m e:Int):Rat:=(m:Rat)*(2:Rat)^e
theorem two_ne:(2:Rat)≠0:=by decide
theorem zp_add (a b:Int):(2:Rat)^(a+b)=2^a*2^b:=Rat.zpow_add two_ne a b
theorem zp_pos (a:Int):(0:Rat)<2^a:=Rat.zpow_pos (by decide)
theorem zp_ne (a:Int):(2:Rat)^a≠0:=fun h=>by have:=zp_pos a;rw[h] at this;exact absurd this Rat.lt_irrefl
theorem zp_nat (n:Nat):(2:Rat)^(n:Int)=(((2:Int)^n:Int):Rat):=by
 rw[Rat.zpow_natCast,Rat.intCast_pow];rfl
theorem zp_zero:(2:Rat)^(0:Int)=1:=Rat.zpow_zero 2
theorem zp_cancel (a:Int):(2:Rat)^a*2^(-a)=1:=by rw[← zp_add,Int.add_right_neg,zp_zero]
theorem dv_shl (m e:Int)(k:Nat):dv (m*2^k) e=dv m (e+k):=by
 unfold dv
 rw[zp_add,zp_nat,Rat.intCast_mul]
 grind
theorem dv_at {m e c:Int}(h:c≤e):dv m e=dv (m*2^(e-c).toNat) c:=by
 rw[dv_shl];congr 1;omega
theorem dv_lt {m n c:Int}:dv m c<dv n c↔m<n:=by
 unfold dv;rw[Rat.mul_lt_mul_right (zp_pos c),Rat.intCast_lt_intCast]
theorem dv_le {m n c:Int}:dv m c≤dv n c↔m≤n:=by
 rw[← Rat.not_lt,dv_lt];omega
theorem dv_zero (e:Int):dv 0 e=0:=by unfold dv;rw[Rat.intCast_zero,Rat.zero_mul]
theorem dv_int (m:Int):dv m 0=(m:Rat):=by unfold dv;rw[zp_zero,Rat.mul_one]
theorem dv_neg (m e:Int):dv (-m) e=-dv m e:=by unfold dv;rw[Rat.intCast_neg,Rat.neg_mul]
def cmpQ (x y:Rat):Int:=if x<y then -1 else if y<x then 1 else 0
theorem cmpD_dv (m e n f:Int):cmpD m e n f=cmpQ (dv m e) (dv n f):=by
 have h:=iMin_range e f
 unfold cmpD cmpI cmpQ
 rw[dv_at (m:=m) (show iMin e f≤e by omega),dv_at (m:=n) (show iMin e f≤f by omega)]
 simp only [dv_lt]
theorem dv_pos {m e:Int}:0<dv m e↔0<m:=by rw[← dv_zero e,dv_lt]
theorem dv_dm (m e:Int):dv (dm m) (de m e)=dv m e:=by
 unfold de;rw[← dv_shl,dm_mul]
theorem dv_mk {m e:Int}(h:mkE m e=0):dv (mkM m e) (mkX m e)=dv m e:=by
 unfold mkM mkX
 rw[if_pos h]
 by_cases h0:m=0
 ·rw[h0,dm_zero,dv_zero,dv_zero]
 ·rw[if_pos ⟨h,h0⟩,dv_dm]
theorem vdb_mk {m e:Int}:vdb (mkM m e) (mkX m e)=true:=by
 by_cases h:mkE m e=0
 ·by_cases h0:m=0
  ·have:mkM m e=0∧mkX m e=0:=by unfold mkM mkX;rw[if_pos h,if_neg (fun q=>q.2 h0),h0,dm_zero];exact⟨rfl,rfl⟩
   rw[this.1,this.2];rfl
  ·have e1:mkM m e=dm m:=by unfold mkM;rw[if_pos h]
   have e2:mkX m e=de m e:=by unfold mkX;rw[if_pos ⟨h,h0⟩]
   rw[e1,e2]
   unfold mkE at h
   split at h
   ·omega
   ·try rw[if_neg h0] at h
    split at h
    ·assumption
    ·omega
 ·rw[(mk_no h).1,(mk_no h).2];rfl
def flr (r:Rat)(p:Int):Int:=(r*2^p).floor
def cei (r:Rat)(p:Int):Int:=-(flr (-r) p)
theorem floor_div (n d:Int)(hd:0<d):((n:Rat) / (d:Rat)).floor=n / d:=by
 have hq:(0:Rat)<(d:Rat):=Rat.intCast_pos.2 hd
 have key:∀ x:Int,x≤((n:Rat) / (d:Rat)).floor↔x≤n / d:=fun x=>by
  rw[Rat.le_floor_iff,Int.le_ediv_iff_mul_le hd,← Rat.intCast_le_intCast (a:=x*d),Rat.intCast_mul,← Rat.not_lt,Rat.div_lt_iff hq,Rat.not_lt]
 have h1:=(key _).1 (Int.le_refl _)
 have h2:=(key _).2 (Int.le_refl _)
 omega
theorem flr_dv (m e p:Int):flr (dv m e) p=if 0≤e+p then m*2^(e+p).toNat else m / 2^(-(e+p)).toNat:=by
 have h:dv m e*2^p=dv m (e+p):=by unfold dv;rw[zp_add];grind
 unfold flr
 rw[h]
 split
 ·rename_i h0
  rw[dv_at h0,dv_int,Rat.floor_intCast,Int.sub_zero]
 ·rename_i h0
  rw[← floor_div _ _ (two_pos _)]
  congr 1
  have h1:=zp_cancel (e+p)
  have h2:=zp_nat (-(e+p)).toNat
  rw[show (((-(e+p)).toNat:Nat):Int)=-(e+p) by omega] at h2
  rw[← h2]
  unfold dv
  have h3:=zp_ne (-(e+p))
  grind
theorem flr_le (r:Rat)(p:Int):dv (flr r p) (-p)≤r:=by
 have h3:=Rat.mul_le_mul_of_nonneg_right (Rat.floor_le (r*2^p)) (Rat.le_of_lt (zp_pos (-p)))
 rw[Rat.mul_assoc r,zp_cancel,Rat.mul_one] at h3
 exact h3
theorem flr_lt (r:Rat)(p:Int):r<dv (flr r p+1) (-p):=by
 have h3:=Rat.mul_lt_mul_of_pos_right (Rat.lt_floor_add_one (r*2^p)) (zp_pos (-p))
 rw[Rat.mul_assoc r,zp_cancel,Rat.mul_one] at h3
 exact h3
theorem le_flr {r:Rat}{p x:Int}:x≤flr r p↔dv x (-p)≤r:=by
 have h1:=zp_cancel (-p)
 rw[Int.neg_neg] at h1
 unfold flr dv
 rw[Rat.le_floor_iff]
 constructor
 ·intro h
  have:=Rat.mul_le_mul_of_nonneg_right h (Rat.le_of_lt (zp_pos (-p)))
  rwa [Rat.mul_assoc r,zp_cancel,Rat.mul_one] at this
 ·intro h
  have:=Rat.mul_le_mul_of_nonneg_right h (Rat.le_of_lt (zp_pos p))
  rwa [Rat.mul_assoc (x:Rat),h1,Rat.mul_one] at this
end Go.Proofs.YtkkbddkpggjgpaaGreatDoor

namespace Go.Proofs.YtkkbddkpggjgpaaGreatDoor
theorem neg_xor {n d:Int}:(!(bEq (decide (n<0)) (decide (d<0))))=true↔(n<0∧0≤d)∨(0≤n∧d<0):=by
 by_cases h1:n<0<;>by_cases h2:d<0<;>simp [bEq,h1,h2]<;>omega
theorem q_make {n d:Int}(hd:d≠0):(Rat.divInt n d).num=sgn (!(bEq (decide (n<0)) (decide (d<0)))) (n.natAbs / Nat.gcd n.natAbs d.natAbs)∧(Rat.divInt n d).den=d.natAbs / Nat.gcd n.natAbs d.natAbs:=by
 have hg:Int.gcd d n=Nat.gcd n.natAbs d.natAbs:=by rw[Int.gcd_eq_natAbs_gcd_natAbs,Nat.gcd_comm]
 refine⟨?_,by rw[Rat.den_divInt,if_neg hd,hg]⟩
 rw[Rat.num_divInt,hg]
 have hdvd:Nat.gcd n.natAbs d.natAbs ∣ n.natAbs:=Nat.gcd_dvd_left _ _
 have hp:0<Nat.gcd n.natAbs d.natAbs:=Nat.gcd_pos_of_pos_right _ (by omega)
 generalize Nat.gcd n.natAbs d.natAbs=g at *
 obtain⟨k,hk⟩:=hdvd
 have hkd:n.natAbs / g=k:=by rw[hk];exact Nat.mul_div_cancel_left k hp
 rw[hkd]
 have hs:sgn (!(bEq (decide (n<0)) (decide (d<0)))) k=if (n<0∧0≤d)∨(0≤n∧d<0) then -(k:Int) else (k:Int):=by
  unfold sgn
  simp only [neg_xor]
 rw[hs]
 have hgk:((g:Int)*k)=(n.natAbs:Int):=by rw[hk];simp
 have hg0:(g:Int)≠0:=by omega
 rcases Int.lt_trichotomy d 0 with h | h | h
 ·rw[Int.sign_eq_neg_one_of_neg h]
  by_cases hn:n<0
  ·rw[if_neg (by omega),show (-1:Int)*n=(g:Int)*k by omega,Int.mul_ediv_cancel_left _ hg0]
  ·rw[if_pos (by omega),show (-1:Int)*n=(g:Int)*(-(k:Int)) by rw[Int.mul_neg];omega,Int.mul_ediv_cancel_left _ hg0]
 ·exact absurd h hd
 ·rw[Int.sign_eq_one_of_pos h]
  by_cases hn:n<0
  ·rw[if_pos (by omega),show (1:Int)*n=(g:Int)*(-(k:Int)) by rw[Int.mul_neg];omega,Int.mul_ediv_cancel_left _ hg0]
  ·rw[if_neg (by omega),show (1:Int)*n=(g:Int)*k by omega,Int.mul_ediv_cancel_left _ hg0]
theorem q_L {n d:Int}(hd:d≠0):L (Rat.divInt n d).num.natAbs≤L n.natAbs∧L (Rat.divInt n d).den≤L d.natAbs:=by
 have h:=q_make (n:=n) hd
 rw[h.1,h.2,sgn_abs]
 exact⟨L_div _ _,L_div _ _⟩
theorem den_ne (r:Rat):(r.den:Int)≠0:=by have:=r.den_nz;omega
theorem q_cmp (r s:Rat):cmpI (r.num*(s.den:Int)) (s.num*(r.den:Int))=cmpQ r s:=by
 unfold cmpI cmpQ
 simp only [Rat.lt_iff]
theorem q_int (n:Int):Rat.divInt n 1=(n:Rat):=by rw[Rat.divInt_eq_div,Rat.intCast_one];grind
theorem dv_pos_e {m e:Int}(he:0≤e):(dv m e).num=m*2^e.toNat∧(dv m e).den=1:=by
 rw[dv_at he,dv_int,Int.sub_zero]
 exact⟨Rat.num_intCast _,Rat.den_intCast _⟩
theorem dv_neg_e {m e:Int}(hv:vdb m e=true)(he:e<0):(dv m e).num=m∧(dv m e).den=2^(-e).toNat:=by
 have hm:m.natAbs%2=1:=by
  rcases vdb_iff.1 hv with ⟨_,h2⟩ | ⟨_,_,_,_,h⟩
  ·omega
  ·exact h
 have hc:Nat.Coprime m.natAbs (2^(-e).toNat):=by
  refine Nat.Coprime.pow_right _ ?_
  rw[Nat.coprime_comm]
  unfold Nat.Coprime
  rw[Nat.gcd_rec,hm];decide
 have h:dv m e=(⟨m,2^(-e).toNat,Nat.pos_iff_ne_zero.1 (Nat.pow_pos (by omega)),hc⟩:Rat):=by
  rw[Rat.mk_eq_mkRat,Rat.mkRat_eq_div]
  have h1:=zp_cancel e
  have h2:=zp_nat (-e).toNat
  rw[show (((-e).toNat:Nat):Int)=-e by omega] at h2
  have h3:=zp_ne (-e)
  have h4:(((2^(-e).toNat:Nat)):Rat)=2^(-e):=by
   rw[h2,← Rat.intCast_natCast,Int.natCast_pow];rfl
  rw[h4]
  unfold dv
  grind
 rw[h]
 exact⟨rfl,rfl⟩
theorem gcd_step (x y:Nat):Nat.gcd y (x%y)=Nat.gcd x y:=by rw[Nat.gcd_comm x y,Nat.gcd_rec y x,Nat.gcd_comm]
theorem gcd_last {x y a b:Nat}(h:Nat.gcd x y=Nat.gcd a b)(hy:y=0):x=Nat.gcd a b:=by rw[← h,hy,Nat.gcd_zero_right]
theorem L_den (r:Rat):L (r.den:Int).natAbs=L r.den:=by rw[Int.natAbs_natCast]
theorem q_ofL {n:Int}(h:-9223372036854775808≤n∧n≤9223372036854775807):L (Int.cast n:Rat).num.natAbs≤2∧L (Int.cast n:Rat).den≤1:=by
 rw[Rat.num_intCast,Rat.den_intCast]
 exact⟨L_i64 h,L_le (by decide)⟩
theorem cmpQ_range (x y:Rat):(cmpQ x y=-1∧x<y)∨(cmpQ x y=1∧y<x)∨(cmpQ x y=0∧x=y):=by
 unfold cmpQ
 by_cases h:x<y
 ·exact .inl ⟨if_pos h,h⟩
 ·rw[if_neg h]
  by_cases h2:y<x
  ·exact .inr (.inl ⟨if_pos h2,h2⟩)
  ·exact .inr (.inr ⟨if_neg h2,Rat.le_antisymm (Rat.not_lt.1 h2) (Rat.not_lt.1 h)⟩)
end Go.Proofs.YtkkbddkpggjgpaaGreatDoor

namespace Go.Proofs.YtkkbddkpggjgpaaGreatDoor
open Go.RowKit
theorem impl_arg {P:Program}{C:World→Prop}{f:FuncId}{ds ds':List V}{r:V}(hd:∀ (w:World) (S:Nat→Prop) (l:List Value),RdL w S l ds→RdL w S l ds')(h:Impl P C f ds' r):Impl P C f ds r :=
 ⟨h.1,fun w S args hC hS ha=>h.2 w S args hC hS (hd w S args ha)⟩
theorem tmod_lo (v:Int){n:Int}(hn:0<n):-n<v.tmod n:=by
 have:=Int.tmod_lt_of_pos (-v) hn
 rw[Int.neg_tmod] at this
 omega
theorem mod_neg {v n:Int}(hn:0<n)(h:wRem v n<0):wRem v n+n=v%n:=by
 unfold wRem at *
 have h1:=Int.tmod_add_mul_tdiv v n
 have h2:=tmod_lo v hn
 have h3:v%n=(v.tmod n)%n:=by
  conv=>lhs;rw[← h1]
  rw[Int.add_mul_emod_self_left]
 rw[h3,← Int.add_emod_right,Int.emod_eq_of_lt (by omega) (by omega)]
theorem mod_pos {v n:Int}(hn:0<n)(h:0≤wRem v n):wRem v n=v%n:=by
 unfold wRem at *
 have h1:=Int.tmod_add_mul_tdiv v n
 have h2:=Int.tmod_lt_of_pos v hn
 have h3:v%n=(v.tmod n)%n:=by
  conv=>lhs;rw[← h1]
  rw[Int.add_mul_emod_self_left]
 rw[h3,Int.emod_eq_of_lt h h2]
theorem wRem_abs {v n:Int}(hn:0<n):-n<wRem v n∧wRem v n<n:=⟨tmod_lo v hn,Int.tmod_lt_of_pos v hn⟩
theorem mk_cases {m e:Int}(hE:mkE m e=0):(m=0∧mkM m e=0∧mkX m e=0)∨(m≠0∧mkM m e=dm m∧mkX m e=de m e∧vdb (dm m) (de m e)=true):=by
 by_cases hm:m=0
 ·refine .inl ⟨hm,?_,?_⟩
  ·unfold mkM;rw[if_pos hE,hm,dm_zero]
  ·unfold mkX;rw[if_neg (fun q=>q.2 hm)]
 ·refine .inr ⟨hm,?_,?_,?_⟩
  ·unfold mkM;rw[if_pos hE]
  ·unfold mkX;rw[if_pos ⟨hE,hm⟩]
  ·unfold mkE at hE
   split at hE
   ·omega
   ·first
    | (rw[if_neg hm] at hE;split at hE;assumption;omega)
    | (split at hE;assumption;omega)
theorem mk_fine2 {m e:Int}(h:L m.natAbs≤900)(he:-60000≤e∧e≤30000):mkE m e=0:=by
 by_cases hm:m=0
 ·exact (mk_r2 (by omega) hm).2.2
 ·refine (mk_r4 (by omega) hm ?_).2.2
  rw[vdb_iff]
  have h1:=L_dm m
  have h2:=nbits_L (dm m).natAbs
  have h3:=tz_L m.natAbs
  have h4:=dm_odd hm
  unfold de
  exact .inr ⟨dm_ne hm,by omega,by omega,by omega,h4⟩
end Go.Proofs.YtkkbddkpggjgpaaGreatDoor

namespace Go.Proofs.YtkkbddkpggjgpaaGreatDoor
open Go.RowKit
def rawI (b:Bool)(l:List Nat)(n:Int):Int:=if (l.length:Int)≤n then sgn b (val l) else 0
theorem rawI_yes {b:Bool}{l:List Nat}{n:Int}(h:(l.length:Int)≤n):rawI b l n=sgn b (val l):=by unfold rawI;rw[if_pos h]
theorem rawI_no {b:Bool}{l:List Nat}{n:Int}(h:n<(l.length:Int)):rawI b l n=0:=by unfold rawI;rw[if_neg (by omega)]
theorem rawI_L {b:Bool}{l:List Nat}(hl:Dig l){n:Int}(hn:0≤n):(L (rawI b l n).natAbs:Int)≤n:=by
 by_cases h:(l.length:Int)≤n
 ·rw[rawI_yes h]
  have:=L_sgn b (val l)
  have:=L_val hl
  omega
 ·rw[rawI_no (by omega)]
  have:L (0:Int).natAbs=0:=L_zero
  omega
theorem raw_ret1 {b:Bool}{l:List Nat}{n:Int}(h:n<(l.length:Int)):vsub (.tup [.agg [.bool false,.nil],.bool false]) (.tup [.agg [.bool (decide (rawI b l n<0)),N (rawI b l n).natAbs],.bool (decide ((l.length:Int)≤n))]):=by
 rw[rawI_no h,decide_eq_false (show ¬((l.length:Int)≤n) by omega)]
 exact vsub_tup2 vsub_zero2 (vsub_refl _)
theorem raw_ret2 {b:Bool}{l:List Nat}{n:Int}(h:(l.length:Int)≤n):vsub (.tup [.agg [.bool (decide (sgn b (val l)<0)),N (sgn b (val l)).natAbs],.bool true]) (.tup [.agg [.bool (decide (rawI b l n<0)),N (rawI b l n).natAbs],.bool (decide ((l.length:Int)≤n))]):=by
 rw[rawI_yes h,decide_eq_true h]
 exact vsub_refl _
theorem mk_zero (e:Int):mkM 0 e=0∧mkX 0 e=0:=by
 refine⟨?_,?_⟩
 ·unfold mkM;split
  ·exact dm_zero
  ·rfl
 ·unfold mkX;rw[if_neg (fun q=>q.2 rfl)]
theorem rawd_ret1 {b:Bool}{l:List Nat}{n e:Int}(h:n<(l.length:Int)):vsub (.tup [.agg [.bool false,.nil,.int .i64 0],.bool false])
  (.tup [.agg [.bool (decide (mkM (rawI b l n) e<0)),N (mkM (rawI b l n) e).natAbs,.int .i64 (mkX (rawI b l n) e)],.bool (decide ((l.length:Int)≤n))]):=by
 rw[rawI_no h,(mk_zero e).1,(mk_zero e).2,decide_eq_false (show ¬((l.length:Int)≤n) by omega)]
 exact vsub_tup2 vsub_zero3 (vsub_refl _)
theorem rawd_ok {m e:Int}{p:Prop}[Decidable p](h:mkE m e=0)(hp:p):iEq (mkE m e) 0=decide p:=by rw[h,decide_eq_true hp];rfl
def swM (m e n f:Int):Int:=if 0<cmpD m e n f then n else m
def swX (m e n f:Int):Int:=if 0<cmpD m e n f then f else e
def swN (m e n f:Int):Int:=if 0<cmpD m e n f then m else n
def swF (m e n f:Int):Int:=if 0<cmpD m e n f then e else f
theorem sw_yes {m e n f:Int}(h:0<cmpD m e n f):n=swM m e n f∧f=swX m e n f∧m=swN m e n f∧e=swF m e n f:=by unfold swM swX swN swF;simp [h]
theorem sw_no {m e n f:Int}(h:cmpD m e n f≤0):m=swM m e n f∧e=swX m e n f∧n=swN m e n f∧f=swF m e n f:=by
 have h':¬ 0<cmpD m e n f:=by omega
 unfold swM swX swN swF;simp [h']
theorem sw_facts (m e n f:Int):(0<cmpD m e n f∧swM m e n f=n∧swX m e n f=f∧swN m e n f=m∧swF m e n f=e∧L (swM m e n f).natAbs=L n.natAbs∧L (swN m e n f).natAbs=L m.natAbs) ∨
  (cmpD m e n f≤0∧swM m e n f=m∧swX m e n f=e∧swN m e n f=n∧swF m e n f=f∧L (swM m e n f).natAbs=L m.natAbs∧L (swN m e n f).natAbs=L n.natAbs):=by
 by_cases h:0<cmpD m e n f
 ·have:=sw_yes h;exact .inl ⟨h,this.1.symm,this.2.1.symm,this.2.2.1.symm,this.2.2.2.symm,by rw[← this.1],by rw[← this.2.2.1]⟩
 ·have:=sw_no (show cmpD m e n f≤0 by omega);exact .inr ⟨by omega,this.1.symm,this.2.1.symm,this.2.2.1.symm,this.2.2.2.symm,by rw[← this.1],by rw[← this.2.2.1]⟩
theorem W_of {m e n f m' e' n' f':Int}{a b:Bool}(h:m=m'∧e=e'∧n=n'∧f=f')(hb:a=b) :
  vsub (.tup [.agg [.bool (decide (m<0)),N m.natAbs,.int .i64 e,.bool (decide (n<0)),N n.natAbs,.int .i64 f],.bool a]) (.tup [.agg [.bool (decide (m'<0)),N m'.natAbs,.int .i64 e',.bool (decide (n'<0)),N n'.natAbs,.int .i64 f'],.bool b]):=by
 obtain⟨rfl,rfl,rfl,rfl⟩:=h;subst hb;exact vsub_refl _
end Go.Proofs.YtkkbddkpggjgpaaGreatDoor

namespace Go.Proofs.YtkkbddkpggjgpaaGreatDoor
def scl (x n:Int):Int:=if n<0 then x / 2^(-n).toNat else x*2^n.toNat
theorem scl_L (x n:Int):(L (scl x n).natAbs:Int)≤L x.natAbs+n.toNat / 32+1:=by
 unfold scl
 split
 ·have:=L_abs_shr x (-n).toNat;omega
 ·have:=L_abs_shl x n.toNat;omega
theorem flr_scl (m e p:Int):flr (dv m e) p=scl m (e+p):=by
 rw[flr_dv];unfold scl
 by_cases h:0≤e+p
 ·rw[if_pos h,if_neg (by omega)]
 ·rw[if_neg h,if_pos (by omega)]
theorem flr_LD (m e p:Int):(L (flr (dv m e) p).natAbs:Int)≤L m.natAbs+(e+p).toNat / 32+1∧(L (cei (dv m e) p).natAbs:Int)≤L m.natAbs+(e+p).toNat / 32+1:=by
 have h1:=scl_L m (e+p)
 have h2:=scl_L (-m) (e+p)
 rw[← flr_scl] at h1 h2
 rw[Int.natAbs_neg] at h2
 unfold cei
 rw[Int.natAbs_neg,← dv_neg]
 exact⟨h1,h2⟩
theorem dv_L {m e:Int}(hv:vdb m e=true)(he:-65536≤e∧e≤65536):L (dv m e).num.natAbs≤L m.natAbs+2050∧L (dv m e).den≤2050:=by
 by_cases h:0≤e
 ·have h1:=dv_pos_e (m:=m) h
  have h2:=L_abs_shl m e.toNat
  have h3:L 1≤1:=L_le (by decide)
  rw[h1.1,h1.2]
  omega
 ·have h1:=dv_neg_e hv (by omega)
  have h2:=L_two_pow (-e).toNat
  rw[h1.1,h1.2]
  omega
end Go.Proofs.YtkkbddkpggjgpaaGreatDoor

namespace Go.Proofs.YtkkbddkpggjgpaaGreatDoor
open Go.RowKit
set_option maxRecDepth 100000
def r04_Gcd_0_mk (_ _:Nat)(x:Nat × Nat):St:=⟨mkS 21 [(0,(.val (N x.1))),(1,(.val (N x.2)))],[]⟩
def r04_Gcd_0_I (a b:Nat)(x:Nat × Nat):Prop:=Nat.gcd x.1 x.2=Nat.gcd a b∧L x.1≤16777216∧L x.2≤16777216
def r04_Gcd_0_mu (_ _:Nat)(x:Nat × Nat):Nat:=x.2
def r04_Gcd_0_ex (_ _:Nat)(y:Nat):Ex × St:=(.exit 0,⟨mkS 21 [(0,(.val (N y)))],[]⟩)
def r04_Gcd_0_J (a b:Nat)(y:Nat):Prop:=y=Nat.gcd a b
abbrev r04_Gcd_0_N (a b:Nat):=NX (r04_Gcd_0_mk a b) (r04_Gcd_0_I a b) (r04_Gcd_0_mu a b) (r04_Gcd_0_ex a b) (r04_Gcd_0_J a b)
theorem r04_Gcd_0 (a b:Nat)(c0:L a≤16777216)(c1:L b≤16777216)(x0:Nat × Nat)(hI:r04_Gcd_0_I a b x0):LoopOk Tryz.prog Amb (loopN Tryz.f197 0) (r04_Gcd_0_mk a b x0) (fun e st_=>∃ y,r04_Gcd_0_J a b y∧r04_Gcd_0_ex a b y=(e,st_)) :=
 loop_ob hP hAmb ⟨[0,1],0,[]⟩ (r04_Gcd_0_mk a b) (r04_Gcd_0_I a b) (r04_Gcd_0_mu a b) (r04_Gcd_0_ex a b) (r04_Gcd_0_J a b) x0 hI (fun (x,y)=>.lit<|.both (.lit<|.call (.tup [(N (x / y)),(N (x%y)),(.bool true)])<|.fin2 ⟨[0,1],0,[]⟩) (.fin2 ⟨[0],0,[]⟩)) (by
  rintro ⟨x,y⟩ hI
  have hI:Nat.gcd x y=Nat.gcd a b∧L x≤16777216∧L y≤16777216:=hI
  obtain⟨h1,h2,h3⟩:=hI
  have m0:=L_mod x y
  have m1:=L_len y
  have m2:=L_pos_iff y
  have m3:=fun q=>Nat.mod_lt x (show 0<y from q)
  exact cast_ob (aI True.intro (aI (fun (h101:(iGt ((lim y).length:Int) 0)=true)=>have _gh101:=iGt_t h101;aI (r03_DivMod x y oO oO oO) (have f103:=L_mod x y;have f102:=L_div x y;aI tT ((nx_next (y,(x%y)) (show Nat.gcd y (x%y)=Nat.gcd a b∧L y≤16777216∧L (x%y)≤16777216 from ⟨(gcd_step x y).trans h1,h3,by omega⟩) (m3 oO):r04_Gcd_0_N a b (x,y) .normal (r04_Gcd_0_mk a b (y,(x%y))))))) (fun (h104:(iGt ((lim y).length:Int) 0)=false)=>have _gh104:=iGt_f h104;aI tT ((nx_exit 0 ((r04_Gcd_0_ex a b x).2) x (show x=Nat.gcd a b from gcd_last h1 oO) rfl:r04_Gcd_0_N a b (x,y) (.exit 0) ((r04_Gcd_0_ex a b x).2)))))) (by kernel_rfl))
theorem r04_Gcd (a:Nat)(b:Nat)(c0:L a≤16777216)(c1:L b≤16777216):Impl Tryz.prog Amb 197 [(N a),(N b)] (N (Nat.gcd a b)):=by
 exact impl_ob hP hAmb Tryz.func197 (by kernel_rfl) (.loop ⟨[0,1],0,[]⟩ ((r04_Gcd_0_mk a b (a,b))) (Nat) (r04_Gcd_0_ex a b) (r04_Gcd_0_J a b) (fun y=>.lit<|.ret))
  (cast_ob (aI True.intro (aI tT (aI (rfl:(r04_Gcd_0_mk a b (a,b))=(r04_Gcd_0_mk a b (a,b))) (aI (r04_Gcd_0 a b c0 c1 (a,b) (show Nat.gcd a (b)=Nat.gcd a b∧L a≤16777216∧L (b)≤16777216 from ⟨rfl,c0,c1⟩)) (fun y (hJ:r04_Gcd_0_J a b y)=>have hJ:y=Nat.gcd a b:=hJ;(vsub_of (congrArg N hJ):vsub (N y) (N (Nat.gcd a b)))))))) (by kernel_rfl))
theorem r03_Div (a:Nat)(b:Nat)(c0:L a≤16777216)(c1:L b≤16777216)(c2:0<b):Impl Tryz.prog Amb 198 [(N a),(N b)] (N (a / b)):=by
 exact impl_ob hP hAmb Tryz.func198 (by kernel_rfl) (.lit<|.call (.tup [(N (a / b)),(N (a%b)),(.bool true)])<|.lit<|.ret)
  (cast_ob (aI True.intro (aI (r03_DivMod a b oA oA oA) (have f2:=L_mod a b;have f1:=L_div a b;(vsub_refl (N (a / b)))))) (by kernel_rfl))
theorem r04_Lowest (a:Nat)(b:Nat)(c0:L a≤16777216)(c1:L b≤16777216)(c2:0<b):Impl Tryz.prog Amb 149 [(N a),(N b)] (.tup [(N (a / (Nat.gcd a b))),(N (b / (Nat.gcd a b))),(.bool true)]):=by
 have e1:=L_len b
 have e2:=L_pos_iff b
 have e3:=Nat.gcd_pos_of_pos_right a (show 0<b from c2)
 have e4:=L_mono (Nat.gcd_le_right a (show 0<b from c2))
 exact impl_ob hP hAmb Tryz.func149 (by kernel_rfl) (.lit<|.no<|.lit<|.call (N (Nat.gcd a b))<|.lit<|.call (N (a / (Nat.gcd a b)))<|.lit<|.call (N (b / (Nat.gcd a b)))<|.lit<|.ret)
  (cast_ob (aI True.intro (aI (iEq_mkF oO:(iEq ((lim b).length:Int) 0)=false) (aI (r04_Gcd a b oA oA) (aI (r03_Div a (Nat.gcd a b) oA oA oA) (have f2:=L_div a (Nat.gcd a b);aI (r03_Div b (Nat.gcd a b) oA oA oA) (have f1:=L_div b (Nat.gcd a b);(vsub_refl (.tup [(N (a / (Nat.gcd a b))),(N (b / (Nat.gcd a b))),(.bool true)])))))))) (by kernel_rfl))
theorem r07_Make (n d:Int)(c0:L (n).natAbs≤4000000)(c1:L (d).natAbs≤4000000)(c2:d≠0):Impl Tryz.prog Amb 81 [(zV n),(zV d)] (.tup [(.agg [(.bool (decide ((Rat.divInt n d).num<0))),(N (((Rat.divInt n d).num).natAbs)),(N ((Rat.divInt n d).den))]),(.int .i64 0)]):=by
 have qm:=q_make (n:=n) c2
 exact impl_ob hP hAmb Tryz.func81 (by kernel_rfl) (.lits 3<|.call (.tup [(N (n.natAbs / (Nat.gcd n.natAbs d.natAbs))),(N (d.natAbs / (Nat.gcd n.natAbs d.natAbs))),(.bool true)])<|.lits 6<|.call (zV (sgn (!(bEq (decide (n<0)) (decide (d<0)))) (n.natAbs / (Nat.gcd n.natAbs d.natAbs))))<|.lits 3<|.ret)
  (cast_ob (aI True.intro (aI (r04_Lowest n.natAbs d.natAbs oA oA oA) (have f3:=L_div d.natAbs (Nat.gcd n.natAbs d.natAbs);have f2:=L_div n.natAbs (Nat.gcd n.natAbs d.natAbs);aI (r05_Nat (!(bEq (decide (n<0)) (decide (d<0)))) (n.natAbs / (Nat.gcd n.natAbs d.natAbs)) oA) (have f1:=L_sgn (!(bEq (decide (n<0)) (decide (d<0)))) (n.natAbs / (Nat.gcd n.natAbs d.natAbs));(by rw[qm.1,qm.2];exact vsub_refl _:vsub (.tup [(.agg [(.bool (decide ((sgn (!(bEq (decide (n<0)) (decide (d<0)))) (n.natAbs / (Nat.gcd n.natAbs d.natAbs)))<0))),(N ((sgn (!(bEq (decide (n<0)) (decide (d<0)))) (n.natAbs / (Nat.gcd n.natAbs d.natAbs))).natAbs)),(N (d.natAbs / (Nat.gcd n.natAbs d.natAbs)))]),(.int .i64 0)]) (.tup [(.agg [(.bool (decide ((Rat.divInt n d).num<0))),(N (((Rat.divInt n d).num).natAbs)),(N ((Rat.divInt n d).den))]),(.int .i64 0)])))))) (by kernel_rfl))
theorem r07_of (n d:Int)(c0:L (n).natAbs≤4000000)(c1:L (d).natAbs≤4000000)(c2:d≠0):Impl Tryz.prog Amb 84 [(zV n),(zV d)] (.agg [(.bool (decide ((Rat.divInt n d).num<0))),(N (((Rat.divInt n d).num).natAbs)),(N ((Rat.divInt n d).den))]):=by
 exact impl_ob hP hAmb Tryz.func84 (by kernel_rfl) (.lits 3<|.call (.tup [(.agg [(.bool (decide ((Rat.divInt n d).num<0))),(N (((Rat.divInt n d).num).natAbs)),(N ((Rat.divInt n d).den))]),(.int .i64 0)])<|.lits 4<|.ret)
  (cast_ob (aI True.intro (aI (r07_Make n d oA oA oA) (have f1:=q_L (n:=n) (show d≠0 by first | assumption | omega | decide);(vsub_refl (.agg [(.bool (decide ((Rat.divInt n d).num<0))),(N (((Rat.divInt n d).num).natAbs)),(N ((Rat.divInt n d).den))]))))) (by kernel_rfl))
theorem r07_den (r:Rat)(c0:L r.num.natAbs≤1000000)(c1:L r.den≤1000000):Impl Tryz.prog Amb 83 [(.agg [(.bool (decide (r.num<0))),(N r.num.natAbs),(N r.den)])] (zV (r.den:Int)):=by
 exact impl_ob hP hAmb Tryz.func83 (by kernel_rfl) (.lits 2<|.call (zV (sgn false r.den))<|.lits 2<|.ret)
  (cast_ob (aI True.intro (aI (r05_Nat false r.den oA) (have f1:=L_sgn false r.den;(Z_of (sgn_f _):vsub (zV (sgn false r.den)) (zV (r.den:Int)))))) (by kernel_rfl))
theorem r07_Of (n:Int)(c0:(-9223372036854775808:Int)≤n∧n≤9223372036854775807):Impl Tryz.prog Amb 29 [(.int .i64 n)] (.agg [(.bool (decide ((Int.cast n:Rat).num<0))),(N (((Int.cast n:Rat).num).natAbs)),(N ((Int.cast n:Rat).den))]):=by
 exact impl_ob hP hAmb Tryz.func29 (by kernel_rfl) (.lit<|.call (zV n)<|.lit<|.call (zV (1:Int))<|.lit<|.call (.agg [(.bool (decide ((Rat.divInt n (1:Int)).num<0))),(N (((Rat.divInt n (1:Int)).num).natAbs)),(N ((Rat.divInt n (1:Int)).den))])<|.lits 2<|.ret)
  (cast_ob (aI True.intro (aI (r05_Of n oA) (have f3:=(L_i64 oA:L (n:Int).natAbs≤2);aI (r05_Of 1 oA) (have f2:=(L_i64 oA:L (1:Int).natAbs≤2);aI (r07_of n (1:Int) oA oA oA) (have f1:=q_L (n:=n) (show (1:Int)≠0 by first | assumption | omega | decide);(by rw[q_int];exact vsub_refl _:vsub (.agg [(.bool (decide ((Rat.divInt n (1:Int)).num<0))),(N (((Rat.divInt n (1:Int)).num).natAbs)),(N ((Rat.divInt n (1:Int)).den))]) (.agg [(.bool (decide ((Int.cast n:Rat).num<0))),(N (((Int.cast n:Rat).num).natAbs)),(N ((Int.cast n:Rat).den))]))))))) (by kernel_rfl))
theorem r07_Cmp (r:Rat)(s:Rat)(c0:L r.num.natAbs≤1000000)(c1:L r.den≤1000000)(c2:L s.num.natAbs≤1000000)(c3:L s.den≤1000000):Impl Tryz.prog Amb 102 [(.agg [(.bool (decide (r.num<0))),(N r.num.natAbs),(N r.den)]),(.agg [(.bool (decide (s.num<0))),(N s.num.natAbs),(N s.den)])] (.int .i64 (cmpQ r s)):=by
 exact impl_ob hP hAmb Tryz.func102 (by kernel_rfl) (.lits 3<|.call (zV (s.den:Int))<|.lit<|.call (zV (r.num*(s.den:Int)))<|.lits 3<|.call (zV (r.den:Int))<|.lit<|.call (zV (s.num*(r.den:Int)))<|.lit<|.call (.int .i64 (cmpI (r.num*(s.den:Int)) (s.num*(r.den:Int))))<|.lit<|.ret)
  (cast_ob (aI True.intro (aI (r07_den s oA oA) (have f7:=den_ne s;have f6:=L_den s;aI (r05_Mul r.num (s.den:Int) oA oA) (have f5:=L_abs_mul r.num (s.den:Int);aI (r07_den r oA oA) (have f4:=den_ne r;have f3:=L_den r;aI (r05_Mul s.num (r.den:Int) oA oA) (have f2:=L_abs_mul s.num (r.den:Int);aI (r05_Cmp (r.num*(s.den:Int)) (s.num*(r.den:Int)) oA oA) (have f1:=cmpI_range (r.num*(s.den:Int)) (s.num*(r.den:Int));(vsub_of (congrArg (V.int .i64) (q_cmp r s)):vsub (.int .i64 (cmpI (r.num*(s.den:Int)) (s.num*(r.den:Int)))) (.int .i64 (cmpQ r s)))))))))) (by kernel_rfl))
theorem r08_one (n:Int)(c0:(0:Int)≤n∧n≤200000):Impl Tryz.prog Amb 166 [(.int .i64 n)] (N (1*2^(n).toNat)):=by
 have l1:=L_le (n:=1) (k:=1) (by decide)
 exact impl_ob hP hAmb Tryz.func166 (by kernel_rfl) (.lit<|.call (N 1)<|.lit<|.call (N (1*2^(n).toNat))<|.lit<|.ret)
  (cast_ob (aI True.intro (aI (r01_Of 1 oA) (aI (r01_Shl 1 n oA oA) (have f1:=L_shl 1 (n).toNat;(vsub_refl (N (1*2^(n).toNat))))))) (by kernel_rfl))
theorem r08_Rat (m e:Int)(c0:L (m).natAbs≤100000)(c1:(-65536:Int)≤e∧e≤65536)(c2:vdb m e=true):Impl Tryz.prog Amb 103 [(yV m e)] (.agg [(.bool (decide ((dv m e).num<0))),(N (((dv m e).num).natAbs)),(N ((dv m e).den))]):=by
 exact impl_ob hP hAmb Tryz.func103 (by kernel_rfl) (.lits 2<|.both (.lits 3<|.call (zV (m*2^(e).toNat))<|.lit<|.call (N 1)<|.lits 3<|.ret) (.lits 3<|.yes<|.lit<|.call (N (1*2^(((0:Int)-e)).toNat))<|.lits 3<|.ret))
  (cast_ob (aI True.intro (aI (fun (h1:(iGe e 0)=true)=>have _gh1:=iGe_t h1;aI (r05_Shl m e oA oA) (have f2:=L_abs_shl m (e).toNat;aI (r01_Of 1 oA) ((by rw[(dv_pos_e (show 0≤e by omega)).1,(dv_pos_e (m:=m) (show 0≤e by omega)).2];exact vsub_refl _:vsub (.agg [(.bool (decide ((m*2^(e).toNat)<0))),(N ((m*2^(e).toNat).natAbs)),(N 1)]) (.agg [(.bool (decide ((dv m e).num<0))),(N (((dv m e).num).natAbs)),(N ((dv m e).den))]))))) (fun (h3:(iGe e 0)=false)=>have _gh3:=iGe_f h3;aI (fits_i64 oA:(fits .i64 ((0:Int)-e))=true) (aI (r08_one ((0:Int)-e) oA) (have f4:=L_shl 1 (((0:Int)-e)).toNat;(by rw[(dv_neg_e c2 (show e<0 by omega)).1,(dv_neg_e c2 (show e<0 by omega)).2,show (0-e)=-e by omega,Nat.one_mul];exact vsub_refl _:vsub (.agg [(.bool (decide (m<0))),(N m.natAbs),(N (1*2^(((0:Int)-e)).toNat))]) (.agg [(.bool (decide ((dv m e).num<0))),(N (((dv m e).num).natAbs)),(N ((dv m e).den))]))))))) (by kernel_rfl))
end Go.Proofs.YtkkbddkpggjgpaaGreatDoor



namespace Go.Proofs.YtkkbddkpggjgpaaGreatDoor
theorem cmpD_neg {m e n f:Int}:cmpD n f m e<0↔dv n f<dv m e:=by
 rw[cmpD_dv]
 rcases cmpQ_range (dv n f) (dv m e) with ⟨h,k⟩ | ⟨h,k⟩ | ⟨h,k⟩
 ·rw[h];exact⟨fun _=>k,fun _=>by omega⟩
 ·rw[h];exact⟨fun q=>by omega,fun q=>absurd (Rat.lt_iff_le_and_ne.1 q).1 (Rat.not_le.2 k)⟩
 ·rw[h,k];exact⟨fun q=>by omega,fun q=>absurd q Rat.lt_irrefl⟩
theorem cmpD_pos {m e n f:Int}:0<cmpD n f m e↔dv m e<dv n f:=by
 rw[cmpD_swap,← cmpD_neg];omega
theorem impl_eq {P:Program}{C:World→Prop}{f:FuncId}{ds:List V}{r r':V}(h:r=r')(k:Impl P C f ds r):Impl P C f ds r':=h ▸ k
end Go.Proofs.YtkkbddkpggjgpaaGreatDoor



namespace Go.Proofs.YtkkbddkpggjgpaaGreatDoor
open Go.RowKit
set_option maxRecDepth 100000
theorem mill_Mod (v n:Int)(c0:(0:Int)<n∧n≤1000000000)(c1:(-9223372036854775808:Int)≤v∧v≤9223372036854775807):Impl Tryz.prog Amb 14 [(.int .i64 v),(.int .i64 n)] (.int .i64 (v%n)):=by
 have r0:=wRem_abs (v:=v) (n:=n) oO
 exact impl_ob hP hAmb Tryz.func14 (by kernel_rfl) (.yes<|.lit<|.both (.lit<|.yes<|.lit<|.ret) (.lit<|.ret))
  (cast_ob (aI True.intro (aI (iNe_mk oA:(iNe n 0)=true) (aI (fun (h1:(iLt (wRem v n) 0)=true)=>have _gh1:=iLt_t h1;aI (fits_i64 oA:(fits .i64 ((wRem v n)+n))=true) ((vsub_of (congrArg (V.int .i64) (mod_neg oO oO)):vsub (.int .i64 ((wRem v n)+n)) (.int .i64 (v%n))))) (fun (h2:(iLt (wRem v n) 0)=false)=>have _gh2:=iLt_f h2;(vsub_of (congrArg (V.int .i64) (mod_pos oO oO)):vsub (.int .i64 (wRem v n)) (.int .i64 (v%n))))))) (by kernel_rfl))
theorem mill_Int (b:Bool)(l:List Nat)(n:Int)(c0:Dig l)(c1:l.length≤9223372036854775807)(c2:(0:Int)≤n∧n≤1000):Impl Tryz.prog Amb 66 [(.agg [(.bool b),(.sl 1 (U l))]),(.int .i64 n)] (.tup [(zV (rawI b l n)),(.bool (decide ((l.length:Int)≤n)))]):=by
 have e0:=U_len l
 exact impl_ob hP hAmb Tryz.func66 (by kernel_rfl) (.lits 2<|.both (.lits 3<|.ret) (.lits 3<|.call (zV (sgn b (val l)))<|.lits 2<|.ret))
  (cast_ob (aI True.intro (aI (fun (h1:(iGt ((U l).length:Int) n)=true)=>have _gh1:=iGt_t h1;(raw_ret1 oO:vsub (.tup [(.agg [(.bool false),.nil]),(.bool false)]) (.tup [(zV (rawI b l n)),(.bool (decide ((l.length:Int)≤n)))]))) (fun (h2:(iGt ((U l).length:Int) n)=false)=>have _gh2:=iGt_f h2;aI (r05_NatC b (U l) l rfl c0 oO) (have f4:=L_val ‹Dig l›;have f3:=L_sgn b (val l);(raw_ret2 oO:vsub (.tup [(zV (sgn b (val l))),(.bool true)]) (.tup [(zV (rawI b l n)),(.bool (decide ((l.length:Int)≤n)))])))))) (by kernel_rfl))
theorem mill_Dyadic (b:Bool)(l:List Nat)(e n k:Int)(c0:Dig l)(c1:l.length≤9223372036854775807)(c2:(-9223372036854775808:Int)≤e∧e≤9223372036854775807)(c3:(0:Int)≤n∧n≤800)(c4:(0:Int)≤k∧k≤20000):Impl Tryz.prog Amb 18 [(.agg [(.bool b),(.sl 1 (U l)),(.int .i64 e)]),(.int .i64 n),(.int .i64 k)] (.tup [(yV (mkM (rawI b l n) (e%(2*k+1)-k)) (mkX (rawI b l n) (e%(2*k+1)-k))),(.bool (decide ((l.length:Int)≤n)))]):=by
 have ej:=Int.emod_nonneg e (show (2*k+1:Int)≠0 by omega)
 have ek:=Int.emod_lt_of_pos e (show (0:Int)<2*k+1 by omega)
 exact impl_ob hP hAmb Tryz.func18 (by kernel_rfl) (.lits 2<|.call (.tup [(zV (rawI b l n)),(.bool (decide ((l.length:Int)≤n)))])<|.lits 2<|.both (.lits 3<|.ret) (.lits 3<|.yes<|.lit<|.yes<|.lit<|.call (.int .i64 (e%(((2:Int)*k)+1)))<|.lit<|.yes<|.lit<|.call (mkT (rawI b l n) ((e%(((2:Int)*k)+1))-k))<|.lits 4<|.ret))
  (cast_ob (aI True.intro (aI (mill_Int b l n oA oA oA) (have f6:=(rawI_L (b:=b) ‹Dig l› (show (0:Int)≤n by first | omega | (simp<;>omega)));aI (fun (h1:(!(decide ((l.length:Int)≤n)))=true)=>have _gh1:=of_decide_eq_false (notb_t h1);(rawd_ret1 oO:vsub (.tup [(.agg [(.bool false),.nil,(.int .i64 0)]),(.bool false)]) (.tup [(yV (mkM (rawI b l n) (e%(2*k+1)-k)) (mkX (rawI b l n) (e%(2*k+1)-k))),(.bool (decide ((l.length:Int)≤n)))]))) (fun (h2:(!(decide ((l.length:Int)≤n)))=false)=>have _gh2:=of_decide_eq_true (notb_f h2);aI (fits_i64 oA:(fits .i64 ((2:Int)*k))=true) (aI (fits_i64 oA:(fits .i64 (((2:Int)*k)+1))=true) (aI (mill_Mod e (((2:Int)*k)+1) oA oA) (have f5:=Int.emod_lt_of_pos e (show (0:Int)<(((2:Int)*k)+1) by first | omega | (simp<;>omega));have f4:=Int.emod_nonneg e (show ((((2:Int)*k)+1):Int)≠0 by first | omega | (simp<;>omega));aI (fits_i64 oA:(fits .i64 ((e%(((2:Int)*k)+1))-k))=true) (aI (r08_Make (rawI b l n) ((e%(((2:Int)*k)+1))-k) oA oA) (have f3:=mk_facts (rawI b l n) ((e%(((2:Int)*k)+1))-k);(vsub_tup2 (vsub_refl _) (vsub_of (congrArg V.bool (rawd_ok (mk_fine2 oO oO) oO))):vsub (.tup [(yV (mkM (rawI b l n) ((e%(((2:Int)*k)+1))-k)) (mkX (rawI b l n) ((e%(((2:Int)*k)+1))-k))),(.bool (iEq (mkE (rawI b l n) ((e%(((2:Int)*k)+1))-k)) 0))]) (.tup [(yV (mkM (rawI b l n) (e%(2*k+1)-k)) (mkX (rawI b l n) (e%(2*k+1)-k))),(.bool (decide ((l.length:Int)≤n)))]))))))))))) (by kernel_rfl))
theorem mill_Interval (b:Bool)(l:List Nat)(e:Int)(c:Bool)(r:List Nat)(f n k:Int)(c0:Dig l)(c1:l.length≤9223372036854775807)(c2:Dig r)(c3:r.length≤9223372036854775807)(c4:(-9223372036854775808:Int)≤e∧e≤9223372036854775807)(c5:(-9223372036854775808:Int)≤f∧f≤9223372036854775807)(c6:(0:Int)≤n∧n≤800)(c7:(0:Int)≤k∧k≤20000):Impl Tryz.prog Amb 12 [(.agg [(.bool b),(.sl 1 (U l)),(.int .i64 e),(.bool c),(.sl 1 (U r)),(.int .i64 f)]),(.int .i64 n),(.int .i64 k)] (.tup [(wV (swM (mkM (rawI b l n) (e%(2*k+1)-k)) (mkX (rawI b l n) (e%(2*k+1)-k)) (mkM (rawI c r n) (f%(2*k+1)-k)) (mkX (rawI c r n) (f%(2*k+1)-k))) (swX (mkM (rawI b l n) (e%(2*k+1)-k)) (mkX (rawI b l n) (e%(2*k+1)-k)) (mkM (rawI c r n) (f%(2*k+1)-k)) (mkX (rawI c r n) (f%(2*k+1)-k))) (swN (mkM (rawI b l n) (e%(2*k+1)-k)) (mkX (rawI b l n) (e%(2*k+1)-k)) (mkM (rawI c r n) (f%(2*k+1)-k)) (mkX (rawI c r n) (f%(2*k+1)-k))) (swF (mkM (rawI b l n) (e%(2*k+1)-k)) (mkX (rawI b l n) (e%(2*k+1)-k)) (mkM (rawI c r n) (f%(2*k+1)-k)) (mkX (rawI c r n) (f%(2*k+1)-k)))),(.bool (decide ((l.length:Int)≤n∧(r.length:Int)≤n)))]):=by
 exact impl_ob hP hAmb Tryz.func12 (by kernel_rfl) (.lits 2<|.call (.tup [(yV (mkM (rawI b l n) (e%(2*k+1)-k)) (mkX (rawI b l n) (e%(2*k+1)-k))),(.bool (decide ((l.length:Int)≤n)))])<|.lits 3<|.call (.tup [(yV (mkM (rawI c r n) (f%(2*k+1)-k)) (mkX (rawI c r n) (f%(2*k+1)-k))),(.bool (decide ((r.length:Int)≤n)))])<|.lits 4<|.call (.int .i64 (cmpD (mkM (rawI b l n) (e%(2*k+1)-k)) (mkX (rawI b l n) (e%(2*k+1)-k)) (mkM (rawI c r n) (f%(2*k+1)-k)) (mkX (rawI c r n) (f%(2*k+1)-k))))<|.lit<|.both (.lits 7<|.both (.lits 3<|.ret) (.lits 3<|.ret)) (.lits 3<|.both (.lits 3<|.ret) (.lits 3<|.ret)))
  (cast_ob (aI True.intro (aI (mill_Dyadic b l e n k oA oA oA oA oA) (have f11:=(rawI_L (b:=b) ‹Dig l› (show (0:Int)≤n by first | omega | (simp<;>omega)));have f10:=mk_facts (rawI b l n) (e%(2*k+1)-k);aI (mill_Dyadic c r f n k oA oA oA oA oA) (have f9:=(rawI_L (b:=c) ‹Dig r› (show (0:Int)≤n by first | omega | (simp<;>omega)));have f8:=mk_facts (rawI c r n) (f%(2*k+1)-k);aI (r08_Cmp (mkM (rawI b l n) (e%(2*k+1)-k)) (mkX (rawI b l n) (e%(2*k+1)-k)) (mkM (rawI c r n) (f%(2*k+1)-k)) (mkX (rawI c r n) (f%(2*k+1)-k)) oA oA oA oA) (have f7:=cmpD_range (mkM (rawI b l n) (e%(2*k+1)-k)) (mkX (rawI b l n) (e%(2*k+1)-k)) (mkM (rawI c r n) (f%(2*k+1)-k)) (mkX (rawI c r n) (f%(2*k+1)-k));aI (fun (h1:(iGt (cmpD (mkM (rawI b l n) (e%(2*k+1)-k)) (mkX (rawI b l n) (e%(2*k+1)-k)) (mkM (rawI c r n) (f%(2*k+1)-k)) (mkX (rawI c r n) (f%(2*k+1)-k))) 0)=true)=>have _gh1:=iGt_t h1;aI (fun (h2:(decide ((l.length:Int)≤n))=true)=>have _gh2:=of_decide_eq_true h2;(W_of (sw_yes oO) (decide_eq_decide.2 oO):vsub (.tup [(wV (mkM (rawI c r n) (f%(2*k+1)-k)) (mkX (rawI c r n) (f%(2*k+1)-k)) (mkM (rawI b l n) (e%(2*k+1)-k)) (mkX (rawI b l n) (e%(2*k+1)-k))),(.bool (decide ((r.length:Int)≤n)))]) (.tup [(wV (swM (mkM (rawI b l n) (e%(2*k+1)-k)) (mkX (rawI b l n) (e%(2*k+1)-k)) (mkM (rawI c r n) (f%(2*k+1)-k)) (mkX (rawI c r n) (f%(2*k+1)-k))) (swX (mkM (rawI b l n) (e%(2*k+1)-k)) (mkX (rawI b l n) (e%(2*k+1)-k)) (mkM (rawI c r n) (f%(2*k+1)-k)) (mkX (rawI c r n) (f%(2*k+1)-k))) (swN (mkM (rawI b l n) (e%(2*k+1)-k)) (mkX (rawI b l n) (e%(2*k+1)-k)) (mkM (rawI c r n) (f%(2*k+1)-k)) (mkX (rawI c r n) (f%(2*k+1)-k))) (swF (mkM (rawI b l n) (e%(2*k+1)-k)) (mkX (rawI b l n) (e%(2*k+1)-k)) (mkM (rawI c r n) (f%(2*k+1)-k)) (mkX (rawI c r n) (f%(2*k+1)-k)))),(.bool (decide ((l.length:Int)≤n∧(r.length:Int)≤n)))]))) (fun (h3:(decide ((l.length:Int)≤n))=false)=>have _gh3:=of_decide_eq_false h3;(W_of (sw_yes oO) (decide_eq_false oO).symm:vsub (.tup [(wV (mkM (rawI c r n) (f%(2*k+1)-k)) (mkX (rawI c r n) (f%(2*k+1)-k)) (mkM (rawI b l n) (e%(2*k+1)-k)) (mkX (rawI b l n) (e%(2*k+1)-k))),(.bool false)]) (.tup [(wV (swM (mkM (rawI b l n) (e%(2*k+1)-k)) (mkX (rawI b l n) (e%(2*k+1)-k)) (mkM (rawI c r n) (f%(2*k+1)-k)) (mkX (rawI c r n) (f%(2*k+1)-k))) (swX (mkM (rawI b l n) (e%(2*k+1)-k)) (mkX (rawI b l n) (e%(2*k+1)-k)) (mkM (rawI c r n) (f%(2*k+1)-k)) (mkX (rawI c r n) (f%(2*k+1)-k))) (swN (mkM (rawI b l n) (e%(2*k+1)-k)) (mkX (rawI b l n) (e%(2*k+1)-k)) (mkM (rawI c r n) (f%(2*k+1)-k)) (mkX (rawI c r n) (f%(2*k+1)-k))) (swF (mkM (rawI b l n) (e%(2*k+1)-k)) (mkX (rawI b l n) (e%(2*k+1)-k)) (mkM (rawI c r n) (f%(2*k+1)-k)) (mkX (rawI c r n) (f%(2*k+1)-k)))),(.bool (decide ((l.length:Int)≤n∧(r.length:Int)≤n)))])))) (fun (h4:(iGt (cmpD (mkM (rawI b l n) (e%(2*k+1)-k)) (mkX (rawI b l n) (e%(2*k+1)-k)) (mkM (rawI c r n) (f%(2*k+1)-k)) (mkX (rawI c r n) (f%(2*k+1)-k))) 0)=false)=>have _gh4:=iGt_f h4;aI (fun (h5:(decide ((l.length:Int)≤n))=true)=>have _gh5:=of_decide_eq_true h5;(W_of (sw_no oO) (decide_eq_decide.2 oO):vsub (.tup [(wV (mkM (rawI b l n) (e%(2*k+1)-k)) (mkX (rawI b l n) (e%(2*k+1)-k)) (mkM (rawI c r n) (f%(2*k+1)-k)) (mkX (rawI c r n) (f%(2*k+1)-k))),(.bool (decide ((r.length:Int)≤n)))]) (.tup [(wV (swM (mkM (rawI b l n) (e%(2*k+1)-k)) (mkX (rawI b l n) (e%(2*k+1)-k)) (mkM (rawI c r n) (f%(2*k+1)-k)) (mkX (rawI c r n) (f%(2*k+1)-k))) (swX (mkM (rawI b l n) (e%(2*k+1)-k)) (mkX (rawI b l n) (e%(2*k+1)-k)) (mkM (rawI c r n) (f%(2*k+1)-k)) (mkX (rawI c r n) (f%(2*k+1)-k))) (swN (mkM (rawI b l n) (e%(2*k+1)-k)) (mkX (rawI b l n) (e%(2*k+1)-k)) (mkM (rawI c r n) (f%(2*k+1)-k)) (mkX (rawI c r n) (f%(2*k+1)-k))) (swF (mkM (rawI b l n) (e%(2*k+1)-k)) (mkX (rawI b l n) (e%(2*k+1)-k)) (mkM (rawI c r n) (f%(2*k+1)-k)) (mkX (rawI c r n) (f%(2*k+1)-k)))),(.bool (decide ((l.length:Int)≤n∧(r.length:Int)≤n)))]))) (fun (h6:(decide ((l.length:Int)≤n))=false)=>have _gh6:=of_decide_eq_false h6;(W_of (sw_no oO) (decide_eq_false oO).symm:vsub (.tup [(wV (mkM (rawI b l n) (e%(2*k+1)-k)) (mkX (rawI b l n) (e%(2*k+1)-k)) (mkM (rawI c r n) (f%(2*k+1)-k)) (mkX (rawI c r n) (f%(2*k+1)-k))),(.bool false)]) (.tup [(wV (swM (mkM (rawI b l n) (e%(2*k+1)-k)) (mkX (rawI b l n) (e%(2*k+1)-k)) (mkM (rawI c r n) (f%(2*k+1)-k)) (mkX (rawI c r n) (f%(2*k+1)-k))) (swX (mkM (rawI b l n) (e%(2*k+1)-k)) (mkX (rawI b l n) (e%(2*k+1)-k)) (mkM (rawI c r n) (f%(2*k+1)-k)) (mkX (rawI c r n) (f%(2*k+1)-k))) (swN (mkM (rawI b l n) (e%(2*k+1)-k)) (mkX (rawI b l n) (e%(2*k+1)-k)) (mkM (rawI c r n) (f%(2*k+1)-k)) (mkX (rawI c r n) (f%(2*k+1)-k))) (swF (mkM (rawI b l n) (e%(2*k+1)-k)) (mkX (rawI b l n) (e%(2*k+1)-k)) (mkM (rawI c r n) (f%(2*k+1)-k)) (mkX (rawI c r n) (f%(2*k+1)-k)))),(.bool (decide ((l.length:Int)≤n∧(r.length:Int)≤n)))]))))))))) (by kernel_rfl))
end Go.Proofs.YtkkbddkpggjgpaaGreatDoor

namespace Go.Proofs.YtkkbddkpggjgpaaGreatDoor
theorem mkX_b {m e:Int}(hE:mkE m e=0):(m=0∧mkX m e=0)∨(m≠0∧e≤mkX m e∧mkX m e≤e+32*(L m.natAbs:Int)):=by
 rcases mk_cases hE with ⟨h,_,k⟩ | ⟨h,_,k,_⟩
 ·exact .inl ⟨h,k⟩
 ·have:=tz_L m.natAbs
  refine .inr ⟨h,?_,?_⟩<;>rw[k]<;>unfold de<;>omega
theorem mk_fit {m e:Int}(h:L m.natAbs≤900)(he:-60000≤e∧e≤30000):mkE m e=0∧L (mkM m e).natAbs≤L m.natAbs∧iMin e 0≤mkX m e∧mkX m e≤iMax e 0+32*(L m.natAbs:Int)∧vdb (mkM m e) (mkX m e)=true∧dv (mkM m e) (mkX m e)=dv m e:=by
 have hE:=mk_fine2 h he
 have h1:=mk_facts m e
 have h2:=iMin_range e 0
 have h3:e≤iMax e 0∧0≤iMax e 0:=by unfold iMax;split<;>omega
 refine⟨hE,h1.1,?_,?_,vdb_mk,dv_mk hE⟩<;>rcases mkX_b hE with ⟨_,k⟩ | ⟨_,k,l⟩<;>omega
theorem of_fit {n:Int}(h:-9223372036854775808≤n∧n≤9223372036854775807):mkE n 0=0∧L (mkM n 0).natAbs≤2∧0≤mkX n 0∧mkX n 0≤64∧vdb (mkM n 0) (mkX n 0)=true∧dv (mkM n 0) (mkX n 0)=(n:Rat):=by
 have hl:=L_i64 h
 have h1:=mk_fit (m:=n) (e:=0) (by omega) (by omega)
 have h2:iMin 0 0=0:=rfl
 have h3:iMax 0 0=0:=rfl
 rw[h2,h3,dv_int] at h1
 exact⟨h1.1,by omega,h1.2.2.1,by omega,h1.2.2.2.2.1,h1.2.2.2.2.2⟩
theorem rawD_fit {b:Bool}{l:List Nat}{n e k:Int}(hl:Dig l)(hn:0≤n∧n≤800)(hk:0≤k∧k≤20000) :
  L (mkM (rawI b l n) (e%(2*k+1)-k)).natAbs≤n∧-k≤mkX (rawI b l n) (e%(2*k+1)-k)∧mkX (rawI b l n) (e%(2*k+1)-k)≤k+32*n ∧
  vdb (mkM (rawI b l n) (e%(2*k+1)-k)) (mkX (rawI b l n) (e%(2*k+1)-k))=true:=by
 have h1:=rawI_L (b:=b) hl hn.1
 have h2:=Int.emod_nonneg e (show (2*k+1:Int)≠0 by omega)
 have h3:=Int.emod_lt_of_pos e (show (0:Int)<2*k+1 by omega)
 generalize hd:e%(2*k+1)-k=d
 have h4:=mk_fit (m:=rawI b l n) (e:=d) (by omega) (by omega)
 have h5:=iMin_range d 0
 have h6:iMax d 0=d∨iMax d 0=0:=by unfold iMax;split<;>simp
 refine⟨by omega,by omega,by omega,h4.2.2.2.2.1⟩
theorem sw_fit {m e n f:Int}(h1:vdb m e=true)(h2:vdb n f=true):vdb (swM m e n f) (swX m e n f)=true∧vdb (swN m e n f) (swF m e n f)=true∧dv (swM m e n f) (swX m e n f)≤dv (swN m e n f) (swF m e n f):=by
 rcases sw_facts m e n f with ⟨h,a,b,c,d,_⟩ | ⟨h,a,b,c,d,_⟩
 ·rw[a,b,c,d]
  exact⟨h2,h1,Rat.le_of_lt (cmpD_pos.1 h)⟩
 ·rw[a,b,c,d]
  refine⟨h1,h2,Rat.not_lt.1 fun q=>?_⟩
  have:=cmpD_pos.2 q
  omega
theorem rawI_fit {b c:Bool}{l r:List Nat}{n e f k:Int}(hl:Dig l)(hr:Dig r)(hn:0≤n∧n≤800)(hk:0≤k∧k≤20000){m1 x1 m2 x2:Int}(e1:m1=mkM (rawI b l n) (e%(2*k+1)-k))(e2:x1=mkX (rawI b l n) (e%(2*k+1)-k))
  (e3:m2=mkM (rawI c r n) (f%(2*k+1)-k)) (e4:x2=mkX (rawI c r n) (f%(2*k+1)-k)) :
  (L (swM m1 x1 m2 x2).natAbs≤n∧-k≤swX m1 x1 m2 x2∧swX m1 x1 m2 x2≤k+32*n)∧(L (swN m1 x1 m2 x2).natAbs≤n∧-k≤swF m1 x1 m2 x2∧swF m1 x1 m2 x2≤k+32*n) ∧
  vdb (swM m1 x1 m2 x2) (swX m1 x1 m2 x2)=true∧vdb (swN m1 x1 m2 x2) (swF m1 x1 m2 x2)=true∧dv (swM m1 x1 m2 x2) (swX m1 x1 m2 x2)≤dv (swN m1 x1 m2 x2) (swF m1 x1 m2 x2):=by
 have h1:=rawD_fit (b:=b) (e:=e) hl hn hk
 have h2:=rawD_fit (b:=c) (e:=f) hr hn hk
 rw[← e1,← e2] at h1
 rw[← e3,← e4] at h2
 obtain⟨a1,a2,a3,a4⟩:=h1
 obtain⟨b1,b2,b3,b4⟩:=h2
 have h3:=sw_fit a4 b4
 rcases sw_facts m1 x1 m2 x2 with ⟨_,a,b,c,d,g,i⟩ | ⟨_,a,b,c,d,g,i⟩
 ·exact⟨⟨by omega,by omega,by omega⟩,⟨by omega,by omega,by omega⟩,h3⟩
 ·exact⟨⟨by omega,by omega,by omega⟩,⟨by omega,by omega,by omega⟩,h3⟩
theorem cmpQ_le {x y:Rat}:cmpQ x y≤0↔x≤y:=by
 rcases cmpQ_range x y with ⟨q,k⟩ | ⟨q,k⟩ | ⟨q,k⟩
 ·exact⟨fun _=>Rat.le_of_lt k,fun _=>by omega⟩
 ·exact⟨fun h=>by omega,fun h=>absurd h (Rat.not_le.2 k)⟩
 ·exact⟨fun _=>by rw[k];exact Rat.le_refl,fun _=>by omega⟩
end Go.Proofs.YtkkbddkpggjgpaaGreatDoor

namespace Go.Proofs.YtkkbddkpggjgpaaGreatDoor
theorem has_1 {a b:Int}(h:a≤0):iLe b 0=decide (a≤0∧b≤0):=by unfold iLe;by_cases q:b≤0<;>simp [q,h]
end Go.Proofs.YtkkbddkpggjgpaaGreatDoor

namespace Go.Proofs.YtkkbddkpggjgpaaGreatDoor
theorem oM {p:Prop}(h:p:=by first | omega | exact ml_fine (by omega) (by omega) (by omega) (by omega) | exact ad_fine (by omega) (by omega) (by omega) (by omega) | exact (en_vdb _ _ _).1 | exact (en_vdb _ _ _).2):p:=h
theorem oD {p:Prop}(h:p:=by first | omega | exact ml_fine (by omega) (by omega) (by omega) (by omega) | exact ad_fine (by omega) (by omega) (by omega) (by omega) | exact (en_vdb _ _ _).1 | exact (en_vdb _ _ _).2 | decide):p:=h
theorem oN {p:Prop}(h:p:=by first | omega | exact ml_fine (by omega) (by omega) (by omega) (by omega) | exact ad_fine (by omega) (by omega) (by omega) (by omega) | exact (en_vdb _ _ _).1 | exact (en_vdb _ _ _).2 | assumption):p:=h
theorem oN2 {p:Prop}(h:p:=by first | omega | exact ml_fine (by omega) (by omega) (by omega) (by omega) | exact ad_fine (by omega) (by omega) (by omega) (by omega) | exact (en_vdb _ _ _).1 | exact (en_vdb _ _ _).2 | assumption | exact ad_fine (by omega) (by omega) (by omega) (by omega)):p:=h
theorem oP {p:Prop}(h:p:=by first | assumption | omega | exact o1.2.2.2.2.1):p:=h
theorem oW {p:Prop}(h:p:=by first | assumption | exact pw_or (by omega) | (simp;done) | omega):p:=h
theorem oS {p:Prop}(h:p:=by first | omega | assumption):p:=h
theorem oR {p:Prop}(h:p:=by first | omega | assumption | exact Rat.le_refl):p:=h
theorem oT {p:Prop}(h:p:=by first | assumption | omega | exact Rat.le_refl | exact of0.2.2.2.2.1):p:=h
theorem oU {p:Prop}(h:p:=by first | assumption | omega):p:=h
end Go.Proofs.YtkkbddkpggjgpaaGreatDoor

namespace Go.Proofs.YtkkbddkpggjgpaaGreatDoor
def rt:Nat→Nat
 | 0=>0
 | n+1=>if (rt n+1)*(rt n+1)≤n+1 then rt n+1 else rt n
theorem sq_succ (x:Nat):(x+1)*(x+1)=x*x+2*x+1:=by rw[Nat.mul_add,Nat.add_mul];omega
theorem rt_spec:∀ n,rt n*rt n≤n∧n<(rt n+1)*(rt n+1)
 | 0=>by simp [rt]
 | n+1=>by
  have h:=rt_spec n
  unfold rt
  have e:=sq_succ (rt n+1)
  split
  ·exact⟨by assumption,by omega⟩
  ·exact⟨by omega,by omega⟩
theorem sq_lt {r s:Nat}(h:r*r<s*s):r<s:=by
 refine Decidable.byContradiction fun q=>?_
 have:=Nat.mul_le_mul (show s≤r by omega) (show s≤r by omega)
 omega
theorem rt_eq {r n:Nat}(h1:r*r≤n)(h2:n<(r+1)*(r+1)):r=rt n:=by
 have h:=rt_spec n
 have a:=sq_lt (Nat.lt_of_le_of_lt h1 h.2)
 have b:=sq_lt (Nat.lt_of_le_of_lt h.1 h2)
 omega
theorem rt_zero:rt 0=0:=rfl
theorem rt_le (n:Nat):rt n≤n:=by
 have h:=(rt_spec n).1
 rcases Nat.eq_zero_or_pos (rt n) with e | e
 ·omega
 ·have:=Nat.mul_le_mul_right (rt n) e;omega
theorem rt_L (n:Nat):L (rt n)≤L n:=L_mono (rt_le n)
theorem four_mul_le (x z:Nat):4*(x*z)≤(x+z)*(x+z):=by
 have e:(x+z)*(x+z)=x*x+2*(x*z)+z*z:=by rw[Nat.mul_add,Nat.add_mul,Nat.add_mul,Nat.mul_comm z x];omega
 have:2*(x*z)≤x*x+z*z:=by
  rcases Nat.le_total x z with h | h
  ·obtain⟨d,rfl⟩:=Nat.le.dest h
   have e1:(x+d)*(x+d)=x*x+2*(x*d)+d*d:=by rw[Nat.mul_add,Nat.add_mul,Nat.add_mul,Nat.mul_comm d x];omega
   have e2:x*(x+d)=x*x+x*d:=Nat.mul_add x x d
   omega
  ·obtain⟨d,rfl⟩:=Nat.le.dest h
   have e1:(z+d)*(z+d)=z*z+2*(z*d)+d*d:=by rw[Nat.mul_add,Nat.add_mul,Nat.add_mul,Nat.mul_comm d z];omega
   have e2:(z+d)*z=z*z+z*d:=by rw[Nat.add_mul,Nat.mul_comm d z]
   omega
 omega
theorem nw_up {a x y:Nat}(hx:0<x)(hy:y=(x+a / x) / 2):a<(y+1)*(y+1):=by
 have h1:a<x*(a / x+1):=by
  have:=Nat.div_add_mod a x
  have:=Nat.mod_lt a hx
  rw[Nat.mul_add];omega
 have h2:=four_mul_le x (a / x+1)
 have h3:x+(a / x+1)≤2*(y+1):=by omega
 have h4:=Nat.mul_le_mul h3 h3
 have h5:2*(y+1)*(2*(y+1))=4*((y+1)*(y+1)):=by rw[Nat.mul_mul_mul_comm]
 omega
theorem nw_pos {a x y:Nat}(ha:0<a)(hx:0<x)(hy:y=(x+a / x) / 2):0<y:=by
 have:=nw_up hx hy
 rcases Nat.eq_zero_or_pos y with e | e
 ·subst e
  have:x=1∨2≤x:=by omega
  rcases this with rfl | h
  ·rw[Nat.div_one] at hy;omega
  ·omega
 ·exact e
theorem nw_end {a x y:Nat}(hx:0<x)(h:a<(x+1)*(x+1))(hy:y=(x+a / x) / 2)(hle:x≤y):x=rt a:=by
 refine rt_eq ?_ h
 have h1:x≤a / x:=by omega
 exact Nat.le_trans (Nat.mul_le_mul_left x h1) (by have:=Nat.div_mul_le_self a x;rw[Nat.mul_comm];exact this)
theorem nw_init {a:Nat}{s:Nat}(hs:nbits a+1≤2*s+1):a<(1*2^s+1)*(1*2^s+1):=by
 have h1:=nbits_lt a
 have h2:2^nbits a≤2^(s+s):=Nat.pow_le_pow_right (by omega) (by omega)
 rw[Nat.pow_add] at h2
 rw[Nat.one_mul,sq_succ]
 omega
theorem L_pow (a:Nat):∀ k,L (a^k)≤k*L a+1
 | 0=>by rw[Nat.pow_zero];have:=L_le (n:=1) (k:=1) (by decide);omega
 | k+1=>by
  have h:=L_pow a k
  have h2:=L_mul (a^k) a
  rw[Nat.pow_succ,Nat.succ_mul];omega
theorem L_pow64 {a:Nat}{k:Nat}(h:k≤64):L (a^k)≤64*L a+1:=Nat.le_trans (L_pow a k) (by have:=Nat.mul_le_mul_right (L a) h;omega)
theorem bit_64:∀ x:Fin 65,wAnd .i64 (x.val:Int) 1=((x.val%2:Nat):Int):=by decide
theorem bit_n {n i:Int}(hn:0≤n∧n≤64)(hi:0≤i∧i≤6):wAnd .i64 (Int.fdiv n (2^(min i.toNat (IntKind.bits .i64)))) 1=((n.toNat / 2^i.toNat%2:Nat):Int):=by
 have e1:min i.toNat (IntKind.bits .i64)=i.toNat:=by
  rw[show IntKind.bits .i64=64 from rfl];omega
 have hp:0<2^i.toNat:=Nat.pow_pos (by omega)
 have e2:Int.fdiv n (2^i.toNat)=((n.toNat / 2^i.toNat:Nat):Int):=by
  rw[Int.fdiv_eq_ediv_of_nonneg _ (by rw[pow_cast];omega)]
  rw[Int.natCast_ediv,pow_cast,Int.toNat_of_nonneg hn.1]
 have h64:n.toNat / 2^i.toNat<65:=Nat.lt_of_le_of_lt (Nat.div_le_self _ _) (by omega)
 rw[e1,e2]
 exact bit_64 ⟨_,h64⟩
theorem pw_step {a o:Nat}{n i:Int}(h:o=a^(n.toNat / 2^(i+1).toNat))(hi:0≤i∧i≤6):a^(n.toNat / 2^(i-1+1).toNat)=o*o*a^(n.toNat / 2^i.toNat%2):=by
 rw[show (i-1+1).toNat=i.toNat by omega,h,← Nat.pow_add,← Nat.pow_add,show (i+1).toNat=i.toNat+1 by omega,Nat.pow_succ,← Nat.div_div_eq_div_mul]
 congr 1
 omega
theorem pw_y {a o:Nat}{n i:Int}(h:o=a^(n.toNat / 2^(i+1).toNat))(hn:0≤n∧n≤64)(hi:0≤i∧i≤6)(hb:wAnd .i64 (Int.fdiv n (2^(min i.toNat (IntKind.bits .i64)))) 1=1) :
  o*o*a=a^(n.toNat / 2^(i-1+1).toNat):=by
 rw[bit_n hn hi] at hb
 rw[pw_step h hi,show n.toNat / 2^i.toNat%2=1 by omega,Nat.pow_one]
theorem pw_n {a o:Nat}{n i:Int}(h:o=a^(n.toNat / 2^(i+1).toNat))(hn:0≤n∧n≤64)(hi:0≤i∧i≤6)(hb:wAnd .i64 (Int.fdiv n (2^(min i.toNat (IntKind.bits .i64)))) 1≠1) :
  o*o=a^(n.toNat / 2^(i-1+1).toNat):=by
 rw[bit_n hn hi] at hb
 rw[pw_step h hi,show n.toNat / 2^i.toNat%2=0 by omega,Nat.pow_zero,Nat.mul_one]
theorem sq_one {o:Nat}(h:L o=1)(h1:gi (limbs o) 0=1):o=o*o:=by
 have e:o=1:=by have:=gi_one h;omega
 rw[e]
theorem sq_one' {o a:Nat}(h:L o=1)(h1:gi (limbs o) 0=1):o*a=o*o*a:=by
 rw[← sq_one h h1]
def PsInv (a:Nat)(m:Int)(i c:Int)(l:List Nat):Prop :=
 0≤i∧i≤L a∧0≤c∧c<4294967296∧l.length=L a+1∧Dig l∧val (l.take i.toNat)+4294967296^i.toNat*c.toNat=val ((limbs a).take i.toNat)*m.toNat
theorem ps_init (a:Nat)(m:Int):PsInv a m 0 0 (List.replicate (L a+1) 0):=⟨by omega,by omega,by omega,by omega,by simp,dig_rep _,by simp [val]⟩
theorem ps_bound {a:Nat}{m i c:Int}{l:List Nat}(h:PsInv a m i c l)(hm:0≤m∧m<4294967296):0≤gi (limbs a) i.toNat*m∧gi (limbs a) i.toNat*m≤18446744065119617025:=by
 have hb:=mul_bound ⟨gi_nonneg (limbs a) i.toNat,gi_lt (dig_limbs a) i.toNat⟩ hm (show (0:Int)≤0∧(0:Int)<4294967296 by omega) (show (0:Int)≤0∧(0:Int)<4294967296 by omega)
 exact⟨hb.1,hb.2.1⟩
theorem ps_next {a:Nat}{m i c s:Int}{l:List Nat}(h:PsInv a m i c l)(hi:i<L a)(hm:0≤m∧m<4294967296)(hs:s=c+gi (limbs a) i.toNat*m) :
  PsInv a m (i+1) (Int.fdiv s (2^32)) (l.set i.toNat (IntKind.wrap .u32 s).toNat):=by
 have hb:=ps_bound h hm
 obtain⟨h0,h1,h2,h3,h4,h5,h6⟩:=h
 rw[fdiv_B,wrap_u32]
 refine⟨by omega,by omega,by omega,by omega,by simpa using h4,dig_set h5 (by omega) _,?_⟩
 rw[show (i+1).toNat=i.toNat+1 by omega,set_val _ _ (by omega),take_succ_val,Nat.pow_succ]
 rw[gi_eq] at hb hs
 generalize (limbs a).getD i.toNat 0=x at *
 generalize 4294967296^i.toNat=p at *
 obtain⟨m,rfl⟩:=Int.eq_ofNat_of_zero_le hm.1
 obtain⟨c,rfl⟩:=Int.eq_ofNat_of_zero_le h2
 have hsN:s=((c+x*m:Nat):Int):=by rw[hs];simp
 subst hsN
 simp only [Int.toNat_natCast] at h6 ⊢
 generalize hS:c+x*m=S at *
 rw[show (((S:Nat):Int)%4294967296).toNat=S%4294967296 by omega,show (((S:Nat):Int) / 4294967296).toNat=S / 4294967296 by omega]
 rw[Nat.mul_assoc p,Nat.add_assoc,← Nat.mul_add,Nat.mod_add_div,← hS,Nat.mul_add,← Nat.add_assoc,h6,Nat.add_mul,Nat.mul_assoc]
theorem ps_end {a:Nat}{m c:Int}{l:List Nat}(h:PsInv a m (L a:Int) c l):Dig (l.set (L a) c.toNat)∧(l.set (L a) c.toNat).length=L a+1∧val (l.set (L a) c.toNat)=a*m.toNat:=by
 obtain⟨h0,h1,h2,h3,h4,h5,h6⟩:=h
 refine⟨dig_set h5 (by omega) _,by simpa using h4,?_⟩
 rw[Int.toNat_natCast,val_lim a (Nat.le_refl _)] at h6
 rw[← h6,← val_all (l.set (L a) c.toNat) (n:=L a+1) (by simp;omega),set_val _ _ (by omega)]
end Go.Proofs.YtkkbddkpggjgpaaGreatDoor




namespace Go.Proofs.YtkkbddkpggjgpaaGreatDoor
theorem fl_R {a T:Int}(hT:0<T):((a / T:Int):Rat)*(T:Rat)≤(a:Rat)∧(a:Rat)<((a / T:Int):Rat)*(T:Rat)+(T:Rat):=by
 have h1:=Int.ediv_mul_le a (show T≠0 by omega)
 have h2:=Int.lt_ediv_add_one_mul_self a hT
 rw[Int.add_mul,Int.one_mul] at h2
 rw[← Rat.intCast_mul,← Rat.intCast_add,Rat.intCast_le_intCast,Rat.intCast_lt_intCast]
 exact⟨h1,h2⟩
theorem ce_R {a T:Int}(hT:0<T):(a:Rat)≤((-(-a / T):Int):Rat)*(T:Rat)∧((-(-a / T):Int):Rat)*(T:Rat)<(a:Rat)+(T:Rat):=by
 have h:=fl_R (a:=-a) hT
 rw[Rat.intCast_neg] at h ⊢
 constructor<;>grind
theorem pf_lo {a c T:Int}{y z:Rat}(hT:0<T)(ha:0≤a)(hc:0≤c)(h1:(a:Rat)≤y*T)(h2:(c:Rat)≤z*T):((a*c / T:Int):Rat)≤y*z*T:=by
 have T0:(0:Rat)<T:=Rat.intCast_pos.2 hT
 have a0:(0:Rat)≤a:=Rat.intCast_nonneg.2 ha
 have c0:(0:Rat)≤c:=Rat.intCast_nonneg.2 hc
 have f:=(fl_R (a:=a*c) hT).1
 rw[Rat.intCast_mul a c] at f
 have m1:=Rat.mul_le_mul_of_nonneg_right h1 c0
 have m2:=Rat.mul_le_mul_of_nonneg_left h2 (Rat.le_trans a0 h1)
 exact Rat.le_of_mul_le_mul_right (c:=(T:Rat)) (by grind) T0
theorem pf_hi {b d T:Int}{y z:Rat}(hT:0<T)(hy:0≤y)(hz:0≤z)(h1:y*T≤(b:Rat))(h2:z*T≤(d:Rat)):y*z*T≤((-(-(b*d) / T):Int):Rat):=by
 have T0:(0:Rat)<T:=Rat.intCast_pos.2 hT
 have y0:(0:Rat)≤y*T:=Rat.mul_nonneg hy (Rat.le_of_lt T0)
 have z0:(0:Rat)≤z*T:=Rat.mul_nonneg hz (Rat.le_of_lt T0)
 have f:=(ce_R (a:=b*d) hT).1
 rw[Rat.intCast_mul b d] at f
 have m1:=Rat.mul_le_mul_of_nonneg_right h1 z0
 have m2:=Rat.mul_le_mul_of_nonneg_left h2 (Rat.le_trans y0 h1)
 exact Rat.le_of_mul_le_mul_right (c:=(T:Rat)) (by grind) T0
theorem df_lo {a n:Int}{y:Rat}(hn:0<n)(h:(a:Rat)≤y):((a / n:Int):Rat)≤y / (n:Rat):=by
 have n0:(0:Rat)<n:=Rat.intCast_pos.2 hn
 have f:=(fl_R (a:=a) hn).1
 have e:=Rat.div_mul_cancel (a:=y) (b:=(n:Rat)) (by grind)
 exact Rat.le_of_mul_le_mul_right (c:=(n:Rat)) (by rw[e];exact Rat.le_trans f h) n0
theorem df_hi {b n:Int}{y:Rat}(hn:0<n)(h:y≤(b:Rat)):y / (n:Rat)≤((-(-b / n):Int):Rat):=by
 have n0:(0:Rat)<n:=Rat.intCast_pos.2 hn
 have f:=(ce_R (a:=b) hn).1
 have e:=Rat.div_mul_cancel (a:=y) (b:=(n:Rat)) (by grind)
 exact Rat.le_of_mul_le_mul_right (c:=(n:Rat)) (by rw[e];exact Rat.le_trans h f) n0
def odn (j:Nat):Int:=2*(j:Int)+1
theorem odn_pos (j:Nat):0<odn j:=by unfold odn;omega
theorem odd_succ (z:Rat)(k:Nat):z^(2*(k+1)+1)=z^(2*k+1)*(z*z):=by
 rw[show 2*(k+1)+1=2*k+1+1+1 by omega,Rat.pow_succ,Rat.pow_succ,Rat.mul_assoc]
theorem div_nn {y:Rat}{j:Nat}(h:0≤y):0≤y / (odn j:Rat)∧y / (odn j:Rat)≤y:=by
 have n0:(1:Rat)≤(odn j:Rat):=by rw[show (1:Rat)=((1:Int):Rat) from rfl,Rat.intCast_le_intCast];unfold odn;omega
 have e:=Rat.div_mul_cancel (a:=y) (b:=(odn j:Rat)) (by grind)
 have h0:0≤y / (odn j:Rat):=by
  rw[Rat.div_def]
  exact Rat.mul_nonneg h (Rat.le_of_lt (Rat.inv_pos.2 (by grind)))
 refine⟨h0,?_⟩
 have m:=Rat.mul_le_mul_of_nonneg_left n0 h0
 grind
theorem least {P:Nat→Prop}[DecidablePred P]:∀ {n:Nat},P n→∃ N,N≤n∧P N∧∀ j,j<N→¬ P j
 | 0,h=>⟨0,Nat.le_refl _,h,fun j hj=>by omega⟩
 | n+1,h=>by
  by_cases q:∃ m,m≤n∧P m
  ·obtain⟨m,hm,pm⟩:=q
   obtain⟨N,hN,pN,hj⟩:=least pm
   exact⟨N,by omega,pN,hj⟩
  ·exact⟨n+1,Nat.le_refl _,h,fun j hj pj=>q ⟨j,by omega,pj⟩⟩
def ptLo (a d:Int):Int:=((a.natAbs / d.toNat:Nat):Int)
def ptHi (b d:Int):Int:=((b.natAbs / d.toNat+(if b.natAbs%d.toNat=0 then 0 else 1):Nat):Int)
theorem ptLo_eq {a d:Int}(ha:0≤a)(hd:0<d):ptLo a d=a / d:=by
 unfold ptLo
 obtain⟨x,rfl⟩:=Int.eq_ofNat_of_zero_le ha
 obtain⟨y,rfl⟩:=Int.eq_ofNat_of_zero_le (show 0≤d by omega)
 simp
theorem ptHi_eq {b d : Int} (hb : 0 ≤ b) (hd : 0 < d) : ptHi b d = -(-b / d) := by
  unfold ptHi
  obtain ⟨x, rfl⟩ := Int.eq_ofNat_of_zero_le hb
  obtain ⟨y, rfl⟩ := Int.eq_ofNat_of_zero_le (show 0 ≤ d by omega)
  simp only [Int.natAbs_natCast, Int.toNat_natCast]
  have e := Nat.div_add_mod x y
  have l := Nat.mod_lt x (show 0 < y by omega)
  have key : ∀ q : Int, q * (y : Int) ≤ -(x : Int) → -(x : Int) < (q + 1) * (y : Int) → -(x : Int) / (y : Int) = q := by
    intro q h1 h2
    have a1 := Int.le_ediv_of_mul_le hd h1
    have a2 := Int.ediv_lt_of_lt_mul hd h2
    omega
  have ei : ((y : Int)) * ((x / y : Nat) : Int) + ((x % y : Nat) : Int) = (x : Int) := by
    have := congrArg (Nat.cast : Nat → Int) e
    push_cast at this ⊢
    exact this
  split
  · rename_i h0
    rw [key (-((x / y : Nat) : Int)) (by rw [h0] at ei; grind) (by rw [h0] at ei; grind)]
    omega
  · rename_i h0
    rw [key (-((x / y : Nat) : Int) - 1) (by have : ((x % y : Nat) : Int) ≤ y := by omega
                                             grind) (by have : (0 : Int) < ((x % y : Nat) : Int) := by omega
                                                        grind)]
    omega
def arP (T q1 q2 x1 x2:Int):Nat→Int × Int
 | 0=>(x1,x2)
 | j+1=>((arP T q1 q2 x1 x2 j).1*q1 / T,-(-((arP T q1 q2 x1 x2 j).2*q2) / T))
def arA (T q1 q2 x1 x2:Int):Nat→Int × Int
 | 0=>(x1,x2)
 | j+1=>((arA T q1 q2 x1 x2 j).1+ptLo (arP T q1 q2 x1 x2 (j+1)).1 (odn (j+1)),(arA T q1 q2 x1 x2 j).2+ptHi (arP T q1 q2 x1 x2 (j+1)).2 (odn (j+1)))
theorem ar_w {T p1 p2 q1 q2 D:Int}(hT:0<T)(h1:0≤p2)(h2:2*p2≤T)(h3:q2-q1≤D+2)(hD:0≤D)(h4:0≤q1)(h5:4*q1≤T)(h6:p2-p1≤D+6):-(-(p2*q2) / T)-p1*q1 / T≤D+6:=by
 have f1:=Int.lt_ediv_add_one_mul_self (p1*q1) hT
 have f2:=Int.lt_ediv_add_one_mul_self (-(p2*q2)) hT
 generalize p1*q1 / T=u at *
 generalize -(p2*q2) / T=v at *
 have m1:=Int.mul_le_mul_of_nonneg_left h3 h1
 have m2:=Int.mul_le_mul_of_nonneg_right h2 (show 0≤D+2 by omega)
 have m3:=Int.mul_le_mul_of_nonneg_right h6 h4
 have m4:=Int.mul_le_mul_of_nonneg_left h5 (show 0≤D+6 by omega)
 have m6:=Int.mul_nonneg hD (show 0≤T by omega)
 refine Decidable.byContradiction fun hn=>?_
 have m5:=Int.mul_le_mul_of_nonneg_right (show D+7≤-v-u by omega) (show 0≤T by omega)
 grind
theorem ar_q {T x1 x2:Int}(hT:0<T)(h1:0≤x1)(h2:x1≤x2)(h3:2*x2≤T) :
  0≤x1*x1 / T∧4*(x1*x1 / T)≤T∧-(-(x2*x2) / T)-x1*x1 / T≤(x2-x1)+2∧0≤-(-(x2*x2) / T)∧4*-(-(x2*x2) / T)≤T+3:=by
 have f0:=Int.ediv_mul_le (x1*x1) (show T≠0 by omega)
 have f1:=Int.lt_ediv_add_one_mul_self (x1*x1) hT
 have f2:=Int.lt_ediv_add_one_mul_self (-(x2*x2)) hT
 have f3:=Int.ediv_mul_le (-(x2*x2)) (show T≠0 by omega)
 have n1:=Int.ediv_nonneg (Int.mul_nonneg h1 h1) (show 0≤T by omega)
 have n2:=Int.mul_nonneg (show 0≤x2 by omega) (show 0≤x2 by omega)
 generalize x1*x1 / T=u at *
 generalize -(x2*x2) / T=v at *
 have s1:=Int.mul_le_mul_of_nonneg_left (show x1≤x2 by omega) h1
 have s2:=Int.mul_le_mul_of_nonneg_right (show x1≤x2 by omega) (show 0≤x2 by omega)
 have s3:=Int.mul_le_mul_of_nonneg_left h3 (show 0≤x2 by omega)
 have s4:=Int.mul_le_mul_of_nonneg_right h3 (show 0≤T by omega)
 refine⟨n1,?_,?_,?_,?_⟩
 ·refine Decidable.byContradiction fun hn=>?_
  have m:=Int.mul_le_mul_of_nonneg_right (show T+1≤4*u by omega) (show 0≤T by omega)
  grind
 ·refine Decidable.byContradiction fun hn=>?_
  have m:=Int.mul_le_mul_of_nonneg_right (show (x2-x1)+3≤-v-u by omega) (show 0≤T by omega)
  have k:=Int.mul_le_mul_of_nonneg_left (show x1+x2≤T by omega) (show 0≤x2-x1 by omega)
  grind
 ·refine Decidable.byContradiction fun hn=>?_
  have m:=Int.mul_le_mul_of_nonneg_right (show 1≤v by omega) (show 0≤T by omega)
  grind
 ·refine Decidable.byContradiction fun hn=>?_
  have m:=Int.mul_le_mul_of_nonneg_right (show T+4≤4*-v by omega) (show 0≤T by omega)
  grind
theorem ar_p {T p2 q2:Int}(hT:0<T)(h1:0≤p2)(h2:2*p2≤T)(h4:0≤q2)(h5:4*q2≤T+3):0≤-(-(p2*q2) / T)∧4*-(-(p2*q2) / T)≤p2+5:=by
 have f2:=Int.lt_ediv_add_one_mul_self (-(p2*q2)) hT
 have f3:=Int.ediv_mul_le (-(p2*q2)) (show T≠0 by omega)
 have n2:=Int.mul_nonneg h1 h4
 generalize -(p2*q2) / T=v at *
 have m1:=Int.mul_le_mul_of_nonneg_left h5 h1
 refine⟨?_,?_⟩
 ·refine Decidable.byContradiction fun hn=>?_
  have m:=Int.mul_le_mul_of_nonneg_right (show 1≤v by omega) (show 0≤T by omega)
  grind
 ·refine Decidable.byContradiction fun hn=>?_
  have m:=Int.mul_le_mul_of_nonneg_right (show p2+6≤4*-v by omega) (show 0≤T by omega)
  grind
structure ArH (T x1 x2:Int):Prop where
 hT:8≤T
 h1:0≤x1
 h2:x1≤x2
 h3:2*x2≤T
def arQ1 (T x1:Int):Int:=x1*x1 / T
def arQ2 (T x2:Int):Int:=-(-(x2*x2) / T)
abbrev aP (T x1 x2:Int)(j:Nat):Int × Int:=arP T (arQ1 T x1) (arQ2 T x2) x1 x2 j
abbrev aA (T x1 x2:Int)(j:Nat):Int × Int:=arA T (arQ1 T x1) (arQ2 T x2) x1 x2 j
theorem aP_facts {T x1 x2:Int}(h:ArH T x1 x2):∀ j,0≤(aP T x1 x2 j).1∧0≤(aP T x1 x2 j).2∧2*(aP T x1 x2 j).2≤T∧(aP T x1 x2 j).2-(aP T x1 x2 j).1≤(x2-x1)+6
 | 0=>⟨h.h1,by have:=h.h1;have:=h.h2;show 0≤x2;omega,h.h3,by show x2-x1≤_;omega⟩
 | j+1=>by
  obtain⟨a1,a2,a3,a4⟩:=aP_facts h j
  have hT:=h.hT
  obtain⟨q1,q2,q3,q4,q5⟩:=ar_q (T:=T) (by omega) h.h1 h.h2 h.h3
  have p:=ar_p (T:=T) (by omega) a2 a3 q4 q5
  have w:=ar_w (T:=T) (D:=x2-x1) (by omega) a2 a3 q3 (by have:=h.h2;omega) q1 q2 a4
  have n:=Int.ediv_nonneg (Int.mul_nonneg a1 q1) (show 0≤T by omega)
  exact⟨n,p.1,by have:=p.2;show 2*(-(-((aP T x1 x2 j).2*-(-(x2*x2) / T)) / T))≤T;omega,w⟩
theorem aP_step {T x1 x2:Int}(h:ArH T x1 x2)(j:Nat):4*(aP T x1 x2 (j+1)).2≤(aP T x1 x2 j).2+5:=by
 obtain⟨a1,a2,a3,a4⟩:=aP_facts h j
 have hT:=h.hT
 obtain⟨q1,q2,q3,q4,q5⟩:=ar_q (T:=T) (by omega) h.h1 h.h2 h.h3
 exact (ar_p (T:=T) (by omega) a2 a3 q4 q5).2
theorem aP_small {t:Nat}{x1 x2:Int}(h:ArH (2^t) x1 x2):∃ N,N≤t∧(aP (2^t) x1 x2 N).2<8∧∀ j,j<N→¬ (aP (2^t) x1 x2 j).2<8:=by
 by_cases q:∃ m,m≤t∧(aP (2^t) x1 x2 m).2<8
 ·obtain⟨m,hm,pm⟩:=q
  obtain⟨N,hN,r⟩:=least (P:=fun m=>(aP (2^t) x1 x2 m).2<8) pm
  exact⟨N,by omega,r⟩
 ·have key:∀ j,j≤t→(aP (2^t) x1 x2 j).2*2^j≤2^t:=by
   intro j
   induction j with
   | zero=>intro _;have:=h.h3;have:=h.h1;have:=h.h2;show x2*1≤_;omega
   | succ j ih =>
    intro hj
    have i:=ih (by omega)
    have s:=aP_step h j
    have b:¬ (aP (2^t) x1 x2 j).2<8:=fun hb=>q ⟨j,by omega,hb⟩
    have m:=Int.mul_le_mul_of_nonneg_right (show 2*(aP (2^t) x1 x2 (j+1)).2≤(aP (2^t) x1 x2 j).2 by omega) (show (0:Int)≤2^j from Int.le_of_lt (two_pos j))
    rw[Int.pow_succ]
    grind
  have k:=key t (Nat.le_refl _)
  have b:¬ (aP (2^t) x1 x2 t).2<8:=fun hb=>q ⟨t,Nat.le_refl _,hb⟩
  have m:=Int.mul_le_mul_of_nonneg_right (show 8≤(aP (2^t) x1 x2 t).2 by omega) (show (0:Int)≤2^t from Int.le_of_lt (two_pos t))
  have:=two_pos t
  omega
theorem aP_enc {T x1 x2:Int}{X:Rat}(h:ArH T x1 x2)(e1:(x1:Rat)≤X*T)(e2:X*T≤(x2:Rat)):∀ j,((aP T x1 x2 j).1:Rat)≤X^(2*j+1)*T∧X^(2*j+1)*T≤((aP T x1 x2 j).2:Rat)
 | 0=>by
  rw[show X^(2*0+1)=X by rw[Rat.pow_succ,Rat.pow_zero,Rat.one_mul]]
  exact⟨e1,e2⟩
 | j+1=>by
  have hT:=h.hT
  have T0:(0:Rat)<T:=Rat.intCast_pos.2 (by omega)
  have X0:0≤X:=by
   have:(0:Rat)*T≤X*T:=by rw[Rat.zero_mul];exact Rat.le_trans (Rat.intCast_nonneg.2 h.h1) e1
   exact Rat.le_of_mul_le_mul_right this T0
  have i:=aP_enc h e1 e2 j
  obtain⟨a1,a2,a3,a4⟩:=aP_facts h j
  obtain⟨q1,q2,q3,q4,q5⟩:=ar_q (T:=T) (by omega) h.h1 h.h2 h.h3
  have s1:=pf_lo (T:=T) (by omega) h.h1 h.h1 e1 e1
  have s2:=pf_hi (T:=T) (by omega) X0 X0 e2 e2
  rw[odd_succ]
  exact⟨pf_lo (by omega) a1 q1 i.1 s1,pf_hi (by omega) (Rat.pow_nonneg X0) (Rat.mul_nonneg X0 X0) i.2 s2⟩
end Go.Proofs.YtkkbddkpggjgpaaGreatDoor

namespace Go.Proofs.YtkkbddkpggjgpaaGreatDoor
theorem dv_sc (x:Int)(t:Nat):dv x (-(t:Int))*((2^t:Int):Rat)=(x:Rat):=by
 have e:((2^t:Int):Rat)=(2:Rat)^(t:Int):=(zp_nat t).symm
 unfold dv
 rw[e,Rat.mul_assoc,Rat.mul_comm ((2:Rat)^(-(t:Int))),zp_cancel,Rat.mul_one]
theorem flr_sc (r:Rat)(t:Nat):((flr r t:Int):Rat)≤r*((2^t:Int):Rat)∧r*((2^t:Int):Rat)<((flr r t:Int):Rat)+1:=by
 have T0:(0:Rat)<((2^t:Int):Rat):=Rat.intCast_pos.2 (two_pos t)
 have a:=Rat.mul_le_mul_of_nonneg_right (flr_le r t) (Rat.le_of_lt T0)
 have b:=Rat.mul_lt_mul_of_pos_right (flr_lt r t) T0
 rw[dv_sc] at a b
 rw[Rat.intCast_add] at b
 exact⟨a,b⟩
theorem cei_sc (r:Rat)(t:Nat):r*((2^t:Int):Rat)≤((cei r t:Int):Rat)∧((cei r t:Int):Rat)<r*((2^t:Int):Rat)+1:=by
 have h:=flr_sc (-r) t
 unfold cei
 rw[Rat.intCast_neg]
 constructor<;>grind
theorem flr_cei1 (r:Rat)(t:Nat):cei r t≤flr r t+1∧flr r t≤cei r t:=by
 have a:=flr_sc r t
 have b:=cei_sc r t
 constructor
 ·refine Decidable.byContradiction fun hn=>?_
  have:((flr r t+2:Int):Rat)≤((cei r t:Int):Rat):=Rat.intCast_le_intCast.2 (by omega)
  rw[Rat.intCast_add,show ((2:Int):Rat)=2 from rfl] at this
  grind
 ·refine Rat.intCast_le_intCast.1 ?_
  grind
structure LnH (T:Int) (M Z:Rat) (d1 d2 xa xb:Int):Prop where
 hT:256≤T
 m1:3≤4*M
 m2:2*M≤3
 xa1:(xa:Rat)≤M*(T:Rat)
 xb1:M*(T:Rat)≤(xb:Rat)
 x2:xb≤xa+1
 d0:0≤d1
 d3:d2≤d1+1
 z0:0≤Z
 z2:2*(Z*(M+1))≤1
 dz1:(d1:Rat)≤Z*(M+1)*(T:Rat)
 dz2:Z*(M+1)*(T:Rat)≤(d2:Rat)
end Go.Proofs.YtkkbddkpggjgpaaGreatDoor

namespace Go.Proofs.YtkkbddkpggjgpaaGreatDoor
structure RrH (v:Nat) (x1 x2:Int):Prop where
 hv:8≤v
 h1:x1.natAbs≤2^(v-1)
 h2:x2.natAbs≤2^(v-1)
end Go.Proofs.YtkkbddkpggjgpaaGreatDoor

namespace Go.Proofs.YtkkbddkpggjgpaaGreatDoor
theorem of_ge {m e s:Int}(h:0≤e+s):m*2^(e+s).toNat=flr (dv m e) s∧m*2^(e+s).toNat=cei (dv m e) s:=by
 have a:flr (dv m e) s=m*2^(e+s).toNat:=by rw[flr_dv,if_pos h]
 have b:flr (dv (-m) e) s=-m*2^(e+s).toNat:=by rw[flr_dv,if_pos h]
 refine⟨a.symm,?_⟩
 unfold cei
 rw[← dv_neg,b,Int.neg_mul,Int.neg_neg]
theorem of_lt {m e s:Int}(h:e+s<0):m / 2^(0-(e+s)).toNat=flr (dv m e) s∧-(-m / 2^(0-(e+s)).toNat)=cei (dv m e) s:=by
 have a:flr (dv m e) s=m / 2^(-(e+s)).toNat:=by rw[flr_dv,if_neg (by omega)]
 have b:flr (dv (-m) e) s=-m / 2^(-(e+s)).toNat:=by rw[flr_dv,if_neg (by omega)]
 rw[show (0:Int)-(e+s)=-(e+s) by omega]
 refine⟨a.symm,?_⟩
 unfold cei
 rw[← dv_neg,b]
theorem half_enc {a b:Int}{X:Rat}{t s n:Nat}(h:t=s+n)(h1:(a:Rat)≤X*((2^t:Int):Rat))(h2:X*((2^t:Int):Rat)≤(b:Rat)) :
  ((a / 2^n:Int):Rat)≤X*((2^s:Int):Rat)∧X*((2^s:Int):Rat)≤((-(-b / 2^n):Int):Rat):=by
 have n0:(0:Rat)<((2^n:Int):Rat):=Rat.intCast_pos.2 (two_pos n)
 have e:((2^t:Int):Rat)=((2^s:Int):Rat)*((2^n:Int):Rat):=by rw[h,Int.pow_add,Rat.intCast_mul]
 rw[e,← Rat.mul_assoc] at h1 h2
 have f:=(fl_R (a:=a) (two_pos n)).1
 have g:=(ce_R (a:=b) (two_pos n)).1
 exact⟨Rat.le_of_mul_le_mul_right (Rat.le_trans f h1) n0,Rat.le_of_mul_le_mul_right (Rat.le_trans h2 g) n0⟩
theorem half_w {a b W:Int}{n:Nat}(h:b-a≤W*2^n):-(-b / 2^n)-a / 2^n≤W+1:=by
 have n0:=two_pos n
 have f1:=Int.lt_ediv_add_one_mul_self a n0
 have f2:=Int.lt_ediv_add_one_mul_self (-b) n0
 generalize a / 2^n=u at *
 generalize -b / 2^n=v at *
 generalize (2:Int)^n=T at *
 refine Decidable.byContradiction fun hn=>?_
 have m:=Int.mul_le_mul_of_nonneg_right (show W+2≤-v-u by omega) (show 0≤T by omega)
 grind
theorem cl_sc {x:Int}{t:Nat}{P:Int}(ht:t≤430):(x*2^(430-t)≤P→(x:Rat)≤dv P (-430)*((2^t:Int):Rat))∧(P≤x*2^(430-t)→dv P (-430)*((2^t:Int):Rat)≤(x:Rat)):=by
 have T0:(0:Rat)<((2^t:Int):Rat):=Rat.intCast_pos.2 (two_pos t)
 have e:dv (x*2^(430-t)) (-430)*((2^t:Int):Rat)=(x:Rat):=by
  rw[dv_shl,show (-430:Int)+((430-t:Nat):Int)=-(t:Int) by omega,dv_sc]
 constructor
 ·intro h
  have a:=Rat.mul_le_mul_of_nonneg_right ((dv_le (c:=-430)).2 h) (Rat.le_of_lt T0)
  rwa [e] at a
 ·intro h
  have a:=Rat.mul_le_mul_of_nonneg_right ((dv_le (c:=-430)).2 h) (Rat.le_of_lt T0)
  rwa [e] at a
def Encl (f:Nat→Rat)(s:Nat)(lo hi:Int):Prop:=∃ N,∀ K,N≤K→(lo:Rat)≤f K*((2^s:Int):Rat)∧f K*((2^s:Int):Rat)≤(hi:Rat)
theorem Encl.half {f:Nat→Rat}{t s n:Nat}{a b:Int}(h:Encl f t a b)(e:t=s+n):Encl f s (a / 2^n) (-(-b / 2^n)):=by
 obtain⟨N,h⟩:=h
 exact⟨N,fun K hK=>half_enc e (h K hK).1 (h K hK).2⟩
theorem Encl.le {f:Nat→Rat}{s:Nat}{a b:Int}(h:Encl f s a b):a≤b:=by
 obtain⟨N,h⟩:=h
 exact Rat.intCast_le_intCast.1 (Rat.le_trans (h N (Nat.le_refl _)).1 (h N (Nat.le_refl _)).2)
theorem cmpI_le (x y:Int):cmpI x y≤0↔x≤y:=by unfold cmpI;split<;>(try split)<;>omega
theorem Sp_of {a b c d:Int}(h1:a=c)(h2:b=d):vsub (.agg [.bool (decide (a<0)),N a.natAbs,.bool (decide (b<0)),N b.natAbs]) (.agg [.bool (decide (c<0)),N c.natAbs,.bool (decide (d<0)),N d.natAbs]):=by
 subst h1;subst h2;exact vsub_refl _
theorem pt_hi1 {b d:Int}(h:((b.natAbs%d.toNat:Nat):Int)≠0):sgn false (b.natAbs / d.toNat+(1:Int).toNat)=ptHi b d:=by
 unfold ptHi
 rw[if_neg (by omega)];rfl
theorem pt_hi2 {b d:Int}(h:((b.natAbs%d.toNat:Nat):Int)=0):sgn false (b.natAbs / d.toNat)=ptHi b d:=by
 unfold ptHi
 rw[if_pos (by omega)];rfl
theorem tiny_8 {b:Int}:iLe (nbits b.natAbs:Int) 3=decide (b.natAbs<8):=by
 unfold iLe
 have h:(nbits b.natAbs:Int)≤3↔b.natAbs<8:=by
  constructor
  ·intro h
   have l:=nbits_lt b.natAbs
   have:=Nat.pow_le_pow_right (n:=2) (by omega) (show nbits b.natAbs≤3 by omega)
   omega
  ·intro h
   have:=nbits_of_lt (x:=b.natAbs) (k:=3) (by omega)
   omega
 exact decide_eq_decide.2 h
end Go.Proofs.YtkkbddkpggjgpaaGreatDoor
