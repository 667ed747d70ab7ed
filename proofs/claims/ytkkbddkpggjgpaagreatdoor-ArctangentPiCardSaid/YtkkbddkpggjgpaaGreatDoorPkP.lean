/-
  Lower layers: what functions of the program compute, and plain facts. Conditions: as the theorems say.
-/
import Derived.BigRegion
import Derived.RegionTactic
import Derived.ChangeAlike
import Derived.WalkKit
import Derived.Test.YtkkbddkpggjgpaaGreatDoorPkO
set_option linter.unusedVariables false
set_option linter.unusedSimpArgs false
namespace Go.Proofs.YtkkbddkpggjgpaaGreatDoor
open Go.RowKit
set_option maxRecDepth 100000
theorem qdm_loop (a b:Nat)(s:Int)(c0:L a≤16777216∧L b≤16777216)(c1:2≤L (b*2^s.toNat))(c2:2147483648≤(limbs (b*2^s.toNat)).getD (L (b*2^s.toNat)-1) 0)(c3:0≤s∧s≤32)(x0:Int × List V × List V × List Nat × List Nat)(hI:qdm_loop_I a b s x0):LoopOk Tryz.prog Amb (loopN Tryz.f200 0) (qdm_loop_mk a b s x0) (fun e st_=>∃ y,qdm_loop_J a b s y∧qdm_loop_ex a b s y=(e,st_)) :=
 loop_ob hP hAmb ⟨[10,11,12,13,14,15],4,[]⟩ (qdm_loop_mk a b s) (qdm_loop_I a b s) (qdm_loop_mu a b s) (qdm_loop_ex a b s) (qdm_loop_J a b s) x0 hI (fun (k,o0,o,lu,lq)=>.lit<|.both (.lit<|.yes<|.lit<|.yes<|.yes<|.yes<|.callM (U (lowL lu ((0+k.toNat)+L (b*2^s.toNat)+1) (Xd lu (0+k.toNat) (L (b*2^s.toNat))%(4294967296^(0+k.toNat)*(b*2^s.toNat))))) (.int .u32 ((kq lu (0+k.toNat) (b*2^s.toNat):Nat):Int))<|.lit<|.yes<|.yes<|.lit<|.yes<|.fin2 ⟨[10,11,12,13,14,15],4,[]⟩) (.fin2 ⟨[10,11,12,13,14],4,[]⟩)) (by
  rintro ⟨k,o0,o,lu,lq⟩ hI
  have hI:(o0=U lu∧o=U lq)∧DvIn (a*2^s.toNat) (b*2^s.toNat) (L (a*2^s.toNat)+1-L (b*2^s.toNat)) k lu lq:=hI
  obtain⟨⟨rfl,rfl⟩,h1⟩:=hI
  have e0:=L_len (b*2^s.toNat)
  have e1:=U_len lu
  have e2:=U_len lq
  have ⟨p0,p1,p2,p3,p4,p5,_⟩:=h1
  have hkn:0≤k→Kn lu (0+k.toNat) (b*2^s.toNat):=fun q=>by rw[Nat.zero_add];exact dv_kn h1 q c1 c2
  have hls:=L_shl a s.toNat
  have hz:0+k.toNat=k.toNat:=Nat.zero_add _
  have hnx:0≤k→DvIn (a*2^s.toNat) (b*2^s.toNat) (L (a*2^s.toNat)+1-L (b*2^s.toNat)) (k-1) (lowL lu (0+k.toNat+L (b*2^s.toNat)+1) (Xd lu (0+k.toNat) (L (b*2^s.toNat))%(4294967296^(0+k.toNat)*(b*2^s.toNat)))) (lq.set k.toNat (kq lu (0+k.toNat) (b*2^s.toNat))):=fun q=>by rw[hz];exact dv_next h1 q c1 c2
  have hx:=fun q=>(hkn q).qlt
  exact cast_ob (aI True.intro (aI (fun (h101:(iGe k 0)=true)=>have _gh101:=iGe_t h101;aI (fits_i64 oO:(fits .i64 (k+((lim (b*2^s.toNat)).length:Int)))=true) (aI (fits_i64 oO:(fits .i64 ((k+((lim (b*2^s.toNat)).length:Int))+1))=true) (aI (and_mk (and_mk (and_mk (iLe_mk oO) (iLe_mk oO)) (iLe_mk oO)) (or_mk2 oO):((((iLe (0:Int) k) && (iLe k ((k+((lim (b*2^s.toNat)).length:Int))+1))) && (iLe ((k+((lim (b*2^s.toNat)).length:Int))+1) ((L (a*2^s.toNat)+1):Int))) && ((iEq k 0) || (iLt k ((L (a*2^s.toNat)+1):Int))))=true) (aI (ok_arg oO:((true && Nat.ble ((0+k.toNat)+(((k+((lim (b*2^s.toNat)).length:Int))+1)-k).toNat) (U lu).length) && (true && true))=true) (aI (quot_digit lu (0+k.toNat) ((((k+((lim (b*2^s.toNat)).length:Int))+1)-k).toNat) (b*2^s.toNat) (hkn oO) oO oO) (aI (inB_mk oO:(inB k ((((L (a*2^s.toNat)+1):Int)-((lim (b*2^s.toNat)).length:Int)).toNat))=true) (aI (st_ok oO:(Nat.ble ((0+k.toNat)+1) (U lq).length)=true) (aI (fits_i64 oO:(fits .i64 (k-1))=true) (aI tT ((nx_next ((k-1),(U (lowL lu ((0+k.toNat)+L (b*2^s.toNat)+1) (Xd lu (0+k.toNat) (L (b*2^s.toNat))%(4294967296^(0+k.toNat)*(b*2^s.toNat))))),(List.set (U lq) (0+k.toNat) (.int .u32 ((kq lu (0+k.toNat) (b*2^s.toNat):Nat):Int))),(lowL lu ((0+k.toNat)+L (b*2^s.toNat)+1) (Xd lu (0+k.toNat) (L (b*2^s.toNat))%(4294967296^(0+k.toNat)*(b*2^s.toNat)))),(lq.set k.toNat (kq lu (0+k.toNat) (b*2^s.toNat)))) (show ((U (lowL lu ((0+k.toNat)+L (b*2^s.toNat)+1) (Xd lu (0+k.toNat) (L (b*2^s.toNat))%(4294967296^(0+k.toNat)*(b*2^s.toNat)))))=U (lowL lu ((0+k.toNat)+L (b*2^s.toNat)+1) (Xd lu (0+k.toNat) (L (b*2^s.toNat))%(4294967296^(0+k.toNat)*(b*2^s.toNat))))∧(List.set (U lq) (0+k.toNat) (.int .u32 ((kq lu (0+k.toNat) (b*2^s.toNat):Nat):Int)))=U (lq.set k.toNat (kq lu (0+k.toNat) (b*2^s.toNat))))∧DvIn (a*2^s.toNat) (b*2^s.toNat) (L (a*2^s.toNat)+1-L (b*2^s.toNat)) (k-1) (lowL lu ((0+k.toNat)+L (b*2^s.toNat)+1) (Xd lu (0+k.toNat) (L (b*2^s.toNat))%(4294967296^(0+k.toNat)*(b*2^s.toNat)))) (lq.set k.toNat (kq lu (0+k.toNat) (b*2^s.toNat))) from ⟨⟨rfl,setU _ oO rfl⟩,hnx oO⟩) (show (k-1+1).toNat<(k+1).toNat by omega):qdm_loop_N a b s (k,(U lu),(U lq),lu,lq) .normal (qdm_loop_mk a b s ((k-1),(U (lowL lu ((0+k.toNat)+L (b*2^s.toNat)+1) (Xd lu (0+k.toNat) (L (b*2^s.toNat))%(4294967296^(0+k.toNat)*(b*2^s.toNat))))),(List.set (U lq) (0+k.toNat) (.int .u32 ((kq lu (0+k.toNat) (b*2^s.toNat):Nat):Int))),(lowL lu ((0+k.toNat)+L (b*2^s.toNat)+1) (Xd lu (0+k.toNat) (L (b*2^s.toNat))%(4294967296^(0+k.toNat)*(b*2^s.toNat)))),(lq.set k.toNat (kq lu (0+k.toNat) (b*2^s.toNat)))))))))))))))) (fun (h102:(iGe k 0)=false)=>have _gh102:=iGe_f h102;aI tT ((nx_exit 1 ((qdm_loop_ex a b s (lu,lq)).2) (lu,lq) (show DvIn (a*2^s.toNat) (b*2^s.toNat) (L (a*2^s.toNat)+1-L (b*2^s.toNat)) (-1) lu lq from (show k=-1 by omega) ▸ h1) rfl:qdm_loop_N a b s (k,(U lu),(U lq),lu,lq) (.exit 1) ((qdm_loop_ex a b s (lu,lq)).2)))))) (by kernel_rfl))
theorem quot_DivMod (a:Nat)(b:Nat)(c0:L a≤16777216)(c1:L b≤16777216)(c2:0<b):Impl Tryz.prog Amb 200 [(N a),(N b)] (.tup [(N (a / b)),(N (a%b)),(.bool true)]):=by
 have e0:=L_len a
 have e1:=L_len b
 have p0:=L_pos (show b≠0 by omega)
 have hcm:=cmpN_or a b
 have tb:=top_bits b p0
 have g0:=gi_b (dig_limbs b) (((lim b).length:Int)-1).toNat
 have g1:=gi_b (dig_limbs b) 0
 have eT:(((lim b).length:Int)-1).toNat=((L b:Int)-1).toNat:=by rw[L_len]
 have hs:nbits b+((32-(Lib.bitLen (gi (limbs b) (((lim b).length:Int)-1).toNat).toNat:Int))).toNat=32*L b:=by rw[eT];omega
 have hsr:0≤(32-(Lib.bitLen (gi (limbs b) (((lim b).length:Int)-1).toNat).toNat:Int))∧(32-(Lib.bitLen (gi (limbs b) (((lim b).length:Int)-1).toNat).toNat:Int))≤32:=by rw[eT];omega
 have hno0:=kn_norm (show b≠0 by omega) hs
 have hno:L (b*2^((32-(Lib.bitLen (gi (limbs b) (((lim b).length:Int)-1).toNat).toNat:Int))).toNat)=L b∧2147483648≤(limbs (b*2^((32-(Lib.bitLen (gi (limbs b) (((lim b).length:Int)-1).toNat).toNat:Int))).toNat)).getD (L (b*2^((32-(Lib.bitLen (gi (limbs b) (((lim b).length:Int)-1).toNat).toNat:Int))).toNat)-1) 0:=by rw[hno0.1];exact⟨rfl,hno0.2⟩
 have e2:=L_len (b*2^((32-(Lib.bitLen (gi (limbs b) (((lim b).length:Int)-1).toNat).toNat:Int))).toNat)
 have hls:=L_shl a ((32-(Lib.bitLen (gi (limbs b) (((lim b).length:Int)-1).toNat).toNat:Int))).toNat
 have hft:b≤a→(a*2^((32-(Lib.bitLen (gi (limbs b) (((lim b).length:Int)-1).toNat).toNat:Int))).toNat)<4294967296^(L (a*2^((32-(Lib.bitLen (gi (limbs b) (((lim b).length:Int)-1).toNat).toNat:Int))).toNat)+1-L (b*2^((32-(Lib.bitLen (gi (limbs b) (((lim b).length:Int)-1).toNat).toNat:Int))).toNat))*(b*2^((32-(Lib.bitLen (gi (limbs b) (((lim b).length:Int)-1).toNat).toNat:Int))).toNat)∧L (a*2^((32-(Lib.bitLen (gi (limbs b) (((lim b).length:Int)-1).toNat).toNat:Int))).toNat)+1=(L (a*2^((32-(Lib.bitLen (gi (limbs b) (((lim b).length:Int)-1).toNat).toNat:Int))).toNat)+1-L (b*2^((32-(Lib.bitLen (gi (limbs b) (((lim b).length:Int)-1).toNat).toNat:Int))).toNat))+L (b*2^((32-(Lib.bitLen (gi (limbs b) (((lim b).length:Int)-1).toNat).toNat:Int))).toNat):=fun h=>dv_fit (Nat.mul_le_mul_right _ h) (fun q=>by rw[q,L_zero] at hno;omega)
 have g3:L b=1→gi (limbs b) 0=(b:Int):=gi_one
 have gm:L b=1→0≤((a%(gi (limbs b) 0).toNat:Nat):Int)∧((a%(gi (limbs b) 0).toNat:Nat):Int)<4294967296:=fun q=>by have:=Nat.mod_lt a (show 0<(gi (limbs b) 0).toNat by rw[gi_one q];omega);omega
 exact impl_ob hP hAmb Tryz.func200 (by kernel_rfl) (.lit<|.call (N a)<|.lit<|.call (N b)<|.lit<|.no<|.lit<|.call (.int .i64 (cmpN a b))<|.lit<|.both (.lit<|.ret) (.lit<|.both (.yes<|.yes<|.lit<|.call (.tup [(N (a / ((gi (limbs b) 0)).toNat)),(.int .u32 ((a%((gi (limbs b) 0)).toNat:Nat):Int)),(.bool true)])<|.lit<|.yes<|.lit<|.call (N ((((a%((gi (limbs b) 0)).toNat:Nat):Int)).toNat))<|.lit<|.ret) (.lit<|.yes<|.yes<|.yes<|.lit<|.call (.int .i64 (32-(Lib.bitLen ((gi (limbs b) ((((lim b).length:Int)-1).toNat))).toNat:Int)))<|.lit<|.call (N (b*2^((32-(Lib.bitLen ((gi (limbs b) ((((lim b).length:Int)-1).toNat))).toNat:Int))).toNat))<|.lit<|.callO 1 (L (a*2^((32-(Lib.bitLen ((gi (limbs b) ((((lim b).length:Int)-1).toNat))).toNat:Int))).toNat)) (lim (a*2^((32-(Lib.bitLen ((gi (limbs b) ((((lim b).length:Int)-1).toNat))).toNat:Int))).toNat))<|.yes<|.lit<|.yes<|.yes<|.lit<|.yes<|.lit<|.yes<|.loop ⟨[10,11,12,13,14,15],4,[]⟩ ((qdm_loop_mk a b (32-(Lib.bitLen (gi (limbs b) (((lim b).length:Int)-1).toNat).toNat:Int)) ((((((L (a*2^((32-(Lib.bitLen ((gi (limbs b) ((((lim b).length:Int)-1).toNat))).toNat:Int))).toNat))+1):Int)-((lim (b*2^((32-(Lib.bitLen ((gi (limbs b) ((((lim b).length:Int)-1).toNat))).toNat:Int))).toNat)).length:Int))-1),((lim (a*2^((32-(Lib.bitLen ((gi (limbs b) ((((lim b).length:Int)-1).toNat))).toNat:Int))).toNat)) ++ [(V.int .u32 0)]),(List.replicate (((((L (a*2^((32-(Lib.bitLen ((gi (limbs b) ((((lim b).length:Int)-1).toNat))).toNat:Int))).toNat))+1):Int)-((lim (b*2^((32-(Lib.bitLen ((gi (limbs b) ((((lim b).length:Int)-1).toNat))).toNat:Int))).toNat)).length:Int)).toNat) (.int .u32 0)),(limbs (a*2^(32-(Lib.bitLen (gi (limbs b) (((lim b).length:Int)-1).toNat).toNat:Int)).toNat) ++ [0]),(List.replicate (L (a*2^(32-(Lib.bitLen (gi (limbs b) (((lim b).length:Int)-1).toNat).toNat:Int)).toNat)+1-L (b*2^(32-(Lib.bitLen (gi (limbs b) (((lim b).length:Int)-1).toNat).toNat:Int)).toNat)) 0)))) (List Nat × List Nat) (qdm_loop_ex a b (32-(Lib.bitLen (gi (limbs b) (((lim b).length:Int)-1).toNat).toNat:Int))) (qdm_loop_J a b (32-(Lib.bitLen (gi (limbs b) (((lim b).length:Int)-1).toNat).toNat:Int))) (fun y=>.yes<|.call (N (val y.2))<|.yes<|.yes<|.call (N (val (y.1.take (L (b*2^((32-(Lib.bitLen (gi (limbs b) (((lim b).length:Int)-1).toNat).toNat:Int))).toNat)))))<|.lit<|.call (N ((val (y.1.take (L (b*2^((32-(Lib.bitLen (gi (limbs b) (((lim b).length:Int)-1).toNat).toNat:Int))).toNat)))) / 2^((32-(Lib.bitLen (gi (limbs b) (((lim b).length:Int)-1).toNat).toNat:Int))).toNat))<|.lit<|.ret))))
  (cast_ob (aI True.intro (aI (nat_TrimN a oA) (aI (nat_TrimN b oA) (aI (iEq_mkF oO:(iEq ((lim b).length:Int) 0)=false) (aI (nat_Cmp a b oA oA) (aI (fun (h1:(iLt (cmpN a b) 0)=true)=>have _gh1:=iLt_t h1;(by have h:a<b:=oO;rw[Nat.div_eq_of_lt h,Nat.mod_eq_of_lt h];exact vsub_tup3 (by show vsub .nil (.sl 1 (U (limbs 0)));rw[limbs_zero];exact vsub_nil 1) (vsub_refl _) (vsub_refl _):vsub (.tup [.nil,(N a),(.bool true)]) (.tup [(N (a / b)),(N (a%b)),(.bool true)]))) (fun (h2:(iLt (cmpN a b) 0)=false)=>have _gh2:=iLt_f h2;aI (fun (h3:(iEq ((lim b).length:Int) 1)=true)=>have _gh3:=iEq_t h3;aI (inB_mk oA:(inB (0:Int) ((lim b).length))=true) (aI (ld_L oA:(Nat.blt 0 (lim b).length && isIntK .u32 (nth (lim b) 0 .unk))=true) (aI (quot_SmallI a (gi (limbs b) 0) oA oA) (aI (fits_u64 oA:(fits .u64 ((a%((gi (limbs b) 0)).toNat:Nat):Int))=true) (aI (nat_Of ((a%((gi (limbs b) 0)).toNat:Nat):Int) oA) ((by rw[gi_one (show L b=1 by omega)];exact vsub_refl _:vsub (.tup [(N (a / ((gi (limbs b) 0)).toNat)),(N ((((a%((gi (limbs b) 0)).toNat:Nat):Int)).toNat)),(.bool true)]) (.tup [(N (a / b)),(N (a%b)),(.bool true)])))))))) (fun (h4:(iEq ((lim b).length:Int) 1)=false)=>have _gh4:=iEq_f h4;aI (fits_i64 oA:(fits .i64 (((lim b).length:Int)-1))=true) (aI (inB_mk oA:(inB (((lim b).length:Int)-1) ((lim b).length))=true) (aI (ld_L oA:(Nat.blt ((((lim b).length:Int)-1).toNat) (lim b).length && isIntK .u32 (nth (lim b) ((((lim b).length:Int)-1).toNat) .unk))=true) (aI (bits_LZ32 (gi (limbs b) ((((lim b).length:Int)-1).toNat)) oA) (aI (nat_Shl b (32-(Lib.bitLen ((gi (limbs b) ((((lim b).length:Int)-1).toNat))).toNat:Int)) oA oA) (aI (nat_ShlO a (32-(Lib.bitLen ((gi (limbs b) ((((lim b).length:Int)-1).toNat))).toNat:Int)) oA oA oA) (aI (and_mk (and_mk (and_mk (rfl) rfl) (st_ok oA)) (by first | rfl | (simp<;>omega) | (rw[L_len];simp)):(true && true && Nat.ble ((L (a*2^((32-(Lib.bitLen ((gi (limbs b) ((((lim b).length:Int)-1).toNat))).toNat:Int))).toNat))+1) 1073741824 && Nat.beq (lim (a*2^((32-(Lib.bitLen ((gi (limbs b) ((((lim b).length:Int)-1).toNat))).toNat:Int))).toNat)).length (L (a*2^((32-(Lib.bitLen ((gi (limbs b) ((((lim b).length:Int)-1).toNat))).toNat:Int))).toNat)))=true) (aI (fits_i64 oA:(fits .i64 ((((L (a*2^((32-(Lib.bitLen ((gi (limbs b) ((((lim b).length:Int)-1).toNat))).toNat:Int))).toNat))+1):Int)-((lim (b*2^((32-(Lib.bitLen ((gi (limbs b) ((((lim b).length:Int)-1).toNat))).toNat:Int))).toNat)).length:Int)))=true) (aI (mk_ok oA:(((iEq ((((L (a*2^((32-(Lib.bitLen ((gi (limbs b) ((((lim b).length:Int)-1).toNat))).toNat:Int))).toNat))+1):Int)-((lim (b*2^((32-(Lib.bitLen ((gi (limbs b) ((((lim b).length:Int)-1).toNat))).toNat:Int))).toNat)).length:Int)) ((((L (a*2^((32-(Lib.bitLen ((gi (limbs b) ((((lim b).length:Int)-1).toNat))).toNat:Int))).toNat))+1):Int)-((lim (b*2^((32-(Lib.bitLen ((gi (limbs b) ((((lim b).length:Int)-1).toNat))).toNat:Int))).toNat)).length:Int))) && (iLe 0 ((((L (a*2^((32-(Lib.bitLen ((gi (limbs b) ((((lim b).length:Int)-1).toNat))).toNat:Int))).toNat))+1):Int)-((lim (b*2^((32-(Lib.bitLen ((gi (limbs b) ((((lim b).length:Int)-1).toNat))).toNat:Int))).toNat)).length:Int)))) && (iLe ((((L (a*2^((32-(Lib.bitLen ((gi (limbs b) ((((lim b).length:Int)-1).toNat))).toNat:Int))).toNat))+1):Int)-((lim (b*2^((32-(Lib.bitLen ((gi (limbs b) ((((lim b).length:Int)-1).toNat))).toNat:Int))).toNat)).length:Int)) 1073741824))=true) (aI (fits_i64 oA:(fits .i64 ((((L (a*2^((32-(Lib.bitLen ((gi (limbs b) ((((lim b).length:Int)-1).toNat))).toNat:Int))).toNat))+1):Int)-((lim (b*2^((32-(Lib.bitLen ((gi (limbs b) ((((lim b).length:Int)-1).toNat))).toNat:Int))).toNat)).length:Int)))=true) (aI (fits_i64 oA:(fits .i64 (((((L (a*2^((32-(Lib.bitLen ((gi (limbs b) ((((lim b).length:Int)-1).toNat))).toNat:Int))).toNat))+1):Int)-((lim (b*2^((32-(Lib.bitLen ((gi (limbs b) ((((lim b).length:Int)-1).toNat))).toNat:Int))).toNat)).length:Int))-1))=true) (aI tT (aI (rfl:(qdm_loop_mk a b (32-(Lib.bitLen (gi (limbs b) (((lim b).length:Int)-1).toNat).toNat:Int)) ((((((L (a*2^((32-(Lib.bitLen ((gi (limbs b) ((((lim b).length:Int)-1).toNat))).toNat:Int))).toNat))+1):Int)-((lim (b*2^((32-(Lib.bitLen ((gi (limbs b) ((((lim b).length:Int)-1).toNat))).toNat:Int))).toNat)).length:Int))-1),((lim (a*2^((32-(Lib.bitLen ((gi (limbs b) ((((lim b).length:Int)-1).toNat))).toNat:Int))).toNat)) ++ [(V.int .u32 0)]),(List.replicate (((((L (a*2^((32-(Lib.bitLen ((gi (limbs b) ((((lim b).length:Int)-1).toNat))).toNat:Int))).toNat))+1):Int)-((lim (b*2^((32-(Lib.bitLen ((gi (limbs b) ((((lim b).length:Int)-1).toNat))).toNat:Int))).toNat)).length:Int)).toNat) (.int .u32 0)),(limbs (a*2^(32-(Lib.bitLen (gi (limbs b) (((lim b).length:Int)-1).toNat).toNat:Int)).toNat) ++ [0]),(List.replicate (L (a*2^(32-(Lib.bitLen (gi (limbs b) (((lim b).length:Int)-1).toNat).toNat:Int)).toNat)+1-L (b*2^(32-(Lib.bitLen (gi (limbs b) (((lim b).length:Int)-1).toNat).toNat:Int)).toNat)) 0)))=(qdm_loop_mk a b (32-(Lib.bitLen (gi (limbs b) (((lim b).length:Int)-1).toNat).toNat:Int)) ((((((L (a*2^((32-(Lib.bitLen ((gi (limbs b) ((((lim b).length:Int)-1).toNat))).toNat:Int))).toNat))+1):Int)-((lim (b*2^((32-(Lib.bitLen ((gi (limbs b) ((((lim b).length:Int)-1).toNat))).toNat:Int))).toNat)).length:Int))-1),((lim (a*2^((32-(Lib.bitLen ((gi (limbs b) ((((lim b).length:Int)-1).toNat))).toNat:Int))).toNat)) ++ [(V.int .u32 0)]),(List.replicate (((((L (a*2^((32-(Lib.bitLen ((gi (limbs b) ((((lim b).length:Int)-1).toNat))).toNat:Int))).toNat))+1):Int)-((lim (b*2^((32-(Lib.bitLen ((gi (limbs b) ((((lim b).length:Int)-1).toNat))).toNat:Int))).toNat)).length:Int)).toNat) (.int .u32 0)),(limbs (a*2^(32-(Lib.bitLen (gi (limbs b) (((lim b).length:Int)-1).toNat).toNat:Int)).toNat) ++ [0]),(List.replicate (L (a*2^(32-(Lib.bitLen (gi (limbs b) (((lim b).length:Int)-1).toNat).toNat:Int)).toNat)+1-L (b*2^(32-(Lib.bitLen (gi (limbs b) (((lim b).length:Int)-1).toNat).toNat:Int)).toNat)) 0)))) (aI (qdm_loop a b (32-(Lib.bitLen (gi (limbs b) (((lim b).length:Int)-1).toNat).toNat:Int)) (⟨c0,c1⟩) oO hno.2 hsr ((((((L (a*2^((32-(Lib.bitLen ((gi (limbs b) ((((lim b).length:Int)-1).toNat))).toNat:Int))).toNat))+1):Int)-((lim (b*2^((32-(Lib.bitLen ((gi (limbs b) ((((lim b).length:Int)-1).toNat))).toNat:Int))).toNat)).length:Int))-1),((lim (a*2^((32-(Lib.bitLen ((gi (limbs b) ((((lim b).length:Int)-1).toNat))).toNat:Int))).toNat)) ++ [(V.int .u32 0)]),(List.replicate (((((L (a*2^((32-(Lib.bitLen ((gi (limbs b) ((((lim b).length:Int)-1).toNat))).toNat:Int))).toNat))+1):Int)-((lim (b*2^((32-(Lib.bitLen ((gi (limbs b) ((((lim b).length:Int)-1).toNat))).toNat:Int))).toNat)).length:Int)).toNat) (.int .u32 0)),(limbs (a*2^(32-(Lib.bitLen (gi (limbs b) (((lim b).length:Int)-1).toNat).toNat:Int)).toNat) ++ [0]),(List.replicate (L (a*2^(32-(Lib.bitLen (gi (limbs b) (((lim b).length:Int)-1).toNat).toNat:Int)).toNat)+1-L (b*2^(32-(Lib.bitLen (gi (limbs b) (((lim b).length:Int)-1).toNat).toNat:Int)).toNat)) 0)) (show (((lim (a*2^((32-(Lib.bitLen ((gi (limbs b) ((((lim b).length:Int)-1).toNat))).toNat:Int))).toNat)) ++ [(V.int .u32 0)])=U (limbs (a*2^(32-(Lib.bitLen (gi (limbs b) (((lim b).length:Int)-1).toNat).toNat:Int)).toNat) ++ [0])∧(List.replicate (((((L (a*2^((32-(Lib.bitLen ((gi (limbs b) ((((lim b).length:Int)-1).toNat))).toNat:Int))).toNat))+1):Int)-((lim (b*2^((32-(Lib.bitLen ((gi (limbs b) ((((lim b).length:Int)-1).toNat))).toNat:Int))).toNat)).length:Int)).toNat) (.int .u32 0))=U (List.replicate (L (a*2^(32-(Lib.bitLen (gi (limbs b) (((lim b).length:Int)-1).toNat).toNat:Int)).toNat)+1-L (b*2^(32-(Lib.bitLen (gi (limbs b) (((lim b).length:Int)-1).toNat).toNat:Int)).toNat)) 0))∧DvIn (a*2^(32-(Lib.bitLen (gi (limbs b) (((lim b).length:Int)-1).toNat).toNat:Int)).toNat) (b*2^(32-(Lib.bitLen (gi (limbs b) (((lim b).length:Int)-1).toNat).toNat:Int)).toNat) (L (a*2^(32-(Lib.bitLen (gi (limbs b) (((lim b).length:Int)-1).toNat).toNat:Int)).toNat)+1-L (b*2^(32-(Lib.bitLen (gi (limbs b) (((lim b).length:Int)-1).toNat).toNat:Int)).toNat)) (((((L (a*2^((32-(Lib.bitLen ((gi (limbs b) ((((lim b).length:Int)-1).toNat))).toNat:Int))).toNat))+1):Int)-((lim (b*2^((32-(Lib.bitLen ((gi (limbs b) ((((lim b).length:Int)-1).toNat))).toNat:Int))).toNat)).length:Int))-1) (limbs (a*2^(32-(Lib.bitLen (gi (limbs b) (((lim b).length:Int)-1).toNat).toNat:Int)).toNat) ++ [0]) (List.replicate (L (a*2^(32-(Lib.bitLen (gi (limbs b) (((lim b).length:Int)-1).toNat).toNat:Int)).toNat)+1-L (b*2^(32-(Lib.bitLen (gi (limbs b) (((lim b).length:Int)-1).toNat).toNat:Int)).toNat)) 0) from ⟨⟨U_append _ [0],by rw[show ((((L (a*2^(32-(Lib.bitLen (gi (limbs b) (((lim b).length:Int)-1).toNat).toNat:Int)).toNat)+1):Int)-((lim (b*2^(32-(Lib.bitLen (gi (limbs b) (((lim b).length:Int)-1).toNat).toNat:Int)).toNat)).length:Int)).toNat)=(L (a*2^(32-(Lib.bitLen (gi (limbs b) (((lim b).length:Int)-1).toNat).toNat:Int)).toNat)+1-L (b*2^(32-(Lib.bitLen (gi (limbs b) (((lim b).length:Int)-1).toNat).toNat:Int)).toNat)) by omega];exact U_rep _⟩,by have:=dv_init (hft oO).1 (hft oO).2;rwa [show (((L (a*2^(32-(Lib.bitLen (gi (limbs b) (((lim b).length:Int)-1).toNat).toNat:Int)).toNat)+1-L (b*2^(32-(Lib.bitLen (gi (limbs b) (((lim b).length:Int)-1).toNat).toNat:Int)).toNat)):Nat):Int)-1=(((((L (a*2^((32-(Lib.bitLen ((gi (limbs b) ((((lim b).length:Int)-1).toNat))).toNat:Int))).toNat))+1):Int)-((lim (b*2^((32-(Lib.bitLen ((gi (limbs b) ((((lim b).length:Int)-1).toNat))).toNat:Int))).toNat)).length:Int))-1) by omega] at this⟩)) (fun y (hJ:qdm_loop_J a b (32-(Lib.bitLen (gi (limbs b) (((lim b).length:Int)-1).toNat).toNat:Int)) y)=>have hJ:DvIn (a*2^(32-(Lib.bitLen (gi (limbs b) (((lim b).length:Int)-1).toNat).toNat:Int)).toNat) (b*2^(32-(Lib.bitLen (gi (limbs b) (((lim b).length:Int)-1).toNat).toNat:Int)).toNat) (L (a*2^(32-(Lib.bitLen (gi (limbs b) (((lim b).length:Int)-1).toNat).toNat:Int)).toNat)+1-L (b*2^(32-(Lib.bitLen (gi (limbs b) (((lim b).length:Int)-1).toNat).toNat:Int)).toNat)) (-1) y.1 y.2:=hJ;have ⟨d0,d1,d2,d3,d4,d5⟩:=dv_end hJ;have d6:=U_len y.1;have d7:=U_len y.2;have d8:L (val (y.1.take (L (b*2^((32-(Lib.bitLen (gi (limbs b) (((lim b).length:Int)-1).toNat).toNat:Int))).toNat))))≤L (a*2^((32-(Lib.bitLen (gi (limbs b) (((lim b).length:Int)-1).toNat).toNat:Int))).toNat):=(by rw[d4];exact L_mod _ _);aI (ok_arg oA:((true && Nat.ble (0+((((L (a*2^(32-(Lib.bitLen (gi (limbs b) (((lim b).length:Int)-1).toNat).toNat:Int)).toNat)+1):Int)-((lim (b*2^(32-(Lib.bitLen (gi (limbs b) (((lim b).length:Int)-1).toNat).toNat:Int)).toNat)).length:Int)).toNat)) (U y.2).length) && true)=true) (aI (nat_TrimC (List.take ((((L (a*2^(32-(Lib.bitLen (gi (limbs b) (((lim b).length:Int)-1).toNat).toNat:Int)).toNat)+1):Int)-((lim (b*2^(32-(Lib.bitLen (gi (limbs b) (((lim b).length:Int)-1).toNat).toNat:Int)).toNat)).length:Int)).toNat) (List.drop 0 (U y.2))) y.2 (tkU rfl oO) d3 oO) (aI (and_mk (and_mk (and_mk (rfl) (iLe_mk oA)) (iLe_mk oA)) (rfl):(((true && (iLe (0:Int) ((lim (b*2^(32-(Lib.bitLen (gi (limbs b) (((lim b).length:Int)-1).toNat).toNat:Int)).toNat)).length:Int))) && (iLe ((lim (b*2^(32-(Lib.bitLen (gi (limbs b) (((lim b).length:Int)-1).toNat).toNat:Int)).toNat)).length:Int) ((L (a*2^(32-(Lib.bitLen (gi (limbs b) (((lim b).length:Int)-1).toNat).toNat:Int)).toNat)+1):Int))) && true)=true) (aI (ok_arg oA:((true && Nat.ble (0+(((lim (b*2^(32-(Lib.bitLen (gi (limbs b) (((lim b).length:Int)-1).toNat).toNat:Int)).toNat)).length:Int)-0).toNat) (U y.1).length) && true)=true) (aI (nat_TrimC (List.take ((((lim (b*2^(32-(Lib.bitLen (gi (limbs b) (((lim b).length:Int)-1).toNat).toNat:Int)).toNat)).length:Int)-0).toNat) (List.drop 0 (U y.1))) (y.1.take (L (b*2^((32-(Lib.bitLen (gi (limbs b) (((lim b).length:Int)-1).toNat).toNat:Int))).toNat))) (tkU2 oO) (dig_take d1 _) (by rw[List.length_take];omega)) (aI (nat_Shr (val (y.1.take (L (b*2^((32-(Lib.bitLen (gi (limbs b) (((lim b).length:Int)-1).toNat).toNat:Int))).toNat)))) (32-(Lib.bitLen (gi (limbs b) (((lim b).length:Int)-1).toNat).toNat:Int)) oA oA) ((by rw[d5,d4,shl_div,shl_mod];exact vsub_refl _:vsub (.tup [(N (val y.2)),(N ((val (y.1.take (L (b*2^((32-(Lib.bitLen (gi (limbs b) (((lim b).length:Int)-1).toNat).toNat:Int))).toNat)))) / 2^((32-(Lib.bitLen (gi (limbs b) (((lim b).length:Int)-1).toNat).toNat:Int))).toNat)),(.bool true)]) (.tup [(N (a / b)),(N (a%b)),(.bool true)])))))))))))))))))))))))))))))) (by kernel_rfl))
theorem int_DivMod (x y:Int)(c0:L (x).natAbs≤16777216)(c1:L (y).natAbs≤16777216)(c2:y≠0):Impl Tryz.prog Amb 154 [(zV x),(zV y)] (.tup [(zV (Int.fdiv x y)),(zV (x-(Int.fdiv x y)*y)),(.bool true)]):=by
 have l3:=L_div x.natAbs y.natAbs
 have l1:=L_le (n:=1) (k:=1) (by decide)
 have l4:=L_pos_iff (x.natAbs%y.natAbs)
 have l5:=L_len (x.natAbs%y.natAbs)
 have l6:=Nat.mod_lt x.natAbs (show 0<y.natAbs by omega)
 have l7:=L_add (x.natAbs / y.natAbs) 1
 have l8:=L_sub y.natAbs (x.natAbs%y.natAbs)
 exact impl_ob hP hAmb Tryz.func154 (by kernel_rfl) (.lits 3<|.call (.tup [(N (x.natAbs / y.natAbs)),(N (x.natAbs%y.natAbs)),(.bool true)])<|.lits 5<|.both (.lits 4<|.both (.lit<|.call (N 1)<|.lit<|.call (N ((x.natAbs / y.natAbs)+1))<|.lits 2<|.call (.tup [(N (y.natAbs-(x.natAbs%y.natAbs))),(.bool (decide ((x.natAbs%y.natAbs)≤y.natAbs)))])<|.lits 4<|.call (zV (sgn (!(bEq (decide (x<0)) (decide (y<0)))) ((x.natAbs / y.natAbs)+1)))<|.lits 2<|.call (zV (sgn (decide (y<0)) (y.natAbs-(x.natAbs%y.natAbs))))<|.lits 3<|.ret) (.lits 4<|.call (zV (sgn (!(bEq (decide (x<0)) (decide (y<0)))) (x.natAbs / y.natAbs)))<|.lits 2<|.call (zV (sgn (decide (y<0)) (x.natAbs%y.natAbs)))<|.lits 3<|.ret)) (.lits 8<|.call (zV (sgn (!(bEq (decide (x<0)) (decide (y<0)))) (x.natAbs / y.natAbs)))<|.lits 2<|.call (zV (sgn (decide (y<0)) (x.natAbs%y.natAbs)))<|.lits 3<|.ret))
  (cast_ob (aI True.intro (aI (quot_DivMod x.natAbs y.natAbs oA oA oA) (have f6:=L_mod x.natAbs y.natAbs;have f5:=L_div x.natAbs y.natAbs;aI (fun (h1:(!(bEq (decide (x<0)) (decide (y<0))))=true)=>aI (fun (h2:(iGt ((lim (x.natAbs%y.natAbs)).length:Int) 0)=true)=>have _gh2:=iGt_t h2;aI (nat_Of 1 oA) (aI (nat_Add (x.natAbs / y.natAbs) 1 oA oA) (aI (nat_Sub2 y.natAbs (x.natAbs%y.natAbs) oA oA) (aI (int_Nat (!(bEq (decide (x<0)) (decide (y<0)))) ((x.natAbs / y.natAbs)+1) oA) (aI (int_Nat (decide (y<0)) (y.natAbs-(x.natAbs%y.natAbs)) oA) ((vsub_tup3 (Z_of (by rw[sgn_one (by first | assumption | simp_all)];exact dm5_1 c2 (by first | assumption | simp_all) oO)) (Z_of (rm5_1 c2 (by first | assumption | simp_all) oO)) (vsub_refl _):vsub (.tup [(zV (sgn (!(bEq (decide (x<0)) (decide (y<0)))) ((x.natAbs / y.natAbs)+1))),(zV (sgn (decide (y<0)) (y.natAbs-(x.natAbs%y.natAbs)))),(.bool true)]) (.tup [(zV (Int.fdiv x y)),(zV (x-(Int.fdiv x y)*y)),(.bool true)])))))))) (fun (h3:(iGt ((lim (x.natAbs%y.natAbs)).length:Int) 0)=false)=>have _gh3:=iGt_f h3;aI (int_Nat (!(bEq (decide (x<0)) (decide (y<0)))) (x.natAbs / y.natAbs) oA) (aI (int_Nat (decide (y<0)) (x.natAbs%y.natAbs) oA) ((vsub_tup3 (Z_of (dm5_2 c2 oO)) (Z_of (rm5_2 c2 oO)) (vsub_refl _):vsub (.tup [(zV (sgn (!(bEq (decide (x<0)) (decide (y<0)))) (x.natAbs / y.natAbs))),(zV (sgn (decide (y<0)) (x.natAbs%y.natAbs))),(.bool true)]) (.tup [(zV (Int.fdiv x y)),(zV (x-(Int.fdiv x y)*y)),(.bool true)])))))) (fun (h4:(!(bEq (decide (x<0)) (decide (y<0))))=false)=>aI (int_Nat (!(bEq (decide (x<0)) (decide (y<0)))) (x.natAbs / y.natAbs) oA) (aI (int_Nat (decide (y<0)) (x.natAbs%y.natAbs) oA) ((vsub_tup3 (Z_of (dm5_3 c2 (by first | assumption | simp_all))) (Z_of (rm5_3 c2 (by first | assumption | simp_all))) (vsub_refl _):vsub (.tup [(zV (sgn (!(bEq (decide (x<0)) (decide (y<0)))) (x.natAbs / y.natAbs))),(zV (sgn (decide (y<0)) (x.natAbs%y.natAbs))),(.bool true)]) (.tup [(zV (Int.fdiv x y)),(zV (x-(Int.fdiv x y)*y)),(.bool true)])))))))) (by kernel_rfl))

end Go.Proofs.YtkkbddkpggjgpaaGreatDoor

namespace Go.Proofs.YtkkbddkpggjgpaaGreatDoor
def dv (m e:Int):Rat:=(m:Rat)*(2:Rat)^e
theorem two_ne:(2:Rat)≠0:=by decide
theorem zp_add (a b:Int):(2:Rat)^(a+b)=2^a*2^b:=Rat.zpow_add two_ne a b
theorem zp_pos (a:Int):(0:Rat)<2^a:=Rat.zpow_pos (by decide)
theorem zp_ne (a:Int):(2:Rat)^a≠0:=fun h=>by have:=zp_pos a;rw[h] at this;exact absurd this Rat.lt_irrefl
theorem zp_nat (n:Nat):(2:Rat)^(n:Int)=(((2:Int)^n:Int):Rat):=by
 rw[Rat.zpow_natCast,Rat.intCast_pow];rfl
theorem zp_zero:(2:Rat)^(0:Int)=1:=Rat.zpow_zero 2
theorem zp_cancel (a:Int):(2:Rat)^a*2^(-a)=1:=by rw[← zp_add,Int.add_right_neg,zp_zero]
theorem dv_shl (m e:Int)(k:Nat):dv (m*2^k) e=dv m (e+k):=by
 unfold dv
 rw[zp_add,zp_nat,Rat.intCast_mul]
 grind
theorem dv_at {m e c:Int}(h:c≤e):dv m e=dv (m*2^(e-c).toNat) c:=by
 rw[dv_shl];congr 1;omega
theorem dv_lt {m n c:Int}:dv m c<dv n c↔m<n:=by
 unfold dv;rw[Rat.mul_lt_mul_right (zp_pos c),Rat.intCast_lt_intCast]
theorem dv_le {m n c:Int}:dv m c≤dv n c↔m≤n:=by
 rw[← Rat.not_lt,dv_lt];omega
theorem dv_inj {m n c:Int}(h:dv m c=dv n c):m=n:=by
 have h1:=(dv_le (m:=m) (n:=n) (c:=c)).1 (by rw[h];exact Rat.le_refl)
 have h2:=(dv_le (m:=n) (n:=m) (c:=c)).1 (by rw[h];exact Rat.le_refl)
 omega
theorem dv_zero (e:Int):dv 0 e=0:=by unfold dv;rw[Rat.intCast_zero,Rat.zero_mul]
theorem dv_int (m:Int):dv m 0=(m:Rat):=by unfold dv;rw[zp_zero,Rat.mul_one]
theorem dv_neg (m e:Int):dv (-m) e=-dv m e:=by unfold dv;rw[Rat.intCast_neg,Rat.neg_mul]
theorem dv_mul (m e n f:Int):dv (m*n) (e+f)=dv m e*dv n f:=by
 unfold dv;rw[zp_add,Rat.intCast_mul];grind
theorem dv_add (m n c:Int):dv (m+n) c=dv m c+dv n c:=by
 unfold dv;rw[Rat.intCast_add];grind
theorem dv_ad (m e n f:Int):dv (adS m e n f) (iMin e f)=dv m e+dv n f:=by
 have h:=iMin_range e f
 unfold adS
 rw[dv_add,← dv_at (by omega),← dv_at (by omega)]
def cmpQ (x y:Rat):Int:=if x<y then -1 else if y<x then 1 else 0
theorem cmpD_dv (m e n f:Int):cmpD m e n f=cmpQ (dv m e) (dv n f):=by
 have h:=iMin_range e f
 unfold cmpD cmpI cmpQ
 rw[dv_at (m:=m) (show iMin e f≤e by omega),dv_at (m:=n) (show iMin e f≤f by omega)]
 simp only [dv_lt]
theorem dv_pos {m e:Int}:0<dv m e↔0<m:=by rw[← dv_zero e,dv_lt]
theorem mk_eq {m e n f:Int}(h:dv m e=dv n f)(he:-131072≤e∧e≤131072)(hf:-131072≤f∧f≤131072):mkM m e=mkM n f∧mkX m e=mkX n f∧mkE m e=mkE n f:=by
 have hm:=iMin_range e f
 have h1:=mk_shl' (m:=m) (e:=e) (c:=iMin e f) (by omega) (by omega) (by omega)
 have h2:=mk_shl' (m:=n) (e:=f) (c:=iMin e f) (by omega) (by omega) (by omega)
 have h3:m*2^(e-iMin e f).toNat=n*2^(f-iMin e f).toNat:=by
  rw[dv_at (m:=m) (show iMin e f≤e by omega),dv_at (m:=n) (show iMin e f≤f by omega)] at h
  exact dv_inj h
 rw[h3] at h1
 exact⟨h1.1.symm.trans h2.1,h1.2.1.symm.trans h2.2.1,h1.2.2.symm.trans h2.2.2⟩
theorem dv_dm (m e:Int):dv (dm m) (de m e)=dv m e:=by
 unfold de;rw[← dv_shl,dm_mul]
theorem dv_mk {m e:Int}(h:mkE m e=0):dv (mkM m e) (mkX m e)=dv m e:=by
 unfold mkM mkX
 rw[if_pos h]
 by_cases h0:m=0
 ·rw[h0,dm_zero,dv_zero,dv_zero]
 ·rw[if_pos ⟨h,h0⟩,dv_dm]
theorem vdb_mk {m e:Int}:vdb (mkM m e) (mkX m e)=true:=by
 by_cases h:mkE m e=0
 ·by_cases h0:m=0
  ·have:mkM m e=0∧mkX m e=0:=by unfold mkM mkX;rw[if_pos h,if_neg (fun q=>q.2 h0),h0,dm_zero];exact⟨rfl,rfl⟩
   rw[this.1,this.2];rfl
  ·have e1:mkM m e=dm m:=by unfold mkM;rw[if_pos h]
   have e2:mkX m e=de m e:=by unfold mkX;rw[if_pos ⟨h,h0⟩]
   rw[e1,e2]
   unfold mkE at h
   split at h
   ·omega
   ·try rw[if_neg h0] at h
    split at h
    ·assumption
    ·omega
 ·rw[(mk_no h).1,(mk_no h).2];rfl
def flr (r:Rat)(p:Int):Int:=(r*2^p).floor
def cei (r:Rat)(p:Int):Int:=-(flr (-r) p)
theorem floor_div (n d:Int)(hd:0<d):((n:Rat) / (d:Rat)).floor=n / d:=by
 have hq:(0:Rat)<(d:Rat):=Rat.intCast_pos.2 hd
 have key:∀ x:Int,x≤((n:Rat) / (d:Rat)).floor↔x≤n / d:=fun x=>by
  rw[Rat.le_floor_iff,Int.le_ediv_iff_mul_le hd,← Rat.intCast_le_intCast (a:=x*d),Rat.intCast_mul,← Rat.not_lt,Rat.div_lt_iff hq,Rat.not_lt]
 have h1:=(key _).1 (Int.le_refl _)
 have h2:=(key _).2 (Int.le_refl _)
 omega
theorem flr_dv (m e p:Int):flr (dv m e) p=if 0≤e+p then m*2^(e+p).toNat else m / 2^(-(e+p)).toNat:=by
 have h:dv m e*2^p=dv m (e+p):=by unfold dv;rw[zp_add];grind
 unfold flr
 rw[h]
 split
 ·rename_i h0
  rw[dv_at h0,dv_int,Rat.floor_intCast,Int.sub_zero]
 ·rename_i h0
  rw[← floor_div _ _ (two_pos _)]
  congr 1
  have h1:=zp_cancel (e+p)
  have h2:=zp_nat (-(e+p)).toNat
  rw[show (((-(e+p)).toNat:Nat):Int)=-(e+p) by omega] at h2
  rw[← h2]
  unfold dv
  have h3:=zp_ne (-(e+p))
  grind
theorem flr_le (r:Rat)(p:Int):dv (flr r p) (-p)≤r:=by
 have h3:=Rat.mul_le_mul_of_nonneg_right (Rat.floor_le (r*2^p)) (Rat.le_of_lt (zp_pos (-p)))
 rw[Rat.mul_assoc r,zp_cancel,Rat.mul_one] at h3
 exact h3
theorem flr_lt (r:Rat)(p:Int):r<dv (flr r p+1) (-p):=by
 have h3:=Rat.mul_lt_mul_of_pos_right (Rat.lt_floor_add_one (r*2^p)) (zp_pos (-p))
 rw[Rat.mul_assoc r,zp_cancel,Rat.mul_one] at h3
 exact h3
theorem le_flr {r:Rat}{p x:Int}:x≤flr r p↔dv x (-p)≤r:=by
 have h1:=zp_cancel (-p)
 rw[Int.neg_neg] at h1
 unfold flr dv
 rw[Rat.le_floor_iff]
 constructor
 ·intro h
  have:=Rat.mul_le_mul_of_nonneg_right h (Rat.le_of_lt (zp_pos (-p)))
  rwa [Rat.mul_assoc r,zp_cancel,Rat.mul_one] at this
 ·intro h
  have:=Rat.mul_le_mul_of_nonneg_right h (Rat.le_of_lt (zp_pos p))
  rwa [Rat.mul_assoc (x:Rat),h1,Rat.mul_one] at this
theorem cei_ge (r:Rat)(p:Int):r≤dv (cei r p) (-p):=by
 have:=flr_le (-r) p
 unfold cei;rw[dv_neg]
 have:=Rat.neg_le_neg this
 rwa [Rat.neg_neg] at this
theorem cei_le {r:Rat}{p x:Int}:cei r p≤x↔r≤dv x (-p):=by
 have:=le_flr (r:=-r) (p:=p) (x:=-x)
 rw[dv_neg] at this
 unfold cei
 constructor
 ·intro h
  have:=Rat.neg_le_neg (this.1 (by omega))
  rwa [Rat.neg_neg,Rat.neg_neg] at this
 ·intro h
  have:=this.2 (Rat.neg_le_neg h)
  omega
end Go.Proofs.YtkkbddkpggjgpaaGreatDoor

namespace Go.Proofs.YtkkbddkpggjgpaaGreatDoor
theorem neg_xor {n d:Int}:(!(bEq (decide (n<0)) (decide (d<0))))=true↔(n<0∧0≤d)∨(0≤n∧d<0):=by
 by_cases h1:n<0<;>by_cases h2:d<0<;>simp [bEq,h1,h2]<;>omega
theorem q_make {n d:Int}(hd:d≠0):(Rat.divInt n d).num=sgn (!(bEq (decide (n<0)) (decide (d<0)))) (n.natAbs / Nat.gcd n.natAbs d.natAbs)∧(Rat.divInt n d).den=d.natAbs / Nat.gcd n.natAbs d.natAbs:=by
 have hg:Int.gcd d n=Nat.gcd n.natAbs d.natAbs:=by rw[Int.gcd_eq_natAbs_gcd_natAbs,Nat.gcd_comm]
 refine⟨?_,by rw[Rat.den_divInt,if_neg hd,hg]⟩
 rw[Rat.num_divInt,hg]
 have hdvd:Nat.gcd n.natAbs d.natAbs ∣ n.natAbs:=Nat.gcd_dvd_left _ _
 have hp:0<Nat.gcd n.natAbs d.natAbs:=Nat.gcd_pos_of_pos_right _ (by omega)
 generalize Nat.gcd n.natAbs d.natAbs=g at *
 obtain⟨k,hk⟩:=hdvd
 have hkd:n.natAbs / g=k:=by rw[hk];exact Nat.mul_div_cancel_left k hp
 rw[hkd]
 have hs:sgn (!(bEq (decide (n<0)) (decide (d<0)))) k=if (n<0∧0≤d)∨(0≤n∧d<0) then -(k:Int) else (k:Int):=by
  unfold sgn
  simp only [neg_xor]
 rw[hs]
 have hgk:((g:Int)*k)=(n.natAbs:Int):=by rw[hk];simp
 have hg0:(g:Int)≠0:=by omega
 rcases Int.lt_trichotomy d 0 with h | h | h
 ·rw[Int.sign_eq_neg_one_of_neg h]
  by_cases hn:n<0
  ·rw[if_neg (by omega),show (-1:Int)*n=(g:Int)*k by omega,Int.mul_ediv_cancel_left _ hg0]
  ·rw[if_pos (by omega),show (-1:Int)*n=(g:Int)*(-(k:Int)) by rw[Int.mul_neg];omega,Int.mul_ediv_cancel_left _ hg0]
 ·exact absurd h hd
 ·rw[Int.sign_eq_one_of_pos h]
  by_cases hn:n<0
  ·rw[if_pos (by omega),show (1:Int)*n=(g:Int)*(-(k:Int)) by rw[Int.mul_neg];omega,Int.mul_ediv_cancel_left _ hg0]
  ·rw[if_neg (by omega),show (1:Int)*n=(g:Int)*k by omega,Int.mul_ediv_cancel_left _ hg0]
theorem q_L {n d:Int}(hd:d≠0):L (Rat.divInt n d).num.natAbs≤L n.natAbs∧L (Rat.divInt n d).den≤L d.natAbs:=by
 have h:=q_make (n:=n) hd
 rw[h.1,h.2,sgn_abs]
 exact⟨L_div _ _,L_div _ _⟩
theorem den_ne (r:Rat):(r.den:Int)≠0:=by have:=r.den_nz;omega
theorem q_cmp (r s:Rat):cmpI (r.num*(s.den:Int)) (s.num*(r.den:Int))=cmpQ r s:=by
 unfold cmpI cmpQ
 simp only [Rat.lt_iff]
theorem q_int (n:Int):Rat.divInt n 1=(n:Rat):=by rw[Rat.divInt_eq_div,Rat.intCast_one];grind
theorem dv_pos_e {m e:Int}(he:0≤e):(dv m e).num=m*2^e.toNat∧(dv m e).den=1:=by
 rw[dv_at he,dv_int,Int.sub_zero]
 exact⟨Rat.num_intCast _,Rat.den_intCast _⟩
theorem dv_neg_e {m e:Int}(hv:vdb m e=true)(he:e<0):(dv m e).num=m∧(dv m e).den=2^(-e).toNat:=by
 have hm:m.natAbs%2=1:=by
  rcases vdb_iff.1 hv with ⟨_,h2⟩ | ⟨_,_,_,_,h⟩
  ·omega
  ·exact h
 have hc:Nat.Coprime m.natAbs (2^(-e).toNat):=by
  refine Nat.Coprime.pow_right _ ?_
  rw[Nat.coprime_comm]
  unfold Nat.Coprime
  rw[Nat.gcd_rec,hm];decide
 have h:dv m e=(⟨m,2^(-e).toNat,Nat.pos_iff_ne_zero.1 (Nat.pow_pos (by omega)),hc⟩:Rat):=by
  rw[Rat.mk_eq_mkRat,Rat.mkRat_eq_div]
  have h1:=zp_cancel e
  have h2:=zp_nat (-e).toNat
  rw[show (((-e).toNat:Nat):Int)=-e by omega] at h2
  have h3:=zp_ne (-e)
  have h4:(((2^(-e).toNat:Nat)):Rat)=2^(-e):=by
   rw[h2,← Rat.intCast_natCast,Int.natCast_pow];rfl
  rw[h4]
  unfold dv
  grind
 rw[h]
 exact⟨rfl,rfl⟩
theorem gcd_step (x y:Nat):Nat.gcd y (x%y)=Nat.gcd x y:=by rw[Nat.gcd_comm x y,Nat.gcd_rec y x,Nat.gcd_comm]
theorem gcd_last {x y a b:Nat}(h:Nat.gcd x y=Nat.gcd a b)(hy:y=0):x=Nat.gcd a b:=by rw[← h,hy,Nat.gcd_zero_right]
theorem L_den (r:Rat):L (r.den:Int).natAbs=L r.den:=by rw[Int.natAbs_natCast]
theorem q_ofL {n:Int}(h:-9223372036854775808≤n∧n≤9223372036854775807):L (Int.cast n:Rat).num.natAbs≤2∧L (Int.cast n:Rat).den≤1:=by
 rw[Rat.num_intCast,Rat.den_intCast]
 exact⟨L_i64 h,L_le (by decide)⟩
theorem cmpQ_range (x y:Rat):(cmpQ x y=-1∧x<y)∨(cmpQ x y=1∧y<x)∨(cmpQ x y=0∧x=y):=by
 unfold cmpQ
 by_cases h:x<y
 ·exact .inl ⟨if_pos h,h⟩
 ·rw[if_neg h]
  by_cases h2:y<x
  ·exact .inr (.inl ⟨if_pos h2,h2⟩)
  ·exact .inr (.inr ⟨if_neg h2,Rat.le_antisymm (Rat.not_lt.1 h2) (Rat.not_lt.1 h)⟩)
end Go.Proofs.YtkkbddkpggjgpaaGreatDoor

namespace Go.Proofs.YtkkbddkpggjgpaaGreatDoor
open Go.RowKit
theorem impl_arg {P:Program}{C:World→Prop}{f:FuncId}{ds ds':List V}{r:V}(hd:∀ (w:World) (S:Nat→Prop) (l:List Value),RdL w S l ds→RdL w S l ds')(h:Impl P C f ds' r):Impl P C f ds r :=
 ⟨h.1,fun w S args hC hS ha=>h.2 w S args hC hS (hd w S args ha)⟩
theorem tmod_lo (v:Int){n:Int}(hn:0<n):-n<v.tmod n:=by
 have:=Int.tmod_lt_of_pos (-v) hn
 rw[Int.neg_tmod] at this
 omega
theorem mod_neg {v n:Int}(hn:0<n)(h:wRem v n<0):wRem v n+n=v%n:=by
 unfold wRem at *
 have h1:=Int.tmod_add_mul_tdiv v n
 have h2:=tmod_lo v hn
 have h3:v%n=(v.tmod n)%n:=by
  conv=>lhs;rw[← h1]
  rw[Int.add_mul_emod_self_left]
 rw[h3,← Int.add_emod_right,Int.emod_eq_of_lt (by omega) (by omega)]
theorem mod_pos {v n:Int}(hn:0<n)(h:0≤wRem v n):wRem v n=v%n:=by
 unfold wRem at *
 have h1:=Int.tmod_add_mul_tdiv v n
 have h2:=Int.tmod_lt_of_pos v hn
 have h3:v%n=(v.tmod n)%n:=by
  conv=>lhs;rw[← h1]
  rw[Int.add_mul_emod_self_left]
 rw[h3,Int.emod_eq_of_lt h h2]
theorem wRem_abs {v n:Int}(hn:0<n):-n<wRem v n∧wRem v n<n:=⟨tmod_lo v hn,Int.tmod_lt_of_pos v hn⟩
theorem mk_cases {m e:Int}(hE:mkE m e=0):(m=0∧mkM m e=0∧mkX m e=0)∨(m≠0∧mkM m e=dm m∧mkX m e=de m e∧vdb (dm m) (de m e)=true):=by
 by_cases hm:m=0
 ·refine .inl ⟨hm,?_,?_⟩
  ·unfold mkM;rw[if_pos hE,hm,dm_zero]
  ·unfold mkX;rw[if_neg (fun q=>q.2 hm)]
 ·refine .inr ⟨hm,?_,?_,?_⟩
  ·unfold mkM;rw[if_pos hE]
  ·unfold mkX;rw[if_pos ⟨hE,hm⟩]
  ·unfold mkE at hE
   split at hE
   ·omega
   ·first
    | (rw[if_neg hm] at hE;split at hE;assumption;omega)
    | (split at hE;assumption;omega)
theorem mk_fine2 {m e:Int}(h:L m.natAbs≤900)(he:-60000≤e∧e≤30000):mkE m e=0:=by
 by_cases hm:m=0
 ·exact (mk_r2 (by omega) hm).2.2
 ·refine (mk_r4 (by omega) hm ?_).2.2
  rw[vdb_iff]
  have h1:=L_dm m
  have h2:=nbits_L (dm m).natAbs
  have h3:=tz_L m.natAbs
  have h4:=dm_odd hm
  unfold de
  exact .inr ⟨dm_ne hm,by omega,by omega,by omega,h4⟩
end Go.Proofs.YtkkbddkpggjgpaaGreatDoor

namespace Go.Proofs.YtkkbddkpggjgpaaGreatDoor
open Go.RowKit
theorem mk_zero (e:Int):mkM 0 e=0∧mkX 0 e=0:=by
 refine⟨?_,?_⟩
 ·unfold mkM;split
  ·exact dm_zero
  ·rfl
 ·unfold mkX;rw[if_neg (fun q=>q.2 rfl)]
end Go.Proofs.YtkkbddkpggjgpaaGreatDoor

namespace Go.Proofs.YtkkbddkpggjgpaaGreatDoor
theorem dm_opp (m:Int):dm (-m)=-dm m:=by
 unfold dm sgn
 rw[Int.natAbs_neg]
 by_cases h:m=0
 ·subst h;simp
 ·by_cases h2:m<0
  ·simp [h2,show ¬ (0<m) by omega]
  ·simp [h2,show 0<m by omega]
theorem vdb_opp (m e:Int):vdb (-m) e=vdb m e:=by
 unfold vdb;rw[Int.natAbs_neg];simp only [Int.neg_eq_zero]
theorem mk_opp (m e:Int):mkM (-m) e=-mkM m e∧mkX (-m) e=mkX m e∧mkE (-m) e=mkE m e:=by
 have h0:de (-m) e=de m e:=by unfold de;rw[Int.natAbs_neg]
 have hE:mkE (-m) e=mkE m e:=by
  unfold mkE;rw[dm_opp,h0,vdb_opp];simp only [Int.neg_eq_zero]
 refine⟨?_,?_,hE⟩
 ·unfold mkM;rw[hE,dm_opp];split<;>omega
 ·unfold mkX;rw[hE,h0];simp only [ne_eq,Int.neg_eq_zero]
def scl (x n:Int):Int:=if n<0 then x / 2^(-n).toNat else x*2^n.toNat
theorem scl_L (x n:Int):(L (scl x n).natAbs:Int)≤L x.natAbs+n.toNat / 32+1:=by
 unfold scl
 split
 ·have:=L_abs_shr x (-n).toNat;omega
 ·have:=L_abs_shl x n.toNat;omega
theorem flr_scl (m e p:Int):flr (dv m e) p=scl m (e+p):=by
 rw[flr_dv];unfold scl
 by_cases h:0≤e+p
 ·rw[if_pos h,if_neg (by omega)]
 ·rw[if_neg h,if_pos (by omega)]
theorem gr_on {m e p:Int}(h:m=0∨-p≤e)(he:-65536≤e∧e≤65536)(hp:-2048≤p∧p≤8192):mkM (flr (dv m e) p) (-p)=mkM m e∧mkX (flr (dv m e) p) (-p)=mkX m e∧mkE (flr (dv m e) p) (-p)=mkE m e:=by
 apply mk_eq _ (by omega) (by omega)
 symm
 rw[flr_dv]
 rcases h with h | h
 ·subst h;rw[dv_zero];split<;>simp [dv_zero]
 ·rw[if_pos (by omega),dv_at h];congr 3;omega
theorem flr_LD (m e p:Int):(L (flr (dv m e) p).natAbs:Int)≤L m.natAbs+(e+p).toNat / 32+1∧(L (cei (dv m e) p).natAbs:Int)≤L m.natAbs+(e+p).toNat / 32+1:=by
 have h1:=scl_L m (e+p)
 have h2:=scl_L (-m) (e+p)
 rw[← flr_scl] at h1 h2
 rw[Int.natAbs_neg] at h2
 unfold cei
 rw[Int.natAbs_neg,← dv_neg]
 exact⟨h1,h2⟩
def endB (m e:Int):Bool:=decide (topD m e≤2048) && onB m e 8192
def smB (m e n f:Int):Bool:=ivB m e n f && endB m e && endB n f
def ecE (m e n f a b:Int):Int:=if a=0∧b=0∧smB m e n f=true then 0 else 3
def enE (lo hi:Rat)(w:Int):Int :=
 if 0≤w∧w≤4096 then ecE (mkM (flr lo w) (-w)) (mkX (flr lo w) (-w)) (mkM (cei hi w) (-w)) (mkX (cei hi w) (-w)) (mkE (flr lo w) (-w)) (mkE (cei hi w) (-w)) else 1
def enM (lo hi:Rat)(w:Int):Int:=if enE lo hi w=0 then mkM (flr lo w) (-w) else 0
def enX (lo hi:Rat)(w:Int):Int:=if enE lo hi w=0 then mkX (flr lo w) (-w) else 0
def enN (lo hi:Rat)(w:Int):Int:=if enE lo hi w=0 then mkM (cei hi w) (-w) else 0
def enF (lo hi:Rat)(w:Int):Int:=if enE lo hi w=0 then mkX (cei hi w) (-w) else 0
theorem en_bad {lo hi:Rat}{w:Int}(h:w<0∨4096<w):enM lo hi w=0∧enX lo hi w=0∧enN lo hi w=0∧enF lo hi w=0∧enE lo hi w=1:=by
 have e:enE lo hi w=1:=by unfold enE;rw[if_neg (by omega)]
 refine⟨?_,?_,?_,?_,e⟩<;>(first | unfold enM | unfold enX | unfold enN | unfold enF)<;>rw[if_neg (by omega)]
theorem en_yes {lo hi:Rat}{w:Int}(hc:enE lo hi w=0):enM lo hi w=mkM (flr lo w) (-w)∧enX lo hi w=mkX (flr lo w) (-w)∧enN lo hi w=mkM (cei hi w) (-w)∧enF lo hi w=mkX (cei hi w) (-w):=by
 refine⟨?_,?_,?_,?_⟩<;>(first | unfold enM | unfold enX | unfold enN | unfold enF)<;>rw[if_pos hc]
theorem en_facts (lo hi:Rat)(w:Int):L (enM lo hi w).natAbs≤L (flr lo w).natAbs∧L (enN lo hi w).natAbs≤L (cei hi w).natAbs∧(-65536≤enX lo hi w∧enX lo hi w≤65536)∧(-65536≤enF lo hi w∧enF lo hi w≤65536)∧0≤enE lo hi w∧enE lo hi w≤3:=by
 have a:=mk_facts (flr lo w) (-w)
 have b:=mk_facts (cei hi w) (-w)
 have z:L (0:Int).natAbs=0:=L_zero
 refine⟨?_,?_,?_,?_,?_,?_⟩
 ·unfold enM;split<;>omega
 ·unfold enN;split<;>omega
 ·unfold enX;split<;>omega
 ·unfold enF;split<;>omega
 ·unfold enE ecE;split<;>(try split)<;>omega
 ·unfold enE ecE;split<;>(try split)<;>omega
def ecV (x m e n f a b:Int):Int:=if ecE m e n f a b=0 then x else 0
theorem W_ec0 {m e n f a b:Int}(h:¬ (a=0∧b=0∧smB m e n f=true)):vsub (.tup [.agg [.bool false,.nil,.int .i64 0,.bool false,.nil,.int .i64 0],.int .i64 3])
  (.tup [.agg [.bool (decide (ecV m m e n f a b<0)),N (ecV m m e n f a b).natAbs,.int .i64 (ecV e m e n f a b),.bool (decide (ecV n m e n f a b<0)),N (ecV n m e n f a b).natAbs,.int .i64 (ecV f m e n f a b)],.int .i64 (ecE m e n f a b)]):=by
 have e1:ecE m e n f a b=3:=by unfold ecE;rw[if_neg h]
 have e2:∀ x,ecV x m e n f a b=0:=fun x=>by unfold ecV;rw[if_neg (by omega)]
 rw[e2,e2,e2,e2,e1]
 exact vsub_w0 3
theorem W_ec1 {m e n f a b:Int}(h:a=0∧b=0∧smB m e n f=true):vsub (.tup [.agg [.bool (decide (m<0)),N m.natAbs,.int .i64 e,.bool (decide (n<0)),N n.natAbs,.int .i64 f],.int .i64 0])
  (.tup [.agg [.bool (decide (ecV m m e n f a b<0)),N (ecV m m e n f a b).natAbs,.int .i64 (ecV e m e n f a b),.bool (decide (ecV n m e n f a b<0)),N (ecV n m e n f a b).natAbs,.int .i64 (ecV f m e n f a b)],.int .i64 (ecE m e n f a b)]):=by
 have e1:ecE m e n f a b=0:=by unfold ecE;rw[if_pos h]
 have e2:∀ x,ecV x m e n f a b=x:=fun x=>by unfold ecV;rw[if_pos e1]
 rw[e2,e2,e2,e2,e1]
 exact vsub_refl _
theorem en_ec {lo hi:Rat}{w:Int}(h:0≤w∧w≤4096) :
  ecV (mkM (flr lo w) (-w)) (mkM (flr lo w) (-w)) (mkX (flr lo w) (-w)) (mkM (cei hi w) (-w)) (mkX (cei hi w) (-w)) (mkE (flr lo w) (-w)) (mkE (cei hi w) (-w))=enM lo hi w ∧
  ecV (mkX (flr lo w) (-w)) (mkM (flr lo w) (-w)) (mkX (flr lo w) (-w)) (mkM (cei hi w) (-w)) (mkX (cei hi w) (-w)) (mkE (flr lo w) (-w)) (mkE (cei hi w) (-w))=enX lo hi w ∧
  ecV (mkM (cei hi w) (-w)) (mkM (flr lo w) (-w)) (mkX (flr lo w) (-w)) (mkM (cei hi w) (-w)) (mkX (cei hi w) (-w)) (mkE (flr lo w) (-w)) (mkE (cei hi w) (-w))=enN lo hi w ∧
  ecV (mkX (cei hi w) (-w)) (mkM (flr lo w) (-w)) (mkX (flr lo w) (-w)) (mkM (cei hi w) (-w)) (mkX (cei hi w) (-w)) (mkE (flr lo w) (-w)) (mkE (cei hi w) (-w))=enF lo hi w ∧
  ecE (mkM (flr lo w) (-w)) (mkX (flr lo w) (-w)) (mkM (cei hi w) (-w)) (mkX (cei hi w) (-w)) (mkE (flr lo w) (-w)) (mkE (cei hi w) (-w))=enE lo hi w:=by
 have e:enE lo hi w=ecE (mkM (flr lo w) (-w)) (mkX (flr lo w) (-w)) (mkM (cei hi w) (-w)) (mkX (cei hi w) (-w)) (mkE (flr lo w) (-w)) (mkE (cei hi w) (-w)):=by unfold enE;rw[if_pos h]
 unfold enM enX enN enF
 rw[e]
 exact⟨rfl,rfl,rfl,rfl,rfl⟩
theorem dv_L {m e:Int}(hv:vdb m e=true)(he:-65536≤e∧e≤65536):L (dv m e).num.natAbs≤L m.natAbs+2050∧L (dv m e).den≤2050:=by
 by_cases h:0≤e
 ·have h1:=dv_pos_e (m:=m) h
  have h2:=L_abs_shl m e.toNat
  have h3:L 1≤1:=L_le (by decide)
  rw[h1.1,h1.2]
  omega
 ·have h1:=dv_neg_e hv (by omega)
  have h2:=L_two_pow (-e).toNat
  rw[h1.1,h1.2]
  omega
theorem ceil_no {m e p:Int}(h:mkE (flr (dv (-m) e) p) (-p)≠0):mkM (cei (dv m e) p) (-p)=0∧mkX (cei (dv m e) p) (-p)=0∧mkE (cei (dv m e) p) (-p)=mkE (flr (dv (-m) e) p) (-p):=by
 rw[dv_neg] at h ⊢
 unfold cei
 have a:=mk_opp (flr (-dv m e) p) (-p)
 have b:=mk_no h
 rw[a.1,a.2.1,a.2.2,b.1,b.2]
 exact⟨rfl,rfl,rfl⟩
theorem ceil_yes {m e p:Int}(h:mkE (flr (dv (-m) e) p) (-p)=0):mkM (cei (dv m e) p) (-p)=-mkM (flr (dv (-m) e) p) (-p)∧mkX (cei (dv m e) p) (-p)=mkX (flr (dv (-m) e) p) (-p)∧mkE (cei (dv m e) p) (-p)=0:=by
 rw[dv_neg] at h ⊢
 unfold cei
 have a:=mk_opp (flr (-dv m e) p) (-p)
 rw[a.1,a.2.1,a.2.2,h]
 exact⟨rfl,rfl,rfl⟩
theorem endB_1 {m e:Int}(h:m=0∨topD m e≤2048):decide (((-2048:Int)≤8192∧(8192:Int)≤8192)∧(m=0∨-8192≤e))=endB m e:=by
 have:topD m e≤2048:=by
  rcases h with h | h
  ·rcases topD_range m e with q | q<;>omega
  ·exact h
 unfold endB onB;rw[decide_eq_true this];rfl
theorem endB_2 {m e:Int}(h:2048<topD m e):false=endB m e:=by
 unfold endB;rw[decide_eq_false (by omega)];rfl
theorem smB_1 {m e n f:Int}(h:ivB m e n f=true)(h2:endB m e=true):endB n f=smB m e n f:=by unfold smB;rw[h,h2];rfl
theorem smB_2 {m e n f:Int}(h:ivB m e n f=false):false=smB m e n f:=by unfold smB;rw[h];rfl
theorem smB_3 {m e n f:Int}(h:ivB m e n f=true)(h2:endB m e=false):false=smB m e n f:=by unfold smB;rw[h,h2];rfl
theorem work_1 {w:Int}(h:0≤w):iLe w 4096=decide (0≤w∧w≤4096):=by unfold iLe;by_cases q:w≤4096<;>simp [q,h]
theorem work_2 {w:Int}(h:w<0):false=decide (0≤w∧w≤4096):=(decide_eq_false (by omega)).symm
theorem not_smB {m e n f a b:Int}(h:(!smB m e n f)=true):¬ (a=0∧b=0∧smB m e n f=true):=fun q=>by rw[q.2.2] at h;cases h
theorem is_smB {m e n f a b:Int}(ha:a=0)(hb:b=0)(h:(!smB m e n f)=false):a=0∧b=0∧smB m e n f=true:=⟨ha,hb,notb_f h⟩
def qmin (a b:Rat):Rat:=if b<a then b else a
def qmax (a b:Rat):Rat:=if a<b then b else a
abbrev enV (lo hi:Rat)(w:Int):V:=.tup [.agg [.bool (decide (enM lo hi w<0)),N (enM lo hi w).natAbs,.int .i64 (enX lo hi w),.bool (decide (enN lo hi w<0)),N (enN lo hi w).natAbs,.int .i64 (enF lo hi w)],.int .i64 (enE lo hi w)]
theorem en_vbad {lo hi:Rat}{w:Int}(h:w<0∨4096<w):vsub (.tup [.agg [.bool false,.nil,.int .i64 0,.bool false,.nil,.int .i64 0],.int .i64 1]) (enV lo hi w):=by
 obtain⟨a,b,c,d,e⟩:=en_bad (lo:=lo) (hi:=hi) h
 unfold enV
 rw[a,b,c,d,e];exact vsub_w0 1
abbrev ecT (m e n f a b:Int):V:=.tup [.agg [.bool (decide (ecV m m e n f a b<0)),N (ecV m m e n f a b).natAbs,.int .i64 (ecV e m e n f a b),.bool (decide (ecV n m e n f a b<0)),N (ecV n m e n f a b).natAbs,.int .i64 (ecV f m e n f a b)],.int .i64 (ecE m e n f a b)]
theorem en_vec {x y x' y':Rat}{w:Int}(h1:x=x')(h2:y=y')(h:0≤w∧w≤4096) :
  vsub (ecT (mkM (flr x w) (-w)) (mkX (flr x w) (-w)) (mkM (cei y w) (-w)) (mkX (cei y w) (-w)) (mkE (flr x w) (-w)) (mkE (cei y w) (-w))) (enV x' y' w):=by
 subst h1;subst h2
 obtain⟨a,b,c,d,e⟩:=en_ec (lo:=x) (hi:=y) h
 unfold ecT enV
 rw[a,b,c,d,e];exact vsub_refl _
end Go.Proofs.YtkkbddkpggjgpaaGreatDoor

namespace Go.Proofs.YtkkbddkpggjgpaaGreatDoor
open Go.RowKit
set_option maxRecDepth 100000
def r04_Gcd_0_mk (_ _:Nat)(x:Nat × Nat):St:=⟨mkS 21 [(0,(.val (N x.1))),(1,(.val (N x.2)))],[]⟩
def r04_Gcd_0_I (a b:Nat)(x:Nat × Nat):Prop:=Nat.gcd x.1 x.2=Nat.gcd a b∧L x.1≤16777216∧L x.2≤16777216
def r04_Gcd_0_mu (_ _:Nat)(x:Nat × Nat):Nat:=x.2
def r04_Gcd_0_ex (_ _:Nat)(y:Nat):Ex × St:=(.exit 0,⟨mkS 21 [(0,(.val (N y)))],[]⟩)
def r04_Gcd_0_J (a b:Nat)(y:Nat):Prop:=y=Nat.gcd a b
abbrev r04_Gcd_0_N (a b:Nat):=NX (r04_Gcd_0_mk a b) (r04_Gcd_0_I a b) (r04_Gcd_0_mu a b) (r04_Gcd_0_ex a b) (r04_Gcd_0_J a b)
theorem r04_Gcd_0 (a b:Nat)(c0:L a≤16777216)(c1:L b≤16777216)(x0:Nat × Nat)(hI:r04_Gcd_0_I a b x0):LoopOk Tryz.prog Amb (loopN Tryz.f197 0) (r04_Gcd_0_mk a b x0) (fun e st_=>∃ y,r04_Gcd_0_J a b y∧r04_Gcd_0_ex a b y=(e,st_)) :=
 loop_ob hP hAmb ⟨[0,1],0,[]⟩ (r04_Gcd_0_mk a b) (r04_Gcd_0_I a b) (r04_Gcd_0_mu a b) (r04_Gcd_0_ex a b) (r04_Gcd_0_J a b) x0 hI (fun (x,y)=>.lit<|.both (.lit<|.call (.tup [(N (x / y)),(N (x%y)),(.bool true)])<|.fin2 ⟨[0,1],0,[]⟩) (.fin2 ⟨[0],0,[]⟩)) (by
  rintro ⟨x,y⟩ hI
  have hI:Nat.gcd x y=Nat.gcd a b∧L x≤16777216∧L y≤16777216:=hI
  obtain⟨h1,h2,h3⟩:=hI
  have m0:=L_mod x y
  have m1:=L_len y
  have m2:=L_pos_iff y
  have m3:=fun q=>Nat.mod_lt x (show 0<y from q)
  exact cast_ob (aI True.intro (aI (fun (h101:(iGt ((lim y).length:Int) 0)=true)=>have _gh101:=iGt_t h101;aI (r03_DivMod x y oO oO oO) (have f103:=L_mod x y;have f102:=L_div x y;aI tT ((nx_next (y,(x%y)) (show Nat.gcd y (x%y)=Nat.gcd a b∧L y≤16777216∧L (x%y)≤16777216 from ⟨(gcd_step x y).trans h1,h3,by omega⟩) (m3 oO):r04_Gcd_0_N a b (x,y) .normal (r04_Gcd_0_mk a b (y,(x%y))))))) (fun (h104:(iGt ((lim y).length:Int) 0)=false)=>have _gh104:=iGt_f h104;aI tT ((nx_exit 0 ((r04_Gcd_0_ex a b x).2) x (show x=Nat.gcd a b from gcd_last h1 oO) rfl:r04_Gcd_0_N a b (x,y) (.exit 0) ((r04_Gcd_0_ex a b x).2)))))) (by kernel_rfl))
theorem r04_Gcd (a:Nat)(b:Nat)(c0:L a≤16777216)(c1:L b≤16777216):Impl Tryz.prog Amb 197 [(N a),(N b)] (N (Nat.gcd a b)):=by
 exact impl_ob hP hAmb Tryz.func197 (by kernel_rfl) (.loop ⟨[0,1],0,[]⟩ ((r04_Gcd_0_mk a b (a,b))) (Nat) (r04_Gcd_0_ex a b) (r04_Gcd_0_J a b) (fun y=>.lit<|.ret))
  (cast_ob (aI True.intro (aI tT (aI (rfl:(r04_Gcd_0_mk a b (a,b))=(r04_Gcd_0_mk a b (a,b))) (aI (r04_Gcd_0 a b c0 c1 (a,b) (show Nat.gcd a (b)=Nat.gcd a b∧L a≤16777216∧L (b)≤16777216 from ⟨rfl,c0,c1⟩)) (fun y (hJ:r04_Gcd_0_J a b y)=>have hJ:y=Nat.gcd a b:=hJ;(vsub_of (congrArg N hJ):vsub (N y) (N (Nat.gcd a b)))))))) (by kernel_rfl))
theorem r03_Div (a:Nat)(b:Nat)(c0:L a≤16777216)(c1:L b≤16777216)(c2:0<b):Impl Tryz.prog Amb 198 [(N a),(N b)] (N (a / b)):=by
 exact impl_ob hP hAmb Tryz.func198 (by kernel_rfl) (.lit<|.call (.tup [(N (a / b)),(N (a%b)),(.bool true)])<|.lit<|.ret)
  (cast_ob (aI True.intro (aI (r03_DivMod a b oA oA oA) (have f2:=L_mod a b;have f1:=L_div a b;(vsub_refl (N (a / b)))))) (by kernel_rfl))
theorem r04_Lowest (a:Nat)(b:Nat)(c0:L a≤16777216)(c1:L b≤16777216)(c2:0<b):Impl Tryz.prog Amb 149 [(N a),(N b)] (.tup [(N (a / (Nat.gcd a b))),(N (b / (Nat.gcd a b))),(.bool true)]):=by
 have e1:=L_len b
 have e2:=L_pos_iff b
 have e3:=Nat.gcd_pos_of_pos_right a (show 0<b from c2)
 have e4:=L_mono (Nat.gcd_le_right a (show 0<b from c2))
 exact impl_ob hP hAmb Tryz.func149 (by kernel_rfl) (.lit<|.no<|.lit<|.call (N (Nat.gcd a b))<|.lit<|.call (N (a / (Nat.gcd a b)))<|.lit<|.call (N (b / (Nat.gcd a b)))<|.lit<|.ret)
  (cast_ob (aI True.intro (aI (iEq_mkF oO:(iEq ((lim b).length:Int) 0)=false) (aI (r04_Gcd a b oA oA) (aI (r03_Div a (Nat.gcd a b) oA oA oA) (have f2:=L_div a (Nat.gcd a b);aI (r03_Div b (Nat.gcd a b) oA oA oA) (have f1:=L_div b (Nat.gcd a b);(vsub_refl (.tup [(N (a / (Nat.gcd a b))),(N (b / (Nat.gcd a b))),(.bool true)])))))))) (by kernel_rfl))
theorem r07_Make (n d:Int)(c0:L (n).natAbs≤4000000)(c1:L (d).natAbs≤4000000)(c2:d≠0):Impl Tryz.prog Amb 81 [(zV n),(zV d)] (.tup [(.agg [(.bool (decide ((Rat.divInt n d).num<0))),(N (((Rat.divInt n d).num).natAbs)),(N ((Rat.divInt n d).den))]),(.int .i64 0)]):=by
 have qm:=q_make (n:=n) c2
 exact impl_ob hP hAmb Tryz.func81 (by kernel_rfl) (.lits 3<|.call (.tup [(N (n.natAbs / (Nat.gcd n.natAbs d.natAbs))),(N (d.natAbs / (Nat.gcd n.natAbs d.natAbs))),(.bool true)])<|.lits 6<|.call (zV (sgn (!(bEq (decide (n<0)) (decide (d<0)))) (n.natAbs / (Nat.gcd n.natAbs d.natAbs))))<|.lits 3<|.ret)
  (cast_ob (aI True.intro (aI (r04_Lowest n.natAbs d.natAbs oA oA oA) (have f3:=L_div d.natAbs (Nat.gcd n.natAbs d.natAbs);have f2:=L_div n.natAbs (Nat.gcd n.natAbs d.natAbs);aI (r05_Nat (!(bEq (decide (n<0)) (decide (d<0)))) (n.natAbs / (Nat.gcd n.natAbs d.natAbs)) oA) (have f1:=L_sgn (!(bEq (decide (n<0)) (decide (d<0)))) (n.natAbs / (Nat.gcd n.natAbs d.natAbs));(by rw[qm.1,qm.2];exact vsub_refl _:vsub (.tup [(.agg [(.bool (decide ((sgn (!(bEq (decide (n<0)) (decide (d<0)))) (n.natAbs / (Nat.gcd n.natAbs d.natAbs)))<0))),(N ((sgn (!(bEq (decide (n<0)) (decide (d<0)))) (n.natAbs / (Nat.gcd n.natAbs d.natAbs))).natAbs)),(N (d.natAbs / (Nat.gcd n.natAbs d.natAbs)))]),(.int .i64 0)]) (.tup [(.agg [(.bool (decide ((Rat.divInt n d).num<0))),(N (((Rat.divInt n d).num).natAbs)),(N ((Rat.divInt n d).den))]),(.int .i64 0)])))))) (by kernel_rfl))
theorem r07_of (n d:Int)(c0:L (n).natAbs≤4000000)(c1:L (d).natAbs≤4000000)(c2:d≠0):Impl Tryz.prog Amb 84 [(zV n),(zV d)] (.agg [(.bool (decide ((Rat.divInt n d).num<0))),(N (((Rat.divInt n d).num).natAbs)),(N ((Rat.divInt n d).den))]):=by
 exact impl_ob hP hAmb Tryz.func84 (by kernel_rfl) (.lits 3<|.call (.tup [(.agg [(.bool (decide ((Rat.divInt n d).num<0))),(N (((Rat.divInt n d).num).natAbs)),(N ((Rat.divInt n d).den))]),(.int .i64 0)])<|.lits 4<|.ret)
  (cast_ob (aI True.intro (aI (r07_Make n d oA oA oA) (have f1:=q_L (n:=n) (show d≠0 by first | assumption | omega | decide);(vsub_refl (.agg [(.bool (decide ((Rat.divInt n d).num<0))),(N (((Rat.divInt n d).num).natAbs)),(N ((Rat.divInt n d).den))]))))) (by kernel_rfl))
theorem r07_den (r:Rat)(c0:L r.num.natAbs≤1000000)(c1:L r.den≤1000000):Impl Tryz.prog Amb 83 [(.agg [(.bool (decide (r.num<0))),(N r.num.natAbs),(N r.den)])] (zV (r.den:Int)):=by
 exact impl_ob hP hAmb Tryz.func83 (by kernel_rfl) (.lits 2<|.call (zV (sgn false r.den))<|.lits 2<|.ret)
  (cast_ob (aI True.intro (aI (r05_Nat false r.den oA) (have f1:=L_sgn false r.den;(Z_of (sgn_f _):vsub (zV (sgn false r.den)) (zV (r.den:Int)))))) (by kernel_rfl))
theorem r07_Of (n:Int)(c0:(-9223372036854775808:Int)≤n∧n≤9223372036854775807):Impl Tryz.prog Amb 29 [(.int .i64 n)] (.agg [(.bool (decide ((Int.cast n:Rat).num<0))),(N (((Int.cast n:Rat).num).natAbs)),(N ((Int.cast n:Rat).den))]):=by
 exact impl_ob hP hAmb Tryz.func29 (by kernel_rfl) (.lit<|.call (zV n)<|.lit<|.call (zV (1:Int))<|.lit<|.call (.agg [(.bool (decide ((Rat.divInt n (1:Int)).num<0))),(N (((Rat.divInt n (1:Int)).num).natAbs)),(N ((Rat.divInt n (1:Int)).den))])<|.lits 2<|.ret)
  (cast_ob (aI True.intro (aI (r05_Of n oA) (have f3:=(L_i64 oA:L (n:Int).natAbs≤2);aI (r05_Of 1 oA) (have f2:=(L_i64 oA:L (1:Int).natAbs≤2);aI (r07_of n (1:Int) oA oA oA) (have f1:=q_L (n:=n) (show (1:Int)≠0 by first | assumption | omega | decide);(by rw[q_int];exact vsub_refl _:vsub (.agg [(.bool (decide ((Rat.divInt n (1:Int)).num<0))),(N (((Rat.divInt n (1:Int)).num).natAbs)),(N ((Rat.divInt n (1:Int)).den))]) (.agg [(.bool (decide ((Int.cast n:Rat).num<0))),(N (((Int.cast n:Rat).num).natAbs)),(N ((Int.cast n:Rat).den))]))))))) (by kernel_rfl))
theorem r07_Cmp (r:Rat)(s:Rat)(c0:L r.num.natAbs≤1000000)(c1:L r.den≤1000000)(c2:L s.num.natAbs≤1000000)(c3:L s.den≤1000000):Impl Tryz.prog Amb 102 [(.agg [(.bool (decide (r.num<0))),(N r.num.natAbs),(N r.den)]),(.agg [(.bool (decide (s.num<0))),(N s.num.natAbs),(N s.den)])] (.int .i64 (cmpQ r s)):=by
 exact impl_ob hP hAmb Tryz.func102 (by kernel_rfl) (.lits 3<|.call (zV (s.den:Int))<|.lit<|.call (zV (r.num*(s.den:Int)))<|.lits 3<|.call (zV (r.den:Int))<|.lit<|.call (zV (s.num*(r.den:Int)))<|.lit<|.call (.int .i64 (cmpI (r.num*(s.den:Int)) (s.num*(r.den:Int))))<|.lit<|.ret)
  (cast_ob (aI True.intro (aI (r07_den s oA oA) (have f7:=den_ne s;have f6:=L_den s;aI (r05_Mul r.num (s.den:Int) oA oA) (have f5:=L_abs_mul r.num (s.den:Int);aI (r07_den r oA oA) (have f4:=den_ne r;have f3:=L_den r;aI (r05_Mul s.num (r.den:Int) oA oA) (have f2:=L_abs_mul s.num (r.den:Int);aI (r05_Cmp (r.num*(s.den:Int)) (s.num*(r.den:Int)) oA oA) (have f1:=cmpI_range (r.num*(s.den:Int)) (s.num*(r.den:Int));(vsub_of (congrArg (V.int .i64) (q_cmp r s)):vsub (.int .i64 (cmpI (r.num*(s.den:Int)) (s.num*(r.den:Int)))) (.int .i64 (cmpQ r s)))))))))) (by kernel_rfl))
theorem r08_one (n:Int)(c0:(0:Int)≤n∧n≤200000):Impl Tryz.prog Amb 166 [(.int .i64 n)] (N (1*2^(n).toNat)):=by
 have l1:=L_le (n:=1) (k:=1) (by decide)
 exact impl_ob hP hAmb Tryz.func166 (by kernel_rfl) (.lit<|.call (N 1)<|.lit<|.call (N (1*2^(n).toNat))<|.lit<|.ret)
  (cast_ob (aI True.intro (aI (r01_Of 1 oA) (aI (r01_Shl 1 n oA oA) (have f1:=L_shl 1 (n).toNat;(vsub_refl (N (1*2^(n).toNat))))))) (by kernel_rfl))
theorem r08_Rat (m e:Int)(c0:L (m).natAbs≤100000)(c1:(-65536:Int)≤e∧e≤65536)(c2:vdb m e=true):Impl Tryz.prog Amb 103 [(yV m e)] (.agg [(.bool (decide ((dv m e).num<0))),(N (((dv m e).num).natAbs)),(N ((dv m e).den))]):=by
 exact impl_ob hP hAmb Tryz.func103 (by kernel_rfl) (.lits 2<|.both (.lits 3<|.call (zV (m*2^(e).toNat))<|.lit<|.call (N 1)<|.lits 3<|.ret) (.lits 3<|.yes<|.lit<|.call (N (1*2^(((0:Int)-e)).toNat))<|.lits 3<|.ret))
  (cast_ob (aI True.intro (aI (fun (h1:(iGe e 0)=true)=>have _gh1:=iGe_t h1;aI (r05_Shl m e oA oA) (have f2:=L_abs_shl m (e).toNat;aI (r01_Of 1 oA) ((by rw[(dv_pos_e (show 0≤e by omega)).1,(dv_pos_e (m:=m) (show 0≤e by omega)).2];exact vsub_refl _:vsub (.agg [(.bool (decide ((m*2^(e).toNat)<0))),(N ((m*2^(e).toNat).natAbs)),(N 1)]) (.agg [(.bool (decide ((dv m e).num<0))),(N (((dv m e).num).natAbs)),(N ((dv m e).den))]))))) (fun (h3:(iGe e 0)=false)=>have _gh3:=iGe_f h3;aI (fits_i64 oA:(fits .i64 ((0:Int)-e))=true) (aI (r08_one ((0:Int)-e) oA) (have f4:=L_shl 1 (((0:Int)-e)).toNat;(by rw[(dv_neg_e c2 (show e<0 by omega)).1,(dv_neg_e c2 (show e<0 by omega)).2,show (0-e)=-e by omega,Nat.one_mul];exact vsub_refl _:vsub (.agg [(.bool (decide (m<0))),(N m.natAbs),(N (1*2^(((0:Int)-e)).toNat))]) (.agg [(.bool (decide ((dv m e).num<0))),(N (((dv m e).num).natAbs)),(N ((dv m e).den))]))))))) (by kernel_rfl))
end Go.Proofs.YtkkbddkpggjgpaaGreatDoor

namespace Go.Proofs.YtkkbddkpggjgpaaGreatDoor
open Go.RowKit
set_option maxRecDepth 100000
theorem gr_scale (x n:Int)(c0:L (x).natAbs≤100000)(c1:(-200000:Int)≤n∧n≤200000):Impl Tryz.prog Amb 205 [(zV x),(.int .i64 n)] (zV (scl x n)):=by
 exact impl_ob hP hAmb Tryz.func205 (by kernel_rfl) (.lit<|.both (.lits 2<|.yes<|.lit<|.call (zV (x / 2^(((0:Int)-n)).toNat))<|.lits 2<|.ret) (.lits 2<|.call (zV (x*2^(n).toNat))<|.lits 2<|.ret))
  (cast_ob (aI True.intro (aI (fun (h1:(iLt n 0)=true)=>have _gh1:=iLt_t h1;aI (fits_i64 oA:(fits .i64 ((0:Int)-n))=true) (aI (int_Shr x ((0:Int)-n) oA oA) (have f2:=L_abs_shr x (((0:Int)-n)).toNat;(Z_of (by unfold scl;rw[if_pos oO,show (0:Int)-n=-n by omega]):vsub (zV (x / 2^(((0:Int)-n)).toNat)) (zV (scl x n)))))) (fun (h3:(iLt n 0)=false)=>have _gh3:=iLt_f h3;aI (int_Shl x n oA oA) (have f4:=L_abs_shl x (n).toNat;(Z_of (by unfold scl;rw[if_neg oO]):vsub (zV (x*2^(n).toNat)) (zV (scl x n))))))) (by kernel_rfl))
theorem gr_Floor_1 (m e p:Int)(c0:L (m).natAbs≤20000)(c1:(-65536:Int)≤e∧e≤65536)(c2:(-2048:Int)≤p∧p≤8192):Impl Tryz.prog Amb 204 [(.pt [(V.bool (decide (m<0))),(N m.natAbs),(V.int .i64 e)] 0),(.pt [(V.int .i64 p)] 0)] (zV (scl m (e+p))):=by
 exact impl_ob hP hAmb Tryz.func204 (by kernel_rfl) (.lits 4<|.yes<|.lit<|.call (zV (scl m (e+p)))<|.lits 2<|.ret)
  (cast_ob (aI True.intro (aI (fits_i64 oA:(fits .i64 (e+p))=true) (aI (gr_scale m (e+p) oA oA) (have f1:=scl_L m (e+p);(vsub_refl (zV (scl m (e+p)))))))) (by kernel_rfl))
theorem gr_round_F (m e p:Int)(c0:L (m).natAbs≤20000)(c1:(-65536:Int)≤e∧e≤65536)(c2:(-2048:Int)≤p∧p≤8192):Impl Tryz.prog Amb 151 [(.int .i64 p),(.clos 204 [(.pt [(V.bool (decide (m<0))),(N m.natAbs),(V.int .i64 e)] 0),(.pt [(V.int .i64 p)] 0)])] (.tup [(yV (mkM (scl m (e+p)) (-p)) (mkX (scl m (e+p)) (-p))),(.int .i64 (mkE (scl m (e+p)) (-p)))]):=by
 have ez:(0:Int)-p=-p:=Int.zero_sub p
 exact impl_ob hP hAmb Tryz.func151 (by kernel_rfl) (.lit<|.call (.bool (decide ((-2048:Int)≤p∧p≤8192)))<|.lit<|.no<|.lit<|.call (zV (scl m (e+p)))<|.lit<|.yes<|.lit<|.call (.tup [(yV (mkM (scl m (e+p)) ((0:Int)-p)) (mkX (scl m (e+p)) ((0:Int)-p))),(.int .i64 (mkE (scl m (e+p)) ((0:Int)-p)))])<|.lits 2<|.ret)
  (cast_ob (aI True.intro (aI (gr_permitted p oA) (aI (perm_no oO:(!(decide ((-2048:Int)≤p∧p≤8192)))=false) (aI (gr_Floor_1 m e p oA oA oA) (have f2:=scl_L m (e+p);aI (fits_i64 oA:(fits .i64 ((0:Int)-p))=true) (aI (dy_Make (scl m (e+p)) ((0:Int)-p) oA oA) (have f1:=mk_facts (scl m (e+p)) ((0:Int)-p);(by rw[ez];exact vsub_refl _:vsub (.tup [(yV (mkM (scl m (e+p)) ((0:Int)-p)) (mkX (scl m (e+p)) ((0:Int)-p))),(.int .i64 (mkE (scl m (e+p)) ((0:Int)-p)))]) (.tup [(yV (mkM (scl m (e+p)) (-p)) (mkX (scl m (e+p)) (-p))),(.int .i64 (mkE (scl m (e+p)) (-p)))]))))))))) (by kernel_rfl))
theorem gr_Floor (m e p:Int)(c0:L (m).natAbs≤20000)(c1:(-65536:Int)≤e∧e≤65536)(c2:(-2048:Int)≤p∧p≤8192):Impl Tryz.prog Amb 157 [(yV m e),(.int .i64 p)] (.tup [(yV (mkM (flr (dv m e) p) (-p)) (mkX (flr (dv m e) p) (-p))),(.int .i64 (mkE (flr (dv m e) p) (-p)))]):=by
 exact impl_ob hP hAmb Tryz.func157 (by kernel_rfl) (.lits 3<|.call (.bool (decide (((-2048:Int)≤p∧p≤8192)∧(m=0∨-p≤e))))<|.both (.lits 3<|.call (.tup [(yV (mkM m e) (mkX m e)),(.int .i64 (mkE m e))])<|.lits 2<|.ret) (.lits 2<|.call (.tup [(yV (mkM (scl m (e+p)) (-p)) (mkX (scl m (e+p)) (-p))),(.int .i64 (mkE (scl m (e+p)) (-p)))])<|.lits 2<|.ret))
  (cast_ob (aI True.intro (aI (gr_On m e p oA oA) (aI (fun (h1:(decide (((-2048:Int)≤p∧p≤8192)∧(m=0∨-p≤e)))=true)=>have _gh1:=of_decide_eq_true h1;aI (dy_Make m e oA oA) (have f2:=mk_facts m e;(Y_of (gr_on (m:=m) oO c1 c2):vsub (.tup [(yV (mkM m e) (mkX m e)),(.int .i64 (mkE m e))]) (.tup [(yV (mkM (flr (dv m e) p) (-p)) (mkX (flr (dv m e) p) (-p))),(.int .i64 (mkE (flr (dv m e) p) (-p)))])))) (fun (h3:(decide (((-2048:Int)≤p∧p≤8192)∧(m=0∨-p≤e)))=false)=>have _gh3:=of_decide_eq_false h3;aI (gr_round_F m e p oA oA oA) (have f5:=scl_L m (e+p);have f4:=mk_facts (scl m (e+p)) (-p);(by rw[flr_scl];exact vsub_refl _:vsub (.tup [(yV (mkM (scl m (e+p)) (-p)) (mkX (scl m (e+p)) (-p))),(.int .i64 (mkE (scl m (e+p)) (-p)))]) (.tup [(yV (mkM (flr (dv m e) p) (-p)) (mkX (flr (dv m e) p) (-p))),(.int .i64 (mkE (flr (dv m e) p) (-p)))]))))))) (by kernel_rfl))
theorem gr_Ceil (m e p:Int)(c0:L (m).natAbs≤20000)(c1:(-65536:Int)≤e∧e≤65536)(c2:(-2048:Int)≤p∧p≤8192):Impl Tryz.prog Amb 158 [(yV m e),(.int .i64 p)] (.tup [(yV (mkM (cei (dv m e) p) (-p)) (mkX (cei (dv m e) p) (-p))),(.int .i64 (mkE (cei (dv m e) p) (-p)))]):=by
 exact impl_ob hP hAmb Tryz.func158 (by kernel_rfl) (.lits 2<|.call (yV (-m) e)<|.lit<|.call (.tup [(yV (mkM (flr (dv (-m) e) p) (-p)) (mkX (flr (dv (-m) e) p) (-p))),(.int .i64 (mkE (flr (dv (-m) e) p) (-p)))])<|.lits 2<|.both (.lits 3<|.ret) (.lits 2<|.call (yV (-(mkM (flr (dv (-m) e) p) (-p))) (mkX (flr (dv (-m) e) p) (-p)))<|.lits 2<|.ret))
  (cast_ob (aI True.intro (aI (dy_Neg m e oA) (have f7:=L_abs_neg m;aI (gr_Floor (-m) e p oA oA oA) (have f6:=mk_facts (cei (dv (-m) e) p) (-p);have f5:=mk_facts (flr (dv (-m) e) p) (-p);have f4:=flr_LD (-m) e p;aI (fun (h1:(iNe (mkE (flr (dv (-m) e) p) (-p)) 0)=true)=>have _gh1:=iNe_t h1;(Y_zero (ceil_no oO):vsub (.tup [(.agg [(.bool false),.nil,(.int .i64 0)]),(.int .i64 (mkE (flr (dv (-m) e) p) (-p)))]) (.tup [(yV (mkM (cei (dv m e) p) (-p)) (mkX (cei (dv m e) p) (-p))),(.int .i64 (mkE (cei (dv m e) p) (-p)))]))) (fun (h2:(iNe (mkE (flr (dv (-m) e) p) (-p)) 0)=false)=>have _gh2:=iNe_f h2;aI (dy_Neg (mkM (flr (dv (-m) e) p) (-p)) (mkX (flr (dv (-m) e) p) (-p)) oA) (have f3:=L_abs_neg (mkM (flr (dv (-m) e) p) (-p));(Y_of (ceil_yes oO):vsub (.tup [(yV (-(mkM (flr (dv (-m) e) p) (-p))) (mkX (flr (dv (-m) e) p) (-p))),(.int .i64 0)]) (.tup [(yV (mkM (cei (dv m e) p) (-p)) (mkX (cei (dv m e) p) (-p))),(.int .i64 (mkE (cei (dv m e) p) (-p)))])))))))) (by kernel_rfl))
end Go.Proofs.YtkkbddkpggjgpaaGreatDoor

namespace Go.Proofs.YtkkbddkpggjgpaaGreatDoor
open Go.RowKit
set_option maxRecDepth 100000
theorem ar_end (m e:Int)(c0:L (m).natAbs≤8192)(c1:(-65536:Int)≤e∧e≤65536):Impl Tryz.prog Amb 202 [(yV m e)] (.bool (endB m e)):=by
 have s0:=sign_range m
 have t0:=topD_range m e
 exact impl_ob hP hAmb Tryz.func202 (by kernel_rfl) (.lits 2<|.call (.int .i64 ((m).sign))<|.lit<|.both (.lits 7<|.call (.bool (decide (((-2048:Int)≤(8192:Int)∧(8192:Int)≤8192)∧(m=0∨-8192≤e))))<|.lits 2<|.ret) (.lits 3<|.call (.int .i64 (topD m e))<|.lits 3<|.both (.lits 3<|.call (.bool (decide (((-2048:Int)≤(8192:Int)∧(8192:Int)≤8192)∧(m=0∨-8192≤e))))<|.lits 2<|.ret) (.lits 3<|.ret)))
  (cast_ob (aI True.intro (aI (dy_Sign m e oA) (have f6:=sign_range m;aI (fun (h1:(iEq ((m).sign) 0)=true)=>have _gh1:=iEq_t h1;aI (gr_On m e 8192 oA oA) ((vsub_of (congrArg V.bool (endB_1 oO)):vsub (.bool (decide (((-2048:Int)≤(8192:Int)∧(8192:Int)≤8192)∧(m=0∨-8192≤e)))) (.bool (endB m e))))) (fun (h2:(iEq ((m).sign) 0)=false)=>have _gh2:=iEq_f h2;aI (dy_Top m e oA oA) (have f5:=topD_range m e;aI (fun (h3:(iLe (topD m e) 2048)=true)=>have _gh3:=iLe_t h3;aI (gr_On m e 8192 oA oA) ((vsub_of (congrArg V.bool (endB_1 oO)):vsub (.bool (decide (((-2048:Int)≤(8192:Int)∧(8192:Int)≤8192)∧(m=0∨-8192≤e)))) (.bool (endB m e))))) (fun (h4:(iLe (topD m e) 2048)=false)=>have _gh4:=iLe_f h4;(vsub_of (congrArg V.bool ((endB_2 oO))):vsub (.bool false) (.bool (endB m e))))))))) (by kernel_rfl))
theorem ar_Small (m e n f:Int)(c0:L (m).natAbs≤8192)(c1:(-65536:Int)≤e∧e≤65536)(c2:L (n).natAbs≤8192)(c3:(-65536:Int)≤f∧f≤65536):Impl Tryz.prog Amb 156 [(wV m e n f)] (.bool (smB m e n f)):=by
 exact impl_ob hP hAmb Tryz.func156 (by kernel_rfl) (.lits 2<|.call (.bool (ivB m e n f))<|.both (.lits 4<|.call (.bool (endB m e))<|.lit<|.both (.lits 4<|.call (.bool (endB n f))<|.lits 2<|.ret) (.lits 4<|.ret)) (.lits 8<|.ret))
  (cast_ob (aI True.intro (aI (iv_Valid m e n f oA oA) (aI (fun (h1:(ivB m e n f)=true)=>aI (ar_end m e oA oA) (aI (fun (h2:(endB m e)=true)=>aI (ar_end n f oA oA) ((vsub_of (congrArg V.bool (by first | exact smB_1 (by assumption) (by assumption) | exact smB_2 (by assumption) | exact smB_3 (by assumption) (by assumption))):vsub (.bool (endB n f)) (.bool (smB m e n f))))) (fun (h3:(endB m e)=false)=>(vsub_of (congrArg V.bool (by first | exact smB_1 (by assumption) (by assumption) | exact smB_2 (by assumption) | exact smB_3 (by assumption) (by assumption))):vsub (.bool false) (.bool (smB m e n f)))))) (fun (h4:(ivB m e n f)=false)=>(vsub_of (congrArg V.bool (by first | exact smB_1 (by assumption) (by assumption) | exact smB_2 (by assumption) | exact smB_3 (by assumption) (by assumption))):vsub (.bool false) (.bool (smB m e n f))))))) (by kernel_rfl))
theorem ar_works (w:Int)(c0:(-9223372036854775808:Int)≤w∧w≤9223372036854775807):Impl Tryz.prog Amb 85 [(.int .i64 w)] (.bool (decide (0≤w∧w≤4096))):=by
 exact impl_ob hP hAmb Tryz.func85 (by kernel_rfl) (.lit<|.both (.lits 4<|.ret) (.lits 3<|.ret))
  (cast_ob (aI True.intro (aI (fun (h1:(iGe w 0)=true)=>have _gh1:=iGe_t h1;(vsub_of (congrArg V.bool (by first | exact work_1 oO | exact work_2 oO)):vsub (.bool (iLe w 4096)) (.bool (decide (0≤w∧w≤4096))))) (fun (h2:(iGe w 0)=false)=>have _gh2:=iGe_f h2;(vsub_of (congrArg V.bool (by first | exact work_1 oO | exact work_2 oO)):vsub (.bool false) (.bool (decide (0≤w∧w≤4096))))))) (by kernel_rfl))
theorem ar_enclose (m e n f a b:Int)(c0:L (m).natAbs≤8192)(c1:(-65536:Int)≤e∧e≤65536)(c2:L (n).natAbs≤8192)(c3:(-65536:Int)≤f∧f≤65536):Impl Tryz.prog Amb 88 [(yV m e),(yV n f),(.int .i64 a),(.int .i64 b)] (ecT m e n f a b):=by
 exact impl_ob hP hAmb Tryz.func88 (by kernel_rfl) (.lits 5<|.both (.lits 10<|.ret) (.lits 3<|.both (.lits 7<|.ret) (.lits 3<|.call (.bool (smB m e n f))<|.lits 3<|.both (.lits 3<|.ret) (.lits 3<|.ret))))
  (cast_ob (aI True.intro (aI (fun (h1:(iNe a 0)=true)=>have _gh1:=iNe_t h1;(W_ec0 (by first | exact not_smB (by assumption) | omega):vsub (e0T 3) (ecT m e n f a b))) (fun (h2:(iNe a 0)=false)=>have _gh2:=iNe_f h2;aI (fun (h3:(iNe b 0)=true)=>have _gh3:=iNe_t h3;(W_ec0 (by first | exact not_smB (by assumption) | omega):vsub (e0T 3) (ecT m e n f a b))) (fun (h4:(iNe b 0)=false)=>have _gh4:=iNe_f h4;aI (ar_Small m e n f oA oA oA oA) (aI (fun (h5:(!(smB m e n f))=true)=>(W_ec0 (by first | exact not_smB (by assumption) | omega):vsub (e0T 3) (ecT m e n f a b))) (fun (h6:(!(smB m e n f))=false)=>(W_ec1 (is_smB oO oO (by assumption)):vsub (.tup [(wV m e n f),(.int .i64 0)]) (ecT m e n f a b)))))))) (by kernel_rfl))
set_option maxHeartbeats 4000000 in
theorem pair_core (x1 y1:Bool)(px py:Option Addr)(lx cx ly cy:Nat)(x3 y3:Int)(a b:Int)(w:World) :
  Calls Tryz.prog 97 #[.agg #[.bool x1,.slice px lx cx,.int .i64 x3],.agg #[.bool y1,.slice py ly cy,.int .i64 y3],.int .i64 a,.int .i64 b] w fun e w' =>
   e=.returned (.tuple #[.agg #[.bool x1,.slice px lx cx,.int .i64 x3],.agg #[.bool y1,.slice py ly cy,.int .i64 y3],.int .i64 (max a b)])∧Below w.heap.size w w':=by
 go_enter Tryz.func97,Tryz.ntmps97
 go_wp2
 go_region
 go_wp2
 refine bodyPost_ret (v:=.tuple #[.agg #[.bool x1,.slice px lx cx,.int .i64 x3],.agg #[.bool y1,.slice py ly cy,.int .i64 y3],.int .i64 (max a b)]) (by simp [results,Tryz.results97,go_sem]) rfl ⟨rfl,?_⟩
 have h:=(((((Below.refl w.heap.size w).alloc (Nat.le_refl _) (Obj.cells #[Value.bool x1,Value.slice px lx cx,Value.int IntKind.i64 x3] 26)).alloc (by simp) (Obj.cells #[Value.bool y1,Value.slice py ly cy,Value.int IntKind.i64 y3] 26)).alloc (by simp;omega) (Obj.cells #[Value.bool x1,Value.slice px lx cx,Value.int IntKind.i64 x3] 26)).alloc (by simp;omega) (Obj.cells #[Value.bool y1,Value.slice py ly cy,Value.int IntKind.i64 y3] 26)).drew
 exact h
theorem rd_N_inv {w:World}{S:Nat→Prop}{v:Value}{n:Nat}(h:Rd w S v (N n)):∃ p l c,v=.slice p l c:=by
 generalize hc:N n=x at h
 unfold N at hc
 cases h<;>first | cases hc;exact⟨_,_,_,rfl⟩ | exact⟨_,_,_,rfl⟩ | cases hc
theorem max_iMax (a b:Int):max a b=iMax a b:=by unfold iMax;rw[Int.max_def];split<;>split<;>omega
theorem ar_pair (m e n f a b:Int):Impl Tryz.prog Amb 97 [(yV m e),(yV n f),.int .i64 a,.int .i64 b] (.tup [(yV m e),(yV n f),.int .i64 (iMax a b)]):=by
 refine⟨by kernel_rfl,fun w S args hC hS h=>?_⟩
 cases h with | cons h1 h=>cases h with | cons h2 h=>cases h with | cons h3 h=>cases h with | cons h4 h=>cases h with | nil =>
  have r1:=h1
  have r2:=h2
  obtain⟨x,rfl,hx⟩:=h1.agg_inv
  obtain⟨y,rfl,hy⟩:=h2.agg_inv
  cases hx with | cons k1 hx=>cases hx with | cons k2 hx=>cases hx with | cons k3 hx=>cases hx with | nil =>
  cases hy with | cons l1 hy=>cases hy with | cons l2 hy=>cases hy with | cons l3 hy=>cases hy with | nil =>
   obtain rfl:=k1.bool_inv
   obtain rfl:=l1.bool_inv
   obtain rfl:=k3.int_inv
   obtain rfl:=l3.int_inv
   obtain rfl:=h3.int_inv
   obtain rfl:=h4.int_inv
   obtain⟨px,lx,cx,rfl⟩:=rd_N_inv k2
   obtain⟨py,ly,cy,rfl⟩:=rd_N_inv l2
   refine (pair_core _ _ px py lx cx ly cy e f a b w).mono ?_
   rintro en w' ⟨rfl,hb⟩
   refine⟨_,rfl,?_,hb⟩
   have hl:=Lasts.of_below hb S
   rw[max_iMax]
   exact .tup (.cons (r1.lasts hl) (.cons (r2.lasts hl) (.cons .int .nil)))
theorem ar_Add_1 (m e n f p g q h:Int)(c0:L (m).natAbs≤600)(c1:(-20000:Int)≤e∧e≤20000)(c2:L (n).natAbs≤600)(c3:(-20000:Int)≤f∧f≤20000)(c4:L (p).natAbs≤600)(c5:(-20000:Int)≤g∧g≤20000)(c6:L (q).natAbs≤600)(c7:(-20000:Int)≤h∧h≤20000)(c8:(mkE (adS m e p g) (iMin e g))=0)(c9:(mkE (adS n f q h) (iMin f h))=0):Impl Tryz.prog Amb 98 [(.pt [(V.bool (decide (m<0))),(N m.natAbs),(V.int .i64 e),(V.bool (decide (n<0))),(N n.natAbs),(V.int .i64 f)] 0),(.pt [(V.bool (decide (p<0))),(N p.natAbs),(V.int .i64 g),(V.bool (decide (q<0))),(N q.natAbs),(V.int .i64 h)] 0)] (.tup [(yV (mkM (adS m e p g) (iMin e g)) (mkX (adS m e p g) (iMin e g))),(yV (mkM (adS n f q h) (iMin f h)) (mkX (adS n f q h) (iMin f h))),(.int .i64 0)]):=by
 exact impl_ob hP hAmb Tryz.func98 (by kernel_rfl) (.lits 3<|.call (exT (adS m e p g) (iMin e g))<|.lits 4<|.call (exT (adS n f q h) (iMin f h))<|.lits 4<|.call (.tup [(yV (mkM (adS m e p g) (iMin e g)) (mkX (adS m e p g) (iMin e g))),(yV (mkM (adS n f q h) (iMin f h)) (mkX (adS n f q h) (iMin f h))),(.int .i64 (iMax (exE (adS m e p g) (iMin e g)) (exE (adS n f q h) (iMin f h))))])<|.lits 3<|.ret)
  (cast_ob (aI True.intro (aI (dy_Add m e p g oA oA oA oA) (have f6:=ex_range (adS m e p g) (iMin e g);have f5:=mk_facts (adS m e p g) (iMin e g);have f4:=ad_facts m e p g oA oA;aI (dy_Add n f q h oA oA oA oA) (have f3:=ex_range (adS n f q h) (iMin f h);have f2:=mk_facts (adS n f q h) (iMin f h);have f1:=ad_facts n f q h oA oA;aI (ar_pair (mkM (adS m e p g) (iMin e g)) (mkX (adS m e p g) (iMin e g)) (mkM (adS n f q h) (iMin f h)) (mkX (adS n f q h) (iMin f h)) (exE (adS m e p g) (iMin e g)) (exE (adS n f q h) (iMin f h)) ) ((vsub_tup3 (vsub_refl _) (vsub_refl _) (vsub_of (congrArg (V.int .i64) (by unfold iMax;split<;>omega))):vsub (.tup [(yV (mkM (adS m e p g) (iMin e g)) (mkX (adS m e p g) (iMin e g))),(yV (mkM (adS n f q h) (iMin f h)) (mkX (adS n f q h) (iMin f h))),(.int .i64 (iMax (exE (adS m e p g) (iMin e g)) (exE (adS n f q h) (iMin f h))))]) (.tup [(yV (mkM (adS m e p g) (iMin e g)) (mkX (adS m e p g) (iMin e g))),(yV (mkM (adS n f q h) (iMin f h)) (mkX (adS n f q h) (iMin f h))),(.int .i64 0)]))))))) (by kernel_rfl))
theorem ar_out_A (m e n f p g q h w:Int)(c0:L (m).natAbs≤600)(c1:(-20000:Int)≤e∧e≤20000)(c2:L (n).natAbs≤600)(c3:(-20000:Int)≤f∧f≤20000)(c4:L (p).natAbs≤600)(c5:(-20000:Int)≤g∧g≤20000)(c6:L (q).natAbs≤600)(c7:(-20000:Int)≤h∧h≤20000)(c8:(mkE (adS m e p g) (iMin e g))=0)(c9:(mkE (adS n f q h) (iMin f h))=0)(c10:(-9223372036854775808:Int)≤w∧w≤9223372036854775807):Impl Tryz.prog Amb 91 [(.int .i64 w),(.clos 98 [(.pt [(V.bool (decide (m<0))),(N m.natAbs),(V.int .i64 e),(V.bool (decide (n<0))),(N n.natAbs),(V.int .i64 f)] 0),(.pt [(V.bool (decide (p<0))),(N p.natAbs),(V.int .i64 g),(V.bool (decide (q<0))),(N q.natAbs),(V.int .i64 h)] 0)])] (enV ((dv m e)+(dv p g)) ((dv n f)+(dv q h)) w):=by
 exact impl_ob hP hAmb Tryz.func91 (by kernel_rfl) (.lit<|.call (.bool (decide (0≤w∧w≤4096)))<|.lit<|.both (.lits 3<|.ret) (.lit<|.call (.tup [(yV (mkM (adS m e p g) (iMin e g)) (mkX (adS m e p g) (iMin e g))),(yV (mkM (adS n f q h) (iMin f h)) (mkX (adS n f q h) (iMin f h))),(.int .i64 0)])<|.lits 6<|.call (mkT (flr (dv (mkM (adS m e p g) (iMin e g)) (mkX (adS m e p g) (iMin e g))) w) (-w))<|.lits 3<|.call (mkT (cei (dv (mkM (adS n f q h) (iMin f h)) (mkX (adS n f q h) (iMin f h))) w) (-w))<|.lits 4<|.call (ecT (mkM (flr (dv (mkM (adS m e p g) (iMin e g)) (mkX (adS m e p g) (iMin e g))) w) (-w)) (mkX (flr (dv (mkM (adS m e p g) (iMin e g)) (mkX (adS m e p g) (iMin e g))) w) (-w)) (mkM (cei (dv (mkM (adS n f q h) (iMin f h)) (mkX (adS n f q h) (iMin f h))) w) (-w)) (mkX (cei (dv (mkM (adS n f q h) (iMin f h)) (mkX (adS n f q h) (iMin f h))) w) (-w)) (mkE (flr (dv (mkM (adS m e p g) (iMin e g)) (mkX (adS m e p g) (iMin e g))) w) (-w)) (mkE (cei (dv (mkM (adS n f q h) (iMin f h)) (mkX (adS n f q h) (iMin f h))) w) (-w)))<|.lits 2<|.ret))
  (cast_ob (aI True.intro (aI (ar_works w oA) (aI (fun (h1:(!(decide (0≤w∧w≤4096)))=true)=>have _gh1:=of_decide_eq_false (notb_t h1);(en_vbad oO:vsub (e0T 1) (enV ((dv m e)+(dv p g)) ((dv n f)+(dv q h)) w))) (fun (h2:(!(decide (0≤w∧w≤4096)))=false)=>have _gh2:=of_decide_eq_true (notb_f h2);aI (ar_Add_1 m e n f p g q h oA oA oA oA oA oA oA oA oA oA) (have f14:=ex_range (adS n f q h) (iMin f h);have f13:=mk_facts (adS n f q h) (iMin f h);have f12:=ad_facts n f q h oA oA;have f11:=ex_range (adS m e p g) (iMin e g);have f10:=mk_facts (adS m e p g) (iMin e g);have f9:=ad_facts m e p g oA oA;aI (gr_Floor (mkM (adS m e p g) (iMin e g)) (mkX (adS m e p g) (iMin e g)) w oA oA oA) (have f8:=mk_facts (cei (dv (mkM (adS m e p g) (iMin e g)) (mkX (adS m e p g) (iMin e g))) w) (-w);have f7:=mk_facts (flr (dv (mkM (adS m e p g) (iMin e g)) (mkX (adS m e p g) (iMin e g))) w) (-w);have f6:=flr_LD (mkM (adS m e p g) (iMin e g)) (mkX (adS m e p g) (iMin e g)) w;aI (gr_Ceil (mkM (adS n f q h) (iMin f h)) (mkX (adS n f q h) (iMin f h)) w oA oA oA) (have f5:=mk_facts (cei (dv (mkM (adS n f q h) (iMin f h)) (mkX (adS n f q h) (iMin f h))) w) (-w);have f4:=mk_facts (flr (dv (mkM (adS n f q h) (iMin f h)) (mkX (adS n f q h) (iMin f h))) w) (-w);have f3:=flr_LD (mkM (adS n f q h) (iMin f h)) (mkX (adS n f q h) (iMin f h)) w;aI (ar_enclose (mkM (flr (dv (mkM (adS m e p g) (iMin e g)) (mkX (adS m e p g) (iMin e g))) w) (-w)) (mkX (flr (dv (mkM (adS m e p g) (iMin e g)) (mkX (adS m e p g) (iMin e g))) w) (-w)) (mkM (cei (dv (mkM (adS n f q h) (iMin f h)) (mkX (adS n f q h) (iMin f h))) w) (-w)) (mkX (cei (dv (mkM (adS n f q h) (iMin f h)) (mkX (adS n f q h) (iMin f h))) w) (-w)) (mkE (flr (dv (mkM (adS m e p g) (iMin e g)) (mkX (adS m e p g) (iMin e g))) w) (-w)) (mkE (cei (dv (mkM (adS n f q h) (iMin f h)) (mkX (adS n f q h) (iMin f h))) w) (-w)) oA oA oA oA) ((en_vec (by rw[dv_mk c8,dv_ad]) (by rw[dv_mk c9,dv_ad]) oO:vsub (ecT (mkM (flr (dv (mkM (adS m e p g) (iMin e g)) (mkX (adS m e p g) (iMin e g))) w) (-w)) (mkX (flr (dv (mkM (adS m e p g) (iMin e g)) (mkX (adS m e p g) (iMin e g))) w) (-w)) (mkM (cei (dv (mkM (adS n f q h) (iMin f h)) (mkX (adS n f q h) (iMin f h))) w) (-w)) (mkX (cei (dv (mkM (adS n f q h) (iMin f h)) (mkX (adS n f q h) (iMin f h))) w) (-w)) (mkE (flr (dv (mkM (adS m e p g) (iMin e g)) (mkX (adS m e p g) (iMin e g))) w) (-w)) (mkE (cei (dv (mkM (adS n f q h) (iMin f h)) (mkX (adS n f q h) (iMin f h))) w) (-w))) (enV ((dv m e)+(dv p g)) ((dv n f)+(dv q h)) w)))))))))) (by kernel_rfl))
theorem ar_Add (m e n f p g q h w:Int)(c0:L (m).natAbs≤600)(c1:(-20000:Int)≤e∧e≤20000)(c2:L (n).natAbs≤600)(c3:(-20000:Int)≤f∧f≤20000)(c4:L (p).natAbs≤600)(c5:(-20000:Int)≤g∧g≤20000)(c6:L (q).natAbs≤600)(c7:(-20000:Int)≤h∧h≤20000)(c8:(mkE (adS m e p g) (iMin e g))=0)(c9:(mkE (adS n f q h) (iMin f h))=0)(c10:(-9223372036854775808:Int)≤w∧w≤9223372036854775807):Impl Tryz.prog Amb 38 [(wV m e n f),(wV p g q h),(.int .i64 w)] (enV ((dv m e)+(dv p g)) ((dv n f)+(dv q h)) w):=by
 exact impl_ob hP hAmb Tryz.func38 (by kernel_rfl) (.lit<|.call (enV ((dv m e)+(dv p g)) ((dv n f)+(dv q h)) w)<|.lits 2<|.ret)
  (cast_ob (aI True.intro (aI (ar_out_A m e n f p g q h w oA oA oA oA oA oA oA oA oA oA oA) (have f1:=en_facts ((dv m e)+(dv p g)) ((dv n f)+(dv q h)) w;(vsub_refl (enV ((dv m e)+(dv p g)) ((dv n f)+(dv q h)) w))))) (by kernel_rfl))
end Go.Proofs.YtkkbddkpggjgpaaGreatDoor

namespace Go.Proofs.YtkkbddkpggjgpaaGreatDoor
theorem qmin_or (a b:Rat):(qmin a b=b∧b<a)∨(qmin a b=a∧a≤b):=by
 unfold qmin
 by_cases h:b<a
 ·exact .inl ⟨if_pos h,h⟩
 ·exact .inr ⟨if_neg h,Rat.not_lt.1 h⟩
theorem qmax_or (a b:Rat):(qmax a b=b∧a<b)∨(qmax a b=a∧b≤a):=by
 unfold qmax
 by_cases h:a<b
 ·exact .inl ⟨if_pos h,h⟩
 ·exact .inr ⟨if_neg h,Rat.not_lt.1 h⟩
def mlLo (m e n f p g q h:Int):Rat:=qmin (qmin (qmin (dv m e*dv p g) (dv m e*dv q h)) (dv n f*dv p g)) (dv n f*dv q h)
def mlHi (m e n f p g q h:Int):Rat:=qmax (qmax (qmax (dv m e*dv p g) (dv m e*dv q h)) (dv n f*dv p g)) (dv n f*dv q h)
def pmn (a b:Int × Int):Int × Int:=if cmpD b.1 b.2 a.1 a.2<0 then b else a
def pmx (a b:Int × Int):Int × Int:=if 0<cmpD b.1 b.2 a.1 a.2 then b else a
theorem cmpD_neg {m e n f:Int}:cmpD n f m e<0↔dv n f<dv m e:=by
 rw[cmpD_dv]
 rcases cmpQ_range (dv n f) (dv m e) with ⟨h,k⟩ | ⟨h,k⟩ | ⟨h,k⟩
 ·rw[h];exact⟨fun _=>k,fun _=>by omega⟩
 ·rw[h];exact⟨fun q=>by omega,fun q=>absurd (Rat.lt_iff_le_and_ne.1 q).1 (Rat.not_le.2 k)⟩
 ·rw[h,k];exact⟨fun q=>by omega,fun q=>absurd q Rat.lt_irrefl⟩
theorem cmpD_pos {m e n f:Int}:0<cmpD n f m e↔dv m e<dv n f:=by
 rw[cmpD_swap,← cmpD_neg];omega
def PV (a:Int × Int):Rat:=dv a.1 a.2
theorem pmn_dv (a b:Int × Int):PV (pmn a b)=qmin (PV a) (PV b):=by
 unfold pmn qmin PV
 by_cases h:dv b.1 b.2<dv a.1 a.2
 ·rw[if_pos (cmpD_neg.2 h),if_pos h]
 ·rw[if_neg (fun q=>h (cmpD_neg.1 q)),if_neg h]
theorem pmx_dv (a b:Int × Int):PV (pmx a b)=qmax (PV a) (PV b):=by
 unfold pmx qmax PV
 by_cases h:dv a.1 a.2<dv b.1 b.2
 ·rw[if_pos (cmpD_pos.2 h),if_pos h]
 ·rw[if_neg (fun q=>h (cmpD_pos.1 q)),if_neg h]
theorem pmn_or (a b:Int × Int):pmn a b=a∨pmn a b=b:=by unfold pmn;split<;>simp
theorem pmx_or (a b:Int × Int):pmx a b=a∨pmx a b=b:=by unfold pmx;split<;>simp
def pdt (m e n f:Int):Int × Int:=(mkM (m*n) (e+f),mkX (m*n) (e+f))
theorem pdt_dv {m e n f:Int}(h:mkE (m*n) (e+f)=0):PV (pdt m e n f)=dv m e*dv n f:=by
 unfold PV pdt;rw[dv_mk h,dv_mul]
def SzP (k:Nat)(a:Int × Int):Prop:=L a.1.natAbs≤k∧-65536≤a.2∧a.2≤65536
theorem pdt_sz {m e n f:Int}{k:Nat}(h:L m.natAbs+L n.natAbs≤k):SzP k (pdt m e n f):=by
 have h1:=mk_facts (m*n) (e+f)
 have h2:=L_abs_mul m n
 exact⟨by show L (mkM (m*n) (e+f)).natAbs≤k;omega,h1.2.1,h1.2.2.1⟩
theorem pmn_sz {k:Nat}{a b:Int × Int}(ha:SzP k a)(hb:SzP k b):SzP k (pmn a b):=by rcases pmn_or a b with h | h<;>rw[h]<;>assumption
theorem pmx_sz {k:Nat}{a b:Int × Int}(ha:SzP k a)(hb:SzP k b):SzP k (pmx a b):=by rcases pmx_or a b with h | h<;>rw[h]<;>assumption
def mlLoP (m e n f p g q h:Int):Int × Int:=pmn (pmn (pmn (pdt m e p g) (pdt m e q h)) (pdt n f p g)) (pdt n f q h)
def mlHiP (m e n f p g q h:Int):Int × Int:=pmx (pmx (pmx (pdt m e p g) (pdt m e q h)) (pdt n f p g)) (pdt n f q h)
theorem mlLoP_dv {m e n f p g q h:Int}(h0:mkE (m*p) (e+g)=0)(h1:mkE (m*q) (e+h)=0)(h2:mkE (n*p) (f+g)=0)(h3:mkE (n*q) (f+h)=0):PV (mlLoP m e n f p g q h)=mlLo m e n f p g q h:=by
 unfold mlLoP mlLo;rw[pmn_dv,pmn_dv,pmn_dv,pdt_dv h0,pdt_dv h1,pdt_dv h2,pdt_dv h3]
theorem mlHiP_dv {m e n f p g q h:Int}(h0:mkE (m*p) (e+g)=0)(h1:mkE (m*q) (e+h)=0)(h2:mkE (n*p) (f+g)=0)(h3:mkE (n*q) (f+h)=0):PV (mlHiP m e n f p g q h)=mlHi m e n f p g q h:=by
 unfold mlHiP mlHi;rw[pmx_dv,pmx_dv,pmx_dv,pdt_dv h0,pdt_dv h1,pdt_dv h2,pdt_dv h3]
theorem mlP_sz {m e n f p g q h:Int}{k:Nat}(hk:L m.natAbs+L p.natAbs≤k∧L m.natAbs+L q.natAbs≤k∧L n.natAbs+L p.natAbs≤k∧L n.natAbs+L q.natAbs≤k) :
  SzP k (mlLoP m e n f p g q h)∧SzP k (mlHiP m e n f p g q h) :=
 ⟨pmn_sz (pmn_sz (pmn_sz (pdt_sz hk.1) (pdt_sz hk.2.1)) (pdt_sz hk.2.2.1)) (pdt_sz hk.2.2.2),pmx_sz (pmx_sz (pmx_sz (pdt_sz hk.1) (pdt_sz hk.2.1)) (pdt_sz hk.2.2.1)) (pdt_sz hk.2.2.2)⟩
theorem SzP_mk {k:Nat}{a:Int × Int}(h:SzP k a):SzP k a:=h
theorem mn_yes {M X:Int}{a b:Int × Int}(hM:M=a.1)(hX:X=a.2)(h:cmpD b.1 b.2 M X<0):b.1=(pmn a b).1∧b.2=(pmn a b).2:=by
 subst hM;subst hX;unfold pmn;rw[if_pos h];exact⟨rfl,rfl⟩
theorem mn_no {M X:Int}{a b:Int × Int}(hM:M=a.1)(hX:X=a.2)(h:0≤cmpD b.1 b.2 M X):M=(pmn a b).1∧X=(pmn a b).2:=by
 subst hM;subst hX;unfold pmn;rw[if_neg (show ¬ cmpD b.1 b.2 a.1 a.2<0 by omega)];exact⟨rfl,rfl⟩
theorem mx_yes {M X:Int}{a b:Int × Int}(hM:M=a.1)(hX:X=a.2)(h:0<cmpD b.1 b.2 M X):b.1=(pmx a b).1∧b.2=(pmx a b).2:=by
 subst hM;subst hX;unfold pmx;rw[if_pos h];exact⟨rfl,rfl⟩
theorem mx_no {M X:Int}{a b:Int × Int}(hM:M=a.1)(hX:X=a.2)(h:cmpD b.1 b.2 M X≤0):M=(pmx a b).1∧X=(pmx a b).2:=by
 subst hM;subst hX;unfold pmx;rw[if_neg (show ¬ 0<cmpD b.1 b.2 a.1 a.2 by omega)];exact⟨rfl,rfl⟩
theorem impl_eq {P:Program}{C:World→Prop}{f:FuncId}{ds:List V}{r r':V}(h:r=r')(k:Impl P C f ds r):Impl P C f ds r':=h ▸ k
theorem qmin_le {a b:Rat}(h:a≤b):qmin a b=a:=by unfold qmin;rw[if_neg (Rat.not_lt.2 h)]
end Go.Proofs.YtkkbddkpggjgpaaGreatDoor
