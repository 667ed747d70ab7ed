/-
  Lower layers: what functions of the program compute, and zyt facts. Conditions: as the theorems say.
-/
import Derived.BigRegion
import Derived.RegionTactic
import Derived.ChangeAlike
import Derived.WalkKit
import Derived.Test.YtcbihoojfakhdaaGreatDoorCbP
set_option linter.unusedVariables false
set_option linter.unusedSimpArgs false
namespace Go.Proofs.YtcbihoojfakhdaaGreatDoor
open Go.RowKit
set_option maxRecDepth 100000
theorem zmy (a b:Nat)(s:Int)(c0:L a≤16777216∧L b≤16777216)(c1:2≤L (b*2^s.toNat))(c2:2147483648≤(limbs (b*2^s.toNat)).getD (L (b*2^s.toNat)-1) 0)(c3:0≤s∧s≤32)(x0:Int × List V × List V × List Nat × List Nat)(hI:qdm_loop_I a b s x0):LoopOk Tryz.prog Amb (loopN Tryz.f226 0) (qdm_loop_mk a b s x0) (fun e st_=>∃ y,qdm_loop_J a b s y∧qdm_loop_ex a b s y=(e,st_)) :=
 z6m hP hAmb ⟨[10,11,12,13,14,15],4,[]⟩ (qdm_loop_mk a b s) (qdm_loop_I a b s) (qdm_loop_mu a b s) (qdm_loop_ex a b s) (qdm_loop_J a b s) x0 hI (fun (k,o0,o,lu,lq)=>.lit<|.both (.lit<|.yes<|.lit<|.yes<|.yes<|.yes<|.callM (U (lowL lu ((0+k.toNat)+L (b*2^s.toNat)+1) (Xd lu (0+k.toNat) (L (b*2^s.toNat))%(4294967296^(0+k.toNat)*(b*2^s.toNat))))) (.int .u32 ((kq lu (0+k.toNat) (b*2^s.toNat):Nat):Int))<|.lit<|.yes<|.yes<|.lit<|.yes<|.fin2 ⟨[10,11,12,13,14,15],4,[]⟩) (.fin2 ⟨[10,11,12,13,14],4,[]⟩)) (by
  rintro ⟨k,o0,o,lu,lq⟩ hI
  have hI:(o0=U lu∧o=U lq)∧DvIn (a*2^s.toNat) (b*2^s.toNat) (L (a*2^s.toNat)+1-L (b*2^s.toNat)) k lu lq:=hI
  obtain ⟨⟨rfl,rfl⟩,h1⟩:=hI
  have e0:=z8g (b*2^s.toNat)
  have e1:=z6n lu
  have e2:=z6n lq
  have ⟨p0,p1,p2,p3,p4,p5,_⟩:=h1
  have hkn:0≤k→Kn lu (0+k.toNat) (b*2^s.toNat):=fun q=>by rw [Nat.zero_add]; exact zmf h1 q c1 c2
  have hls:=z8r a s.toNat
  have hz:0+k.toNat=k.toNat:=Nat.zero_add _
  have hnx:0≤k→DvIn (a*2^s.toNat) (b*2^s.toNat) (L (a*2^s.toNat)+1-L (b*2^s.toNat)) (k-1) (lowL lu (0+k.toNat+L (b*2^s.toNat)+1) (Xd lu (0+k.toNat) (L (b*2^s.toNat))%(4294967296^(0+k.toNat)*(b*2^s.toNat)))) (lq.set k.toNat (kq lu (0+k.toNat) (b*2^s.toNat))):=fun q=>by rw [hz]; exact zmh h1 q c1 c2
  have hx:=fun q=>(hkn q).qlt
  exact z6d (aI True.intro (aI (fun (h101:(iGe k 0)=true)=>have _gh101:=z79 h101; aI (z7s oO:(fits .i64 (k+((lim (b*2^s.toNat)).length:Int)))=true) (aI (z7s oO:(fits .i64 ((k+((lim (b*2^s.toNat)).length:Int))+1))=true) (aI (z7r (z7r (z7r (z7g oO) (z7g oO)) (z7g oO)) (zmq oO):((((iLe (0:Int) k) && (iLe k ((k+((lim (b*2^s.toNat)).length:Int))+1))) && (iLe ((k+((lim (b*2^s.toNat)).length:Int))+1) ((L (a*2^s.toNat)+1):Int))) && ((iEq k 0) || (iLt k ((L (a*2^s.toNat)+1):Int))))=true) (aI (z80 oO:((true && Nat.ble ((0+k.toNat)+(((k+((lim (b*2^s.toNat)).length:Int))+1)-k).toNat) (U lu).length) && (true && true))=true) (aI (zmx lu (0+k.toNat) ((((k+((lim (b*2^s.toNat)).length:Int))+1)-k).toNat) (b*2^s.toNat) (hkn oO) oO oO) (aI (z7o oO:(inB k ((((L (a*2^s.toNat)+1):Int)-((lim (b*2^s.toNat)).length:Int)).toNat))=true) (aI (z7y oO:(Nat.ble ((0+k.toNat)+1) (U lq).length)=true) (aI (z7s oO:(fits .i64 (k-1))=true) (aI tT ((z6j ((k-1),(U (lowL lu ((0+k.toNat)+L (b*2^s.toNat)+1) (Xd lu (0+k.toNat) (L (b*2^s.toNat))%(4294967296^(0+k.toNat)*(b*2^s.toNat))))),(List.set (U lq) (0+k.toNat) (.int .u32 ((kq lu (0+k.toNat) (b*2^s.toNat):Nat):Int))),(lowL lu ((0+k.toNat)+L (b*2^s.toNat)+1) (Xd lu (0+k.toNat) (L (b*2^s.toNat))%(4294967296^(0+k.toNat)*(b*2^s.toNat)))),(lq.set k.toNat (kq lu (0+k.toNat) (b*2^s.toNat)))) (show ((U (lowL lu ((0+k.toNat)+L (b*2^s.toNat)+1) (Xd lu (0+k.toNat) (L (b*2^s.toNat))%(4294967296^(0+k.toNat)*(b*2^s.toNat)))))=U (lowL lu ((0+k.toNat)+L (b*2^s.toNat)+1) (Xd lu (0+k.toNat) (L (b*2^s.toNat))%(4294967296^(0+k.toNat)*(b*2^s.toNat))))∧(List.set (U lq) (0+k.toNat) (.int .u32 ((kq lu (0+k.toNat) (b*2^s.toNat):Nat):Int)))=U (lq.set k.toNat (kq lu (0+k.toNat) (b*2^s.toNat))))∧DvIn (a*2^s.toNat) (b*2^s.toNat) (L (a*2^s.toNat)+1-L (b*2^s.toNat)) (k-1) (lowL lu ((0+k.toNat)+L (b*2^s.toNat)+1) (Xd lu (0+k.toNat) (L (b*2^s.toNat))%(4294967296^(0+k.toNat)*(b*2^s.toNat)))) (lq.set k.toNat (kq lu (0+k.toNat) (b*2^s.toNat))) from ⟨⟨rfl,setU _ oO rfl⟩,hnx oO⟩) (show (k-1+1).toNat<(k+1).toNat by omega):qdm_loop_N a b s (k,(U lu),(U lq),lu,lq) .normal (qdm_loop_mk a b s ((k-1),(U (lowL lu ((0+k.toNat)+L (b*2^s.toNat)+1) (Xd lu (0+k.toNat) (L (b*2^s.toNat))%(4294967296^(0+k.toNat)*(b*2^s.toNat))))),(List.set (U lq) (0+k.toNat) (.int .u32 ((kq lu (0+k.toNat) (b*2^s.toNat):Nat):Int))),(lowL lu ((0+k.toNat)+L (b*2^s.toNat)+1) (Xd lu (0+k.toNat) (L (b*2^s.toNat))%(4294967296^(0+k.toNat)*(b*2^s.toNat)))),(lq.set k.toNat (kq lu (0+k.toNat) (b*2^s.toNat)))))))))))))))) (fun (h102:(iGe k 0)=false)=>have _gh102:=z7a h102; aI tT ((z6k 1 ((qdm_loop_ex a b s (lu,lq)).2) (lu,lq) (show DvIn (a*2^s.toNat) (b*2^s.toNat) (L (a*2^s.toNat)+1-L (b*2^s.toNat)) (-1) lu lq from (show k=-1 by omega) ▸ h1) rfl:qdm_loop_N a b s (k,(U lu),(U lq),lu,lq) (.exit 1) ((qdm_loop_ex a b s (lu,lq)).2)))))) (by kernel_rfl))
theorem zmz (a:Nat)(b:Nat)(c0:L a≤16777216)(c1:L b≤16777216)(c2:0<b):Impl Tryz.prog Amb 226 [(N a),(N b)] (.tup [(N (a / b)),(N (a%b)),(.bool true)]):=by
 have e0:=z8g a
 have e1:=z8g b
 have p0:=z8i (show b≠0 by omega)
 have hcm:=zmn a b
 have tb:=zbg b p0
 have g0:=gi_b (z6y b) (((lim b).length:Int)-1).toNat
 have g1:=gi_b (z6y b) 0
 have eT:(((lim b).length:Int)-1).toNat=((L b:Int)-1).toNat:=by rw [z8g]
 have hs:nbits b+((32-(Lib.bitLen (gi (limbs b) (((lim b).length:Int)-1).toNat).toNat:Int))).toNat=32*L b:=by rw [eT]; omega
 have hsr:0≤(32-(Lib.bitLen (gi (limbs b) (((lim b).length:Int)-1).toNat).toNat:Int))∧(32-(Lib.bitLen (gi (limbs b) (((lim b).length:Int)-1).toNat).toNat:Int))≤32:=by rw [eT]; omega
 have hno0:=zme (show b≠0 by omega) hs
 have hno:L (b*2^((32-(Lib.bitLen (gi (limbs b) (((lim b).length:Int)-1).toNat).toNat:Int))).toNat)=L b∧2147483648≤(limbs (b*2^((32-(Lib.bitLen (gi (limbs b) (((lim b).length:Int)-1).toNat).toNat:Int))).toNat)).getD (L (b*2^((32-(Lib.bitLen (gi (limbs b) (((lim b).length:Int)-1).toNat).toNat:Int))).toNat)-1) 0:=by rw [hno0.1]; exact ⟨rfl,hno0.2⟩
 have e2:=z8g (b*2^((32-(Lib.bitLen (gi (limbs b) (((lim b).length:Int)-1).toNat).toNat:Int))).toNat)
 have hls:=z8r a ((32-(Lib.bitLen (gi (limbs b) (((lim b).length:Int)-1).toNat).toNat:Int))).toNat
 have hft:b≤a→(a*2^((32-(Lib.bitLen (gi (limbs b) (((lim b).length:Int)-1).toNat).toNat:Int))).toNat)<4294967296^(L (a*2^((32-(Lib.bitLen (gi (limbs b) (((lim b).length:Int)-1).toNat).toNat:Int))).toNat)+1-L (b*2^((32-(Lib.bitLen (gi (limbs b) (((lim b).length:Int)-1).toNat).toNat:Int))).toNat))*(b*2^((32-(Lib.bitLen (gi (limbs b) (((lim b).length:Int)-1).toNat).toNat:Int))).toNat)∧L (a*2^((32-(Lib.bitLen (gi (limbs b) (((lim b).length:Int)-1).toNat).toNat:Int))).toNat)+1=(L (a*2^((32-(Lib.bitLen (gi (limbs b) (((lim b).length:Int)-1).toNat).toNat:Int))).toNat)+1-L (b*2^((32-(Lib.bitLen (gi (limbs b) (((lim b).length:Int)-1).toNat).toNat:Int))).toNat))+L (b*2^((32-(Lib.bitLen (gi (limbs b) (((lim b).length:Int)-1).toNat).toNat:Int))).toNat):=fun h=>zml (Nat.mul_le_mul_right _ h) (fun q=>by rw [q,L_zero] at hno; omega)
 have g3:L b=1→gi (limbs b) 0=(b:Int):=zmm
 have gm:L b=1→0≤((a%(gi (limbs b) 0).toNat:Nat):Int)∧((a%(gi (limbs b) 0).toNat:Nat):Int)<4294967296:=fun q=>by have:=Nat.mod_lt a (show 0<(gi (limbs b) 0).toNat by rw [zmm q]; omega); omega
 exact z6e hP hAmb Tryz.func226 (by kernel_rfl) (.lit<|.call (N a)<|.lit<|.call (N b)<|.lit<|.no<|.lit<|.call (.int .i64 (cmpN a b))<|.lit<|.both (.lit<|.ret) (.lit<|.both (.yes<|.yes<|.lit<|.call (.tup [(N (a / ((gi (limbs b) 0)).toNat)),(.int .u32 ((a%((gi (limbs b) 0)).toNat:Nat):Int)),(.bool true)])<|.lit<|.yes<|.lit<|.call (N ((((a%((gi (limbs b) 0)).toNat:Nat):Int)).toNat))<|.lit<|.ret) (.lit<|.yes<|.yes<|.yes<|.lit<|.call (.int .i64 (32-(Lib.bitLen ((gi (limbs b) ((((lim b).length:Int)-1).toNat))).toNat:Int)))<|.lit<|.call (N (b*2^((32-(Lib.bitLen ((gi (limbs b) ((((lim b).length:Int)-1).toNat))).toNat:Int))).toNat))<|.lit<|.callO 1 (L (a*2^((32-(Lib.bitLen ((gi (limbs b) ((((lim b).length:Int)-1).toNat))).toNat:Int))).toNat)) (lim (a*2^((32-(Lib.bitLen ((gi (limbs b) ((((lim b).length:Int)-1).toNat))).toNat:Int))).toNat))<|.yes<|.lit<|.yes<|.yes<|.lit<|.yes<|.lit<|.yes<|.loop ⟨[10,11,12,13,14,15],4,[]⟩ ((qdm_loop_mk a b (32-(Lib.bitLen (gi (limbs b) (((lim b).length:Int)-1).toNat).toNat:Int)) ((((((L (a*2^((32-(Lib.bitLen ((gi (limbs b) ((((lim b).length:Int)-1).toNat))).toNat:Int))).toNat))+1):Int)-((lim (b*2^((32-(Lib.bitLen ((gi (limbs b) ((((lim b).length:Int)-1).toNat))).toNat:Int))).toNat)).length:Int))-1),((lim (a*2^((32-(Lib.bitLen ((gi (limbs b) ((((lim b).length:Int)-1).toNat))).toNat:Int))).toNat)) ++ [(V.int .u32 0)]),(List.replicate (((((L (a*2^((32-(Lib.bitLen ((gi (limbs b) ((((lim b).length:Int)-1).toNat))).toNat:Int))).toNat))+1):Int)-((lim (b*2^((32-(Lib.bitLen ((gi (limbs b) ((((lim b).length:Int)-1).toNat))).toNat:Int))).toNat)).length:Int)).toNat) (.int .u32 0)),(limbs (a*2^(32-(Lib.bitLen (gi (limbs b) (((lim b).length:Int)-1).toNat).toNat:Int)).toNat) ++ [0]),(List.replicate (L (a*2^(32-(Lib.bitLen (gi (limbs b) (((lim b).length:Int)-1).toNat).toNat:Int)).toNat)+1-L (b*2^(32-(Lib.bitLen (gi (limbs b) (((lim b).length:Int)-1).toNat).toNat:Int)).toNat)) 0)))) (List Nat × List Nat) (qdm_loop_ex a b (32-(Lib.bitLen (gi (limbs b) (((lim b).length:Int)-1).toNat).toNat:Int))) (qdm_loop_J a b (32-(Lib.bitLen (gi (limbs b) (((lim b).length:Int)-1).toNat).toNat:Int))) (fun y=>.yes<|.call (N (val y.2))<|.yes<|.yes<|.call (N (val (y.1.take (L (b*2^((32-(Lib.bitLen (gi (limbs b) (((lim b).length:Int)-1).toNat).toNat:Int))).toNat)))))<|.lit<|.call (N ((val (y.1.take (L (b*2^((32-(Lib.bitLen (gi (limbs b) (((lim b).length:Int)-1).toNat).toNat:Int))).toNat)))) / 2^((32-(Lib.bitLen (gi (limbs b) (((lim b).length:Int)-1).toNat).toNat:Int))).toNat))<|.lit<|.ret))))
  (z6d (aI True.intro (aI (za3 a oA) (aI (za3 b oA) (aI (z7n oO:(iEq ((lim b).length:Int) 0)=false) (aI (za9 a b oA oA) (aI (fun (h1:(iLt (cmpN a b) 0)=true)=>have _gh1:=z73 h1; (by have h:a<b:=oO; rw [Nat.div_eq_of_lt h,Nat.mod_eq_of_lt h]; exact z60 (by show vsub .nil (.sl 1 (U (limbs 0))); rw [limbs_zero]; exact z5y 1) (z5w _) (z5w _):vsub (.tup [.nil,(N a),(.bool true)]) (.tup [(N (a / b)),(N (a%b)),(.bool true)]))) (fun (h2:(iLt (cmpN a b) 0)=false)=>have _gh2:=z74 h2; aI (fun (h3:(iEq ((lim b).length:Int) 1)=true)=>have _gh3:=z7b h3; aI (z7o oA:(inB (0:Int) ((lim b).length))=true) (aI (ld_L oA:(Nat.blt 0 (lim b).length && isIntK .u32 (nth (lim b) 0 .unk))=true) (aI (zcl a (gi (limbs b) 0) oA oA) (aI (z7t oA:(fits .u64 ((a%((gi (limbs b) 0)).toNat:Nat):Int))=true) (aI (za5 ((a%((gi (limbs b) 0)).toNat:Nat):Int) oA) ((by rw [zmm (show L b=1 by omega)]; exact z5w _:vsub (.tup [(N (a / ((gi (limbs b) 0)).toNat)),(N ((((a%((gi (limbs b) 0)).toNat:Nat):Int)).toNat)),(.bool true)]) (.tup [(N (a / b)),(N (a%b)),(.bool true)])))))))) (fun (h4:(iEq ((lim b).length:Int) 1)=false)=>have _gh4:=z7c h4; aI (z7s oA:(fits .i64 (((lim b).length:Int)-1))=true) (aI (z7o oA:(inB (((lim b).length:Int)-1) ((lim b).length))=true) (aI (ld_L oA:(Nat.blt ((((lim b).length:Int)-1).toNat) (lim b).length && isIntK .u32 (nth (lim b) ((((lim b).length:Int)-1).toNat) .unk))=true) (aI (zms (gi (limbs b) ((((lim b).length:Int)-1).toNat)) oA) (aI (zbz b (32-(Lib.bitLen ((gi (limbs b) ((((lim b).length:Int)-1).toNat))).toNat:Int)) oA oA) (aI (zmt a (32-(Lib.bitLen ((gi (limbs b) ((((lim b).length:Int)-1).toNat))).toNat:Int)) oA oA oA) (aI (z7r (z7r (z7r (rfl) rfl) (z7y oA)) (by first | rfl | (simp<;>omega) | (rw [z8g]; simp)):(true && true && Nat.ble ((L (a*2^((32-(Lib.bitLen ((gi (limbs b) ((((lim b).length:Int)-1).toNat))).toNat:Int))).toNat))+1) 1073741824 && Nat.beq (lim (a*2^((32-(Lib.bitLen ((gi (limbs b) ((((lim b).length:Int)-1).toNat))).toNat:Int))).toNat)).length (L (a*2^((32-(Lib.bitLen ((gi (limbs b) ((((lim b).length:Int)-1).toNat))).toNat:Int))).toNat)))=true) (aI (z7s oA:(fits .i64 ((((L (a*2^((32-(Lib.bitLen ((gi (limbs b) ((((lim b).length:Int)-1).toNat))).toNat:Int))).toNat))+1):Int)-((lim (b*2^((32-(Lib.bitLen ((gi (limbs b) ((((lim b).length:Int)-1).toNat))).toNat:Int))).toNat)).length:Int)))=true) (aI (z7z oA:(((iEq ((((L (a*2^((32-(Lib.bitLen ((gi (limbs b) ((((lim b).length:Int)-1).toNat))).toNat:Int))).toNat))+1):Int)-((lim (b*2^((32-(Lib.bitLen ((gi (limbs b) ((((lim b).length:Int)-1).toNat))).toNat:Int))).toNat)).length:Int)) ((((L (a*2^((32-(Lib.bitLen ((gi (limbs b) ((((lim b).length:Int)-1).toNat))).toNat:Int))).toNat))+1):Int)-((lim (b*2^((32-(Lib.bitLen ((gi (limbs b) ((((lim b).length:Int)-1).toNat))).toNat:Int))).toNat)).length:Int))) && (iLe 0 ((((L (a*2^((32-(Lib.bitLen ((gi (limbs b) ((((lim b).length:Int)-1).toNat))).toNat:Int))).toNat))+1):Int)-((lim (b*2^((32-(Lib.bitLen ((gi (limbs b) ((((lim b).length:Int)-1).toNat))).toNat:Int))).toNat)).length:Int)))) && (iLe ((((L (a*2^((32-(Lib.bitLen ((gi (limbs b) ((((lim b).length:Int)-1).toNat))).toNat:Int))).toNat))+1):Int)-((lim (b*2^((32-(Lib.bitLen ((gi (limbs b) ((((lim b).length:Int)-1).toNat))).toNat:Int))).toNat)).length:Int)) 1073741824))=true) (aI (z7s oA:(fits .i64 ((((L (a*2^((32-(Lib.bitLen ((gi (limbs b) ((((lim b).length:Int)-1).toNat))).toNat:Int))).toNat))+1):Int)-((lim (b*2^((32-(Lib.bitLen ((gi (limbs b) ((((lim b).length:Int)-1).toNat))).toNat:Int))).toNat)).length:Int)))=true) (aI (z7s oA:(fits .i64 (((((L (a*2^((32-(Lib.bitLen ((gi (limbs b) ((((lim b).length:Int)-1).toNat))).toNat:Int))).toNat))+1):Int)-((lim (b*2^((32-(Lib.bitLen ((gi (limbs b) ((((lim b).length:Int)-1).toNat))).toNat:Int))).toNat)).length:Int))-1))=true) (aI tT (aI (rfl:(qdm_loop_mk a b (32-(Lib.bitLen (gi (limbs b) (((lim b).length:Int)-1).toNat).toNat:Int)) ((((((L (a*2^((32-(Lib.bitLen ((gi (limbs b) ((((lim b).length:Int)-1).toNat))).toNat:Int))).toNat))+1):Int)-((lim (b*2^((32-(Lib.bitLen ((gi (limbs b) ((((lim b).length:Int)-1).toNat))).toNat:Int))).toNat)).length:Int))-1),((lim (a*2^((32-(Lib.bitLen ((gi (limbs b) ((((lim b).length:Int)-1).toNat))).toNat:Int))).toNat)) ++ [(V.int .u32 0)]),(List.replicate (((((L (a*2^((32-(Lib.bitLen ((gi (limbs b) ((((lim b).length:Int)-1).toNat))).toNat:Int))).toNat))+1):Int)-((lim (b*2^((32-(Lib.bitLen ((gi (limbs b) ((((lim b).length:Int)-1).toNat))).toNat:Int))).toNat)).length:Int)).toNat) (.int .u32 0)),(limbs (a*2^(32-(Lib.bitLen (gi (limbs b) (((lim b).length:Int)-1).toNat).toNat:Int)).toNat) ++ [0]),(List.replicate (L (a*2^(32-(Lib.bitLen (gi (limbs b) (((lim b).length:Int)-1).toNat).toNat:Int)).toNat)+1-L (b*2^(32-(Lib.bitLen (gi (limbs b) (((lim b).length:Int)-1).toNat).toNat:Int)).toNat)) 0)))=(qdm_loop_mk a b (32-(Lib.bitLen (gi (limbs b) (((lim b).length:Int)-1).toNat).toNat:Int)) ((((((L (a*2^((32-(Lib.bitLen ((gi (limbs b) ((((lim b).length:Int)-1).toNat))).toNat:Int))).toNat))+1):Int)-((lim (b*2^((32-(Lib.bitLen ((gi (limbs b) ((((lim b).length:Int)-1).toNat))).toNat:Int))).toNat)).length:Int))-1),((lim (a*2^((32-(Lib.bitLen ((gi (limbs b) ((((lim b).length:Int)-1).toNat))).toNat:Int))).toNat)) ++ [(V.int .u32 0)]),(List.replicate (((((L (a*2^((32-(Lib.bitLen ((gi (limbs b) ((((lim b).length:Int)-1).toNat))).toNat:Int))).toNat))+1):Int)-((lim (b*2^((32-(Lib.bitLen ((gi (limbs b) ((((lim b).length:Int)-1).toNat))).toNat:Int))).toNat)).length:Int)).toNat) (.int .u32 0)),(limbs (a*2^(32-(Lib.bitLen (gi (limbs b) (((lim b).length:Int)-1).toNat).toNat:Int)).toNat) ++ [0]),(List.replicate (L (a*2^(32-(Lib.bitLen (gi (limbs b) (((lim b).length:Int)-1).toNat).toNat:Int)).toNat)+1-L (b*2^(32-(Lib.bitLen (gi (limbs b) (((lim b).length:Int)-1).toNat).toNat:Int)).toNat)) 0)))) (aI (zmy a b (32-(Lib.bitLen (gi (limbs b) (((lim b).length:Int)-1).toNat).toNat:Int)) (⟨c0,c1⟩) oO hno.2 hsr ((((((L (a*2^((32-(Lib.bitLen ((gi (limbs b) ((((lim b).length:Int)-1).toNat))).toNat:Int))).toNat))+1):Int)-((lim (b*2^((32-(Lib.bitLen ((gi (limbs b) ((((lim b).length:Int)-1).toNat))).toNat:Int))).toNat)).length:Int))-1),((lim (a*2^((32-(Lib.bitLen ((gi (limbs b) ((((lim b).length:Int)-1).toNat))).toNat:Int))).toNat)) ++ [(V.int .u32 0)]),(List.replicate (((((L (a*2^((32-(Lib.bitLen ((gi (limbs b) ((((lim b).length:Int)-1).toNat))).toNat:Int))).toNat))+1):Int)-((lim (b*2^((32-(Lib.bitLen ((gi (limbs b) ((((lim b).length:Int)-1).toNat))).toNat:Int))).toNat)).length:Int)).toNat) (.int .u32 0)),(limbs (a*2^(32-(Lib.bitLen (gi (limbs b) (((lim b).length:Int)-1).toNat).toNat:Int)).toNat) ++ [0]),(List.replicate (L (a*2^(32-(Lib.bitLen (gi (limbs b) (((lim b).length:Int)-1).toNat).toNat:Int)).toNat)+1-L (b*2^(32-(Lib.bitLen (gi (limbs b) (((lim b).length:Int)-1).toNat).toNat:Int)).toNat)) 0)) (show (((lim (a*2^((32-(Lib.bitLen ((gi (limbs b) ((((lim b).length:Int)-1).toNat))).toNat:Int))).toNat)) ++ [(V.int .u32 0)])=U (limbs (a*2^(32-(Lib.bitLen (gi (limbs b) (((lim b).length:Int)-1).toNat).toNat:Int)).toNat) ++ [0])∧(List.replicate (((((L (a*2^((32-(Lib.bitLen ((gi (limbs b) ((((lim b).length:Int)-1).toNat))).toNat:Int))).toNat))+1):Int)-((lim (b*2^((32-(Lib.bitLen ((gi (limbs b) ((((lim b).length:Int)-1).toNat))).toNat:Int))).toNat)).length:Int)).toNat) (.int .u32 0))=U (List.replicate (L (a*2^(32-(Lib.bitLen (gi (limbs b) (((lim b).length:Int)-1).toNat).toNat:Int)).toNat)+1-L (b*2^(32-(Lib.bitLen (gi (limbs b) (((lim b).length:Int)-1).toNat).toNat:Int)).toNat)) 0))∧DvIn (a*2^(32-(Lib.bitLen (gi (limbs b) (((lim b).length:Int)-1).toNat).toNat:Int)).toNat) (b*2^(32-(Lib.bitLen (gi (limbs b) (((lim b).length:Int)-1).toNat).toNat:Int)).toNat) (L (a*2^(32-(Lib.bitLen (gi (limbs b) (((lim b).length:Int)-1).toNat).toNat:Int)).toNat)+1-L (b*2^(32-(Lib.bitLen (gi (limbs b) (((lim b).length:Int)-1).toNat).toNat:Int)).toNat)) (((((L (a*2^((32-(Lib.bitLen ((gi (limbs b) ((((lim b).length:Int)-1).toNat))).toNat:Int))).toNat))+1):Int)-((lim (b*2^((32-(Lib.bitLen ((gi (limbs b) ((((lim b).length:Int)-1).toNat))).toNat:Int))).toNat)).length:Int))-1) (limbs (a*2^(32-(Lib.bitLen (gi (limbs b) (((lim b).length:Int)-1).toNat).toNat:Int)).toNat) ++ [0]) (List.replicate (L (a*2^(32-(Lib.bitLen (gi (limbs b) (((lim b).length:Int)-1).toNat).toNat:Int)).toNat)+1-L (b*2^(32-(Lib.bitLen (gi (limbs b) (((lim b).length:Int)-1).toNat).toNat:Int)).toNat)) 0) from ⟨⟨z6t _ [0],by rw [show ((((L (a*2^(32-(Lib.bitLen (gi (limbs b) (((lim b).length:Int)-1).toNat).toNat:Int)).toNat)+1):Int)-((lim (b*2^(32-(Lib.bitLen (gi (limbs b) (((lim b).length:Int)-1).toNat).toNat:Int)).toNat)).length:Int)).toNat)=(L (a*2^(32-(Lib.bitLen (gi (limbs b) (((lim b).length:Int)-1).toNat).toNat:Int)).toNat)+1-L (b*2^(32-(Lib.bitLen (gi (limbs b) (((lim b).length:Int)-1).toNat).toNat:Int)).toNat)) by omega]; exact z6v _⟩,by have:=zmi (hft oO).1 (hft oO).2; rwa [show (((L (a*2^(32-(Lib.bitLen (gi (limbs b) (((lim b).length:Int)-1).toNat).toNat:Int)).toNat)+1-L (b*2^(32-(Lib.bitLen (gi (limbs b) (((lim b).length:Int)-1).toNat).toNat:Int)).toNat)):Nat):Int)-1=(((((L (a*2^((32-(Lib.bitLen ((gi (limbs b) ((((lim b).length:Int)-1).toNat))).toNat:Int))).toNat))+1):Int)-((lim (b*2^((32-(Lib.bitLen ((gi (limbs b) ((((lim b).length:Int)-1).toNat))).toNat:Int))).toNat)).length:Int))-1) by omega] at this⟩)) (fun y (hJ:qdm_loop_J a b (32-(Lib.bitLen (gi (limbs b) (((lim b).length:Int)-1).toNat).toNat:Int)) y)=>have hJ:DvIn (a*2^(32-(Lib.bitLen (gi (limbs b) (((lim b).length:Int)-1).toNat).toNat:Int)).toNat) (b*2^(32-(Lib.bitLen (gi (limbs b) (((lim b).length:Int)-1).toNat).toNat:Int)).toNat) (L (a*2^(32-(Lib.bitLen (gi (limbs b) (((lim b).length:Int)-1).toNat).toNat:Int)).toNat)+1-L (b*2^(32-(Lib.bitLen (gi (limbs b) (((lim b).length:Int)-1).toNat).toNat:Int)).toNat)) (-1) y.1 y.2:=hJ; have ⟨d0,d1,d2,d3,d4,d5⟩:=zmj hJ; have d6:=z6n y.1; have d7:=z6n y.2; have d8:L (val (y.1.take (L (b*2^((32-(Lib.bitLen (gi (limbs b) (((lim b).length:Int)-1).toNat).toNat:Int))).toNat))))≤L (a*2^((32-(Lib.bitLen (gi (limbs b) (((lim b).length:Int)-1).toNat).toNat:Int))).toNat):=(by rw [d4]; exact z8p _ _); aI (z80 oA:((true && Nat.ble (0+((((L (a*2^(32-(Lib.bitLen (gi (limbs b) (((lim b).length:Int)-1).toNat).toNat:Int)).toNat)+1):Int)-((lim (b*2^(32-(Lib.bitLen (gi (limbs b) (((lim b).length:Int)-1).toNat).toNat:Int)).toNat)).length:Int)).toNat)) (U y.2).length) && true)=true) (aI (zci (List.take ((((L (a*2^(32-(Lib.bitLen (gi (limbs b) (((lim b).length:Int)-1).toNat).toNat:Int)).toNat)+1):Int)-((lim (b*2^(32-(Lib.bitLen (gi (limbs b) (((lim b).length:Int)-1).toNat).toNat:Int)).toNat)).length:Int)).toNat) (List.drop 0 (U y.2))) y.2 (tkU rfl oO) d3 oO) (aI (z7r (z7r (z7r (rfl) (z7g oA)) (z7g oA)) (rfl):(((true && (iLe (0:Int) ((lim (b*2^(32-(Lib.bitLen (gi (limbs b) (((lim b).length:Int)-1).toNat).toNat:Int)).toNat)).length:Int))) && (iLe ((lim (b*2^(32-(Lib.bitLen (gi (limbs b) (((lim b).length:Int)-1).toNat).toNat:Int)).toNat)).length:Int) ((L (a*2^(32-(Lib.bitLen (gi (limbs b) (((lim b).length:Int)-1).toNat).toNat:Int)).toNat)+1):Int))) && true)=true) (aI (z80 oA:((true && Nat.ble (0+(((lim (b*2^(32-(Lib.bitLen (gi (limbs b) (((lim b).length:Int)-1).toNat).toNat:Int)).toNat)).length:Int)-0).toNat) (U y.1).length) && true)=true) (aI (zci (List.take ((((lim (b*2^(32-(Lib.bitLen (gi (limbs b) (((lim b).length:Int)-1).toNat).toNat:Int)).toNat)).length:Int)-0).toNat) (List.drop 0 (U y.1))) (y.1.take (L (b*2^((32-(Lib.bitLen (gi (limbs b) (((lim b).length:Int)-1).toNat).toNat:Int))).toNat))) (tkU2 oO) (z83 d1 _) (by rw [List.length_take]; omega)) (aI (zc1 (val (y.1.take (L (b*2^((32-(Lib.bitLen (gi (limbs b) (((lim b).length:Int)-1).toNat).toNat:Int))).toNat)))) (32-(Lib.bitLen (gi (limbs b) (((lim b).length:Int)-1).toNat).toNat:Int)) oA oA) ((by rw [d5,d4,zmo,zmp]; exact z5w _:vsub (.tup [(N (val y.2)),(N ((val (y.1.take (L (b*2^((32-(Lib.bitLen (gi (limbs b) (((lim b).length:Int)-1).toNat).toNat:Int))).toNat)))) / 2^((32-(Lib.bitLen (gi (limbs b) (((lim b).length:Int)-1).toNat).toNat:Int))).toNat)),(.bool true)]) (.tup [(N (a / b)),(N (a%b)),(.bool true)])))))))))))))))))))))))))))))) (by kernel_rfl))
theorem zn0 (x y:Int)(c0:L (x).natAbs≤16777216)(c1:L (y).natAbs≤16777216)(c2:y≠0):Impl Tryz.prog Amb 182 [(zV x),(zV y)] (.tup [(zV (Int.fdiv x y)),(zV (x-(Int.fdiv x y)*y)),(.bool true)]):=by
 have l3:=z8o x.natAbs y.natAbs
 have l1:=L_le (n:=1) (k:=1) (by decide)
 have l4:=zcy (x.natAbs%y.natAbs)
 have l5:=z8g (x.natAbs%y.natAbs)
 have l6:=Nat.mod_lt x.natAbs (show 0<y.natAbs by omega)
 have l7:=z8l (x.natAbs / y.natAbs) 1
 have l8:=z8n y.natAbs (x.natAbs%y.natAbs)
 exact z6e hP hAmb Tryz.func182 (by kernel_rfl) (.lits 3<|.call (.tup [(N (x.natAbs / y.natAbs)),(N (x.natAbs%y.natAbs)),(.bool true)])<|.lits 5<|.both (.lits 4<|.both (.lit<|.call (N 1)<|.lit<|.call (N ((x.natAbs / y.natAbs)+1))<|.lits 2<|.call (.tup [(N (y.natAbs-(x.natAbs%y.natAbs))),(.bool (decide ((x.natAbs%y.natAbs)≤y.natAbs)))])<|.lits 4<|.call (zV (sgn (!(bEq (decide (x<0)) (decide (y<0)))) ((x.natAbs / y.natAbs)+1)))<|.lits 2<|.call (zV (sgn (decide (y<0)) (y.natAbs-(x.natAbs%y.natAbs))))<|.lits 3<|.ret) (.lits 4<|.call (zV (sgn (!(bEq (decide (x<0)) (decide (y<0)))) (x.natAbs / y.natAbs)))<|.lits 2<|.call (zV (sgn (decide (y<0)) (x.natAbs%y.natAbs)))<|.lits 3<|.ret)) (.lits 8<|.call (zV (sgn (!(bEq (decide (x<0)) (decide (y<0)))) (x.natAbs / y.natAbs)))<|.lits 2<|.call (zV (sgn (decide (y<0)) (x.natAbs%y.natAbs)))<|.lits 3<|.ret))
  (z6d (aI True.intro (aI (zmz x.natAbs y.natAbs oA oA oA) (have f6:=z8p x.natAbs y.natAbs; have f5:=z8o x.natAbs y.natAbs; aI (fun (h1:(!(bEq (decide (x<0)) (decide (y<0))))=true)=>aI (fun (h2:(iGt ((lim (x.natAbs%y.natAbs)).length:Int) 0)=true)=>have _gh2:=z77 h2; aI (za5 1 oA) (aI (zac (x.natAbs / y.natAbs) 1 oA oA) (aI (zda y.natAbs (x.natAbs%y.natAbs) oA oA) (aI (zdb (!(bEq (decide (x<0)) (decide (y<0)))) ((x.natAbs / y.natAbs)+1) oA) (aI (zdb (decide (y<0)) (y.natAbs-(x.natAbs%y.natAbs)) oA) ((z60 (Z_of (by rw [zh7 (by first | assumption | simp_all)]; exact zh3 c2 (by first | assumption | simp_all) oO)) (Z_of (zh8 c2 (by first | assumption | simp_all) oO)) (z5w _):vsub (.tup [(zV (sgn (!(bEq (decide (x<0)) (decide (y<0)))) ((x.natAbs / y.natAbs)+1))),(zV (sgn (decide (y<0)) (y.natAbs-(x.natAbs%y.natAbs)))),(.bool true)]) (.tup [(zV (Int.fdiv x y)),(zV (x-(Int.fdiv x y)*y)),(.bool true)])))))))) (fun (h3:(iGt ((lim (x.natAbs%y.natAbs)).length:Int) 0)=false)=>have _gh3:=z78 h3; aI (zdb (!(bEq (decide (x<0)) (decide (y<0)))) (x.natAbs / y.natAbs) oA) (aI (zdb (decide (y<0)) (x.natAbs%y.natAbs) oA) ((z60 (Z_of (zh4 c2 oO)) (Z_of (zh9 c2 oO)) (z5w _):vsub (.tup [(zV (sgn (!(bEq (decide (x<0)) (decide (y<0)))) (x.natAbs / y.natAbs))),(zV (sgn (decide (y<0)) (x.natAbs%y.natAbs))),(.bool true)]) (.tup [(zV (Int.fdiv x y)),(zV (x-(Int.fdiv x y)*y)),(.bool true)])))))) (fun (h4:(!(bEq (decide (x<0)) (decide (y<0))))=false)=>aI (zdb (!(bEq (decide (x<0)) (decide (y<0)))) (x.natAbs / y.natAbs) oA) (aI (zdb (decide (y<0)) (x.natAbs%y.natAbs) oA) ((z60 (Z_of (zh5 c2 (by first | assumption | simp_all))) (Z_of (zha c2 (by first | assumption | simp_all))) (z5w _):vsub (.tup [(zV (sgn (!(bEq (decide (x<0)) (decide (y<0)))) (x.natAbs / y.natAbs))),(zV (sgn (decide (y<0)) (x.natAbs%y.natAbs))),(.bool true)]) (.tup [(zV (Int.fdiv x y)),(zV (x-(Int.fdiv x y)*y)),(.bool true)])))))))) (by kernel_rfl))

end Go.Proofs.YtcbihoojfakhdaaGreatDoor

namespace Go.Proofs.YtcbihoojfakhdaaGreatDoor
def dv (m e:Int):Rat:=(m:Rat)*(2:Rat)^e
theorem two_ne:(2:Rat)≠0:=by decide
theorem zn1 (a b:Int):(2:Rat)^(a+b)=2^a*2^b:=Rat.zpow_add two_ne a b
theorem zn2 (a:Int):(0:Rat)<2^a:=Rat.zpow_pos (by decide)
theorem zn3 (a:Int):(2:Rat)^a≠0:=fun h=>by have:=zn2 a; rw [h] at this; exact absurd this Rat.lt_irrefl
theorem zn4 (n:Nat):(2:Rat)^(n:Int)=(((2:Int)^n:Int):Rat):=by
 rw [Rat.zpow_natCast,Rat.intCast_pow]; rfl
theorem zp_zero:(2:Rat)^(0:Int)=1:=Rat.zpow_zero 2
theorem zn5 (a:Int):(2:Rat)^a*2^(-a)=1:=by rw [← zn1,Int.add_right_neg,zp_zero]
theorem zn6 (m e:Int)(k:Nat):dv (m*2^k) e=dv m (e+k):=by
 unfold dv
 rw [zn1,zn4,Rat.intCast_mul]
 grind
theorem zn7 {m e c:Int}(h:c≤e):dv m e=dv (m*2^(e-c).toNat) c:=by
 rw [zn6]; congr 1; omega
theorem zn8 {m n c:Int}:dv m c<dv n c↔m<n:=by
 unfold dv; rw [Rat.mul_lt_mul_right (zn2 c),Rat.intCast_lt_intCast]
theorem zn9 {m n c:Int}:dv m c≤dv n c↔m≤n:=by
 rw [← Rat.not_lt,zn8]; omega
theorem zna {m n c:Int}(h:dv m c=dv n c):m=n:=by
 have h1:=(zn9 (m:=m) (n:=n) (c:=c)).1 (by rw [h]; exact Rat.le_refl)
 have h2:=(zn9 (m:=n) (n:=m) (c:=c)).1 (by rw [h]; exact Rat.le_refl)
 omega
theorem znb (e:Int):dv 0 e=0:=by unfold dv; rw [Rat.intCast_zero,Rat.zero_mul]
theorem znc (m:Int):dv m 0=(m:Rat):=by unfold dv; rw [zp_zero,Rat.mul_one]
theorem znd (m e:Int):dv (-m) e=-dv m e:=by unfold dv; rw [Rat.intCast_neg,Rat.neg_mul]
theorem zne (m n c:Int):dv (m+n) c=dv m c+dv n c:=by
 unfold dv; rw [Rat.intCast_add]; grind
theorem znf (m e n f:Int):dv (adS m e n f) (iMin e f)=dv m e+dv n f:=by
 have h:=zht e f
 unfold adS
 rw [zne,← zn7 (by omega),← zn7 (by omega)]
def cmpQ (x y:Rat):Int:=if x<y then -1 else if y<x then 1 else 0
theorem zng (m e n f:Int):cmpD m e n f=cmpQ (dv m e) (dv n f):=by
 have h:=zht e f
 unfold cmpD cmpI cmpQ
 rw [zn7 (m:=m) (show iMin e f≤e by omega),zn7 (m:=n) (show iMin e f≤f by omega)]
 simp only [zn8]
theorem znh {m e:Int}:0<dv m e↔0<m:=by rw [← znb e,zn8]
theorem zni {m e n f:Int}(h:dv m e=dv n f)(he:-131072≤e∧e≤131072)(hf:-131072≤f∧f≤131072):mkM m e=mkM n f∧mkX m e=mkX n f∧mkE m e=mkE n f:=by
 have hm:=zht e f
 have h1:=ziv (m:=m) (e:=e) (c:=iMin e f) (by omega) (by omega) (by omega)
 have h2:=ziv (m:=n) (e:=f) (c:=iMin e f) (by omega) (by omega) (by omega)
 have h3:m*2^(e-iMin e f).toNat=n*2^(f-iMin e f).toNat:=by
  rw [zn7 (m:=m) (show iMin e f≤e by omega),zn7 (m:=n) (show iMin e f≤f by omega)] at h
  exact zna h
 rw [h3] at h1
 exact ⟨h1.1.symm.trans h2.1,h1.2.1.symm.trans h2.2.1,h1.2.2.symm.trans h2.2.2⟩
theorem znj (m e:Int):dv (dm m) (de m e)=dv m e:=by
 unfold de; rw [← zn6,zhv]
theorem znk {m e:Int}(h:mkE m e=0):dv (mkM m e) (mkX m e)=dv m e:=by
 unfold mkM mkX
 rw [if_pos h]
 by_cases h0:m=0
 ·rw [h0,dm_zero,znb,znb]
 ·rw [if_pos ⟨h,h0⟩,znj]
theorem znl {m e:Int}(h:vdb m e=true):mkM m e=m∧mkX m e=e∧mkE m e=0:=by
 rcases zhs.1 h with ⟨h1,h2⟩ | ⟨h1,h2,h3,h4,h5⟩
 ·subst h1; subst h2; exact zi1 (by omega) rfl
 ·have ht:tz m.natAbs=0:=by
   refine zbs (by simp [Nat.mod_one]) (by simpa using h5)
  have e1:dm m=m:=by have:=zhv m; rw [ht] at this; simpa using this
  have e2:de m e=e:=by unfold de; rw [ht]; omega
  have:=zi3 (m:=m) (e:=e) (by omega) h1 (by rw [e1,e2]; exact h)
  rwa [e1,e2] at this
theorem znm {m e:Int}:vdb (mkM m e) (mkX m e)=true:=by
 by_cases h:mkE m e=0
 ·by_cases h0:m=0
  ·have:mkM m e=0∧mkX m e=0:=by unfold mkM mkX; rw [if_pos h,if_neg (fun q=>q.2 h0),h0,dm_zero]; exact ⟨rfl,rfl⟩
   rw [this.1,this.2]; rfl
  ·have e1:mkM m e=dm m:=by unfold mkM; rw [if_pos h]
   have e2:mkX m e=de m e:=by unfold mkX; rw [if_pos ⟨h,h0⟩]
   rw [e1,e2]
   unfold mkE at h
   split at h
   ·omega
   ·try rw [if_neg h0] at h
    split at h
    ·assumption
    ·omega
 ·rw [(zio h).1,(zio h).2]; rfl
def flr (r:Rat)(p:Int):Int:=(r*2^p).floor
def cei (r:Rat)(p:Int):Int:=-(flr (-r) p)
theorem znn (n d:Int)(hd:0<d):((n:Rat) / (d:Rat)).floor=n / d:=by
 have hq:(0:Rat)<(d:Rat):=Rat.intCast_pos.2 hd
 have key:∀ x:Int,x≤((n:Rat) / (d:Rat)).floor↔x≤n / d:=fun x=>by
  rw [Rat.le_floor_iff,Int.le_ediv_iff_mul_le hd,← Rat.intCast_le_intCast (a:=x*d),Rat.intCast_mul,← Rat.not_lt,Rat.div_lt_iff hq,Rat.not_lt]
 have h1:=(key _).1 (Int.le_refl _)
 have h2:=(key _).2 (Int.le_refl _)
 omega
theorem zno (m e p:Int):flr (dv m e) p=if 0≤e+p then m*2^(e+p).toNat else m / 2^(-(e+p)).toNat:=by
 have h:dv m e*2^p=dv m (e+p):=by unfold dv; rw [zn1]; grind
 unfold flr
 rw [h]
 split
 ·rename_i h0
  rw [zn7 h0,znc,Rat.floor_intCast,Int.sub_zero]
 ·rename_i h0
  rw [← znn _ _ (zi5 _)]
  congr 1
  have h1:=zn5 (e+p)
  have h2:=zn4 (-(e+p)).toNat
  rw [show (((-(e+p)).toNat:Nat):Int)=-(e+p) by omega] at h2
  rw [← h2]
  unfold dv
  have h3:=zn3 (-(e+p))
  grind
theorem znp (n d p:Int)(hd:0<d):flr ((n:Rat) / (d:Rat)) p=if 0≤p then n*2^p.toNat / d else n / (d*2^(-p).toNat):=by
 have hq:(d:Rat)≠0:=fun h=>by have:=Rat.intCast_eq_zero_iff.1 h; omega
 unfold flr
 split
 ·rename_i h0
  rw [← znn _ _ hd]
  congr 1
  have h2:=zn4 p.toNat
  rw [show ((p.toNat:Nat):Int)=p by omega] at h2
  rw [h2,Rat.intCast_mul]
  grind
 ·rename_i h0
  rw [← znn _ _ (Int.mul_pos hd (zi5 _))]
  congr 1
  have h1:=zn5 p
  have h2:=zn4 (-p).toNat
  rw [show (((-p).toNat:Nat):Int)=-p by omega] at h2
  rw [Rat.intCast_mul,← h2]
  have h3:=zn3 (-p)
  grind
theorem znq (r:Rat)(p:Int):dv (flr r p) (-p)≤r:=by
 have h3:=Rat.mul_le_mul_of_nonneg_right (Rat.floor_le (r*2^p)) (Rat.le_of_lt (zn2 (-p)))
 rw [Rat.mul_assoc r,zn5,Rat.mul_one] at h3
 exact h3
theorem znr (r:Rat)(p:Int):r<dv (flr r p+1) (-p):=by
 have h3:=Rat.mul_lt_mul_of_pos_right (Rat.lt_floor_add_one (r*2^p)) (zn2 (-p))
 rw [Rat.mul_assoc r,zn5,Rat.mul_one] at h3
 exact h3
end Go.Proofs.YtcbihoojfakhdaaGreatDoor

namespace Go.Proofs.YtcbihoojfakhdaaGreatDoor
theorem zns (r:Rat):(r.den:Int)≠0:=by have:=r.den_nz; omega
theorem q_eq (r:Rat):r=(r.num:Rat) / (r.den:Int):=by
 have h:=Rat.num_divInt_den r
 rw [Rat.divInt_eq_div] at h
 exact h.symm
theorem znt {m e:Int}(he:0≤e):(dv m e).num=m*2^e.toNat∧(dv m e).den=1:=by
 rw [zn7 he,znc,Int.sub_zero]
 exact ⟨Rat.num_intCast _,Rat.den_intCast _⟩
theorem znu {m e:Int}(hv:vdb m e=true)(he:e<0):(dv m e).num=m∧(dv m e).den=2^(-e).toNat:=by
 have hm:m.natAbs%2=1:=by
  rcases zhs.1 hv with ⟨_,h2⟩ | ⟨_,_,_,_,h⟩
  ·omega
  ·exact h
 have hc:Nat.Coprime m.natAbs (2^(-e).toNat):=by
  refine Nat.Coprime.pow_right _ ?_
  rw [Nat.coprime_comm]
  unfold Nat.Coprime
  rw [Nat.gcd_rec,hm]; decide
 have h:dv m e=(⟨m,2^(-e).toNat,Nat.pos_iff_ne_zero.1 (Nat.pow_pos (by omega)),hc⟩:Rat):=by
  rw [Rat.mk_eq_mkRat,Rat.mkRat_eq_div]
  have h1:=zn5 e
  have h2:=zn4 (-e).toNat
  rw [show (((-e).toNat:Nat):Int)=-e by omega] at h2
  have h3:=zn3 (-e)
  have h4:(((2^(-e).toNat:Nat)):Rat)=2^(-e):=by
   rw [h2,← Rat.intCast_natCast,Int.natCast_pow]; rfl
  rw [h4]
  unfold dv
  grind
 rw [h]
 exact ⟨rfl,rfl⟩
theorem znv (r:Rat)(p:Int):flr r p=if 0≤p then r.num*2^p.toNat / (r.den:Int) else r.num / ((r.den:Int)*2^(-p).toNat):=by
 have h:=znp r.num (r.den:Int) p (by have:=r.den_nz; omega)
 rw [← q_eq] at h
 exact h
theorem znw {r:Rat}{n:Nat}(hd:r.den=2^n){p:Int}(hp:(n:Int)≤p):flr r p=r.num*2^(p-n).toNat:=by
 rw [znv,if_pos (by omega),hd,Int.natCast_pow]
 have:p.toNat=(p-n).toNat+n:=by omega
 rw [this,Int.pow_add,← Int.mul_assoc]
 exact Int.mul_ediv_cancel _ (by have:=zi5 n; exact Int.ne_of_gt this)
theorem znx {r:Rat}{n:Nat}(hd:r.den=2^n){p:Int}(hp:p<(n:Int)):flr r p=r.num / 2^((n:Int)-p).toNat:=by
 rw [znv,hd,Int.natCast_pow]
 split
 ·rename_i h0
  have:((2:Nat):Int)^n=2^p.toNat*2^((n:Int)-p).toNat:=by rw [← Int.pow_add]; show (2:Int)^n=_; congr 1; omega
  rw [this,Int.mul_comm r.num,Int.mul_ediv_mul_of_pos _ _ (zi5 _)]
 ·rename_i h0
  congr 1
  show (2:Int)^n*_=_
  rw [← Int.pow_add]; congr 1; omega
theorem zny (r:Rat):L (r.den:Int).natAbs=L r.den:=by rw [Int.natAbs_natCast]
theorem znz (x y:Rat):(cmpQ x y=-1∧x<y)∨(cmpQ x y=1∧y<x)∨(cmpQ x y=0∧x=y):=by
 unfold cmpQ
 by_cases h:x<y
 ·exact .inl ⟨if_pos h,h⟩
 ·rw [if_neg h]
  by_cases h2:y<x
  ·exact .inr (.inl ⟨if_pos h2,h2⟩)
  ·exact .inr (.inr ⟨if_neg h2,Rat.le_antisymm (Rat.not_lt.1 h2) (Rat.not_lt.1 h)⟩)
end Go.Proofs.YtcbihoojfakhdaaGreatDoor

namespace Go.Proofs.YtcbihoojfakhdaaGreatDoor
open Go.RowKit
theorem zo0 (v:Int){n:Int}(hn:0<n):-n<v.tmod n:=by
 have:=Int.tmod_lt_of_pos (-v) hn
 rw [Int.neg_tmod] at this
 omega
theorem zo1 {v n:Int}(hn:0<n)(h:wRem v n<0):wRem v n+n=v%n:=by
 unfold wRem at *
 have h1:=Int.tmod_add_mul_tdiv v n
 have h2:=zo0 v hn
 have h3:v%n=(v.tmod n)%n:=by
  conv=>lhs; rw [← h1]
  rw [Int.add_mul_emod_self_left]
 rw [h3,← Int.add_emod_right,Int.emod_eq_of_lt (by omega) (by omega)]
theorem zo2 {v n:Int}(hn:0<n)(h:0≤wRem v n):wRem v n=v%n:=by
 unfold wRem at *
 have h1:=Int.tmod_add_mul_tdiv v n
 have h2:=Int.tmod_lt_of_pos v hn
 have h3:v%n=(v.tmod n)%n:=by
  conv=>lhs; rw [← h1]
  rw [Int.add_mul_emod_self_left]
 rw [h3,Int.emod_eq_of_lt h h2]
theorem zo3 {v n:Int}(hn:0<n):-n<wRem v n∧wRem v n<n:=⟨zo0 v hn,Int.tmod_lt_of_pos v hn⟩
theorem zo4 {m e:Int}(hE:mkE m e=0):(m=0∧mkM m e=0∧mkX m e=0)∨(m≠0∧mkM m e=dm m∧mkX m e=de m e∧vdb (dm m) (de m e)=true):=by
 by_cases hm:m=0
 ·refine .inl ⟨hm,?_,?_⟩
  ·unfold mkM; rw [if_pos hE,hm,dm_zero]
  ·unfold mkX; rw [if_neg (fun q=>q.2 hm)]
 ·refine .inr ⟨hm,?_,?_,?_⟩
  ·unfold mkM; rw [if_pos hE]
  ·unfold mkX; rw [if_pos ⟨hE,hm⟩]
  ·unfold mkE at hE
   split at hE
   ·omega
   ·first
    | (rw [if_neg hm] at hE; split at hE; assumption; omega)
    | (split at hE; assumption; omega)
theorem zo5 {m e p:Int}(hE:mkE m e=0)(hp:-p≤e)(h:(-2048:Int)≤p∧p≤8192):onB (mkM m e) (mkX m e) p=true:=by
 refine decide_eq_true ⟨h,?_⟩
 rcases zo4 hE with ⟨_,h1,h2⟩ | ⟨_,h1,h2,h3⟩
 ·exact .inl h1
 ·refine .inr ?_; rw [h2]; unfold de; omega
theorem zo6 {m e:Int}(h:L m.natAbs≤900)(he:-60000≤e∧e≤30000):mkE m e=0:=by
 by_cases hm:m=0
 ·exact (zi1 (by omega) hm).2.2
 ·refine (zi3 (by omega) hm ?_).2.2
  rw [zhs]
  have h1:=L_dm m
  have h2:=zet (dm m).natAbs
  have h3:=tz_L m.natAbs
  have h4:=zhy hm
  unfold de
  exact .inr ⟨zhx hm,by omega,by omega,by omega,h4⟩
end Go.Proofs.YtcbihoojfakhdaaGreatDoor

namespace Go.Proofs.YtcbihoojfakhdaaGreatDoor
open Go.RowKit
def rawI (b:Bool)(l:List Nat)(n:Int):Int:=if (l.length:Int)≤n then sgn b (val l) else 0
theorem zo7 {b:Bool}{l:List Nat}{n:Int}(h:(l.length:Int)≤n):rawI b l n=sgn b (val l):=by unfold rawI; rw [if_pos h]
theorem zo8 {b:Bool}{l:List Nat}{n:Int}(h:n<(l.length:Int)):rawI b l n=0:=by unfold rawI; rw [if_neg (by omega)]
theorem zo9 {b:Bool}{l:List Nat}(hl:Dig l){n:Int}(hn:0≤n):(L (rawI b l n).natAbs:Int)≤n:=by
 by_cases h:(l.length:Int)≤n
 ·rw [zo7 h]
  have:=zgm b (val l)
  have:=zfm hl
  omega
 ·rw [zo8 (by omega)]
  have:L (0:Int).natAbs=0:=L_zero
  omega
theorem zoa {b:Bool}{l:List Nat}{n:Int}(h:n<(l.length:Int)):vsub (.tup [.agg [.bool false,.nil],.bool false]) (.tup [.agg [.bool (decide (rawI b l n<0)),N (rawI b l n).natAbs],.bool (decide ((l.length:Int)≤n))]):=by
 rw [zo8 h,decide_eq_false (show ¬((l.length:Int)≤n) by omega)]
 exact z5z vsub_zero2 (z5w _)
theorem zob {b:Bool}{l:List Nat}{n:Int}(h:(l.length:Int)≤n):vsub (.tup [.agg [.bool (decide (sgn b (val l)<0)),N (sgn b (val l)).natAbs],.bool true]) (.tup [.agg [.bool (decide (rawI b l n<0)),N (rawI b l n).natAbs],.bool (decide ((l.length:Int)≤n))]):=by
 rw [zo7 h,decide_eq_true h]
 exact z5w _
theorem zoc (e:Int):mkM 0 e=0∧mkX 0 e=0:=by
 refine ⟨?_,?_⟩
 ·unfold mkM; split
  ·exact dm_zero
  ·rfl
 ·unfold mkX; rw [if_neg (fun q=>q.2 rfl)]
theorem zod {b:Bool}{l:List Nat}{n e:Int}(h:n<(l.length:Int)):vsub (.tup [.agg [.bool false,.nil,.int .i64 0],.bool false])
  (.tup [.agg [.bool (decide (mkM (rawI b l n) e<0)),N (mkM (rawI b l n) e).natAbs,.int .i64 (mkX (rawI b l n) e)],.bool (decide ((l.length:Int)≤n))]):=by
 rw [zo8 h,(zoc e).1,(zoc e).2,decide_eq_false (show ¬((l.length:Int)≤n) by omega)]
 exact z5z vsub_zero3 (z5w _)
theorem zoe {m e:Int}{p:Prop}[Decidable p](h:mkE m e=0)(hp:p):iEq (mkE m e) 0=decide p:=by rw [h,decide_eq_true hp]; rfl
def swM (m e n f:Int):Int:=if 0<cmpD m e n f then n else m
def swX (m e n f:Int):Int:=if 0<cmpD m e n f then f else e
def swN (m e n f:Int):Int:=if 0<cmpD m e n f then m else n
def swF (m e n f:Int):Int:=if 0<cmpD m e n f then e else f
theorem zof {m e n f:Int}(h:0<cmpD m e n f):n=swM m e n f∧f=swX m e n f∧m=swN m e n f∧e=swF m e n f:=by unfold swM swX swN swF; simp [h]
theorem zog {m e n f:Int}(h:cmpD m e n f≤0):m=swM m e n f∧e=swX m e n f∧n=swN m e n f∧f=swF m e n f:=by
 have h':¬ 0<cmpD m e n f:=by omega
 unfold swM swX swN swF; simp [h']
theorem zoh (m e n f:Int):(0<cmpD m e n f∧swM m e n f=n∧swX m e n f=f∧swN m e n f=m∧swF m e n f=e∧L (swM m e n f).natAbs=L n.natAbs∧L (swN m e n f).natAbs=L m.natAbs) ∨
  (cmpD m e n f≤0∧swM m e n f=m∧swX m e n f=e∧swN m e n f=n∧swF m e n f=f∧L (swM m e n f).natAbs=L m.natAbs∧L (swN m e n f).natAbs=L n.natAbs):=by
 by_cases h:0<cmpD m e n f
 ·have:=zof h; exact .inl ⟨h,this.1.symm,this.2.1.symm,this.2.2.1.symm,this.2.2.2.symm,by rw [← this.1],by rw [← this.2.2.1]⟩
 ·have:=zog (show cmpD m e n f≤0 by omega); exact .inr ⟨by omega,this.1.symm,this.2.1.symm,this.2.2.1.symm,this.2.2.2.symm,by rw [← this.1],by rw [← this.2.2.1]⟩
theorem W_of {m e n f m' e' n' f':Int}{a b:Bool}(h:m=m'∧e=e'∧n=n'∧f=f')(hb:a=b) :
  vsub (.tup [.agg [.bool (decide (m<0)),N m.natAbs,.int .i64 e,.bool (decide (n<0)),N n.natAbs,.int .i64 f],.bool a]) (.tup [.agg [.bool (decide (m'<0)),N m'.natAbs,.int .i64 e',.bool (decide (n'<0)),N n'.natAbs,.int .i64 f'],.bool b]):=by
 obtain ⟨rfl,rfl,rfl,rfl⟩:=h; subst hb; exact z5w _
def thM (h k n f:Int):Int:=if cmpD h k n f<0 then h else n
def thX (h k n f:Int):Int:=if cmpD h k n f<0 then k else f
theorem zoi {h k n f:Int}(q:cmpD h k n f<0):h=thM h k n f∧k=thX h k n f:=by unfold thM thX; simp [q]
theorem zoj {h k n f:Int}(q:0≤cmpD h k n f):n=thM h k n f∧f=thX h k n f:=by
 have q':¬ cmpD h k n f<0:=by omega
 unfold thM thX; simp [q']
theorem zok (h k n f:Int):(cmpD h k n f<0∧thM h k n f=h∧thX h k n f=k∧L (thM h k n f).natAbs=L h.natAbs)∨(0≤cmpD h k n f∧thM h k n f=n∧thX h k n f=f∧L (thM h k n f).natAbs=L n.natAbs):=by
 by_cases q:cmpD h k n f<0
 ·have:=zoi q; exact .inl ⟨q,this.1.symm,this.2.symm,by rw [← this.1]⟩
 ·have:=zoj (show 0≤cmpD h k n f by omega); exact .inr ⟨by omega,this.1.symm,this.2.symm,by rw [← this.1]⟩
theorem zol {m e n f n' f':Int}(h:n=n'∧f=f') :
  vsub (.agg [.bool (decide (m<0)),N m.natAbs,.int .i64 e,.bool (decide (n<0)),N n.natAbs,.int .i64 f]) (.agg [.bool (decide (m<0)),N m.natAbs,.int .i64 e,.bool (decide (n'<0)),N n'.natAbs,.int .i64 f']):=by
 obtain ⟨rfl,rfl⟩:=h; exact z5w _
end Go.Proofs.YtcbihoojfakhdaaGreatDoor

namespace Go.Proofs.YtcbihoojfakhdaaGreatDoor
theorem zom (m e:Int):vdb (-m) e=vdb m e:=by
 unfold vdb; rw [Int.natAbs_neg]; simp only [Int.neg_eq_zero]
def scl (x n:Int):Int:=if n<0 then x / 2^(-n).toNat else x*2^n.toNat
theorem zon (x n:Int):(L (scl x n).natAbs:Int)≤L x.natAbs+n.toNat / 32+1:=by
 unfold scl
 split
 ·have:=zgy x (-n).toNat; omega
 ·have:=zgw x n.toNat; omega
theorem zoo (m e p:Int):flr (dv m e) p=scl m (e+p):=by
 rw [zno]; unfold scl
 by_cases h:0≤e+p
 ·rw [if_pos h,if_neg (by omega)]
 ·rw [if_neg h,if_pos (by omega)]
def flF (n d p:Int):Int:=if 0≤p then n*2^p.toNat / d else n / (d*2^(-p).toNat)
theorem zop (r:Rat)(p:Int):flF r.num (r.den:Int) p=flr r p:=(znv r p).symm
theorem zoq {x y:Int}(hy:0<y):Int.fdiv x y=x / y:=Int.fdiv_eq_ediv_of_nonneg _ (by omega)
theorem zor {n d p:Int}(hd:0<d)(hp:0≤p):Int.fdiv (n*2^p.toNat) d=flF n d p:=by unfold flF; rw [if_pos hp,zoq hd]
theorem zos {n d p:Int}(hd:0<d)(hp:p<0):Int.fdiv n (d*2^(-p).toNat)=flF n d p:=by
 unfold flF; rw [if_neg (by omega),zoq (Int.mul_pos hd (zi5 _))]
theorem zot (x y:Int):L (x / y).natAbs≤L x.natAbs+1:=by
 rcases Int.lt_trichotomy y 0 with h | h | h
 ·have h1:=zh6 (-x) (-y)
  rw [Int.neg_fdiv_neg] at h1
  have e:x / y=-(x / -y):=by rw [Int.ediv_neg,Int.neg_neg]
  have h2:=zh6 x (-y)
  rw [zoq (by omega)] at h2
  rw [e,Int.natAbs_neg]; exact h2
 ·subst h; rw [Int.ediv_zero]; simp [L_zero]
 ·have h1:=zh6 x y
  rw [zoq h] at h1; exact h1
theorem zou (n d p:Int):(L (flF n d p).natAbs:Int)≤L n.natAbs+p.toNat / 32+2:=by
 unfold flF
 split
 ·have h1:=zot (n*2^p.toNat) d
  have h2:=zgw n p.toNat
  omega
 ·have h1:=zot n (d*2^(-p).toNat)
  omega
theorem zov (r:Rat)(p:Int):(L (flr r p).natAbs:Int)≤L r.num.natAbs+p.toNat / 32+2∧(L (cei r p).natAbs:Int)≤L r.num.natAbs+p.toNat / 32+2:=by
 have h1:=zou r.num (r.den:Int) p
 have h2:=zou (-r).num ((-r).den:Int) p
 rw [zop] at h1 h2
 rw [Rat.neg_num,Int.natAbs_neg] at h2
 unfold cei
 rw [Int.natAbs_neg]
 exact ⟨h1,h2⟩
theorem zow (m e p:Int):(L (flr (dv m e) p).natAbs:Int)≤L m.natAbs+(e+p).toNat / 32+1∧(L (cei (dv m e) p).natAbs:Int)≤L m.natAbs+(e+p).toNat / 32+1:=by
 have h1:=zon m (e+p)
 have h2:=zon (-m) (e+p)
 rw [← zoo] at h1 h2
 rw [Int.natAbs_neg] at h2
 unfold cei
 rw [Int.natAbs_neg,← znd]
 exact ⟨h1,h2⟩
theorem zox {d:Nat}(h0:d≠0)(h:(tz d:Int)=(nbits d:Int)-1):d=2^tz d:=by
 have h1:=zb9 d
 have h2:=zbb h0
 have h3:=Nat.dvd_of_mod_eq_zero (zbr h0).1
 obtain ⟨k,hk⟩:=h3
 have e:nbits d=tz d+1:=by omega
 rw [e,Nat.pow_succ] at h1
 have hp:0<2^tz d:=Nat.pow_pos (by omega)
 have hk1:k=1:=by
  rcases Nat.lt_or_ge k 2 with q | q
  ·rcases Nat.eq_zero_or_pos k with q0 | q0
   ·rw [q0] at hk; omega
   ·omega
  ·have:=Nat.mul_le_mul_left (2^tz d) q; omega
 rw [hk1,Nat.mul_one] at hk
 exact hk
theorem dv_L {m e:Int}(hv:vdb m e=true)(he:-65536≤e∧e≤65536):L (dv m e).num.natAbs≤L m.natAbs+2050∧L (dv m e).den≤2050:=by
 by_cases h:0≤e
 ·have h1:=znt (m:=m) h
  have h2:=zgw m e.toNat
  have h3:L 1≤1:=L_le (by decide)
  rw [h1.1,h1.2]
  omega
 ·have h1:=znu hv (by omega)
  have h2:=z8q (-e).toNat
  rw [h1.1,h1.2]
  omega
end Go.Proofs.YtcbihoojfakhdaaGreatDoor

namespace Go.Proofs.YtcbihoojfakhdaaGreatDoor
open Go.RowKit
set_option maxRecDepth 100000
theorem zoy (n:Int)(c0:(0:Int)≤n∧n≤200000):Impl Tryz.prog Amb 167 [(.int .i64 n)] (N (1*2^(n).toNat)):=by
 have l1:=L_le (n:=1) (k:=1) (by decide)
 exact z6e hP hAmb Tryz.func167 (by kernel_rfl) (.lit<|.call (N 1)<|.lit<|.call (N (1*2^(n).toNat))<|.lit<|.ret)
  (z6d (aI True.intro (aI (zfy 1 oA) (aI (zg5 1 n oA oA) (have f1:=z8r 1 (n).toNat; (z5w (N (1*2^(n).toNat))))))) (by kernel_rfl))
theorem zoz (m e:Int)(c0:L (m).natAbs≤100000)(c1:(-65536:Int)≤e∧e≤65536)(c2:vdb m e=true):Impl Tryz.prog Amb 97 [(yV m e)] (.agg [(.bool (decide ((dv m e).num<0))),(N (((dv m e).num).natAbs)),(N ((dv m e).den))]):=by
 exact z6e hP hAmb Tryz.func97 (by kernel_rfl) (.lits 2<|.both (.lits 3<|.call (zV (m*2^(e).toNat))<|.lit<|.call (N 1)<|.lits 3<|.ret) (.lits 3<|.yes<|.lit<|.call (N (1*2^(((0:Int)-e)).toNat))<|.lits 3<|.ret))
  (z6d (aI True.intro (aI (fun (h1:(iGe e 0)=true)=>have _gh1:=z79 h1; aI (zhm m e oA oA) (have f2:=zgw m (e).toNat; aI (zfy 1 oA) ((by rw [(znt (show 0≤e by omega)).1,(znt (m:=m) (show 0≤e by omega)).2]; exact z5w _:vsub (.agg [(.bool (decide ((m*2^(e).toNat)<0))),(N ((m*2^(e).toNat).natAbs)),(N 1)]) (.agg [(.bool (decide ((dv m e).num<0))),(N (((dv m e).num).natAbs)),(N ((dv m e).den))]))))) (fun (h3:(iGe e 0)=false)=>have _gh3:=z7a h3; aI (z7s oA:(fits .i64 ((0:Int)-e))=true) (aI (zoy ((0:Int)-e) oA) (have f4:=z8r 1 (((0:Int)-e)).toNat; (by rw [(znu c2 (show e<0 by omega)).1,(znu c2 (show e<0 by omega)).2,show (0-e)=-e by omega,Nat.one_mul]; exact z5w _:vsub (.agg [(.bool (decide (m<0))),(N m.natAbs),(N (1*2^(((0:Int)-e)).toNat))]) (.agg [(.bool (decide ((dv m e).num<0))),(N (((dv m e).num).natAbs)),(N ((dv m e).den))]))))))) (by kernel_rfl))
theorem zp0 (r:Rat)(p:Int)(c0:L r.num.natAbs≤100000)(c1:L r.den≤30000)(c2:(-10000:Int)≤p∧p≤10000):Impl Tryz.prog Amb 98 [(.agg [(.bool (decide (r.num<0))),(N r.num.natAbs),(N r.den)]),(.int .i64 p)] (zV (flr r p)):=by
 have n0:=zbb r.den_nz
 have n1:=zet r.den
 have t1:=fun q=>zox r.den_nz q
 have d0:=zns r
 have d1:(0:Int)<(r.den:Int):=by omega
 have d2:=zny r
 have d3:sgn false r.den=(r.den:Int):=zcr _
 have d4:=zcs false r.den
 have l1:=z8r r.den (-p).toNat
 have d5:=zi5 (0-p).toNat
 have d6:(r.den:Int)*2^(0-p).toNat≠0:=Int.mul_ne_zero d0 (Int.ne_of_gt d5)
 have d7:=zgw (sgn false r.den) (0-p).toNat
 exact z6e hP hAmb Tryz.func98 (by kernel_rfl) (.lits 2<|.call (.int .i64 (nbits r.den:Int))<|.lit<|.yes<|.lits 2<|.call (.int .i64 (tz r.den:Int))<|.lit<|.both (.lit<|.both (.lits 2<|.yes<|.lit<|.call (zV (r.num*2^((p-((nbits r.den:Int)-1))).toNat))<|.lits 2<|.ret) (.lits 2<|.yes<|.lit<|.call (zV (r.num / 2^((((nbits r.den:Int)-1)-p)).toNat))<|.lits 2<|.ret)) (.lits 3<|.call (zV (sgn false r.den))<|.lit<|.both (.lits 2<|.call (zV (r.num*2^(p).toNat))<|.lits 4<|.call (.tup [(zV (Int.fdiv (r.num*2^(p).toNat) (sgn false r.den))),(zV ((r.num*2^(p).toNat)-(Int.fdiv (r.num*2^(p).toNat) (sgn false r.den))*(sgn false r.den))),(.bool true)])<|.lits 5<|.ret) (.lits 2<|.yes<|.lit<|.call (zV ((sgn false r.den)*2^(((0:Int)-p)).toNat))<|.lits 4<|.call (.tup [(zV (Int.fdiv r.num ((sgn false r.den)*2^(((0:Int)-p)).toNat))),(zV (r.num-(Int.fdiv r.num ((sgn false r.den)*2^(((0:Int)-p)).toNat))*((sgn false r.den)*2^(((0:Int)-p)).toNat))),(.bool true)])<|.lits 5<|.ret)))
  (z6d (aI True.intro (aI (zga r.den (by first | omega | (rw [d3]; first | omega | assumption))) (have f15:=zet r.den; aI (z7s (by first | omega | (rw [d3]; first | omega | assumption)):(fits .i64 ((nbits r.den:Int)-1))=true) (aI (zgc r.den (by first | omega | (rw [d3]; first | omega | assumption))) (have f14:=tz_L r.den; aI (fun (h1:(iEq (tz r.den:Int) ((nbits r.den:Int)-1))=true)=>have _gh1:=z7b h1; aI (fun (h2:(iGe p ((nbits r.den:Int)-1))=true)=>have _gh2:=z79 h2; aI (z7s (by first | omega | (rw [d3]; first | omega | assumption)):(fits .i64 (p-((nbits r.den:Int)-1)))=true) (aI (zhm r.num (p-((nbits r.den:Int)-1)) (by first | omega | (rw [d3]; first | omega | assumption)) (by first | omega | (rw [d3]; first | omega | assumption))) (have f3:=zgw r.num ((p-((nbits r.den:Int)-1))).toNat; (Z_of (by rw [znw (t1 oO) oO]; congr 3; omega):vsub (zV (r.num*2^((p-((nbits r.den:Int)-1))).toNat)) (zV (flr r p)))))) (fun (h4:(iGe p ((nbits r.den:Int)-1))=false)=>have _gh4:=z7a h4; aI (z7s (by first | omega | (rw [d3]; first | omega | assumption)):(fits .i64 (((nbits r.den:Int)-1)-p))=true) (aI (zhn r.num (((nbits r.den:Int)-1)-p) (by first | omega | (rw [d3]; first | omega | assumption)) (by first | omega | (rw [d3]; first | omega | assumption))) (have f5:=zgy r.num ((((nbits r.den:Int)-1)-p)).toNat; (Z_of (by rw [znx (t1 oO) oO]; congr 3; omega):vsub (zV (r.num / 2^((((nbits r.den:Int)-1)-p)).toNat)) (zV (flr r p))))))) (fun (h6:(iEq (tz r.den:Int) ((nbits r.den:Int)-1))=false)=>have _gh6:=z7c h6; aI (zhb false r.den (by first | omega | (rw [d3]; first | omega | assumption))) (have f13:=zgm false r.den; aI (fun (h7:(iGe p 0)=true)=>have _gh7:=z79 h7; aI (zhm r.num p (by first | omega | (rw [d3]; first | omega | assumption)) (by first | omega | (rw [d3]; first | omega | assumption))) (have f9:=zgw r.num (p).toNat; aI (zho (r.num*2^(p).toNat) (sgn false r.den) (by first | omega | (rw [d3]; first | omega | assumption)) (by first | omega | (rw [d3]; first | omega | assumption)) (by first | omega | (rw [d3]; first | omega | assumption))) (have f8:=zh6 (r.num*2^(p).toNat) (sgn false r.den); (Z_of (by rw [d3,zor d1 oO,zop]):vsub (zV (Int.fdiv (r.num*2^(p).toNat) (sgn false r.den))) (zV (flr r p)))))) (fun (h10:(iGe p 0)=false)=>have _gh10:=z7a h10; aI (z7s (by first | omega | (rw [d3]; first | omega | assumption)):(fits .i64 ((0:Int)-p))=true) (aI (zhm (sgn false r.den) ((0:Int)-p) (by first | omega | (rw [d3]; first | omega | assumption)) (by first | omega | (rw [d3]; first | omega | assumption))) (have f12:=zgw (sgn false r.den) (((0:Int)-p)).toNat; aI (zho r.num ((sgn false r.den)*2^(((0:Int)-p)).toNat) (by first | omega | (rw [d3]; first | omega | assumption)) (by first | omega | (rw [d3]; first | omega | assumption)) (by first | omega | (rw [d3]; first | omega | assumption))) (have f11:=zh6 r.num ((sgn false r.den)*2^(((0:Int)-p)).toNat); (Z_of (by rw [d3,show (0:Int)-p=-p by omega,zos d1 oO,zop]):vsub (zV (Int.fdiv r.num ((sgn false r.den)*2^(((0:Int)-p)).toNat))) (zV (flr r p)))))))))))))) (by kernel_rfl))
end Go.Proofs.YtcbihoojfakhdaaGreatDoor



namespace Go.Proofs.YtcbihoojfakhdaaGreatDoor
theorem zp1 {m e n f:Int}:cmpD n f m e<0↔dv n f<dv m e:=by
 rw [zng]
 rcases znz (dv n f) (dv m e) with ⟨h,k⟩ | ⟨h,k⟩ | ⟨h,k⟩
 ·rw [h]; exact ⟨fun _=>k,fun _=>by omega⟩
 ·rw [h]; exact ⟨fun q=>by omega,fun q=>absurd (Rat.lt_iff_le_and_ne.1 q).1 (Rat.not_le.2 k)⟩
 ·rw [h,k]; exact ⟨fun q=>by omega,fun q=>absurd q Rat.lt_irrefl⟩
theorem zp2 {m e n f:Int}:0<cmpD n f m e↔dv m e<dv n f:=by
 rw [zii,← zp1]; omega
theorem zp3 {P:Program}{C:World→Prop}{f:FuncId}{ds:List V}{r r':V}(h:r=r')(k:Impl P C f ds r):Impl P C f ds r':=h ▸ k
end Go.Proofs.YtcbihoojfakhdaaGreatDoor



namespace Go.Proofs.YtcbihoojfakhdaaGreatDoor
open Go.RowKit
set_option maxRecDepth 100000
theorem zp4 (v n:Int)(c0:(0:Int)<n∧n≤1000000000)(c1:(-9223372036854775808:Int)≤v∧v≤9223372036854775807):Impl Tryz.prog Amb 16 [(.int .i64 v),(.int .i64 n)] (.int .i64 (v%n)):=by
 have r0:=zo3 (v:=v) (n:=n) oO
 exact z6e hP hAmb Tryz.func16 (by kernel_rfl) (.yes<|.lit<|.both (.lit<|.yes<|.lit<|.ret) (.lit<|.ret))
  (z6d (aI True.intro (aI (z7j oA:(iNe n 0)=true) (aI (fun (h1:(iLt (wRem v n) 0)=true)=>have _gh1:=z73 h1; aI (z7s oA:(fits .i64 ((wRem v n)+n))=true) ((z5x (congrArg (V.int .i64) (zo1 oO oO)):vsub (.int .i64 ((wRem v n)+n)) (.int .i64 (v%n))))) (fun (h2:(iLt (wRem v n) 0)=false)=>have _gh2:=z74 h2; (z5x (congrArg (V.int .i64) (zo2 oO oO)):vsub (.int .i64 (wRem v n)) (.int .i64 (v%n))))))) (by kernel_rfl))
theorem zp5 (b:Bool)(l:List Nat)(n:Int)(c0:Dig l)(c1:l.length≤9223372036854775807)(c2:(0:Int)≤n∧n≤1000):Impl Tryz.prog Amb 66 [(.agg [(.bool b),(.sl 1 (U l))]),(.int .i64 n)] (.tup [(zV (rawI b l n)),(.bool (decide ((l.length:Int)≤n)))]):=by
 have e0:=z6n l
 exact z6e hP hAmb Tryz.func66 (by kernel_rfl) (.lits 2<|.both (.lits 3<|.ret) (.lits 3<|.call (zV (sgn b (val l)))<|.lits 2<|.ret))
  (z6d (aI True.intro (aI (fun (h1:(iGt ((U l).length:Int) n)=true)=>have _gh1:=z77 h1; (zoa oO:vsub (.tup [(.agg [(.bool false),.nil]),(.bool false)]) (.tup [(zV (rawI b l n)),(.bool (decide ((l.length:Int)≤n)))]))) (fun (h2:(iGt ((U l).length:Int) n)=false)=>have _gh2:=z78 h2; aI (zhc b (U l) l rfl c0 oO) (have f4:=zfm ‹Dig l›; have f3:=zgm b (val l); (zob oO:vsub (.tup [(zV (sgn b (val l))),(.bool true)]) (.tup [(zV (rawI b l n)),(.bool (decide ((l.length:Int)≤n)))])))))) (by kernel_rfl))
theorem zp6 (b:Bool)(l:List Nat)(e n k:Int)(c0:Dig l)(c1:l.length≤9223372036854775807)(c2:(-9223372036854775808:Int)≤e∧e≤9223372036854775807)(c3:(0:Int)≤n∧n≤800)(c4:(0:Int)≤k∧k≤20000):Impl Tryz.prog Amb 15 [(.agg [(.bool b),(.sl 1 (U l)),(.int .i64 e)]),(.int .i64 n),(.int .i64 k)] (.tup [(yV (mkM (rawI b l n) (e%(2*k+1)-k)) (mkX (rawI b l n) (e%(2*k+1)-k))),(.bool (decide ((l.length:Int)≤n)))]):=by
 have ej:=Int.emod_nonneg e (show (2*k+1:Int)≠0 by omega)
 have ek:=Int.emod_lt_of_pos e (show (0:Int)<2*k+1 by omega)
 exact z6e hP hAmb Tryz.func15 (by kernel_rfl) (.lits 2<|.call (.tup [(zV (rawI b l n)),(.bool (decide ((l.length:Int)≤n)))])<|.lits 2<|.both (.lits 3<|.ret) (.lits 3<|.yes<|.lit<|.yes<|.lit<|.call (.int .i64 (e%(((2:Int)*k)+1)))<|.lit<|.yes<|.lit<|.call (mkT (rawI b l n) ((e%(((2:Int)*k)+1))-k))<|.lits 4<|.ret))
  (z6d (aI True.intro (aI (zp5 b l n oA oA oA) (have f6:=(zo9 (b:=b) ‹Dig l› (show (0:Int)≤n by first | omega | (simp<;>omega))); aI (fun (h1:(!(decide ((l.length:Int)≤n)))=true)=>have _gh1:=of_decide_eq_false (z7p h1); (zod oO:vsub (.tup [(.agg [(.bool false),.nil,(.int .i64 0)]),(.bool false)]) (.tup [(yV (mkM (rawI b l n) (e%(2*k+1)-k)) (mkX (rawI b l n) (e%(2*k+1)-k))),(.bool (decide ((l.length:Int)≤n)))]))) (fun (h2:(!(decide ((l.length:Int)≤n)))=false)=>have _gh2:=of_decide_eq_true (z7q h2); aI (z7s oA:(fits .i64 ((2:Int)*k))=true) (aI (z7s oA:(fits .i64 (((2:Int)*k)+1))=true) (aI (zp4 e (((2:Int)*k)+1) oA oA) (have f5:=Int.emod_lt_of_pos e (show (0:Int)<(((2:Int)*k)+1) by first | omega | (simp<;>omega)); have f4:=Int.emod_nonneg e (show ((((2:Int)*k)+1):Int)≠0 by first | omega | (simp<;>omega)); aI (z7s oA:(fits .i64 ((e%(((2:Int)*k)+1))-k))=true) (aI (zj2 (rawI b l n) ((e%(((2:Int)*k)+1))-k) oA oA) (have f3:=zhz (rawI b l n) ((e%(((2:Int)*k)+1))-k); (z5z (z5w _) (z5x (congrArg V.bool (zoe (zo6 oO oO) oO))):vsub (.tup [(yV (mkM (rawI b l n) ((e%(((2:Int)*k)+1))-k)) (mkX (rawI b l n) ((e%(((2:Int)*k)+1))-k))),(.bool (iEq (mkE (rawI b l n) ((e%(((2:Int)*k)+1))-k)) 0))]) (.tup [(yV (mkM (rawI b l n) (e%(2*k+1)-k)) (mkX (rawI b l n) (e%(2*k+1)-k))),(.bool (decide ((l.length:Int)≤n)))]))))))))))) (by kernel_rfl))
theorem zp7 (b:Bool)(l:List Nat)(e:Int)(c:Bool)(r:List Nat)(f n k:Int)(c0:Dig l)(c1:l.length≤9223372036854775807)(c2:Dig r)(c3:r.length≤9223372036854775807)(c4:(-9223372036854775808:Int)≤e∧e≤9223372036854775807)(c5:(-9223372036854775808:Int)≤f∧f≤9223372036854775807)(c6:(0:Int)≤n∧n≤800)(c7:(0:Int)≤k∧k≤20000):Impl Tryz.prog Amb 78 [(.agg [(.bool b),(.sl 1 (U l)),(.int .i64 e),(.bool c),(.sl 1 (U r)),(.int .i64 f)]),(.int .i64 n),(.int .i64 k)] (.tup [(wV (swM (mkM (rawI b l n) (e%(2*k+1)-k)) (mkX (rawI b l n) (e%(2*k+1)-k)) (mkM (rawI c r n) (f%(2*k+1)-k)) (mkX (rawI c r n) (f%(2*k+1)-k))) (swX (mkM (rawI b l n) (e%(2*k+1)-k)) (mkX (rawI b l n) (e%(2*k+1)-k)) (mkM (rawI c r n) (f%(2*k+1)-k)) (mkX (rawI c r n) (f%(2*k+1)-k))) (swN (mkM (rawI b l n) (e%(2*k+1)-k)) (mkX (rawI b l n) (e%(2*k+1)-k)) (mkM (rawI c r n) (f%(2*k+1)-k)) (mkX (rawI c r n) (f%(2*k+1)-k))) (swF (mkM (rawI b l n) (e%(2*k+1)-k)) (mkX (rawI b l n) (e%(2*k+1)-k)) (mkM (rawI c r n) (f%(2*k+1)-k)) (mkX (rawI c r n) (f%(2*k+1)-k)))),(.bool (decide ((l.length:Int)≤n∧(r.length:Int)≤n)))]):=by
 exact z6e hP hAmb Tryz.func78 (by kernel_rfl) (.lits 2<|.call (.tup [(yV (mkM (rawI b l n) (e%(2*k+1)-k)) (mkX (rawI b l n) (e%(2*k+1)-k))),(.bool (decide ((l.length:Int)≤n)))])<|.lits 3<|.call (.tup [(yV (mkM (rawI c r n) (f%(2*k+1)-k)) (mkX (rawI c r n) (f%(2*k+1)-k))),(.bool (decide ((r.length:Int)≤n)))])<|.lits 4<|.call (.int .i64 (cmpD (mkM (rawI b l n) (e%(2*k+1)-k)) (mkX (rawI b l n) (e%(2*k+1)-k)) (mkM (rawI c r n) (f%(2*k+1)-k)) (mkX (rawI c r n) (f%(2*k+1)-k))))<|.lit<|.both (.lits 7<|.both (.lits 3<|.ret) (.lits 3<|.ret)) (.lits 3<|.both (.lits 3<|.ret) (.lits 3<|.ret)))
  (z6d (aI True.intro (aI (zp6 b l e n k oA oA oA oA oA) (have f11:=(zo9 (b:=b) ‹Dig l› (show (0:Int)≤n by first | omega | (simp<;>omega))); have f10:=zhz (rawI b l n) (e%(2*k+1)-k); aI (zp6 c r f n k oA oA oA oA oA) (have f9:=(zo9 (b:=c) ‹Dig r› (show (0:Int)≤n by first | omega | (simp<;>omega))); have f8:=zhz (rawI c r n) (f%(2*k+1)-k); aI (zj7 (mkM (rawI b l n) (e%(2*k+1)-k)) (mkX (rawI b l n) (e%(2*k+1)-k)) (mkM (rawI c r n) (f%(2*k+1)-k)) (mkX (rawI c r n) (f%(2*k+1)-k)) oA oA oA oA) (have f7:=zi9 (mkM (rawI b l n) (e%(2*k+1)-k)) (mkX (rawI b l n) (e%(2*k+1)-k)) (mkM (rawI c r n) (f%(2*k+1)-k)) (mkX (rawI c r n) (f%(2*k+1)-k)); aI (fun (h1:(iGt (cmpD (mkM (rawI b l n) (e%(2*k+1)-k)) (mkX (rawI b l n) (e%(2*k+1)-k)) (mkM (rawI c r n) (f%(2*k+1)-k)) (mkX (rawI c r n) (f%(2*k+1)-k))) 0)=true)=>have _gh1:=z77 h1; aI (fun (h2:(decide ((l.length:Int)≤n))=true)=>have _gh2:=of_decide_eq_true h2; (W_of (zof oO) (decide_eq_decide.2 oO):vsub (.tup [(wV (mkM (rawI c r n) (f%(2*k+1)-k)) (mkX (rawI c r n) (f%(2*k+1)-k)) (mkM (rawI b l n) (e%(2*k+1)-k)) (mkX (rawI b l n) (e%(2*k+1)-k))),(.bool (decide ((r.length:Int)≤n)))]) (.tup [(wV (swM (mkM (rawI b l n) (e%(2*k+1)-k)) (mkX (rawI b l n) (e%(2*k+1)-k)) (mkM (rawI c r n) (f%(2*k+1)-k)) (mkX (rawI c r n) (f%(2*k+1)-k))) (swX (mkM (rawI b l n) (e%(2*k+1)-k)) (mkX (rawI b l n) (e%(2*k+1)-k)) (mkM (rawI c r n) (f%(2*k+1)-k)) (mkX (rawI c r n) (f%(2*k+1)-k))) (swN (mkM (rawI b l n) (e%(2*k+1)-k)) (mkX (rawI b l n) (e%(2*k+1)-k)) (mkM (rawI c r n) (f%(2*k+1)-k)) (mkX (rawI c r n) (f%(2*k+1)-k))) (swF (mkM (rawI b l n) (e%(2*k+1)-k)) (mkX (rawI b l n) (e%(2*k+1)-k)) (mkM (rawI c r n) (f%(2*k+1)-k)) (mkX (rawI c r n) (f%(2*k+1)-k)))),(.bool (decide ((l.length:Int)≤n∧(r.length:Int)≤n)))]))) (fun (h3:(decide ((l.length:Int)≤n))=false)=>have _gh3:=of_decide_eq_false h3; (W_of (zof oO) (decide_eq_false oO).symm:vsub (.tup [(wV (mkM (rawI c r n) (f%(2*k+1)-k)) (mkX (rawI c r n) (f%(2*k+1)-k)) (mkM (rawI b l n) (e%(2*k+1)-k)) (mkX (rawI b l n) (e%(2*k+1)-k))),(.bool false)]) (.tup [(wV (swM (mkM (rawI b l n) (e%(2*k+1)-k)) (mkX (rawI b l n) (e%(2*k+1)-k)) (mkM (rawI c r n) (f%(2*k+1)-k)) (mkX (rawI c r n) (f%(2*k+1)-k))) (swX (mkM (rawI b l n) (e%(2*k+1)-k)) (mkX (rawI b l n) (e%(2*k+1)-k)) (mkM (rawI c r n) (f%(2*k+1)-k)) (mkX (rawI c r n) (f%(2*k+1)-k))) (swN (mkM (rawI b l n) (e%(2*k+1)-k)) (mkX (rawI b l n) (e%(2*k+1)-k)) (mkM (rawI c r n) (f%(2*k+1)-k)) (mkX (rawI c r n) (f%(2*k+1)-k))) (swF (mkM (rawI b l n) (e%(2*k+1)-k)) (mkX (rawI b l n) (e%(2*k+1)-k)) (mkM (rawI c r n) (f%(2*k+1)-k)) (mkX (rawI c r n) (f%(2*k+1)-k)))),(.bool (decide ((l.length:Int)≤n∧(r.length:Int)≤n)))])))) (fun (h4:(iGt (cmpD (mkM (rawI b l n) (e%(2*k+1)-k)) (mkX (rawI b l n) (e%(2*k+1)-k)) (mkM (rawI c r n) (f%(2*k+1)-k)) (mkX (rawI c r n) (f%(2*k+1)-k))) 0)=false)=>have _gh4:=z78 h4; aI (fun (h5:(decide ((l.length:Int)≤n))=true)=>have _gh5:=of_decide_eq_true h5; (W_of (zog oO) (decide_eq_decide.2 oO):vsub (.tup [(wV (mkM (rawI b l n) (e%(2*k+1)-k)) (mkX (rawI b l n) (e%(2*k+1)-k)) (mkM (rawI c r n) (f%(2*k+1)-k)) (mkX (rawI c r n) (f%(2*k+1)-k))),(.bool (decide ((r.length:Int)≤n)))]) (.tup [(wV (swM (mkM (rawI b l n) (e%(2*k+1)-k)) (mkX (rawI b l n) (e%(2*k+1)-k)) (mkM (rawI c r n) (f%(2*k+1)-k)) (mkX (rawI c r n) (f%(2*k+1)-k))) (swX (mkM (rawI b l n) (e%(2*k+1)-k)) (mkX (rawI b l n) (e%(2*k+1)-k)) (mkM (rawI c r n) (f%(2*k+1)-k)) (mkX (rawI c r n) (f%(2*k+1)-k))) (swN (mkM (rawI b l n) (e%(2*k+1)-k)) (mkX (rawI b l n) (e%(2*k+1)-k)) (mkM (rawI c r n) (f%(2*k+1)-k)) (mkX (rawI c r n) (f%(2*k+1)-k))) (swF (mkM (rawI b l n) (e%(2*k+1)-k)) (mkX (rawI b l n) (e%(2*k+1)-k)) (mkM (rawI c r n) (f%(2*k+1)-k)) (mkX (rawI c r n) (f%(2*k+1)-k)))),(.bool (decide ((l.length:Int)≤n∧(r.length:Int)≤n)))]))) (fun (h6:(decide ((l.length:Int)≤n))=false)=>have _gh6:=of_decide_eq_false h6; (W_of (zog oO) (decide_eq_false oO).symm:vsub (.tup [(wV (mkM (rawI b l n) (e%(2*k+1)-k)) (mkX (rawI b l n) (e%(2*k+1)-k)) (mkM (rawI c r n) (f%(2*k+1)-k)) (mkX (rawI c r n) (f%(2*k+1)-k))),(.bool false)]) (.tup [(wV (swM (mkM (rawI b l n) (e%(2*k+1)-k)) (mkX (rawI b l n) (e%(2*k+1)-k)) (mkM (rawI c r n) (f%(2*k+1)-k)) (mkX (rawI c r n) (f%(2*k+1)-k))) (swX (mkM (rawI b l n) (e%(2*k+1)-k)) (mkX (rawI b l n) (e%(2*k+1)-k)) (mkM (rawI c r n) (f%(2*k+1)-k)) (mkX (rawI c r n) (f%(2*k+1)-k))) (swN (mkM (rawI b l n) (e%(2*k+1)-k)) (mkX (rawI b l n) (e%(2*k+1)-k)) (mkM (rawI c r n) (f%(2*k+1)-k)) (mkX (rawI c r n) (f%(2*k+1)-k))) (swF (mkM (rawI b l n) (e%(2*k+1)-k)) (mkX (rawI b l n) (e%(2*k+1)-k)) (mkM (rawI c r n) (f%(2*k+1)-k)) (mkX (rawI c r n) (f%(2*k+1)-k)))),(.bool (decide ((l.length:Int)≤n∧(r.length:Int)≤n)))]))))))))) (by kernel_rfl))
end Go.Proofs.YtcbihoojfakhdaaGreatDoor

namespace Go.Proofs.YtcbihoojfakhdaaGreatDoor
theorem zp8 {m e:Int}(hE:mkE m e=0):(m=0∧mkX m e=0)∨(m≠0∧e≤mkX m e∧mkX m e≤e+32*(L m.natAbs:Int)):=by
 rcases zo4 hE with ⟨h,_,k⟩ | ⟨h,_,k,_⟩
 ·exact .inl ⟨h,k⟩
 ·have:=tz_L m.natAbs
  refine .inr ⟨h,?_,?_⟩<;>rw [k]<;>unfold de<;>omega
theorem zp9 {m e:Int}(h:L m.natAbs≤900)(he:-60000≤e∧e≤30000):mkE m e=0∧L (mkM m e).natAbs≤L m.natAbs∧iMin e 0≤mkX m e∧mkX m e≤iMax e 0+32*(L m.natAbs:Int)∧vdb (mkM m e) (mkX m e)=true∧dv (mkM m e) (mkX m e)=dv m e:=by
 have hE:=zo6 h he
 have h1:=zhz m e
 have h2:=zht e 0
 have h3:e≤iMax e 0∧0≤iMax e 0:=by unfold iMax; split<;>omega
 refine ⟨hE,h1.1,?_,?_,znm,znk hE⟩<;>rcases zp8 hE with ⟨_,k⟩ | ⟨_,k,l⟩<;>omega
theorem zpa {n:Int}(h:-9223372036854775808≤n∧n≤9223372036854775807):mkE n 0=0∧L (mkM n 0).natAbs≤2∧0≤mkX n 0∧mkX n 0≤64∧vdb (mkM n 0) (mkX n 0)=true∧dv (mkM n 0) (mkX n 0)=(n:Rat):=by
 have hl:=zgo h
 have h1:=zp9 (m:=n) (e:=0) (by omega) (by omega)
 have h2:iMin 0 0=0:=rfl
 have h3:iMax 0 0=0:=rfl
 rw [h2,h3,znc] at h1
 exact ⟨h1.1,by omega,h1.2.2.1,by omega,h1.2.2.2.2.1,h1.2.2.2.2.2⟩
theorem zpb {b:Bool}{l:List Nat}{n e k:Int}(hl:Dig l)(hn:0≤n∧n≤800)(hk:0≤k∧k≤20000) :
  L (mkM (rawI b l n) (e%(2*k+1)-k)).natAbs≤n∧-k≤mkX (rawI b l n) (e%(2*k+1)-k)∧mkX (rawI b l n) (e%(2*k+1)-k)≤k+32*n ∧
  vdb (mkM (rawI b l n) (e%(2*k+1)-k)) (mkX (rawI b l n) (e%(2*k+1)-k))=true:=by
 have h1:=zo9 (b:=b) hl hn.1
 have h2:=Int.emod_nonneg e (show (2*k+1:Int)≠0 by omega)
 have h3:=Int.emod_lt_of_pos e (show (0:Int)<2*k+1 by omega)
 generalize hd:e%(2*k+1)-k=d
 have h4:=zp9 (m:=rawI b l n) (e:=d) (by omega) (by omega)
 have h5:=zht d 0
 have h6:iMax d 0=d∨iMax d 0=0:=by unfold iMax; split<;>simp
 refine ⟨by omega,by omega,by omega,h4.2.2.2.2.1⟩
theorem zpc {m e n f:Int}(h1:vdb m e=true)(h2:vdb n f=true):vdb (swM m e n f) (swX m e n f)=true∧vdb (swN m e n f) (swF m e n f)=true∧dv (swM m e n f) (swX m e n f)≤dv (swN m e n f) (swF m e n f):=by
 rcases zoh m e n f with ⟨h,a,b,c,d,_⟩ | ⟨h,a,b,c,d,_⟩
 ·rw [a,b,c,d]
  exact ⟨h2,h1,Rat.le_of_lt (zp2.1 h)⟩
 ·rw [a,b,c,d]
  refine ⟨h1,h2,Rat.not_lt.1 fun q=>?_⟩
  have:=zp2.2 q
  omega
theorem zpd {b c:Bool}{l r:List Nat}{n e f k:Int}(hl:Dig l)(hr:Dig r)(hn:0≤n∧n≤800)(hk:0≤k∧k≤20000){m1 x1 m2 x2:Int}(e1:m1=mkM (rawI b l n) (e%(2*k+1)-k))(e2:x1=mkX (rawI b l n) (e%(2*k+1)-k))
  (e3:m2=mkM (rawI c r n) (f%(2*k+1)-k)) (e4:x2=mkX (rawI c r n) (f%(2*k+1)-k)) :
  (L (swM m1 x1 m2 x2).natAbs≤n∧-k≤swX m1 x1 m2 x2∧swX m1 x1 m2 x2≤k+32*n)∧(L (swN m1 x1 m2 x2).natAbs≤n∧-k≤swF m1 x1 m2 x2∧swF m1 x1 m2 x2≤k+32*n) ∧
  vdb (swM m1 x1 m2 x2) (swX m1 x1 m2 x2)=true∧vdb (swN m1 x1 m2 x2) (swF m1 x1 m2 x2)=true∧dv (swM m1 x1 m2 x2) (swX m1 x1 m2 x2)≤dv (swN m1 x1 m2 x2) (swF m1 x1 m2 x2):=by
 have h1:=zpb (b:=b) (e:=e) hl hn hk
 have h2:=zpb (b:=c) (e:=f) hr hn hk
 rw [← e1,← e2] at h1
 rw [← e3,← e4] at h2
 obtain ⟨a1,a2,a3,a4⟩:=h1
 obtain ⟨b1,b2,b3,b4⟩:=h2
 have h3:=zpc a4 b4
 rcases zoh m1 x1 m2 x2 with ⟨_,a,b,c,d,g,i⟩ | ⟨_,a,b,c,d,g,i⟩
 ·exact ⟨⟨by omega,by omega,by omega⟩,⟨by omega,by omega,by omega⟩,h3⟩
 ·exact ⟨⟨by omega,by omega,by omega⟩,⟨by omega,by omega,by omega⟩,h3⟩
theorem zpe {x y:Rat}:cmpQ x y≤0↔x≤y:=by
 rcases znz x y with ⟨q,k⟩ | ⟨q,k⟩ | ⟨q,k⟩
 ·exact ⟨fun _=>Rat.le_of_lt k,fun _=>by omega⟩
 ·exact ⟨fun h=>by omega,fun h=>absurd h (Rat.not_le.2 k)⟩
 ·exact ⟨fun _=>by rw [k]; exact Rat.le_refl,fun _=>by omega⟩
end Go.Proofs.YtcbihoojfakhdaaGreatDoor


namespace Go.Proofs.YtcbihoojfakhdaaGreatDoor
theorem oM {p:Prop}(h:p:=by first | omega | exact ml_fine (by omega) (by omega) (by omega) (by omega) | exact ad_fine (by omega) (by omega) (by omega) (by omega) | exact (en_vdb _ _ _).1 | exact (en_vdb _ _ _).2):p:=h
theorem oD {p:Prop}(h:p:=by first | omega | exact ml_fine (by omega) (by omega) (by omega) (by omega) | exact ad_fine (by omega) (by omega) (by omega) (by omega) | exact (en_vdb _ _ _).1 | exact (en_vdb _ _ _).2 | decide):p:=h
theorem oN {p:Prop}(h:p:=by first | omega | exact ml_fine (by omega) (by omega) (by omega) (by omega) | exact ad_fine (by omega) (by omega) (by omega) (by omega) | exact (en_vdb _ _ _).1 | exact (en_vdb _ _ _).2 | assumption):p:=h
theorem oN2 {p:Prop}(h:p:=by first | omega | exact ml_fine (by omega) (by omega) (by omega) (by omega) | exact ad_fine (by omega) (by omega) (by omega) (by omega) | exact (en_vdb _ _ _).1 | exact (en_vdb _ _ _).2 | assumption | exact ad_fine (by omega) (by omega) (by omega) (by omega)):p:=h
theorem oP {p:Prop}(h:p:=by first | assumption | omega | exact o1.2.2.2.2.1):p:=h
theorem oW {p:Prop}(h:p:=by first | assumption | exact pw_or (by omega) | (simp; done) | omega):p:=h
theorem oS {p:Prop}(h:p:=by first | omega | assumption):p:=h
theorem oR {p:Prop}(h:p:=by first | omega | assumption | exact Rat.le_refl):p:=h
theorem oT {p:Prop}(h:p:=by first | assumption | omega | exact Rat.le_refl | exact of0.2.2.2.2.1):p:=h
theorem oU {p:Prop}(h:p:=by first | assumption | omega):p:=h
end Go.Proofs.YtcbihoojfakhdaaGreatDoor


namespace Go.Proofs.YtcbihoojfakhdaaGreatDoor
theorem zpf {m e n f:Int}{a c:Nat}(hm:L m.natAbs≤a)(hn:L n.natAbs≤a)(h:e-f≤32*c)(k:f-e≤32*c):L (adS m e n f).natAbs≤a+c+2:=by
 have h0:=zht e f
 have h1:=zgw m (e-iMin e f).toNat
 have h2:=zgw n (f-iMin e f).toNat
 have h3:=zcv (m*2^(e-iMin e f).toNat) (n*2^(f-iMin e f).toNat)
 unfold adS
 omega
end Go.Proofs.YtcbihoojfakhdaaGreatDoor



namespace Go.Proofs.YtcbihoojfakhdaaGreatDoor
theorem fl_R {a T:Int}(hT:0<T):((a / T:Int):Rat)*(T:Rat)≤(a:Rat)∧(a:Rat)<((a / T:Int):Rat)*(T:Rat)+(T:Rat):=by
 have h1:=Int.ediv_mul_le a (show T≠0 by omega)
 have h2:=Int.lt_ediv_add_one_mul_self a hT
 rw [Int.add_mul,Int.one_mul] at h2
 rw [← Rat.intCast_mul,← Rat.intCast_add,Rat.intCast_le_intCast,Rat.intCast_lt_intCast]
 exact ⟨h1,h2⟩
theorem ce_R {a T:Int}(hT:0<T):(a:Rat)≤((-(-a / T):Int):Rat)*(T:Rat)∧((-(-a / T):Int):Rat)*(T:Rat)<(a:Rat)+(T:Rat):=by
 have h:=fl_R (a:=-a) hT
 rw [Rat.intCast_neg] at h ⊢
 constructor<;>grind
theorem zpg {a n:Int}{y:Rat}(hn:0<n)(h:(a:Rat)≤y):((a / n:Int):Rat)≤y / (n:Rat):=by
 have n0:(0:Rat)<n:=Rat.intCast_pos.2 hn
 have f:=(fl_R (a:=a) hn).1
 have e:=Rat.div_mul_cancel (a:=y) (b:=(n:Rat)) (by grind)
 exact Rat.le_of_mul_le_mul_right (c:=(n:Rat)) (by rw [e]; exact Rat.le_trans f h) n0
theorem zph {b n:Int}{y:Rat}(hn:0<n)(h:y≤(b:Rat)):y / (n:Rat)≤((-(-b / n):Int):Rat):=by
 have n0:(0:Rat)<n:=Rat.intCast_pos.2 hn
 have f:=(ce_R (a:=b) hn).1
 have e:=Rat.div_mul_cancel (a:=y) (b:=(n:Rat)) (by grind)
 exact Rat.le_of_mul_le_mul_right (c:=(n:Rat)) (by rw [e]; exact Rat.le_trans h f) n0
theorem zpi {P:Nat→Prop}[DecidablePred P]:∀ {n:Nat},P n→∃ N,N≤n∧P N∧∀ j,j<N→¬ P j
 | 0,h=>⟨0,Nat.le_refl _,h,fun j hj=>by omega⟩
 | n+1,h=>by
  by_cases q:∃ m,m≤n∧P m
  ·obtain ⟨m,hm,pm⟩:=q
   obtain ⟨N,hN,pN,hj⟩:=zpi pm
   exact ⟨N,by omega,pN,hj⟩
  ·exact ⟨n+1,Nat.le_refl _,h,fun j hj pj=>q ⟨j,by omega,pj⟩⟩
def ptLo (a d:Int):Int:=((a.natAbs / d.toNat:Nat):Int)
def ptHi (b d:Int):Int:=((b.natAbs / d.toNat+(if b.natAbs%d.toNat=0 then 0 else 1):Nat):Int)
theorem zpj {a d:Int}(ha:0≤a)(hd:0<d):ptLo a d=a / d:=by
 unfold ptLo
 obtain ⟨x,rfl⟩:=Int.eq_ofNat_of_zero_le ha
 obtain ⟨y,rfl⟩:=Int.eq_ofNat_of_zero_le (show 0≤d by omega)
 simp
theorem zpk {b d : Int} (hb : 0 ≤ b) (hd : 0 < d) : ptHi b d = -(-b / d) := by
  unfold ptHi
  obtain ⟨x, rfl⟩ := Int.eq_ofNat_of_zero_le hb
  obtain ⟨y, rfl⟩ := Int.eq_ofNat_of_zero_le (show 0 ≤ d by omega)
  simp only [Int.natAbs_natCast, Int.toNat_natCast]
  have e := Nat.div_add_mod x y
  have l := Nat.mod_lt x (show 0 < y by omega)
  have key : ∀ q : Int, q * (y : Int) ≤ -(x : Int) → -(x : Int) < (q + 1) * (y : Int) → -(x : Int) / (y : Int) = q := by
    intro q h1 h2
    have a1 := Int.le_ediv_of_mul_le hd h1
    have a2 := Int.ediv_lt_of_lt_mul hd h2
    omega
  have ei : ((y : Int)) * ((x / y : Nat) : Int) + ((x % y : Nat) : Int) = (x : Int) := by
    have := congrArg (Nat.cast : Nat → Int) e
    push_cast at this ⊢
    exact this
  split
  · rename_i h0
    rw [key (-((x / y : Nat) : Int)) (by rw [h0] at ei; grind) (by rw [h0] at ei; grind)]
    omega
  · rename_i h0
    rw [key (-((x / y : Nat) : Int) - 1) (by have : ((x % y : Nat) : Int) ≤ y := by omega
                                             grind) (by have : (0 : Int) < ((x % y : Nat) : Int) := by omega
                                                        grind)]
    omega
structure ArH (T x1 x2:Int):Prop where
 hT:8≤T
 h1:0≤x1
 h2:x1≤x2
 h3:2*x2≤T
end Go.Proofs.YtcbihoojfakhdaaGreatDoor

namespace Go.Proofs.YtcbihoojfakhdaaGreatDoor
theorem zpl (x:Int)(t:Nat):dv x (-(t:Int))*((2^t:Int):Rat)=(x:Rat):=by
 have e:((2^t:Int):Rat)=(2:Rat)^(t:Int):=(zn4 t).symm
 unfold dv
 rw [e,Rat.mul_assoc,Rat.mul_comm ((2:Rat)^(-(t:Int))),zn5,Rat.mul_one]
theorem zpm (r:Rat)(t:Nat):((flr r t:Int):Rat)≤r*((2^t:Int):Rat)∧r*((2^t:Int):Rat)<((flr r t:Int):Rat)+1:=by
 have T0:(0:Rat)<((2^t:Int):Rat):=Rat.intCast_pos.2 (zi5 t)
 have a:=Rat.mul_le_mul_of_nonneg_right (znq r t) (Rat.le_of_lt T0)
 have b:=Rat.mul_lt_mul_of_pos_right (znr r t) T0
 rw [zpl] at a b
 rw [Rat.intCast_add] at b
 exact ⟨a,b⟩
theorem zpn (r:Rat)(t:Nat):r*((2^t:Int):Rat)≤((cei r t:Int):Rat)∧((cei r t:Int):Rat)<r*((2^t:Int):Rat)+1:=by
 have h:=zpm (-r) t
 unfold cei
 rw [Rat.intCast_neg]
 constructor<;>grind
theorem zpo (r:Rat)(t:Nat):cei r t≤flr r t+1∧flr r t≤cei r t:=by
 have a:=zpm r t
 have b:=zpn r t
 constructor
 ·refine Decidable.byContradiction fun hn=>?_
  have:((flr r t+2:Int):Rat)≤((cei r t:Int):Rat):=Rat.intCast_le_intCast.2 (by omega)
  rw [Rat.intCast_add,show ((2:Int):Rat)=2 from rfl] at this
  grind
 ·refine Rat.intCast_le_intCast.1 ?_
  grind
structure LnH (T:Int) (M Z:Rat) (d1 d2 xa xb:Int):Prop where
 hT:256≤T
 m1:3≤4*M
 m2:2*M≤3
 xa1:(xa:Rat)≤M*(T:Rat)
 xb1:M*(T:Rat)≤(xb:Rat)
 x2:xb≤xa+1
 d0:0≤d1
 d3:d2≤d1+1
 z0:0≤Z
 z2:2*(Z*(M+1))≤1
 dz1:(d1:Rat)≤Z*(M+1)*(T:Rat)
 dz2:Z*(M+1)*(T:Rat)≤(d2:Rat)
end Go.Proofs.YtcbihoojfakhdaaGreatDoor

namespace Go.Proofs.YtcbihoojfakhdaaGreatDoor
def mn4 (a b c d:Int):Int:=min (min (min (a*c) (a*d)) (b*c)) (b*d)
def mx4 (a b c d:Int):Int:=max (max (max (a*c) (a*d)) (b*c)) (b*d)
def rm1 (a b c d T:Int):Int:=mn4 a b c d / T
def rm2 (a b c d T:Int):Int:=-(-(mx4 a b c d) / T)
theorem zpp (a b c d:Int):mn4 a b c d≤a*c∧mn4 a b c d≤a*d∧mn4 a b c d≤b*c∧mn4 a b c d≤b*d:=by unfold mn4; omega
theorem zpq (a b c d:Int):a*c≤mx4 a b c d∧a*d≤mx4 a b c d∧b*c≤mx4 a b c d∧b*d≤mx4 a b c d:=by unfold mx4; omega
theorem zpr {a b c d:Int}{B:Nat}(h1:(a*c).natAbs≤B)(h2:(a*d).natAbs≤B)(h3:(b*c).natAbs≤B)(h4:(b*d).natAbs≤B):(mn4 a b c d).natAbs≤B∧(mx4 a b c d).natAbs≤B:=by unfold mn4 mx4; omega
theorem zps {x y:Rat}{a b c d:Int}(h1:(a:Rat)≤x)(h2:x≤(b:Rat))(h3:(c:Rat)≤y)(h4:y≤(d:Rat)):((mn4 a b c d:Int):Rat)≤x*y∧x*y≤((mx4 a b c d:Int):Rat):=by
 obtain ⟨p1,p2,p3,p4⟩:=zpp a b c d
 obtain ⟨q1,q2,q3,q4⟩:=zpq a b c d
 rw [← Rat.intCast_le_intCast,Rat.intCast_mul] at p1 p2 p3 p4 q1 q2 q3 q4
 have lo:∀ {u v w z:Rat},u≤v→0≤w→u*w≤v*w:=fun h k=>Rat.mul_le_mul_of_nonneg_right h k
 rcases (Rat.le_total:0≤y∨y≤0) with hy | hy
 ·have e1:=Rat.mul_le_mul_of_nonneg_right h1 hy
  have e2:=Rat.mul_le_mul_of_nonneg_right h2 hy
  constructor
  ·rcases (Rat.le_total:(0:Rat)≤a∨(a:Rat)≤0) with ha | ha
   ·have:=Rat.mul_le_mul_of_nonneg_left h3 ha; grind
   ·have:=Rat.mul_le_mul_of_nonneg_left h4 (show (0:Rat)≤-a by grind); grind
  ·rcases (Rat.le_total:(0:Rat)≤b∨(b:Rat)≤0) with ha | ha
   ·have:=Rat.mul_le_mul_of_nonneg_left h4 ha; grind
   ·have:=Rat.mul_le_mul_of_nonneg_left h3 (show (0:Rat)≤-b by grind); grind
 ·have hy':(0:Rat)≤-y:=by grind
  have e1:=Rat.mul_le_mul_of_nonneg_right h1 hy'
  have e2:=Rat.mul_le_mul_of_nonneg_right h2 hy'
  constructor
  ·rcases (Rat.le_total:(0:Rat)≤b∨(b:Rat)≤0) with ha | ha
   ·have:=Rat.mul_le_mul_of_nonneg_left h3 ha; grind
   ·have:=Rat.mul_le_mul_of_nonneg_left h4 (show (0:Rat)≤-b by grind); grind
  ·rcases (Rat.le_total:(0:Rat)≤a∨(a:Rat)≤0) with ha | ha
   ·have:=Rat.mul_le_mul_of_nonneg_left h4 ha; grind
   ·have:=Rat.mul_le_mul_of_nonneg_left h3 (show (0:Rat)≤-a by grind); grind
theorem zpt {x y:Rat}{a b c d T:Int}(hT:0<T)(h1:(a:Rat)≤x*T)(h2:x*T≤(b:Rat))(h3:(c:Rat)≤y*T)(h4:y*T≤(d:Rat)):((rm1 a b c d T:Int):Rat)≤x*y*T∧x*y*T≤((rm2 a b c d T:Int):Rat):=by
 have T0:(0:Rat)<T:=Rat.intCast_pos.2 hT
 have m:=zps h1 h2 h3 h4
 have f:=(fl_R (a:=mn4 a b c d) hT).1
 have g:=(ce_R (a:=mx4 a b c d) hT).1
 unfold rm1 rm2
 constructor
 ·exact Rat.le_of_mul_le_mul_right (c:=(T:Rat)) (by grind) T0
 ·exact Rat.le_of_mul_le_mul_right (c:=(T:Rat)) (by grind) T0
theorem zpu {a b c d T:Int}{B S C:Nat}(hT:0<T)(ha:a.natAbs≤B)(hb:b.natAbs≤B)(hc:c.natAbs≤S)(hd:d.natAbs≤S)(h:(B*S:Nat)≤C*T.toNat):(rm1 a b c d T).natAbs≤C∧(rm2 a b c d T).natAbs≤C:=by
 have k:∀ {x y:Int},x.natAbs≤B→y.natAbs≤S→(x*y).natAbs≤B*S:=fun hx hy=>by rw [Int.natAbs_mul]; exact Nat.mul_le_mul hx hy
 have m:=zpr (k ha hc) (k ha hd) (k hb hc) (k hb hd)
 have e:((B*S:Nat):Int)≤(C:Int)*T:=by
  have:((B*S:Nat):Int)≤((C*T.toNat:Nat):Int):=by omega
  rw [Int.natCast_mul C,Int.toNat_of_nonneg (by omega)] at this
  exact this
 have fd:∀ {x:Int},x.natAbs≤B*S→(x / T).natAbs≤C:=by
  intro x hx
  have h1:x / T≤C:=Int.ediv_le_of_le_mul hT (by omega)
  have h2:-(C:Int)≤x / T:=Int.le_ediv_of_mul_le hT (by rw [Int.neg_mul]; omega)
  omega
 unfold rm1 rm2
 have a1:=fd m.1
 have a2:=fd (x:=-(mx4 a b c d)) (by rw [Int.natAbs_neg]; exact m.2)
 exact ⟨a1,by rw [Int.natAbs_neg]; exact a2⟩
def ovLo (a b n:Int):Int:=Int.fdiv (min a b) n
def ovHi (a b n:Int):Int:=-(Int.fdiv (-(max a b)) n)
structure RrH (v:Nat) (x1 x2:Int):Prop where
 hv:8≤v
 h1:x1.natAbs≤2^(v-1)
 h2:x2.natAbs≤2^(v-1)
theorem zpv (v:Nat):((2:Int)^v).toNat=2^v:=by rw [zaj]; exact Int.toNat_natCast _
theorem zpw {a b n:Int}{y:Rat}(hn:0<n)(h1:(a:Rat)≤y)(h2:y≤(b:Rat)):((ovLo a b n:Int):Rat)≤y / (n:Rat)∧y / (n:Rat)≤((ovHi a b n:Int):Rat):=by
 unfold ovLo ovHi
 rw [Int.fdiv_eq_ediv_of_nonneg _ (show 0≤n by omega),Int.fdiv_eq_ediv_of_nonneg _ (show 0≤n by omega)]
 constructor
 ·exact zpg hn (Rat.le_trans (Rat.intCast_le_intCast.2 (show min a b≤a by omega)) h1)
 ·exact zph hn (Rat.le_trans h2 (Rat.intCast_le_intCast.2 (show b≤max a b by omega)))
end Go.Proofs.YtcbihoojfakhdaaGreatDoor

namespace Go.Proofs.YtcbihoojfakhdaaGreatDoor
theorem zpx {m e s:Int}(h:0≤e+s):m*2^(e+s).toNat=flr (dv m e) s∧m*2^(e+s).toNat=cei (dv m e) s:=by
 have a:flr (dv m e) s=m*2^(e+s).toNat:=by rw [zno,if_pos h]
 have b:flr (dv (-m) e) s=-m*2^(e+s).toNat:=by rw [zno,if_pos h]
 refine ⟨a.symm,?_⟩
 unfold cei
 rw [← znd,b,Int.neg_mul,Int.neg_neg]
theorem zpy {m e s:Int}(h:e+s<0):m / 2^(0-(e+s)).toNat=flr (dv m e) s∧-(-m / 2^(0-(e+s)).toNat)=cei (dv m e) s:=by
 have a:flr (dv m e) s=m / 2^(-(e+s)).toNat:=by rw [zno,if_neg (by omega)]
 have b:flr (dv (-m) e) s=-m / 2^(-(e+s)).toNat:=by rw [zno,if_neg (by omega)]
 rw [show (0:Int)-(e+s)=-(e+s) by omega]
 refine ⟨a.symm,?_⟩
 unfold cei
 rw [← znd,b]
theorem zpz {a b:Int}{X:Rat}{t s n:Nat}(h:t=s+n)(h1:(a:Rat)≤X*((2^t:Int):Rat))(h2:X*((2^t:Int):Rat)≤(b:Rat)) :
  ((a / 2^n:Int):Rat)≤X*((2^s:Int):Rat)∧X*((2^s:Int):Rat)≤((-(-b / 2^n):Int):Rat):=by
 have n0:(0:Rat)<((2^n:Int):Rat):=Rat.intCast_pos.2 (zi5 n)
 have e:((2^t:Int):Rat)=((2^s:Int):Rat)*((2^n:Int):Rat):=by rw [h,Int.pow_add,Rat.intCast_mul]
 rw [e,← Rat.mul_assoc] at h1 h2
 have f:=(fl_R (a:=a) (zi5 n)).1
 have g:=(ce_R (a:=b) (zi5 n)).1
 exact ⟨Rat.le_of_mul_le_mul_right (Rat.le_trans f h1) n0,Rat.le_of_mul_le_mul_right (Rat.le_trans h2 g) n0⟩
theorem zq0 {a b W:Int}{n:Nat}(h:b-a≤W*2^n):-(-b / 2^n)-a / 2^n≤W+1:=by
 have n0:=zi5 n
 have f1:=Int.lt_ediv_add_one_mul_self a n0
 have f2:=Int.lt_ediv_add_one_mul_self (-b) n0
 generalize a / 2^n=u at *
 generalize -b / 2^n=v at *
 generalize (2:Int)^n=T at *
 refine Decidable.byContradiction fun hn=>?_
 have m:=Int.mul_le_mul_of_nonneg_right (show W+2≤-v-u by omega) (show 0≤T by omega)
 grind
def tmLo (a b k:Int):Int:=if k<0 then b*k else a*k
def tmHi (a b k:Int):Int:=if k<0 then a*k else b*k
theorem zq1 {a b k:Int}{y:Rat}(h1:(a:Rat)≤y)(h2:y≤(b:Rat)):((tmLo a b k:Int):Rat)≤y*k∧y*k≤((tmHi a b k:Int):Rat):=by
 unfold tmLo tmHi
 split
 ·rename_i h
  have k0:(0:Rat)≤-(k:Rat):=by rw [← Rat.intCast_neg]; exact Rat.intCast_nonneg.2 (by omega)
  have m1:=Rat.mul_le_mul_of_nonneg_right h1 k0
  have m2:=Rat.mul_le_mul_of_nonneg_right h2 k0
  rw [Rat.intCast_mul,Rat.intCast_mul]
  constructor<;>grind
 ·rename_i h
  have k0:(0:Rat)≤(k:Rat):=Rat.intCast_nonneg.2 (by omega)
  have m1:=Rat.mul_le_mul_of_nonneg_right h1 k0
  have m2:=Rat.mul_le_mul_of_nonneg_right h2 k0
  rw [Rat.intCast_mul,Rat.intCast_mul]
  exact ⟨m1,m2⟩
theorem tm_w {a b k W:Int}(hab:a≤b)(hk:-W≤k∧k≤W)(h:b-a<16777216):tmHi a b k-tmLo a b k≤16777216*W:=by
 unfold tmLo tmHi
 have key:∀ {x y:Int},0≤x→x≤16777216→0≤y→y≤W→x*y≤16777216*W:=fun h1 h2 h3 h4 =>
  Int.le_trans (Int.mul_le_mul_of_nonneg_right h2 h3) (Int.mul_le_mul_of_nonneg_left h4 (by omega))
 split
 ·have:=key (x:=b-a) (y:=-k) (by omega) (by omega) (by omega) (by omega)
  rw [Int.mul_neg,Int.sub_mul] at this
  omega
 ·have:=key (x:=b-a) (y:=k) (by omega) (by omega) (by omega) (by omega)
  rw [Int.sub_mul] at this
  omega
theorem zq2 {x:Int}{t:Nat}{P:Int}(ht:t≤430):(x*2^(430-t)≤P→(x:Rat)≤dv P (-430)*((2^t:Int):Rat))∧(P≤x*2^(430-t)→dv P (-430)*((2^t:Int):Rat)≤(x:Rat)):=by
 have T0:(0:Rat)<((2^t:Int):Rat):=Rat.intCast_pos.2 (zi5 t)
 have e:dv (x*2^(430-t)) (-430)*((2^t:Int):Rat)=(x:Rat):=by
  rw [zn6,show (-430:Int)+((430-t:Nat):Int)=-(t:Int) by omega,zpl]
 constructor
 ·intro h
  have a:=Rat.mul_le_mul_of_nonneg_right ((zn9 (c:=-430)).2 h) (Rat.le_of_lt T0)
  rwa [e] at a
 ·intro h
  have a:=Rat.mul_le_mul_of_nonneg_right ((zn9 (c:=-430)).2 h) (Rat.le_of_lt T0)
  rwa [e] at a
def Encl (f:Nat→Rat)(s:Nat)(lo hi:Int):Prop:=∃ N,∀ K,N≤K→(lo:Rat)≤f K*((2^s:Int):Rat)∧f K*((2^s:Int):Rat)≤(hi:Rat)
theorem Encl.half {f:Nat→Rat}{t s n:Nat}{a b:Int}(h:Encl f t a b)(e:t=s+n):Encl f s (a / 2^n) (-(-b / 2^n)):=by
 obtain ⟨N,h⟩:=h
 exact ⟨N,fun K hK=>zpz e (h K hK).1 (h K hK).2⟩
theorem Encl.le {f:Nat→Rat}{s:Nat}{a b:Int}(h:Encl f s a b):a≤b:=by
 obtain ⟨N,h⟩:=h
 exact Rat.intCast_le_intCast.1 (Rat.le_trans (h N (Nat.le_refl _)).1 (h N (Nat.le_refl _)).2)
theorem Encl.meet {f:Nat→Rat}{s n:Nat}{a b c d:Int}(h:Encl f s a b)(k:Encl f (s+n) c d):a*2^n≤d∧c≤b*2^n:=by
 obtain ⟨N,h⟩:=h
 obtain ⟨N',k⟩:=k
 have x:=h (N+N') (by omega)
 have y:=k (N+N') (by omega)
 have n0:(0:Rat)<((2^n:Int):Rat):=Rat.intCast_pos.2 (zi5 n)
 rw [Int.pow_add,Rat.intCast_mul,← Rat.mul_assoc] at y
 have m1:=Rat.mul_le_mul_of_nonneg_right x.1 (Rat.le_of_lt n0)
 have m2:=Rat.mul_le_mul_of_nonneg_right x.2 (Rat.le_of_lt n0)
 rw [← Rat.intCast_mul] at m1 m2
 exact ⟨Rat.intCast_le_intCast.1 (Rat.le_trans m1 y.2),Rat.intCast_le_intCast.1 (Rat.le_trans y.1 m2)⟩
theorem zq3 (x y:Int):cmpI x y≤0↔x≤y:=by unfold cmpI; split<;>(try split)<;>omega
theorem zq4 {a b c d:Int}(h1:a=c)(h2:b=d):vsub (.agg [.bool (decide (a<0)),N a.natAbs,.bool (decide (b<0)),N b.natAbs]) (.agg [.bool (decide (c<0)),N c.natAbs,.bool (decide (d<0)),N d.natAbs]):=by
 subst h1; subst h2; exact z5w _
theorem zq5 {b d:Int}(h:((b.natAbs%d.toNat:Nat):Int)≠0):sgn false (b.natAbs / d.toNat+(1:Int).toNat)=ptHi b d:=by
 unfold ptHi
 rw [if_neg (by omega)]; rfl
theorem zq6 {b d:Int}(h:((b.natAbs%d.toNat:Nat):Int)=0):sgn false (b.natAbs / d.toNat)=ptHi b d:=by
 unfold ptHi
 rw [if_pos (by omega)]; rfl
theorem zq7 {b:Int}:iLe (nbits b.natAbs:Int) 3=decide (b.natAbs<8):=by
 unfold iLe
 have h:(nbits b.natAbs:Int)≤3↔b.natAbs<8:=by
  constructor
  ·intro h
   have l:=zb9 b.natAbs
   have:=Nat.pow_le_pow_right (n:=2) (by omega) (show nbits b.natAbs≤3 by omega)
   omega
  ·intro h
   have:=zl2 (x:=b.natAbs) (k:=3) (by omega)
   omega
 exact decide_eq_decide.2 h
end Go.Proofs.YtcbihoojfakhdaaGreatDoor

namespace Go.Proofs.YtcbihoojfakhdaaGreatDoor
open Go.RowKit
set_option maxRecDepth 100000
theorem zq8 (s:Int)(c0:(0:Int)≤s∧s≤20000):Impl Tryz.prog Amb 213 [(.int .i64 s)] (sV ((1:Int)*2^(s).toNat) ((1:Int)*2^(s).toNat)):=by
 exact z6e hP hAmb Tryz.func213 (by kernel_rfl) (.lit<|.call (zV (1:Int))<|.lit<|.call (zV ((1:Int)*2^(s).toNat))<|.lit<|.call (sV ((1:Int)*2^(s).toNat) ((1:Int)*2^(s).toNat))<|.lits 2<|.ret)
  (z6d (aI True.intro (aI (zdc 1 oO) (have f2:=(zgo oO:L (1:Int).natAbs≤2); aI (zdk (1:Int) s oO oO) (have f1:=zgw (1:Int) (s).toNat; aI (zl3 ((1:Int)*2^(s).toNat) oO) ((z5w (sV ((1:Int)*2^(s).toNat) ((1:Int)*2^(s).toNat)))))))) (by kernel_rfl))
theorem zq9 (m e s:Int)(c0:L (m).natAbs≤8192)(c1:(-200000:Int)≤e∧e≤200000)(c2:(0:Int)≤s∧s≤20000):Impl Tryz.prog Amb 161 [(yV m e),(.int .i64 s)] (sV (flr (dv m e) s) (cei (dv m e) s)):=by
 exact z6e hP hAmb Tryz.func161 (by kernel_rfl) (.lits 2<|.yes<|.lit<|.both (.lits 2<|.call (zV (m*2^((e+s)).toNat))<|.lit<|.call (sV (m*2^((e+s)).toNat) (m*2^((e+s)).toNat))<|.lits 2<|.ret) (.lits 2<|.call (sV m m)<|.lit<|.yes<|.lit<|.call (sV (m / 2^(((0:Int)-(e+s))).toNat) (-(-m / 2^(((0:Int)-(e+s))).toNat)))<|.lits 2<|.ret))
  (z6d (aI True.intro (aI (z7s oO:(fits .i64 (e+s))=true) (aI (fun (h1:(iGe (e+s) 0)=true)=>have _gh1:=z79 h1; aI (zdk m (e+s) oO oO) (have f2:=zgw m ((e+s)).toNat; aI (zl3 (m*2^((e+s)).toNat) oO) ((by rw [← (zpx (m:=m) (e:=e) (s:=s) oO).1,← (zpx (m:=m) (e:=e) (s:=s) oO).2]; exact z5w _:vsub (sV (m*2^((e+s)).toNat) (m*2^((e+s)).toNat)) (sV (flr (dv m e) s) (cei (dv m e) s)))))) (fun (h3:(iGe (e+s) 0)=false)=>have _gh3:=z7a h3; aI (zl3 m oO) (aI (z7s oO:(fits .i64 ((0:Int)-(e+s)))=true) (aI (zl5 m m ((0:Int)-(e+s)) oO oO oO) (have f7:=zcx (-m / 2^(((0:Int)-(e+s))).toNat); have f6:=zgy (-m) (((0:Int)-(e+s))).toNat; have f5:=zcx m; have f4:=zgy m (((0:Int)-(e+s))).toNat; (by rw [← (zpy (m:=m) (e:=e) (s:=s) oO).1,← (zpy (m:=m) (e:=e) (s:=s) oO).2]; exact z5w _:vsub (sV (m / 2^(((0:Int)-(e+s))).toNat) (-(-m / 2^(((0:Int)-(e+s))).toNat))) (sV (flr (dv m e) s) (cei (dv m e) s)))))))))) (by kernel_rfl))
theorem zqa (a b c d s:Int)(c0:L (a).natAbs≤8192)(c1:L (b).natAbs≤8192)(c2:L (c).natAbs≤8192)(c3:L (d).natAbs≤8192)(c4:(0:Int)≤s∧s≤20000):Impl Tryz.prog Amb 236 [(sV a b),(sV c d),(.int .i64 s)] (sV (a*c / 2^(s).toNat) (-(-(b*d) / 2^(s).toNat))):=by
 exact z6e hP hAmb Tryz.func236 (by kernel_rfl) (.lits 3<|.call (zV (a*c))<|.lit<|.call (zV ((a*c) / 2^(s).toNat))<|.lits 3<|.call (zV (b*d))<|.lit<|.call (zV (-(-(b*d) / 2^(s).toNat)))<|.lits 3<|.ret)
  (z6d (aI True.intro (aI (zdj a c oO oO) (have f6:=zcw a c; aI (zdl (a*c) s oO oO) (have f5:=zgy (a*c) (s).toNat; aI (zdj b d oO oO) (have f4:=zcw b d; aI (zl4 (b*d) s oO oO) (have f3:=zcx (-(b*d) / 2^(s).toNat); have f2:=zgy (-(b*d)) (s).toNat; have f1:=zcx (b*d); (z5x (by first | rfl | simp_all):vsub (sV ((a*c) / 2^(s).toNat) (-(-(b*d) / 2^(s).toNat))) (sV (a*c / 2^(s).toNat) (-(-(b*d) / 2^(s).toNat)))))))))) (by kernel_rfl))
theorem zqb (a b n:Int)(c0:L (a).natAbs≤65536)(c1:L (b).natAbs≤65536)(c2:(-9223372036854775808:Int)≤n∧n<0):Impl Tryz.prog Amb 165 [(sV a b),(.int .i64 n)] (sV (b*n) (a*n)):=by
 exact z6e hP hAmb Tryz.func165 (by kernel_rfl) (.lit<|.call (zV n)<|.lits 2<|.yes<|.lits 3<|.call (zV (b*n))<|.lits 3<|.call (zV (a*n))<|.lits 3<|.ret)
  (z6d (aI True.intro (aI (zdc n oO) (have f3:=(zgo oO:L (n:Int).natAbs≤2); aI (z7f oO:(iLt n 0)=true) (aI (zdj b n oO oO) (have f2:=zcw b n; aI (zdj a n oO oO) (have f1:=zcw a n; (z5w (sV (b*n) (a*n))))))))) (by kernel_rfl))
theorem zqc (a b n:Int)(c0:L (a).natAbs≤65536)(c1:L (b).natAbs≤65536)(c2:(-9223372036854775808:Int)≤n∧n≤9223372036854775807):Impl Tryz.prog Amb 165 [(sV a b),.int .i64 n] (sV (tmLo a b n) (tmHi a b n)):=by
 by_cases h:n<0
 ·unfold tmLo tmHi
  rw [if_pos h,if_pos h]
  exact zqb a b n c0 c1 ⟨by omega,h⟩
 ·unfold tmLo tmHi
  rw [if_neg h,if_neg h]
  exact zla a b n c0 c1 ⟨by omega,by omega⟩
theorem zqd (a b d:Int)(c0:L (a).natAbs≤65536)(c1:L (b).natAbs≤65536)(c2:(0:Int)<d∧d<4294967296):Impl Tryz.prog Amb 242 [(sV a b),(.int .u32 d)] (sV (ptLo a d) (ptHi b d)):=by
 have z1:=zk7 1 (by decide)
 exact z6e hP hAmb Tryz.func242 (by kernel_rfl) (.lits 2<|.call (.tup [(N (a.natAbs / (d).toNat)),(.int .u32 ((a.natAbs%(d).toNat:Nat):Int)),(.bool true)])<|.lits 2<|.call (.tup [(N (b.natAbs / (d).toNat)),(.int .u32 ((b.natAbs%(d).toNat:Nat):Int)),(.bool true)])<|.lit<|.both (.lit<|.call (N 1)<|.lit<|.call (N ((b.natAbs / (d).toNat)+1))<|.lit<|.call (zV (sgn false (a.natAbs / (d).toNat)))<|.lit<|.call (zV (sgn false ((b.natAbs / (d).toNat)+1)))<|.lits 3<|.ret) (.lit<|.call (zV (sgn false (a.natAbs / (d).toNat)))<|.lit<|.call (zV (sgn false (b.natAbs / (d).toNat)))<|.lits 3<|.ret))
  (z6d (aI True.intro (aI (zcl a.natAbs d oO oO) (have f9:=z8o a.natAbs (d).toNat; aI (zcl b.natAbs d oO oO) (have f8:=z8o b.natAbs (d).toNat; aI (fun (h1:(iNe ((b.natAbs%(d).toNat:Nat):Int) 0)=true)=>have _gh1:=z7d h1; aI (za5 1 oO) (aI (zac (b.natAbs / (d).toNat) 1 oO oO) (have f4:=z8l (b.natAbs / (d).toNat) 1; aI (zdb false (a.natAbs / (d).toNat) oO) (have f3:=zgm false (a.natAbs / (d).toNat); aI (zdb false ((b.natAbs / (d).toNat)+1) oO) (have f2:=zgm false ((b.natAbs / (d).toNat)+1); (zq4 rfl (zq5 oO):vsub (sV (sgn false (a.natAbs / (d).toNat)) (sgn false ((b.natAbs / (d).toNat)+1))) (sV (ptLo a d) (ptHi b d)))))))) (fun (h5:(iNe ((b.natAbs%(d).toNat:Nat):Int) 0)=false)=>have _gh5:=z7e h5; aI (zdb false (a.natAbs / (d).toNat) oO) (have f7:=zgm false (a.natAbs / (d).toNat); aI (zdb false (b.natAbs / (d).toNat) oO) (have f6:=zgm false (b.natAbs / (d).toNat); (zq4 rfl (zq6 oO):vsub (sV (sgn false (a.natAbs / (d).toNat)) (sgn false (b.natAbs / (d).toNat))) (sV (ptLo a d) (ptHi b d)))))))))) (by kernel_rfl))
theorem zqe (b:Int)(c0:L (b).natAbs≤65536):Impl Tryz.prog Amb 249 [(zV b)] (.bool (decide ((b).natAbs<8))):=by
 exact z6e hP hAmb Tryz.func249 (by kernel_rfl) (.lits 2<|.call (.int .i64 (nbits b.natAbs:Int))<|.lits 2<|.ret)
  (z6d (aI True.intro (aI (zc2 b.natAbs oO) (have f1:=zet b.natAbs; (z5x (congrArg V.bool zq7):vsub (.bool (iLe (nbits b.natAbs:Int) 3)) (.bool (decide ((b).natAbs<8))))))) (by kernel_rfl))
theorem zqf (a b:Int)(c0:L (b).natAbs≤65536):Impl Tryz.prog Amb 241 [(sV a b)] (.bool (decide ((b).natAbs<8))):=by
 exact z6e hP hAmb Tryz.func241 (by kernel_rfl) (.lits 2<|.call (.bool (decide ((b).natAbs<8)))<|.lit<|.ret)
  (z6d (aI True.intro (aI (zqe b oO) ((z5w (.bool (decide ((b).natAbs<8))))))) (by kernel_rfl))
end Go.Proofs.YtcbihoojfakhdaaGreatDoor


namespace Go.Proofs.YtcbihoojfakhdaaGreatDoor
theorem zqg {m e n f:Int}:cmpD m e n f≤0↔dv m e≤dv n f:=by rw [zng,zpe]
theorem zqh {a b:Int}{w n:Nat}:dv a (-(w:Int))≤dv b (-((w:Int)+(n:Int)))↔a*2^n≤b:=by
 rw [zn7 (m:=a) (e:=-(w:Int)) (c:=-((w:Int)+(n:Int))) (by omega),show (-(w:Int) - -((w:Int)+(n:Int))).toNat=n by omega,zn9]
theorem zqi {a b:Int}{w n:Nat}:dv b (-((w:Int)+(n:Int)))≤dv a (-(w:Int))↔b≤a*2^n:=by
 rw [zn7 (m:=a) (e:=-(w:Int)) (c:=-((w:Int)+(n:Int))) (by omega),show (-(w:Int) - -((w:Int)+(n:Int))).toNat=n by omega,zn9]
end Go.Proofs.YtcbihoojfakhdaaGreatDoor
