/-
  Lower layers: what functions of the program compute, and plain facts. Conditions: as the theorems say.
-/
import Derived.Test.YtkkbddkpggjgpaaGreatDoorPiK
set_option linter.unusedVariables false
set_option linter.unusedSimpArgs false
namespace Go.Proofs.YtkkbddkpggjgpaaGreatDoor
open Go.RowKit
set_option maxRecDepth 100000
theorem r01_Shl_0 (a:Nat)(n:Int)(c0:L a≤67108864)(c1:0≤n∧n≤1048576)(x0:Int × Int × Nat × List V × List Nat)(hI:r01_Shl_0_I a n x0):LoopOk Tryz.prog Amb (loopN Tryz.f127 0) (r01_Shl_0_mk a n x0) (fun e st_=>∃ y,r01_Shl_0_J a n y∧r01_Shl_0_ex a n y=(e,st_)) :=
 loop_ob hP hAmb ⟨[0,1,5,6,7],1,[]⟩ (r01_Shl_0_mk a n) (r01_Shl_0_I a n) (r01_Shl_0_mu a n) (r01_Shl_0_ex a n) (r01_Shl_0_J a n) x0 hI (fun (i,c,m,o,l)=>.lit<|.both (.lit<|.call (.int .u64 (gi (limbs a) (i).toNat))<|.lits 2<|.yes<|.yes<|.yes<|.lits 2<|.no<|.yes<|.lits 2<|.yes<|.fin3 ⟨[0,1,5,6,7],[2]⟩) (.fin2 ⟨[5],1,[]⟩)) (by
  rintro ⟨i,c,m,o,l⟩ hI
  have hI:o=U l∧m=l.length∧RShl a n.toNat i c l∧(i:Int)≤(L a:Int)+1:=hI
  obtain⟨rfl,hm,h1,h2⟩:=hI
  have e0:=L_len a
  have ⟨p0,p1,p2,p3,p4,_⟩:=h1
  have g4:=U_len l
  have w0:=wRem32 c1.1
  have hs:=shl_word a i.toNat c1.1
  have hr:n.toNat%32<32:=by omega
  have hm0:=min_rest c1.1
  have ho:=or_lo ⟨gi_nonneg (limbs a) i.toNat,gi_lt (dig_limbs a) i.toNat⟩ hr ⟨p1,p2⟩
  have hz:=shl_c hr p2
  exact cast_ob (aI True.intro (aI (fun (h101:(iLe i ((lim a).length:Int))=true)=>have _gh101:=iLe_t h101;aI (r01_at a i oA oA) (have f103:=gi_nonneg (limbs a) (i).toNat;have f102:=gi_lt (dig_limbs a) (i).toNat;aI (fits_u64 oA:(fits .u64 (wRem n (32:Int)))=true) (aI (iLe_mk oA:(iLe 0 (wRem n (32:Int)))=true) (aI (fits_u64 oA:(fits .u64 ((gi (limbs a) (i).toNat)*2^(min (wRem n (32:Int)).toNat (IntKind.bits .u64))))=true) (aI (and_mk (and_mk (and_mk (rfl) rfl) (st_ok oA)) (by first | rfl | (simp<;>omega) | (rw[L_len];simp)):(true && true && Nat.ble (m+1) 1073741824 && Nat.beq (U l).length m)=true) (aI (fits_i64 oA:(fits .i64 (i+1))=true) (aI tT ((nx_next ((i+1),(Int.fdiv (wOr .u64 ((gi (limbs a) (i).toNat)*2^(min (wRem n (32:Int)).toNat (IntKind.bits .u64))) c) (2^32)),(m+1),((U l) ++ [(V.int .u32 (IntKind.wrap .u32 (wOr .u64 ((gi (limbs a) (i).toNat)*2^(min (wRem n (32:Int)).toNat (IntKind.bits .u64))) c)))]),(l ++ [(IntKind.wrap .u32 (wOr .u64 ((gi (limbs a) (i).toNat)*2^(min (wRem n (32:Int)).toNat (IntKind.bits .u64))) c)).toNat])) (show ((U l) ++ [(V.int .u32 (IntKind.wrap .u32 (wOr .u64 ((gi (limbs a) (i).toNat)*2^(min (wRem n (32:Int)).toNat (IntKind.bits .u64))) c)))])=U (l ++ [(IntKind.wrap .u32 (wOr .u64 ((gi (limbs a) (i).toNat)*2^(min (wRem n (32:Int)).toNat (IntKind.bits .u64))) c)).toNat])∧(m+1)=(l ++ [(IntKind.wrap .u32 (wOr .u64 ((gi (limbs a) (i).toNat)*2^(min (wRem n (32:Int)).toNat (IntKind.bits .u64))) c)).toNat]).length∧RShl a n.toNat (i+1) (Int.fdiv (wOr .u64 ((gi (limbs a) (i).toNat)*2^(min (wRem n (32:Int)).toNat (IntKind.bits .u64))) c) (2^32)) (l ++ [(IntKind.wrap .u32 (wOr .u64 ((gi (limbs a) (i).toNat)*2^(min (wRem n (32:Int)).toNat (IntKind.bits .u64))) c)).toNat])∧((i+1):Int)≤(L a:Int)+1 from ⟨U_snoc _ _ (wrap_nn _),by simp [hm],rshl_next h1 (by rw[hm0,ho]),by omega⟩) (show ((L a:Int)+1-(i+1)).toNat<((L a:Int)+1-i).toNat by omega):r01_Shl_0_N a n (i,c,m,(U l),l) .normal (r01_Shl_0_mk a n ((i+1),(Int.fdiv (wOr .u64 ((gi (limbs a) (i).toNat)*2^(min (wRem n (32:Int)).toNat (IntKind.bits .u64))) c) (2^32)),(m+1),((U l) ++ [(V.int .u32 (IntKind.wrap .u32 (wOr .u64 ((gi (limbs a) (i).toNat)*2^(min (wRem n (32:Int)).toNat (IntKind.bits .u64))) c)))]),(l ++ [(IntKind.wrap .u32 (wOr .u64 ((gi (limbs a) (i).toNat)*2^(min (wRem n (32:Int)).toNat (IntKind.bits .u64))) c)).toNat])))))))))))) (fun (h104:(iLe i ((lim a).length:Int))=false)=>have _gh104:=iLe_f h104;aI tT ((nx_exit 0 ((r01_Shl_0_ex a n (i,c,m,(U l),l)).2) (i,c,m,(U l),l) (show (U l)=U l∧m=l.length∧RShl a n.toNat i c l∧(L a:Int)+1=i from ⟨rfl,hm,h1,by omega⟩) rfl:r01_Shl_0_N a n (i,c,m,(U l),l) (.exit 0) ((r01_Shl_0_ex a n (i,c,m,(U l),l)).2)))))) (by kernel_rfl))
theorem r01_Shl (a:Nat)(n:Int)(c0:L a≤67108864)(c1:(0:Int)≤n∧n≤1048576):Impl Tryz.prog Amb 127 [(N a),(.int .i64 n)] (N (a*2^(n).toNat)):=by
 have e0:=L_len a
 have t0:=tdiv32 c1.1
 exact impl_ob hP hAmb Tryz.func127 (by kernel_rfl) (.lit<|.yes<|.yes<|.loop ⟨[0,1,5,6,7],1,[]⟩ ((r01_Shl_0_mk a n (0,0,(Int.tdiv n (32:Int)).toNat,(List.replicate ((Int.tdiv n (32:Int)).toNat) (.int .u32 0)),(List.replicate (n.toNat / 32) 0)))) (Int × Int × Nat × List V × List Nat) (r01_Shl_0_ex a n) (r01_Shl_0_J a n) (fun y=>.yes<|.call (N (val y.2.2.2.2))<|.lit<|.ret))
  (cast_ob (aI True.intro (aI (fits_i64 oA:(fits .i64 (Int.tdiv n (32:Int)))=true) (aI (mk_ok oA:(((iEq (Int.tdiv n (32:Int)) (Int.tdiv n (32:Int))) && (iLe 0 (Int.tdiv n (32:Int)))) && (iLe (Int.tdiv n (32:Int)) 1073741824))=true) (aI tT (aI (rfl:(r01_Shl_0_mk a n (0,0,(Int.tdiv n (32:Int)).toNat,(List.replicate ((Int.tdiv n (32:Int)).toNat) (.int .u32 0)),(List.replicate (n.toNat / 32) 0)))=(r01_Shl_0_mk a n (0,0,(Int.tdiv n (32:Int)).toNat,(List.replicate ((Int.tdiv n (32:Int)).toNat) (.int .u32 0)),(List.replicate (n.toNat / 32) 0)))) (aI (r01_Shl_0 a n oO oO (0,0,(Int.tdiv n (32:Int)).toNat,(List.replicate ((Int.tdiv n (32:Int)).toNat) (.int .u32 0)),(List.replicate (n.toNat / 32) 0)) (show (List.replicate ((Int.tdiv n (32:Int)).toNat) (.int .u32 0))=U (List.replicate (n.toNat / 32) 0)∧((Int.tdiv n (32:Int)).toNat)=(List.replicate (n.toNat / 32) 0).length∧RShl a n.toNat 0 0 (List.replicate (n.toNat / 32) 0)∧(0:Int)≤(L a:Int)+1 from ⟨by rw[U_rep];congr 2;omega,by simp;omega,rshl_init _ _,by omega⟩)) (fun y (hJ:r01_Shl_0_J a n y)=>have hJ:y.2.2.2.1=U y.2.2.2.2∧y.2.2.1=y.2.2.2.2.length∧RShl a n.toNat y.1 y.2.1 y.2.2.2.2∧(L a:Int)+1=y.1:=hJ;have ⟨q0,q0n,q1,q2⟩:=hJ;have ⟨q3,q4,q5⟩:=rshl_end q1 oO;have q6:=U_len y.2.2.2.2;have q7:y.2.2.2.1.length=y.2.2.1:=(by rw[q0,q6,q0n]);aI (ok_arg oA:((true && Nat.ble (0+y.2.2.1) y.2.2.2.1.length) && true)=true) (aI (r01_TrimC (List.take y.2.2.1 (List.drop 0 y.2.2.2.1)) y.2.2.2.2 (tkU q0 oO) q3 oO) ((vsub_of (congrArg N q5):vsub (N (val y.2.2.2.2)) (N (a*2^(n).toNat)))))))))))) (by kernel_rfl))
def r01_Shr_0_mk (a:Nat)(n:Int)(x:(Int)⊕(Int × Nat × List V × List Nat)):St:=Sum.elim (fun (x:Int)=>⟨mkS 34 [(0,(.val (N a))),(1,(.val (.int .i64 n))),(5,(.val .nil)),(6,(.val (.int .i64 (Int.tdiv n (32:Int)))))],[]⟩) (fun (x:Int × Nat × List V × List Nat)=>⟨mkS 34 [(0,(.val (N a))),(1,(.val (.int .i64 n))),(5,(.osl 0 0 x.2.1 1)),(6,(.val (.int .i64 x.1)))],[⟨true,false,x.2.2.1⟩]⟩) x
def r01_Shr_0_I (a:Nat)(n:Int)(x:(Int)⊕(Int × Nat × List V × List Nat)):Prop:=Sum.elim (fun (x:Int)=>x=(Int.tdiv n (32:Int))) (fun (x:Int × Nat × List V × List Nat)=>x.2.2.1=U x.2.2.2∧x.2.1=x.2.2.2.length∧(RShr a n.toNat x.1 x.2.2.2∧(x.1:Int)≤(max (L a) (n.toNat / 32):Nat))) x
def r01_Shr_0_mu (a:Nat)(_:Int)(x:(Int)⊕(Int × Nat × List V × List Nat)):Nat:=Sum.elim (fun (x:Int)=>((L a:Int)-x).toNat) (fun (x:Int × Nat × List V × List Nat)=>((L a:Int)-x.1).toNat) x
def r01_Shr_0_ex (_:Nat)(_:Int)(y:(Int × Nat × List V × List Nat)⊕(Int)):Ex × St:=Sum.elim (fun (y:Int × Nat × List V × List Nat)=>(.exit 0,⟨mkS 34 [(5,(.osl 0 0 y.2.1 1))],[⟨true,false,y.2.2.1⟩]⟩)) (fun (y:Int)=>(.exit 0,⟨mkS 34 [(5,(.val .nil))],[]⟩)) y
def r01_Shr_0_J (a:Nat)(n:Int)(y:(Int × Nat × List V × List Nat)⊕(Int)):Prop:=Sum.elim (fun (y:Int × Nat × List V × List Nat)=>y.2.2.1=U y.2.2.2∧y.2.1=y.2.2.2.length∧(RShr a n.toNat y.1 y.2.2.2∧(y.1:Int)≤(max (L a) (n.toNat / 32):Nat))∧(L a:Int)≤y.1) (fun (y:Int)=>L a≤n.toNat / 32) y
abbrev r01_Shr_0_N (a:Nat)(n:Int):=NX (r01_Shr_0_mk a n) (r01_Shr_0_I a n) (r01_Shr_0_mu a n) (r01_Shr_0_ex a n) (r01_Shr_0_J a n)
theorem r01_Shr_0 (a:Nat)(n:Int)(c0:L a≤67108864)(c1:0≤n∧n≤1048576)(x0:(Int)⊕(Int × Nat × List V × List Nat))(hI:r01_Shr_0_I a n x0):LoopOk Tryz.prog Amb (loopN Tryz.f106 0) (r01_Shr_0_mk a n x0) (fun e st_=>∃ y,r01_Shr_0_J a n y∧r01_Shr_0_ex a n y=(e,st_)) :=
 loop_ob hP hAmb ⟨[0,1,5,6],0,[]⟩ (r01_Shr_0_mk a n) (r01_Shr_0_I a n) (r01_Shr_0_mu a n) (r01_Shr_0_ex a n) (r01_Shr_0_J a n) x0 hI (Sum.elim (fun i=>.lit<|.both (.lit<|.call (.int .u64 (gi (limbs a) ((Int.tdiv n (32:Int))).toNat))<|.lit<|.yes<|.lit<|.call (.int .u64 (gi (limbs a) (((Int.tdiv n (32:Int))+1)).toNat))<|.lit<|.yes<|.lits 3<|.yes<|.yes<|.lit<|.no<|.lits 3<|.yes<|.fin3 ⟨[0,1,5,6],[1]⟩) (.fin2 ⟨[5],0,[]⟩)) (fun (i,nn,o,l)=>.lit<|.both (.lit<|.call (.int .u64 (gi (limbs a) (i).toNat))<|.lit<|.yes<|.lit<|.call (.int .u64 (gi (limbs a) ((i+1)).toNat))<|.lit<|.yes<|.lits 3<|.yes<|.yes<|.lit<|.no<|.yes<|.lit<|.yes<|.fin3 ⟨[0,1,5,6],[2]⟩) (.fin2 ⟨[5],1,[]⟩))) (by
  rintro (i | ⟨i,nn,o,l⟩) hI
  ·skip
   have hI:i=(Int.tdiv n (32:Int)):=hI
   obtain rfl:=hI
   have e0:=L_len a
   have t0:=tdiv32 c1.1
   have w0:=wRem32 c1.1
   have h1:RShr a n.toNat (Int.tdiv n (32:Int)) []∧(Int.tdiv n (32:Int))≤((max (L a) (n.toNat / 32):Nat):Int):=⟨by rw[show Int.tdiv n (32:Int)=((n.toNat / 32:Nat):Int) by omega];exact rshr_init a n.toNat,by omega⟩
   have ⟨p0,p1,p2,_⟩:=h1.1
   exact cast_ob (aI True.intro (aI (fun (h101:(iLt (Int.tdiv n (32:Int)) ((lim a).length:Int))=true)=>have _gh101:=iLt_t h101;aI (r01_at a (Int.tdiv n (32:Int)) oA oA) (have f105:=gi_nonneg (limbs a) ((Int.tdiv n (32:Int))).toNat;have f104:=gi_lt (dig_limbs a) ((Int.tdiv n (32:Int))).toNat;aI (fits_i64 oA:(fits .i64 ((Int.tdiv n (32:Int))+1))=true) (aI (r01_at a ((Int.tdiv n (32:Int))+1) oA oA) (have f103:=gi_nonneg (limbs a) (((Int.tdiv n (32:Int))+1)).toNat;have f102:=gi_lt (dig_limbs a) (((Int.tdiv n (32:Int))+1)).toNat;aI (fits_u64 oA:(fits .u64 ((gi (limbs a) (((Int.tdiv n (32:Int))+1)).toNat)*2^32))=true) (aI (fits_u64 oA:(fits .u64 (wRem n (32:Int)))=true) (aI (iLe_mk oA:(iLe 0 (wRem n (32:Int)))=true) (aI (fits_i64 oA:(fits .i64 ((Int.tdiv n (32:Int))+1))=true) (aI tT ((nx_next (Sum.inr (((Int.tdiv n (32:Int))+1),1,([(V.int .u32 (IntKind.wrap .u32 (Int.fdiv (wOr .u64 (gi (limbs a) ((Int.tdiv n (32:Int))).toNat) ((gi (limbs a) (((Int.tdiv n (32:Int))+1)).toNat)*2^32)) (2^(min (wRem n (32:Int)).toNat (IntKind.bits .u64))))))]:List V),([(IntKind.wrap .u32 (Int.fdiv (wOr .u64 (gi (limbs a) ((Int.tdiv n (32:Int))).toNat) ((gi (limbs a) (((Int.tdiv n (32:Int))+1)).toNat)*2^32)) (2^(min (wRem n (32:Int)).toNat (IntKind.bits .u64))))).toNat]:List Nat))) (show ([(V.int .u32 (IntKind.wrap .u32 (Int.fdiv (wOr .u64 (gi (limbs a) ((Int.tdiv n (32:Int))).toNat) ((gi (limbs a) (((Int.tdiv n (32:Int))+1)).toNat)*2^32)) (2^(min (wRem n (32:Int)).toNat (IntKind.bits .u64))))))]:List V)=U ([(IntKind.wrap .u32 (Int.fdiv (wOr .u64 (gi (limbs a) ((Int.tdiv n (32:Int))).toNat) ((gi (limbs a) (((Int.tdiv n (32:Int))+1)).toNat)*2^32)) (2^(min (wRem n (32:Int)).toNat (IntKind.bits .u64))))).toNat]:List Nat)∧1=([(IntKind.wrap .u32 (Int.fdiv (wOr .u64 (gi (limbs a) ((Int.tdiv n (32:Int))).toNat) ((gi (limbs a) (((Int.tdiv n (32:Int))+1)).toNat)*2^32)) (2^(min (wRem n (32:Int)).toNat (IntKind.bits .u64))))).toNat]:List Nat).length∧(RShr a n.toNat ((Int.tdiv n (32:Int))+1) ([(IntKind.wrap .u32 (Int.fdiv (wOr .u64 (gi (limbs a) ((Int.tdiv n (32:Int))).toNat) ((gi (limbs a) (((Int.tdiv n (32:Int))+1)).toNat)*2^32)) (2^(min (wRem n (32:Int)).toNat (IntKind.bits .u64))))).toNat]:List Nat)∧(((Int.tdiv n (32:Int))+1):Int)≤(max (L a) (n.toNat / 32):Nat)) from ⟨U_one _ (wrap_nn _),rfl,⟨rshr_next c1.1 h1.1 rfl,by omega⟩⟩) (show ((L a:Int)-((Int.tdiv n (32:Int))+1)).toNat<((L a:Int)-(Int.tdiv n (32:Int))).toNat by omega):r01_Shr_0_N a n (Sum.inl (Int.tdiv n (32:Int))) .normal (r01_Shr_0_mk a n (Sum.inr (((Int.tdiv n (32:Int))+1),1,([(V.int .u32 (IntKind.wrap .u32 (Int.fdiv (wOr .u64 (gi (limbs a) ((Int.tdiv n (32:Int))).toNat) ((gi (limbs a) (((Int.tdiv n (32:Int))+1)).toNat)*2^32)) (2^(min (wRem n (32:Int)).toNat (IntKind.bits .u64))))))]:List V),([(IntKind.wrap .u32 (Int.fdiv (wOr .u64 (gi (limbs a) ((Int.tdiv n (32:Int))).toNat) ((gi (limbs a) (((Int.tdiv n (32:Int))+1)).toNat)*2^32)) (2^(min (wRem n (32:Int)).toNat (IntKind.bits .u64))))).toNat]:List Nat)))))))))))))) (fun (h106:(iLt (Int.tdiv n (32:Int)) ((lim a).length:Int))=false)=>have _gh106:=iLt_f h106;aI tT ((nx_exit 0 ((r01_Shr_0_ex a n (Sum.inr (Int.tdiv n (32:Int)))).2) (Sum.inr (Int.tdiv n (32:Int))) (show L a≤n.toNat / 32 from oO) rfl:r01_Shr_0_N a n (Sum.inl (Int.tdiv n (32:Int))) (.exit 0) ((r01_Shr_0_ex a n (Sum.inr (Int.tdiv n (32:Int)))).2)))))) (by kernel_rfl)
  ·skip
   have hI:o=U l∧nn=l.length∧(RShr a n.toNat i l∧(i:Int)≤(max (L a) (n.toNat / 32):Nat)):=hI
   obtain⟨rfl,hn,h1⟩:=hI
   have e0:=L_len a
   have t0:=tdiv32 c1.1
   have w0:=wRem32 c1.1
   have g4:=U_len l
   have ⟨p0,p1,p2,_⟩:=h1.1
   exact cast_ob (aI True.intro (aI (fun (h101:(iLt i ((lim a).length:Int))=true)=>have _gh101:=iLt_t h101;aI (r01_at a i oA oA) (have f105:=gi_nonneg (limbs a) (i).toNat;have f104:=gi_lt (dig_limbs a) (i).toNat;aI (fits_i64 oA:(fits .i64 (i+1))=true) (aI (r01_at a (i+1) oA oA) (have f103:=gi_nonneg (limbs a) ((i+1)).toNat;have f102:=gi_lt (dig_limbs a) ((i+1)).toNat;aI (fits_u64 oA:(fits .u64 ((gi (limbs a) ((i+1)).toNat)*2^32))=true) (aI (fits_u64 oA:(fits .u64 (wRem n (32:Int)))=true) (aI (iLe_mk oA:(iLe 0 (wRem n (32:Int)))=true) (aI (and_mk (and_mk (and_mk (rfl) rfl) (st_ok oA)) (by first | rfl | (simp<;>omega) | (rw[L_len];simp)):(true && true && Nat.ble (nn+1) 1073741824 && Nat.beq (U l).length nn)=true) (aI (fits_i64 oA:(fits .i64 (i+1))=true) (aI tT ((nx_next (Sum.inr ((i+1),(nn+1),((U l) ++ [(V.int .u32 (IntKind.wrap .u32 (Int.fdiv (wOr .u64 (gi (limbs a) (i).toNat) ((gi (limbs a) ((i+1)).toNat)*2^32)) (2^(min (wRem n (32:Int)).toNat (IntKind.bits .u64))))))]),(l ++ [(IntKind.wrap .u32 (Int.fdiv (wOr .u64 (gi (limbs a) (i).toNat) ((gi (limbs a) ((i+1)).toNat)*2^32)) (2^(min (wRem n (32:Int)).toNat (IntKind.bits .u64))))).toNat]))) (show ((U l) ++ [(V.int .u32 (IntKind.wrap .u32 (Int.fdiv (wOr .u64 (gi (limbs a) (i).toNat) ((gi (limbs a) ((i+1)).toNat)*2^32)) (2^(min (wRem n (32:Int)).toNat (IntKind.bits .u64))))))])=U (l ++ [(IntKind.wrap .u32 (Int.fdiv (wOr .u64 (gi (limbs a) (i).toNat) ((gi (limbs a) ((i+1)).toNat)*2^32)) (2^(min (wRem n (32:Int)).toNat (IntKind.bits .u64))))).toNat])∧(nn+1)=(l ++ [(IntKind.wrap .u32 (Int.fdiv (wOr .u64 (gi (limbs a) (i).toNat) ((gi (limbs a) ((i+1)).toNat)*2^32)) (2^(min (wRem n (32:Int)).toNat (IntKind.bits .u64))))).toNat]).length∧(RShr a n.toNat (i+1) (l ++ [(IntKind.wrap .u32 (Int.fdiv (wOr .u64 (gi (limbs a) (i).toNat) ((gi (limbs a) ((i+1)).toNat)*2^32)) (2^(min (wRem n (32:Int)).toNat (IntKind.bits .u64))))).toNat])∧((i+1):Int)≤(max (L a) (n.toNat / 32):Nat)) from ⟨U_snoc _ _ (wrap_nn _),by simp [hn],⟨rshr_next c1.1 h1.1 rfl,by omega⟩⟩) (show ((L a:Int)-(i+1)).toNat<((L a:Int)-i).toNat by omega):r01_Shr_0_N a n (Sum.inr (i,nn,(U l),l)) .normal (r01_Shr_0_mk a n (Sum.inr ((i+1),(nn+1),((U l) ++ [(V.int .u32 (IntKind.wrap .u32 (Int.fdiv (wOr .u64 (gi (limbs a) (i).toNat) ((gi (limbs a) ((i+1)).toNat)*2^32)) (2^(min (wRem n (32:Int)).toNat (IntKind.bits .u64))))))]),(l ++ [(IntKind.wrap .u32 (Int.fdiv (wOr .u64 (gi (limbs a) (i).toNat) ((gi (limbs a) ((i+1)).toNat)*2^32)) (2^(min (wRem n (32:Int)).toNat (IntKind.bits .u64))))).toNat]))))))))))))))) (fun (h106:(iLt i ((lim a).length:Int))=false)=>have _gh106:=iLt_f h106;aI tT ((nx_exit 0 ((r01_Shr_0_ex a n (Sum.inl (i,nn,(U l),l))).2) (Sum.inl (i,nn,(U l),l)) (show (U l)=U l∧nn=l.length∧(RShr a n.toNat i l∧(i:Int)≤(max (L a) (n.toNat / 32):Nat))∧(L a:Int)≤i from ⟨rfl,hn,h1,by omega⟩) rfl:r01_Shr_0_N a n (Sum.inr (i,nn,(U l),l)) (.exit 0) ((r01_Shr_0_ex a n (Sum.inl (i,nn,(U l),l))).2)))))) (by kernel_rfl))
theorem r01_Shr (a:Nat)(n:Int)(c0:L a≤67108864)(c1:(0:Int)≤n∧n≤1048576):Impl Tryz.prog Amb 106 [(N a),(.int .i64 n)] (N (a / 2^(n).toNat)):=by
 have e0:=L_len a
 have t0:=tdiv32 c1.1
 exact impl_ob hP hAmb Tryz.func106 (by kernel_rfl) (.lit<|.yes<|.loop2 ⟨[0,1,5,6],0,[]⟩ ((r01_Shr_0_mk a n (Sum.inl (Int.tdiv n (32:Int))))) (Int × Nat × List V × List Nat) (Int) (r01_Shr_0_ex a n) (r01_Shr_0_J a n) (fun y=>.yes<|.call (N (val y.2.2.2))<|.lit<|.ret) (fun y=>.lit<|.call (N 0)<|.lit<|.ret))
  (cast_ob (aI True.intro (aI (fits_i64 oA:(fits .i64 (Int.tdiv n (32:Int)))=true) (aI tT (aI (rfl:(r01_Shr_0_mk a n (Sum.inl (Int.tdiv n (32:Int))))=(r01_Shr_0_mk a n (Sum.inl (Int.tdiv n (32:Int))))) (aI (r01_Shr_0 a n oO oO (Sum.inl (Int.tdiv n (32:Int))) (show (Int.tdiv n (32:Int))=(Int.tdiv n (32:Int)) from rfl)) (aI (fun (y:Int × Nat × List V × List Nat) (hJ:r01_Shr_0_J a n (.inl y))=>have hJ:y.2.2.1=U y.2.2.2∧y.2.1=y.2.2.2.length∧(RShr a n.toNat y.1 y.2.2.2∧(y.1:Int)≤(max (L a) (n.toNat / 32):Nat))∧(L a:Int)≤y.1:=hJ;have ⟨q0,q0n,q1,q2⟩:=hJ;have ⟨q3,q4,q5⟩:=rshr_end q1.1 q2;have q6:=U_len y.2.2.2;have q7:y.2.2.1.length=y.2.1:=(by rw[q0,q6,q0n]);aI (ok_arg oA:((true && Nat.ble (0+y.2.1) y.2.2.1.length) && true)=true) (aI (r01_TrimC (List.take y.2.1 (List.drop 0 y.2.2.1)) y.2.2.2 (tkU q0 oO) q3 oO) ((vsub_of (congrArg N q5):vsub (N (val y.2.2.2)) (N (a / 2^(n).toNat)))))) (fun (y:Int) (hJ:r01_Shr_0_J a n (.inr y))=>have hJ:L a≤n.toNat / 32:=hJ;have q1:=hJ;aI (r01_Trim0 ) ((vsub_of (congrArg N (shr_zero q1).symm):vsub (N 0) (N (a / 2^(n).toNat))))))))))) (by kernel_rfl))
theorem r01_Bit (a:Nat)(i:Int)(c0:L a≤1073741824)(c1:(0:Int)≤i∧i≤1000000000000):Impl Tryz.prog Amb 167 [(N a),(.int .i64 i)] (.bool (a.testBit (i).toNat)):=by
 have e0:=L_len a
 have t0:=tdiv32 c1.1
 have w0:=wRem32 c1.1
 exact impl_ob hP hAmb Tryz.func167 (by kernel_rfl) (.lit<|.both (.lits 3<|.yes<|.lits 2<|.call (.int .u64 (gi (limbs a) ((Int.tdiv i (32:Int))).toNat))<|.lits 5<|.yes<|.lit<|.yes<|.lits 6<|.ret) (.lits 11<|.ret))
  (cast_ob (aI True.intro (aI (fun (h1:(iGe i 0)=true)=>have _gh1:=iGe_t h1;aI (fits_i64 oA:(fits .i64 (Int.tdiv i (32:Int)))=true) (aI (r01_at a (Int.tdiv i (32:Int)) oA oA) (have f3:=gi_nonneg (limbs a) ((Int.tdiv i (32:Int))).toNat;have f2:=gi_lt (dig_limbs a) ((Int.tdiv i (32:Int))).toNat;aI (fits_u64 oA:(fits .u64 (wRem i (32:Int)))=true) (aI (iLe_mk oA:(iLe 0 (wRem i (32:Int)))=true) ((vsub_of (congrArg V.bool (bit1 c1.1)):vsub (.bool (iEq (wRem (Int.fdiv (gi (limbs a) ((Int.tdiv i (32:Int))).toNat) (2^(min (wRem i (32:Int)).toNat (IntKind.bits .u64)))) (2:Int)) 1)) (.bool (a.testBit (i).toNat)))))))) (fun (h4:(iGe i 0)=false)=>have _gh4:=iGe_f h4;(absurd c1.1 oO:vsub (.bool false) (.bool (a.testBit (i).toNat)))))) (by kernel_rfl))
def r01_Bits_0_mk (a:Nat)(x:Int):St:=⟨mkS 19 [(0,(.val (N a))),(3,(.val (.int .i64 x)))],[]⟩
def r01_Bits_0_I (a:Nat)(x:Int):Prop:=0≤x∧x≤32*(L a:Int)∧a<2^(x).toNat
def r01_Bits_0_mu (_:Nat)(x:Int):Nat:=(x).toNat
def r01_Bits_0_ex (_:Nat)(y:Int):Ex × St:=(.exit 0,⟨mkS 19 [(3,(.val (.int .i64 y)))],[]⟩)
def r01_Bits_0_J (a:Nat)(y:Int):Prop:=y=(nbits a:Int)
abbrev r01_Bits_0_N (a:Nat):=NX (r01_Bits_0_mk a) (r01_Bits_0_I a) (r01_Bits_0_mu a) (r01_Bits_0_ex a) (r01_Bits_0_J a)
theorem r01_Bits_0 (a:Nat)(c0:L a≤67108864)(x0:Int)(hI:r01_Bits_0_I a x0):LoopOk Tryz.prog Amb (loopN Tryz.f114 0) (r01_Bits_0_mk a x0) (fun e st_=>∃ y,r01_Bits_0_J a y∧r01_Bits_0_ex a y=(e,st_)) :=
 loop_ob hP hAmb ⟨[0,3],0,[]⟩ (r01_Bits_0_mk a) (r01_Bits_0_I a) (r01_Bits_0_mu a) (r01_Bits_0_ex a) (r01_Bits_0_J a) x0 hI (fun n=>.lit<|.both (.lits 3<|.yes<|.lits 2<|.call (.bool (a.testBit ((n-1)).toNat))<|.lits 3<|.both (.lit<|.yes<|.fin2 ⟨[0,3],0,[]⟩) (.fin2 ⟨[3],0,[]⟩)) (.lits 6<|.fin2 ⟨[3],0,[]⟩)) (by
  rintro n hI
  have hI:0≤n∧n≤32*(L a:Int)∧a<2^(n).toNat:=hI
  obtain⟨h1,h2,h3⟩:=hI
  have e0:=L_len a
  exact cast_ob (aI True.intro (aI (fun (h101:(iGt n 0)=true)=>have _gh101:=iGt_t h101;aI (fits_i64 oA:(fits .i64 (n-1))=true) (aI (r01_Bit a (n-1) oA oA) (aI (fun (h102:(!(a.testBit ((n-1)).toNat))=true)=>aI (fits_i64 oA:(fits .i64 (n-1))=true) (aI tT ((nx_next (n-1) (show 0≤(n-1)∧(n-1)≤32*(L a:Int)∧a<2^((n-1)).toNat from ⟨by omega,by omega,bits1_step oO h3 (by simp_all)⟩) (show (n-1).toNat<n.toNat by omega):r01_Bits_0_N a n .normal (r01_Bits_0_mk a (n-1)))))) (fun (h103:(!(a.testBit ((n-1)).toNat))=false)=>aI tT ((nx_exit 0 ((r01_Bits_0_ex a n).2) n (show n=(nbits a:Int) from bits1_end h1 h3 (by first | exact .inl oO | exact .inr (by simp_all))) rfl:r01_Bits_0_N a n (.exit 0) ((r01_Bits_0_ex a n).2))))))) (fun (h104:(iGt n 0)=false)=>have _gh104:=iGt_f h104;aI tT ((nx_exit 0 ((r01_Bits_0_ex a n).2) n (show n=(nbits a:Int) from bits1_end h1 h3 (by first | exact .inl oO | exact .inr (by simp_all))) rfl:r01_Bits_0_N a n (.exit 0) ((r01_Bits_0_ex a n).2)))))) (by kernel_rfl))
theorem r01_Bits (a:Nat)(c0:L a≤67108864):Impl Tryz.prog Amb 114 [(N a)] (.int .i64 (nbits a:Int)):=by
 have e0:=L_len a
 exact impl_ob hP hAmb Tryz.func114 (by kernel_rfl) (.lit<|.yes<|.loop ⟨[0,3],0,[]⟩ ((r01_Bits_0_mk a ((32:Int)*((lim a).length:Int)))) (Int) (r01_Bits_0_ex a) (r01_Bits_0_J a) (fun y=>.lit<|.ret))
  (cast_ob (aI True.intro (aI (fits_i64 oA:(fits .i64 ((32:Int)*((lim a).length:Int)))=true) (aI tT (aI (rfl:(r01_Bits_0_mk a ((32:Int)*((lim a).length:Int)))=(r01_Bits_0_mk a ((32:Int)*((lim a).length:Int)))) (aI (r01_Bits_0 a oO ((32:Int)*((lim a).length:Int)) (show 0≤((32:Int)*((lim a).length:Int))∧((32:Int)*((lim a).length:Int))≤32*(L a:Int)∧a<2^(((32:Int)*((lim a).length:Int))).toNat from ⟨by omega,by rw[L_len];omega,by rw[L_len,show (32*(L a:Int)).toNat=32*L a by omega,← B_pow];exact L_lt a⟩)) (fun y (hJ:r01_Bits_0_J a y)=>have hJ:y=(nbits a:Int):=hJ;(vsub_of (congrArg (V.int .i64) hJ):vsub (.int .i64 y) (.int .i64 (nbits a:Int))))))))) (by kernel_rfl))
def r01_Zeros_0_mk (a:Nat)(x:Int):St:=⟨mkS 15 [(0,(.val (N a))),(3,(.val (.int .i64 x)))],[]⟩
def r01_Zeros_0_I (a:Nat)(x:Int):Prop:=0≤x∧x≤32*(L a:Int)∧a%2^(x).toNat=0
def r01_Zeros_0_mu (a:Nat)(x:Int):Nat:=(32*(L a:Int)-x).toNat
def r01_Zeros_0_ex (_:Nat)(y:(Int)⊕(Int)):Ex × St:=Sum.elim (fun (y:Int)=>(.ret,⟨mkS 15 [(2,(.val (.int .i64 y)))],[]⟩)) (fun (y:Int)=>(.exit 0,⟨mkS 15 [],[]⟩)) y
def r01_Zeros_0_J (a:Nat)(y:(Int)⊕(Int)):Prop:=Sum.elim (fun (y:Int)=>y=(tz a:Int)) (fun (y:Int)=>y=y∧tz a=0) y
abbrev r01_Zeros_0_N (a:Nat):=NX (r01_Zeros_0_mk a) (r01_Zeros_0_I a) (r01_Zeros_0_mu a) (r01_Zeros_0_ex a) (r01_Zeros_0_J a)
theorem r01_Zeros_0 (a:Nat)(c0:L a≤67108864)(x0:Int)(hI:r01_Zeros_0_I a x0):LoopOk Tryz.prog Amb (loopN Tryz.f105 0) (r01_Zeros_0_mk a x0) (fun e st_=>∃ y,r01_Zeros_0_J a y∧r01_Zeros_0_ex a y=(e,st_)) :=
 loop_ob hP hAmb ⟨[0,3],0,[]⟩ (r01_Zeros_0_mk a) (r01_Zeros_0_I a) (r01_Zeros_0_mu a) (r01_Zeros_0_ex a) (r01_Zeros_0_J a) x0 hI (fun i=>.lit<|.yes<|.lit<|.both (.lit<|.call (.bool (a.testBit (i).toNat))<|.both (.fin2 ⟨[2],0,[]⟩) (.lit<|.yes<|.fin2 ⟨[0,3],0,[]⟩)) (.fin2 ⟨[],0,[]⟩)) (by
  rintro i hI
  have hI:0≤i∧i≤32*(L a:Int)∧a%2^(i).toNat=0:=hI
  obtain⟨h1,h2,h3⟩:=hI
  have e0:=L_len a
  exact cast_ob (aI True.intro (aI (fits_i64 oA:(fits .i64 ((32:Int)*((lim a).length:Int)))=true) (aI (fun (h101:(iLt i ((32:Int)*((lim a).length:Int)))=true)=>have _gh101:=iLt_t h101;aI (r01_Bit a i oA oA) (aI (fun (h102:(a.testBit (i).toNat)=true)=>aI tT ((nx_ret ((r01_Zeros_0_ex a (Sum.inl i)).2) (Sum.inl i) (show i=(tz a:Int) from zer1_hit h1 h3 (by assumption)) rfl:r01_Zeros_0_N a i .ret ((r01_Zeros_0_ex a (Sum.inl i)).2)))) (fun (h103:(a.testBit (i).toNat)=false)=>aI (fits_i64 oA:(fits .i64 (i+1))=true) (aI tT ((nx_next (i+1) (show 0≤(i+1)∧(i+1)≤32*(L a:Int)∧a%2^((i+1)).toNat=0 from ⟨by omega,by omega,zer1_step h1 h3 (by simp_all)⟩) (show (32*(L a:Int)-(i+1)).toNat<(32*(L a:Int)-i).toNat by omega):r01_Zeros_0_N a i .normal (r01_Zeros_0_mk a (i+1)))))))) (fun (h104:(iLt i ((32:Int)*((lim a).length:Int)))=false)=>have _gh104:=iLt_f h104;aI tT ((nx_exit 0 ((r01_Zeros_0_ex a (Sum.inr i)).2) (Sum.inr i) (show i=i∧tz a=0 from ⟨rfl,zer1_end (by rw[show i.toNat=32*L a by omega] at h3;exact h3)⟩) rfl:r01_Zeros_0_N a i (.exit 0) ((r01_Zeros_0_ex a (Sum.inr i)).2))))))) (by kernel_rfl))
theorem r01_Zeros (a:Nat)(c0:L a≤67108864):Impl Tryz.prog Amb 105 [(N a)] (.int .i64 (tz a:Int)):=by
 have e0:=L_len a
 exact impl_ob hP hAmb Tryz.func105 (by kernel_rfl) (.loop2 ⟨[0,3],0,[]⟩ ((r01_Zeros_0_mk a (0:Int))) (Int) (Int) (r01_Zeros_0_ex a) (r01_Zeros_0_J a) (fun y=>.lit<|.ret) (fun y=>.lit<|.ret))
  (cast_ob (aI True.intro (aI tT (aI (rfl:(r01_Zeros_0_mk a (0:Int))=(r01_Zeros_0_mk a (0:Int))) (aI (r01_Zeros_0 a oO (0:Int) (show 0≤(0:Int)∧(0:Int)≤32*(L a:Int)∧a%2^((0:Int)).toNat=0 from ⟨by omega,by omega,by simp [Nat.mod_one]⟩)) (aI (fun (y:Int) (hJ:r01_Zeros_0_J a (.inl y))=>have hJ:y=(tz a:Int):=hJ;(vsub_of (congrArg (V.int .i64) hJ):vsub (.int .i64 y) (.int .i64 (tz a:Int)))) (fun (y:Int) (hJ:r01_Zeros_0_J a (.inr y))=>have hJ:y=y∧tz a=0:=hJ;(vsub_of (congrArg (V.int .i64) (by rw[hJ.2];rfl)):vsub (.int .i64 0) (.int .i64 (tz a:Int))))))))) (by kernel_rfl))

end Go.Proofs.YtkkbddkpggjgpaaGreatDoor

namespace Go.Proofs.YtkkbddkpggjgpaaGreatDoor
theorem L_sgn (b:Bool)(a:Nat):L (sgn b a).natAbs=L a:=by rw[sgn_abs]
theorem L_u64 {a:Nat}(h:a<18446744073709551616){k:Nat}(hk:2≤k:=by omega):L a≤k:=Nat.le_trans (L_le (k:=2) (by omega)) hk
theorem L_i64 {n:Int}(h:(-9223372036854775808:Int)≤n∧n≤9223372036854775807):L n.natAbs≤2:=L_le (by omega)
theorem of5_1 {n:Int}(h:n<0∧-9223372036854775808≤n):sgn (iLt n 0) (IntKind.wrap .u64 (0-IntKind.wrap .u64 n)).toNat=n:=by
 rw[show iLt n 0=true from iLt_mk h.1,wrap_u64,wrap_u64]
 unfold sgn;simp;omega
theorem of5_2 {n:Int}(h:0≤n∧n≤9223372036854775807):sgn (iLt n 0) (IntKind.wrap .u64 n).toNat=n:=by
 rw[show iLt n 0=false from iLt_mkF h.1,wrap_u64]
 unfold sgn;simp;omega
theorem L_abs_sub (x y:Int):L (x-y).natAbs≤max (L x.natAbs) (L y.natAbs)+1:=by
 have:=L_abs_add x (-y)
 rw[L_abs_neg] at this
 exact this
theorem cmpI_range (x y:Int):(cmpI x y=-1∧x<y)∨(cmpI x y=1∧y<x)∨(cmpI x y=0∧x=y):=by
 unfold cmpI
 split
 ·exact .inl ⟨rfl,by assumption⟩
 ·split
  ·exact .inr (.inl ⟨rfl,by assumption⟩)
  ·exact .inr (.inr ⟨rfl,by omega⟩)
theorem sign_sub (x y:Int):(x-y).sign=cmpI x y:=by
 rcases cmpI_range x y with ⟨h,h1⟩ | ⟨h,h1⟩ | ⟨h,h1⟩<;>rw[h]
 ·exact Int.sign_eq_neg_one_of_neg (by omega)
 ·exact Int.sign_eq_one_of_pos (by omega)
 ·rw[show x-y=0 by omega];rfl
theorem same5_1 {x y:Int}(h:x<0↔y<0):decide (x.natAbs=y.natAbs)=decide (x=y):=by
 by_cases hx:x=y
 ·subst hx;simp
 ·rw[decide_eq_false hx,decide_eq_false];omega
theorem same5_2 {x y:Int}(h:¬ (x<0↔y<0)):false=decide (x=y):=by
 rw[decide_eq_false];intro e;subst e;exact h Iff.rfl
theorem L_abs_shl (x:Int)(k:Nat):L (x*2^k).natAbs≤L x.natAbs+k / 32+1:=by
 rw[Int.natAbs_mul,Int.natAbs_pow];exact L_shl _ _
theorem natAbs_div_le (x:Int)(k:Nat):(x / 2^k).natAbs≤x.natAbs:=by
 rw[pow_cast]
 have hp:0<2^k:=Nat.pow_pos (by omega)
 rcases Int.lt_or_le x 0 with h | h
 ·have h1:x≤x / ((2^k:Nat):Int):=by
   rw[Int.le_ediv_iff_mul_le (by omega)]
   have:x*((2^k:Nat):Int)≤x*1:=Int.mul_le_mul_of_nonpos_left (by omega) (by omega)
   omega
  have h2:x / ((2^k:Nat):Int)<0:=Int.ediv_neg_of_neg_of_pos h (by omega)
  omega
 ·have h1:x / ((2^k:Nat):Int)≤x:=Int.ediv_le_self _ h
  have h2:0≤x / ((2^k:Nat):Int):=Int.ediv_nonneg h (by omega)
  omega
theorem L_abs_shr (x:Int)(k:Nat):L (x / 2^k).natAbs≤L x.natAbs:=L_mono (natAbs_div_le x k)
theorem fdiv_unique {x y q:Int}(hy:y≠0)(h:(0<y∧q*y≤x∧x<q*y+y)∨(y<0∧x≤q*y∧q*y+y<x)):Int.fdiv x y=q:=by
 rcases h with ⟨h0,h1,h2⟩ | ⟨h0,h1,h2⟩
 ·rw[Int.fdiv_eq_ediv_of_nonneg _ (by omega)]
  have a:=(Int.le_ediv_iff_mul_le h0).2 h1
  have b:x / y<q+1:=by
   rw[Int.ediv_lt_iff_lt_mul h0,Int.add_mul];omega
  omega
 ·rw[← Int.neg_fdiv_neg,Int.fdiv_eq_ediv_of_nonneg _ (by omega)]
  have e:q*-y=-(q*y):=Int.mul_neg ..
  have a:q≤-x / -y:=(Int.le_ediv_iff_mul_le (by omega)).2 (by rw[e];omega)
  have b:-x / -y<q+1:=by
   rw[Int.ediv_lt_iff_lt_mul (by omega),Int.add_mul,e];omega
  omega
theorem abs_div (x y:Int)(hy:y≠0):∃ q r:Int,0≤q∧0≤r∧(x.natAbs / y.natAbs:Nat)=q.toNat∧(x.natAbs%y.natAbs:Nat)=r.toNat∧r<y.natAbs∧(x.natAbs:Int)=q*y.natAbs+r:=by
 refine⟨((x.natAbs / y.natAbs:Nat):Int),((x.natAbs%y.natAbs:Nat):Int),Int.natCast_nonneg _,Int.natCast_nonneg _,(Int.toNat_natCast _).symm,(Int.toNat_natCast _).symm,?_,?_⟩
 ·have:=Nat.mod_lt x.natAbs (show 0<y.natAbs by omega);omega
 ·have:=Nat.div_add_mod x.natAbs y.natAbs
  rw[Nat.mul_comm] at this
  rw[← Int.natCast_mul,← Int.natCast_add,this]
theorem dm5_1 {x y:Int}(hy:y≠0)(hs:(!bEq (decide (x<0)) (decide (y<0)))=true)(hr:0<x.natAbs%y.natAbs):sgn (!bEq (decide (x<0)) (decide (y<0))) (x.natAbs / y.natAbs)-1=Int.fdiv x y:=by
 symm
 rw[hs,sgn_t]
 have hs:=bEq_f (notb_t hs)
 obtain⟨q,r,h0,h1,h2,h3,h4,h5⟩:=abs_div x y hy
 rw[h2,Int.toNat_of_nonneg h0]
 apply fdiv_unique hy
 rcases Int.lt_or_le y 0 with h | h
 ·refine .inr ⟨h,?_⟩
  have e:(y.natAbs:Int)=-y:=by omega
  rw[e] at h5 h4
  have e2:(x.natAbs:Int)=x:=by omega
  rw[Int.sub_mul,Int.neg_mul,Int.one_mul]
  rw[Int.mul_neg] at h5
  omega
 ·refine .inl ⟨by omega,?_⟩
  have e:(y.natAbs:Int)=y:=by omega
  rw[e] at h5 h4
  have e2:(x.natAbs:Int)=-x:=by omega
  rw[Int.sub_mul,Int.neg_mul,Int.one_mul]
  omega
theorem dm5_2 {x y:Int}(hy:y≠0)(hr:x.natAbs%y.natAbs=0):sgn (!bEq (decide (x<0)) (decide (y<0))) (x.natAbs / y.natAbs)=Int.fdiv x y:=by
 symm
 obtain⟨q,r,h0,h1,h2,h3,h4,h5⟩:=abs_div x y hy
 apply fdiv_unique hy
 have hr0:r=0:=by omega
 rw[h2]
 cases hb:bEq (decide (x<0)) (decide (y<0)) with
 | true =>
  have hs:=bEq_t hb
  simp only [Bool.not_true,sgn_f]
  rw[Int.toNat_of_nonneg h0]
  rcases Int.lt_or_le y 0 with h | h
  ·refine .inr ⟨h,?_⟩
   rw[show (y.natAbs:Int)=-y by omega,Int.mul_neg] at h5
   omega
  ·refine .inl ⟨by omega,?_⟩
   rw[show (y.natAbs:Int)=y by omega] at h5
   omega
 | false =>
  have hs:=bEq_f hb
  simp only [Bool.not_false,sgn_t]
  rw[Int.toNat_of_nonneg h0,Int.neg_mul]
  rcases Int.lt_or_le y 0 with h | h
  ·refine .inr ⟨h,?_⟩
   rw[show (y.natAbs:Int)=-y by omega,Int.mul_neg] at h5
   omega
  ·refine .inl ⟨by omega,?_⟩
   rw[show (y.natAbs:Int)=y by omega] at h5
   omega
theorem dm5_3 {x y:Int}(hy:y≠0)(hs:(!bEq (decide (x<0)) (decide (y<0)))=false):sgn (!bEq (decide (x<0)) (decide (y<0))) (x.natAbs / y.natAbs)=Int.fdiv x y:=by
 symm
 rw[hs,sgn_f]
 have hs:=bEq_t (notb_f hs)
 obtain⟨q,r,h0,h1,h2,h3,h4,h5⟩:=abs_div x y hy
 apply fdiv_unique hy
 rw[h2,Int.toNat_of_nonneg h0]
 rcases Int.lt_or_le y 0 with h | h
 ·refine .inr ⟨h,?_⟩
  rw[show (y.natAbs:Int)=-y by omega,Int.mul_neg] at h5
  rw[show (y.natAbs:Int)=-y by omega] at h4
  omega
 ·refine .inl ⟨by omega,?_⟩
  rw[show (y.natAbs:Int)=y by omega] at h5 h4
  omega
theorem L_fdiv (x y:Int):L (Int.fdiv x y).natAbs≤L x.natAbs+1:=by
 by_cases hy:y=0
 ·subst hy;rw[Int.fdiv_zero];simp [L_zero]
 ·have l0:=L_div x.natAbs y.natAbs
  have l1:=L_sgn (!bEq (decide (x<0)) (decide (y<0))) (x.natAbs / y.natAbs)
  have l2:=L_abs_sub (sgn (!bEq (decide (x<0)) (decide (y<0))) (x.natAbs / y.natAbs)) 1
  have l3:=L_le (n:=1) (k:=1) (by decide)
  by_cases hs:(!bEq (decide (x<0)) (decide (y<0)))=true
  ·by_cases hr:0<x.natAbs%y.natAbs
   ·rw[← dm5_1 hy hs hr]
    by_cases hx:L x.natAbs=0
    ·have:=(L_pos_iff x.natAbs)
     have hx0:x.natAbs=0:=by omega
     rw[hx0] at hr;simp at hr
    ·simp only [Int.natAbs_one] at l2;omega
   ·rw[← dm5_2 hy (by omega)];omega
  ·rw[← dm5_3 hy (by simpa using hs)];omega
theorem sgn_one {b:Bool}(h:b=true)(k:Nat):sgn b (k+1)=sgn b k-1:=by subst h;rw[sgn_t,sgn_t];omega
theorem rm5_1 {x y:Int}(hy:y≠0)(hs:(!bEq (decide (x<0)) (decide (y<0)))=true)(hr:0<x.natAbs%y.natAbs):sgn (decide (y<0)) (y.natAbs-x.natAbs%y.natAbs)=x-Int.fdiv x y*y:=by
 rw[← dm5_1 hy hs hr,hs,sgn_t]
 have hs:=bEq_f (notb_t hs)
 obtain⟨q,r,h0,h1,h2,h3,h4,h5⟩:=abs_div x y hy
 rw[h2,h3,Int.toNat_of_nonneg h0,Int.sub_mul,Int.neg_mul,Int.one_mul]
 rcases Int.lt_or_le y 0 with h | h
 ·rw[decide_eq_true h,sgn_t]
  rw[show (y.natAbs:Int)=-y by omega,Int.mul_neg] at h5
  omega
 ·rw[decide_eq_false (by omega),sgn_f]
  rw[show (y.natAbs:Int)=y by omega] at h5
  omega
theorem rm5_2 {x y:Int}(hy:y≠0)(hr:x.natAbs%y.natAbs=0):sgn (decide (y<0)) (x.natAbs%y.natAbs)=x-Int.fdiv x y*y:=by
 rw[← dm5_2 hy hr,hr]
 have e0:sgn (decide (y<0)) 0=0:=by unfold sgn;split<;>rfl
 rw[e0]
 have h:=Nat.div_add_mod x.natAbs y.natAbs
 rw[hr,Nat.add_zero] at h
 have h2:((x.natAbs / y.natAbs:Nat):Int)*y.natAbs=x.natAbs:=by rw[← Int.natCast_mul,Nat.mul_comm,h]
 generalize ((x.natAbs / y.natAbs:Nat))=q at *
 cases hb:bEq (decide (x<0)) (decide (y<0)) with
 | true =>
  have hs:=bEq_t hb
  simp only [Bool.not_true,sgn_f]
  rcases Int.lt_or_le y 0 with h | h
  ·rw[show (y.natAbs:Int)=-y by omega,Int.mul_neg] at h2;omega
  ·rw[show (y.natAbs:Int)=y by omega] at h2;omega
 | false =>
  have hs:=bEq_f hb
  simp only [Bool.not_false,sgn_t]
  rw[Int.neg_mul]
  rcases Int.lt_or_le y 0 with h | h
  ·rw[show (y.natAbs:Int)=-y by omega,Int.mul_neg] at h2;omega
  ·rw[show (y.natAbs:Int)=y by omega] at h2;omega
theorem rm5_3 {x y:Int}(hy:y≠0)(hs:(!bEq (decide (x<0)) (decide (y<0)))=false):sgn (decide (y<0)) (x.natAbs%y.natAbs)=x-Int.fdiv x y*y:=by
 rw[← dm5_3 hy hs,hs,sgn_f]
 have hs:=bEq_t (notb_f hs)
 obtain⟨q,r,h0,h1,h2,h3,h4,h5⟩:=abs_div x y hy
 rw[h2,h3,Int.toNat_of_nonneg h0]
 rcases Int.lt_or_le y 0 with h | h
 ·rw[decide_eq_true h,sgn_t]
  rw[show (y.natAbs:Int)=-y by omega,Int.mul_neg] at h5
  omega
 ·rw[decide_eq_false (by omega),sgn_f]
  rw[show (y.natAbs:Int)=y by omega] at h5
  omega
theorem L_rm (x y:Int):L (x-Int.fdiv x y*y).natAbs≤max (L x.natAbs) (L (Int.fdiv x y).natAbs+L y.natAbs)+1:=by
 have h1:=L_abs_sub x (Int.fdiv x y*y)
 have h2:=L_abs_mul (Int.fdiv x y) y
 omega
end Go.Proofs.YtkkbddkpggjgpaaGreatDoor

namespace Go.Proofs.YtkkbddkpggjgpaaGreatDoor
open Go.RowKit
set_option maxRecDepth 100000
theorem r05_Nat (b:Bool)(a:Nat)(c0:L a≤67108864):Impl Tryz.prog Amb 53 [(.bool b),(N a)] (zV (sgn b a)):=by
 have e0:=L_len a
 exact impl_ob hP hAmb Tryz.func53 (by kernel_rfl) (.lit<|.call (N a)<|.both (.lits 7<|.ret) (.lits 6<|.ret))
  (cast_ob (aI True.intro (aI (r01_TrimN a oA) (aI (fun (h1:b=true)=>(nat_ret1 h1 a:vsub (.agg [(.bool (iGt ((lim a).length:Int) 0)),(N a)]) (zV (sgn b a)))) (fun (h2:b=false)=>(nat_ret2 h2 a:vsub (.agg [(.bool false),(N a)]) (zV (sgn b a))))))) (by kernel_rfl))
theorem r05_NatC (b:Bool)(c:List V)(l:List Nat)(c0:c=U l)(c1:Dig l)(c2:l.length≤67108864):Impl Tryz.prog Amb 53 [.bool b,.sl 1 c] (Z (sgn b (val l))):=by
 subst c0
 have e1:=L_len (val l)
 have e0:=limbs_len_le c1
 exact impl_ob hP hAmb Tryz.func53 (by kernel_rfl) (.lit<|.call (N (val l))<|.both (.lits 7<|.ret) (.lits 6<|.ret))
  (cast_ob (aI True.intro (aI (r01_Trim l c1 oO) (aI (fun (h1:b=true)=>(nat_ret1 h1 (val l):vsub (.agg [(.bool (iGt ((lim (val l)).length:Int) 0)),(N (val l))]) (zV (sgn b (val l))))) (fun (h2:b=false)=>(nat_ret2 h2 (val l):vsub (.agg [(.bool false),(N (val l))]) (zV (sgn b (val l)))))))) (by kernel_rfl))
theorem r05_Of (n:Int)(c0:(-9223372036854775808:Int)≤n∧n≤9223372036854775807):Impl Tryz.prog Amb 45 [(.int .i64 n)] (zV n):=by
 have w0:=wrap_u64 n
 have w1:=wrap_u64 (0-IntKind.wrap .u64 n)
 have l0:=L_i64 c0
 exact impl_ob hP hAmb Tryz.func45 (by kernel_rfl) (.lit<|.no<|.lit<|.both (.lit<|.no<|.lits 2<|.call (N (((IntKind.wrap .u64 ((0:Int)-(IntKind.wrap .u64 n)))).toNat))<|.lit<|.call (zV (sgn (iLt n 0) (((IntKind.wrap .u64 ((0:Int)-(IntKind.wrap .u64 n)))).toNat)))<|.lits 2<|.ret) (.lits 2<|.call (N (((IntKind.wrap .u64 n)).toNat))<|.lit<|.call (zV (sgn (iLt n 0) (((IntKind.wrap .u64 n)).toNat)))<|.lits 2<|.ret))
  (cast_ob (aI True.intro (aI (fun (h1:(iLt n 0)=true)=>have _gh1:=iLt_t h1;aI (r01_Of (IntKind.wrap .u64 ((0:Int)-(IntKind.wrap .u64 n))) (by rw[wrap_u64];omega)) (aI (r05_Nat (iLt n 0) (((IntKind.wrap .u64 ((0:Int)-(IntKind.wrap .u64 n)))).toNat) (L_u64 oO)) (have f2:=L_sgn (iLt n 0) (((IntKind.wrap .u64 ((0:Int)-(IntKind.wrap .u64 n)))).toNat);(Z_of (of5_1 oO):vsub (zV (sgn (iLt n 0) (((IntKind.wrap .u64 ((0:Int)-(IntKind.wrap .u64 n)))).toNat))) (zV n))))) (fun (h3:(iLt n 0)=false)=>have _gh3:=iLt_f h3;aI (r01_Of (IntKind.wrap .u64 n) (by rw[wrap_u64];omega)) (aI (r05_Nat (iLt n 0) (((IntKind.wrap .u64 n)).toNat) (L_u64 oO)) (have f4:=L_sgn (iLt n 0) (((IntKind.wrap .u64 n)).toNat);(Z_of (of5_2 oO):vsub (zV (sgn (iLt n 0) (((IntKind.wrap .u64 n)).toNat))) (zV n))))))) (by kernel_rfl))
theorem r05_Sign (x:Int)(c0:L (x).natAbs≤67108864):Impl Tryz.prog Amb 125 [(zV x)] (.int .i64 ((x).sign)):=by
 have e0:=L_len x.natAbs
 have e1:=L_pos_iff x.natAbs
 exact impl_ob hP hAmb Tryz.func125 (by kernel_rfl) (.lits 2<|.both (.lit<|.ret) (.lit<|.both (.lit<|.ret) (.lit<|.ret)))
  (cast_ob (aI True.intro (aI (fun (h1:(iEq ((lim x.natAbs).length:Int) 0)=true)=>have _gh1:=iEq_t h1;(vsub_of (congrArg (V.int .i64) (by rw[show x=0 by omega];rfl)):vsub (.int .i64 0) (.int .i64 ((x).sign)))) (fun (h2:(iEq ((lim x.natAbs).length:Int) 0)=false)=>have _gh2:=iEq_f h2;aI (fun (h3:(decide (x<0))=true)=>have _gh3:=of_decide_eq_true h3;(vsub_of (congrArg (V.int .i64) (Int.sign_eq_neg_one_of_neg oO).symm):vsub (.int .i64 (-1)) (.int .i64 ((x).sign)))) (fun (h4:(decide (x<0))=false)=>have _gh4:=of_decide_eq_false h4;(vsub_of (congrArg (V.int .i64) (Int.sign_eq_one_of_pos oO).symm):vsub (.int .i64 1) (.int .i64 ((x).sign))))))) (by kernel_rfl))
theorem r05_Valid (x:Int)(c0:L (x).natAbs≤67108864):Impl Tryz.prog Amb 169 [(zV x)] (.bool true):=by
 have e0:=L_len x.natAbs
 have e1:=L_pos_iff x.natAbs
 exact impl_ob hP hAmb Tryz.func169 (by kernel_rfl) (.lits 2<|.call (.bool true)<|.lits 6<|.both (.lits 7<|.ret) (.lits 9<|.ret))
  (cast_ob (aI True.intro (aI (r01_Valid x.natAbs oA) (aI (fun (h1:(!(decide (x<0)))=true)=>have _gh1:=of_decide_eq_false (notb_t h1);(vsub_refl (.bool true))) (fun (h2:(!(decide (x<0)))=false)=>have _gh2:=of_decide_eq_true (notb_f h2);(vsub_of (congrArg V.bool (by first | rfl | (apply iGt_mk;omega) | (apply iGt_mk;rw[L_len];omega) | simp_all | (simp;omega))):vsub (.bool (iGt ((lim x.natAbs).length:Int) 0)) (.bool true)))))) (by kernel_rfl))
theorem r05_Neg (x:Int)(c0:L (x).natAbs≤67108864):Impl Tryz.prog Amb 117 [(zV x)] (zV (-x)):=by
 exact impl_ob hP hAmb Tryz.func117 (by kernel_rfl) (.lits 4<|.call (zV (sgn (!(decide (x<0))) x.natAbs))<|.lits 2<|.ret)
  (cast_ob (aI True.intro (aI (r05_Nat (!(decide (x<0))) x.natAbs oA) (have f1:=L_sgn (!(decide (x<0))) x.natAbs;(Z_of (by unfold sgn;by_cases h:x<0<;>simp [h]<;>omega):vsub (zV (sgn (!(decide (x<0))) x.natAbs)) (zV (-x)))))) (by kernel_rfl))
theorem r05_Add (x y:Int)(c0:L (x).natAbs≤50331648)(c1:L (y).natAbs≤50331648):Impl Tryz.prog Amb 109 [(zV x),(zV y)] (zV (x+y)):=by
 exact impl_ob hP hAmb Tryz.func109 (by kernel_rfl) (.lits 3<|.both (.lits 4<|.call (N (x.natAbs+y.natAbs))<|.lit<|.call (zV (sgn (decide (x<0)) (x.natAbs+y.natAbs)))<|.lits 2<|.ret) (.lits 3<|.call (.int .i64 (cmpN x.natAbs y.natAbs))<|.lit<|.both (.lits 4<|.call (N (y.natAbs-x.natAbs))<|.lit<|.call (zV (sgn (decide (y<0)) (y.natAbs-x.natAbs)))<|.lits 2<|.ret) (.lits 4<|.call (N (x.natAbs-y.natAbs))<|.lit<|.call (zV (sgn (decide (x<0)) (x.natAbs-y.natAbs)))<|.lits 2<|.ret)))
  (cast_ob (aI True.intro (aI (fun (h1:(bEq (decide (x<0)) (decide (y<0)))=true)=>have _gh1:=bEq_t h1;aI (r01_Add x.natAbs y.natAbs (by first | omega | (have:=cmpN_range x.natAbs y.natAbs;omega)) (by first | omega | (have:=cmpN_range x.natAbs y.natAbs;omega))) (have f3:=L_add x.natAbs y.natAbs;aI (r05_Nat (decide (x<0)) (x.natAbs+y.natAbs) (by first | omega | (have:=cmpN_range x.natAbs y.natAbs;omega))) (have f2:=L_sgn (decide (x<0)) (x.natAbs+y.natAbs);(Z_of (sgn_nat (fun h=>by omega) (fun h=>by omega)):vsub (zV (sgn (decide (x<0)) (x.natAbs+y.natAbs))) (zV (x+y)))))) (fun (h4:(bEq (decide (x<0)) (decide (y<0)))=false)=>have _gh4:=bEq_f h4;aI (r01_Cmp x.natAbs y.natAbs (by first | omega | (have:=cmpN_range x.natAbs y.natAbs;omega)) (by first | omega | (have:=cmpN_range x.natAbs y.natAbs;omega))) (have f11:=cmpN_range x.natAbs y.natAbs;aI (fun (h5:(iLt (cmpN x.natAbs y.natAbs) 0)=true)=>have _gh5:=iLt_t h5;aI (r01_Less y.natAbs x.natAbs (by first | omega | (have:=cmpN_range x.natAbs y.natAbs;omega)) (by first | omega | (have:=cmpN_range x.natAbs y.natAbs;omega)) (by first | omega | (have:=cmpN_range x.natAbs y.natAbs;omega))) (have f7:=L_sub y.natAbs x.natAbs;aI (r05_Nat (decide (y<0)) (y.natAbs-x.natAbs) (by first | omega | (have:=cmpN_range x.natAbs y.natAbs;omega))) (have f6:=L_sgn (decide (y<0)) (y.natAbs-x.natAbs);(Z_of (sgn_nat (fun h=>by omega) (fun h=>by omega)):vsub (zV (sgn (decide (y<0)) (y.natAbs-x.natAbs))) (zV (x+y)))))) (fun (h8:(iLt (cmpN x.natAbs y.natAbs) 0)=false)=>have _gh8:=iLt_f h8;aI (r01_Less x.natAbs y.natAbs (by first | omega | (have:=cmpN_range x.natAbs y.natAbs;omega)) (by first | omega | (have:=cmpN_range x.natAbs y.natAbs;omega)) (by first | omega | (have:=cmpN_range x.natAbs y.natAbs;omega))) (have f10:=L_sub x.natAbs y.natAbs;aI (r05_Nat (decide (x<0)) (x.natAbs-y.natAbs) (by first | omega | (have:=cmpN_range x.natAbs y.natAbs;omega))) (have f9:=L_sgn (decide (x<0)) (x.natAbs-y.natAbs);(Z_of (sgn_nat (fun h=>by omega) (fun h=>by omega)):vsub (zV (sgn (decide (x<0)) (x.natAbs-y.natAbs))) (zV (x+y)))))))))) (by kernel_rfl))
theorem r05_Sub (x y:Int)(c0:L (x).natAbs≤50331648)(c1:L (y).natAbs≤50331648):Impl Tryz.prog Amb 126 [(zV x),(zV y)] (zV (x-y)):=by
 exact impl_ob hP hAmb Tryz.func126 (by kernel_rfl) (.lits 3<|.call (zV (-y))<|.lit<|.call (zV (x+(-y)))<|.lits 2<|.ret)
  (cast_ob (aI True.intro (aI (r05_Neg y oA) (have f2:=L_abs_neg y;aI (r05_Add x (-y) oA oA) (have f1:=L_abs_add x (-y);(Z_of oO:vsub (zV (x+(-y))) (zV (x-y))))))) (by kernel_rfl))
theorem r05_Cmp (x y:Int)(c0:L (x).natAbs≤50331648)(c1:L (y).natAbs≤50331648):Impl Tryz.prog Amb 67 [(zV x),(zV y)] (.int .i64 (cmpI x y)):=by
 exact impl_ob hP hAmb Tryz.func67 (by kernel_rfl) (.lits 3<|.call (zV (x-y))<|.lit<|.call (.int .i64 (((x-y)).sign))<|.lit<|.ret)
  (cast_ob (aI True.intro (aI (r05_Sub x y oA oA) (have f1:=L_abs_sub x y;aI (r05_Sign (x-y) oA) ((vsub_of (congrArg (V.int .i64) (sign_sub x y)):vsub (.int .i64 (((x-y)).sign)) (.int .i64 (cmpI x y))))))) (by kernel_rfl))
theorem r05_Same (x y:Int)(c0:L (x).natAbs≤67108864)(c1:L (y).natAbs≤67108864):Impl Tryz.prog Amb 131 [(zV x),(zV y)] (.bool (decide (x=y))):=by
 exact impl_ob hP hAmb Tryz.func131 (by kernel_rfl) (.lits 3<|.both (.lits 7<|.call (.bool (decide (x.natAbs=y.natAbs)))<|.lits 2<|.ret) (.lits 6<|.ret))
  (cast_ob (aI True.intro (aI (fun (h1:(bEq (decide (x<0)) (decide (y<0)))=true)=>have _gh1:=bEq_t h1;aI (r01_Same x.natAbs y.natAbs oA oA) ((vsub_of (congrArg V.bool (same5_1 (bEq_t h1))):vsub (.bool (decide (x.natAbs=y.natAbs))) (.bool (decide (x=y)))))) (fun (h2:(bEq (decide (x<0)) (decide (y<0)))=false)=>have _gh2:=bEq_f h2;(vsub_of (congrArg V.bool (same5_2 (bEq_f h2))):vsub (.bool false) (.bool (decide (x=y))))))) (by kernel_rfl))
theorem r05_Shl (x n:Int)(c0:L (x).natAbs≤50331648)(c1:(0:Int)≤n∧n≤1048576):Impl Tryz.prog Amb 68 [(zV x),(.int .i64 n)] (zV (x*2^(n).toNat)):=by
 exact impl_ob hP hAmb Tryz.func68 (by kernel_rfl) (.lits 3<|.call (N (x.natAbs*2^(n).toNat))<|.lit<|.call (zV (sgn (decide (x<0)) (x.natAbs*2^(n).toNat)))<|.lits 2<|.ret)
  (cast_ob (aI True.intro (aI (r01_Shl x.natAbs n oA oA) (have f2:=L_shl x.natAbs (n).toNat;aI (r05_Nat (decide (x<0)) (x.natAbs*2^(n).toNat) oA) (have f1:=L_sgn (decide (x<0)) (x.natAbs*2^(n).toNat);(Z_of (sgn_shl x _):vsub (zV (sgn (decide (x<0)) (x.natAbs*2^(n).toNat))) (zV (x*2^(n).toNat))))))) (by kernel_rfl))
end Go.Proofs.YtkkbddkpggjgpaaGreatDoor

namespace Go.Proofs.YtkkbddkpggjgpaaGreatDoor
def vdb (m e:Int):Bool:=if m=0 then decide (e=0) else decide (nbits m.natAbs≤65536) && decide (-65536≤e) && decide (e≤65536) && m.natAbs.testBit 0
def dm (m:Int):Int:=sgn (decide (m<0)) (m.natAbs / 2^tz m.natAbs)
def de (m e:Int):Int:=e+(tz m.natAbs:Int)
def mkE (m e:Int):Int:=if e < -131072∨131072<e then 1 else if m=0 then 0 else if vdb (dm m) (de m e)=true then 0 else 3
def mkM (m e:Int):Int:=if mkE m e=0 then dm m else 0
def mkX (m e:Int):Int:=if mkE m e=0∧m≠0 then de m e else 0
def cmpD (m e n f:Int):Int:=cmpI (m*2^(e-iMin e f).toNat) (n*2^(f-iMin e f).toNat)
def topD (m e:Int):Int:=if m=0 then 0 else (nbits m.natAbs:Int)+e
theorem vdb_1 {m e:Int}(h:m=0):iEq e 0=vdb m e:=by unfold vdb iEq;rw[if_pos h];by_cases q:e=0<;>simp [q]
theorem vdb_2 {m e:Int}(h:m≠0∧nbits m.natAbs≤65536∧-65536≤e∧e≤65536):m.natAbs.testBit 0=vdb m e:=by
 unfold vdb;rw[if_neg h.1,decide_eq_true h.2.1,decide_eq_true h.2.2.1,decide_eq_true h.2.2.2];rfl
theorem vdb_3 {m e:Int}(h:m≠0)(k:65536<nbits m.natAbs∨e < -65536∨65536<e):false=vdb m e:=by
 unfold vdb;rw[if_neg h]
 rcases k with k | k | k
 ·rw[decide_eq_false (by omega)];rfl
 ·rw[show decide (-65536≤e)=false from decide_eq_false (by omega)];simp
 ·rw[show decide (e≤65536)=false from decide_eq_false (by omega)];simp
theorem vdb_iff {m e:Int}:vdb m e=true↔(m=0∧e=0)∨(m≠0∧nbits m.natAbs≤65536∧-65536≤e∧e≤65536∧m.natAbs%2=1):=by
 unfold vdb
 by_cases h:m=0
 ·rw[if_pos h];simp [h]
 ·rw[if_neg h]
  simp only [Bool.and_eq_true,decide_eq_true_eq,Nat.testBit_zero,h,false_and,false_or,ne_eq,not_false_eq_true,true_and]
  constructor
  ·rintro ⟨⟨⟨a,b⟩,c⟩,d⟩;exact⟨a,b,c,d⟩
  ·rintro ⟨a,b,c,d⟩;exact⟨⟨⟨a,b⟩,c⟩,d⟩
theorem iMin_range (a b:Int):iMin a b≤a∧iMin a b≤b∧(iMin a b=a∨iMin a b=b):=by
 unfold iMin;split<;>omega
theorem dm_zero:dm 0=0:=by simp [dm,sgn]
theorem tz_div {m:Int}(h:m≠0):2^tz m.natAbs ∣ m.natAbs:=Nat.dvd_of_mod_eq_zero (tz_spec (show m.natAbs≠0 by omega)).1
theorem dm_mul (m:Int):dm m*2^tz m.natAbs=m:=by
 by_cases h:m=0
 ·rw[h,dm_zero,Int.zero_mul]
 ·have hd:=Nat.div_mul_cancel (tz_div h)
  unfold dm sgn
  split<;>rename_i hs
  ·have hs:=of_decide_eq_true hs
   rw[Int.neg_mul,pow_cast,← Int.natCast_mul,hd];omega
  ·have hs:=of_decide_eq_false (show decide (m<0)=false by simpa using hs)
   rw[pow_cast,← Int.natCast_mul,hd];omega
theorem dm_abs (m:Int):(dm m).natAbs=m.natAbs / 2^tz m.natAbs:=sgn_abs _ _
theorem dm_ne {m:Int}(h:m≠0):dm m≠0:=fun e=>by have:=dm_mul m;rw[e,Int.zero_mul] at this;exact h this.symm
theorem dm_odd {m:Int}(h:m≠0):(dm m).natAbs%2=1:=by
 rw[dm_abs];exact (tz_spec (show m.natAbs≠0 by omega)).2
theorem L_dm (m:Int):L (dm m).natAbs≤L m.natAbs:=by rw[dm_abs];exact L_div _ _
theorem mk_facts (m e:Int):L (mkM m e).natAbs≤L m.natAbs∧-65536≤mkX m e∧mkX m e≤65536∧0≤mkE m e∧mkE m e≤3:=by
 have h0:0≤mkE m e∧mkE m e≤3:=by unfold mkE;repeat' split<;>omega
 refine⟨?_,?_,?_,h0.1,h0.2⟩
 ·unfold mkM;split
  ·exact L_dm m
  ·simp [L_zero]
 all_goals
  unfold mkX
  split
  ·rename_i h
   obtain⟨h1,h2⟩:=h
   unfold mkE at h1
   split at h1
   ·omega
   ·try rw[if_neg h2] at h1
    split at h1
    ·rename_i hv
     unfold vdb at hv
     rw[if_neg (dm_ne h2)] at hv
     simp only [Bool.and_eq_true,decide_eq_true_eq] at hv
     omega
    ·omega
  ·omega
theorem mk_r1 {m e:Int}(h:e < -131072∨131072<e):mkM m e=0∧mkX m e=0∧mkE m e=1:=by
 have h1:mkE m e=1:=by unfold mkE;rw[if_pos h]
 refine⟨?_,?_,h1⟩
 ·unfold mkM;rw[if_neg (by omega)]
 ·unfold mkX;rw[if_neg (by omega)]
theorem mk_r2 {m e:Int}(h:-131072≤e∧e≤131072)(hm:m=0):mkM m e=0∧mkX m e=0∧mkE m e=0:=by
 have h1:mkE m e=0:=by unfold mkE;rw[if_neg (by omega),if_pos hm]
 refine⟨?_,?_,h1⟩
 ·unfold mkM;rw[if_pos h1,hm,dm_zero]
 ·unfold mkX;rw[if_neg (fun q=>q.2 hm)]
theorem mk_r3 {m e:Int}(h:-131072≤e∧e≤131072)(hm:m≠0)(hv:vdb (dm m) (de m e)=false):mkM m e=0∧mkX m e=0∧mkE m e=3:=by
 have h1:mkE m e=3:=by unfold mkE;rw[if_neg (by omega),if_neg hm,if_neg (by rw[hv];simp)]
 refine⟨?_,?_,h1⟩
 ·unfold mkM;rw[if_neg (by omega)]
 ·unfold mkX;rw[if_neg (by omega)]
theorem mk_r4 {m e:Int}(h:-131072≤e∧e≤131072)(hm:m≠0)(hv:vdb (dm m) (de m e)=true):mkM m e=dm m∧mkX m e=de m e∧mkE m e=0:=by
 have h1:mkE m e=0:=by unfold mkE;rw[if_neg (by omega),if_neg hm,if_pos hv]
 refine⟨?_,?_,h1⟩
 ·unfold mkM;rw[if_pos h1]
 ·unfold mkX;rw[if_pos ⟨h1,hm⟩]
theorem Y_of {m n e f:Int}{c d:Int}(h:n=m∧f=e∧d=c):vsub (.tup [.agg [.bool (decide (m<0)),N m.natAbs,.int .i64 e],.int .i64 c]) (.tup [.agg [.bool (decide (n<0)),N n.natAbs,.int .i64 f],.int .i64 d]):=by
 obtain⟨rfl,rfl,rfl⟩:=h;exact vsub_refl _
theorem vsub_zero3:vsub (.agg [.bool false,.nil,.int .i64 0]) (.agg [.bool (decide ((0:Int)<0)),N (0:Int).natAbs,.int .i64 0]):=fun w S x hx=>by
 obtain⟨arr,rfl,hr⟩:=hx.agg_inv
 cases hr with | cons h1 hr=>cases hr with | cons h2 hr=>cases hr with | cons h3 hr=>cases hr with | nil =>
  refine .agg (.cons (by simpa using h1) (.cons ?_ (.cons h3 .nil)))
  have:N (0:Int).natAbs=.sl 1 []:=by simp [N,lim,limbs_zero,U]
  rw[this]
  cases h2
  exact .nilsl
theorem vsub_zero2:vsub (.agg [.bool false,.nil]) (Z 0):=fun w S x hx=>by
 obtain⟨arr,rfl,hr⟩:=hx.agg_inv
 cases hr with | cons h1 hr=>cases hr with | cons h2 hr=>cases hr with | nil =>
  refine .agg (.cons (by simpa using h1) (.cons ?_ .nil))
  have:N (0:Int).natAbs=.sl 1 []:=by simp [N,lim,limbs_zero,U]
  rw[this]
  cases h2
  exact .nilsl
theorem Y_zero {m e c d:Int}(h:m=0∧e=0∧d=c):vsub (.tup [.agg [.bool false,.nil,.int .i64 0],.int .i64 c]) (.tup [.agg [.bool (decide (m<0)),N m.natAbs,.int .i64 e],.int .i64 d]):=by
 obtain⟨rfl,rfl,rfl⟩:=h;exact vsub_tup2 vsub_zero3 (vsub_refl _)
theorem two_pos (k:Nat):0<(2:Int)^k:=by rw[pow_cast];have:=Nat.pow_pos (n:=k) (show 0<2 by omega);omega
theorem sign_range (m:Int):(m.sign=-1∧m<0)∨(m.sign=1∧0<m)∨(m.sign=0∧m=0):=by
 rcases Int.lt_trichotomy m 0 with h | h | h
 ·exact .inl ⟨Int.sign_eq_neg_one_of_neg h,h⟩
 ·exact .inr (.inr ⟨by rw[h];rfl,h⟩)
 ·exact .inr (.inl ⟨Int.sign_eq_one_of_pos h,h⟩)
theorem topD_range (m e:Int):(m=0∧topD m e=0)∨(m≠0∧e<topD m e∧topD m e≤32*(L m.natAbs:Int)+e):=by
 unfold topD
 by_cases h:m=0
 ·exact .inl ⟨h,if_pos h⟩
 ·have h1:=nbits_pos (show m.natAbs≠0 by omega)
  have h2:=nbits_L m.natAbs
  rw[if_neg h]
  exact .inr ⟨h,by omega,by omega⟩
theorem al_facts (m n e f:Int)(he:-200000≤e∧e≤200000)(hf:-200000≤f∧f≤200000):L (m*2^(e-iMin e f).toNat).natAbs≤L m.natAbs+12501∧L (n*2^(f-iMin e f).toNat).natAbs≤L n.natAbs+12501∧iMin e f≤e∧iMin e f≤f∧(iMin e f=e∨iMin e f=f):=by
 have h1:=L_abs_shl m (e-iMin e f).toNat
 have h2:=L_abs_shl n (f-iMin e f).toNat
 have h3:=iMin_range e f
 omega
theorem cmpD_range (m e n f:Int):cmpD m e n f=-1∨cmpD m e n f=1∨cmpD m e n f=0:=by
 unfold cmpD
 have:=cmpI_range (m*2^(e-iMin e f).toNat) (n*2^(f-iMin e f).toNat)
 omega
theorem cmpI_lt {x y:Int}(h:x<y):cmpI x y=-1:=if_pos h
theorem cmpI_gt {x y:Int}(h:y<x):cmpI x y=1:=by unfold cmpI;rw[if_neg (by omega),if_pos h]
theorem cmpI_eq {x y:Int}(h:x=y):cmpI x y=0:=by unfold cmpI;rw[if_neg (by omega),if_neg (by omega)]
theorem mul_pos2 {m:Int}(k:Nat)(h:0<m):0<m*2^k:=Int.mul_pos h (two_pos k)
theorem mul_neg2 {m:Int}(k:Nat)(h:m<0):m*2^k<0:=Int.mul_neg_of_neg_of_pos h (two_pos k)
theorem dcmp_lt {m e n f:Int}(h:m.sign<n.sign):-1=cmpD m e n f:=by
 symm
 apply cmpI_lt
 rcases sign_range m with ⟨a,b⟩ | ⟨a,b⟩ | ⟨a,b⟩<;>rcases sign_range n with ⟨c,d⟩ | ⟨c,d⟩ | ⟨c,d⟩<;>try omega
 ·have:=mul_neg2 (e-iMin e f).toNat b;have:=mul_pos2 (f-iMin e f).toNat d;omega
 ·have:=mul_neg2 (e-iMin e f).toNat b;rw[d];omega
 ·have:=mul_pos2 (f-iMin e f).toNat d;rw[b];omega
theorem cmpI_swap (x y:Int):cmpI x y=- cmpI y x:=by
 rcases cmpI_range x y with ⟨h,k⟩ | ⟨h,k⟩ | ⟨h,k⟩
 ·rw[h,cmpI_gt k]
 ·rw[h,cmpI_lt k];rfl
 ·rw[h,cmpI_eq k.symm];rfl
theorem iMin_comm (a b:Int):iMin a b=iMin b a:=by have:=iMin_range a b;have:=iMin_range b a;omega
theorem cmpD_swap (m e n f:Int):cmpD m e n f=- cmpD n f m e:=by unfold cmpD;rw[iMin_comm f e,cmpI_swap]
theorem dcmp_gt {m e n f:Int}(h:n.sign<m.sign):1=cmpD m e n f:=by
 rw[cmpD_swap,← dcmp_lt h];rfl
theorem dcmp_zero {m e n f:Int}(h:m=0)(k:n=0):0=cmpD m e n f:=by
 symm;apply cmpI_eq;rw[h,k];simp
theorem top_lt {m e n f:Int}(hm:m≠0)(hn:n≠0)(h:topD m e<topD n f):(m.natAbs:Int)*2^(e-iMin e f).toNat<(n.natAbs:Int)*2^(f-iMin e f).toNat:=by
 unfold topD at h
 rw[if_neg hm,if_neg hn] at h
 have hr:=iMin_range e f
 have h1:=nbits_lt m.natAbs
 have h2:=nbits_le (show n.natAbs≠0 by omega)
 have h3:=nbits_pos (show n.natAbs≠0 by omega)
 generalize iMin e f=c at *
 rw[pow_cast,pow_cast,← Int.natCast_mul,← Int.natCast_mul]
 apply Int.ofNat_lt.2
 have a1:m.natAbs*2^(e-c).toNat<2^(nbits m.natAbs+(e-c).toNat):=by
  rw[Nat.pow_add];exact (Nat.mul_lt_mul_right (Nat.pow_pos (by omega))).2 h1
 have a2:2^(nbits n.natAbs-1+(f-c).toNat)≤n.natAbs*2^(f-c).toNat:=by
  rw[Nat.pow_add];exact Nat.mul_le_mul_right _ h2
 have a3:2^(nbits m.natAbs+(e-c).toNat)≤2^(nbits n.natAbs-1+(f-c).toNat):=Nat.pow_le_pow_right (by omega) (by omega)
 omega
theorem dcmp_t1 {m e n f:Int}(hs:m.sign=n.sign)(hm:m.sign≠0)(h:topD m e<topD n f):(0:Int)-m.sign=cmpD m e n f:=by
 rcases sign_range m with ⟨a,b⟩ | ⟨a,b⟩ | ⟨a,b⟩<;>rcases sign_range n with ⟨c,d⟩ | ⟨c,d⟩ | ⟨c,d⟩<;>try omega
 ·have:=top_lt (show m≠0 by omega) (show n≠0 by omega) h
  rw[show (m.natAbs:Int)=-m by omega,show (n.natAbs:Int)=-n by omega,Int.neg_mul,Int.neg_mul] at this
  unfold cmpD
  rw[a,cmpI_gt (by omega)];rfl
 ·have:=top_lt (show m≠0 by omega) (show n≠0 by omega) h
  rw[show (m.natAbs:Int)=m by omega,show (n.natAbs:Int)=n by omega] at this
  unfold cmpD
  rw[a,cmpI_lt (by omega)];rfl
theorem dcmp_t2 {m e n f:Int}(hs:m.sign=n.sign)(hm:m.sign≠0)(h:topD n f<topD m e):m.sign=cmpD m e n f:=by
 have:=dcmp_t1 hs.symm (by omega) h
 rw[cmpD_swap,← this];omega
theorem mk_no {m e:Int}(h:mkE m e≠0):mkM m e=0∧mkX m e=0:=by
 unfold mkM mkX;rw[if_neg h,if_neg (fun q=>h q.1)];exact⟨rfl,rfl⟩
abbrev e0T (c:Int):V:=.tup [.agg [.bool false,.nil,.int .i64 0,.bool false,.nil,.int .i64 0],.int .i64 c]
abbrev mkT (m e:Int):V:=.tup [.agg [.bool (decide (mkM m e<0)),N (mkM m e).natAbs,.int .i64 (mkX m e)],.int .i64 (mkE m e)]
end Go.Proofs.YtkkbddkpggjgpaaGreatDoor

namespace Go.Proofs.YtkkbddkpggjgpaaGreatDoor
open Go.RowKit
set_option maxRecDepth 100000
theorem dy_Valid (m e:Int)(c0:L (m).natAbs≤16777216):Impl Tryz.prog Amb 135 [(yV m e)] (.bool (vdb m e)):=by
 have e0:=L_len m.natAbs
 have e1:=L_pos_iff m.natAbs
 exact impl_ob hP hAmb Tryz.func135 (by kernel_rfl) (.lits 2<|.call (.bool true)<|.lits 4<|.both (.lits 3<|.ret) (.lits 2<|.call (.int .i64 (nbits m.natAbs:Int))<|.lit<|.both (.lits 5<|.both (.lits 5<|.both (.lits 5<|.call (.bool (m.natAbs.testBit 0))<|.lits 2<|.ret) (.lits 5<|.ret)) (.lits 9<|.ret)) (.lits 13<|.ret)))
  (cast_ob (aI True.intro (aI (int_Valid m oA) (aI (fun (h1:(iEq ((lim m.natAbs).length:Int) 0)=true)=>have _gh1:=iEq_t h1;(vsub_of (congrArg V.bool (vdb_1 oO)):vsub (.bool (iEq e 0)) (.bool (vdb m e)))) (fun (h2:(iEq ((lim m.natAbs).length:Int) 0)=false)=>have _gh2:=iEq_f h2;aI (nat_Bits m.natAbs oA) (have f9:=nbits_L m.natAbs;aI (fun (h3:(iLe (nbits m.natAbs:Int) 65536)=true)=>have _gh3:=iLe_t h3;aI (fun (h4:(iGe e (-65536))=true)=>have _gh4:=iGe_t h4;aI (fun (h5:(iLe e 65536)=true)=>have _gh5:=iLe_t h5;aI (nat_Bit m.natAbs 0 oA oA) ((vsub_of (congrArg V.bool (vdb_2 oO)):vsub (.bool (m.natAbs.testBit 0)) (.bool (vdb m e))))) (fun (h6:(iLe e 65536)=false)=>have _gh6:=iLe_f h6;(vsub_of (congrArg V.bool (vdb_3 oO oO)):vsub (.bool false) (.bool (vdb m e))))) (fun (h7:(iGe e (-65536))=false)=>have _gh7:=iGe_f h7;(vsub_of (congrArg V.bool (vdb_3 oO oO)):vsub (.bool false) (.bool (vdb m e))))) (fun (h8:(iLe (nbits m.natAbs:Int) 65536)=false)=>have _gh8:=iLe_f h8;(vsub_of (congrArg V.bool (vdb_3 oO oO)):vsub (.bool false) (.bool (vdb m e))))))))) (by kernel_rfl))
theorem dy_Make (m e:Int)(c0:L (m).natAbs≤32768)(c1:(-9000000000000000000:Int)≤e∧e≤9000000000000000000):Impl Tryz.prog Amb 74 [(zV m),(.int .i64 e)] (.tup [(yV (mkM m e) (mkX m e)),(.int .i64 (mkE m e))]):=by
 have e0:=L_len m.natAbs
 have e1:=L_pos_iff m.natAbs
 have e3:=Int.sign_eq_zero_iff_zero (a:=m)
 have e4:=tz_L m.natAbs
 exact impl_ob hP hAmb Tryz.func74 (by kernel_rfl) (.lit<|.both (.lits 6<|.ret) (.lits 3<|.both (.lits 3<|.ret) (.lits 2<|.call (.int .i64 ((m).sign))<|.lit<|.both (.lits 3<|.ret) (.lits 2<|.call (.int .i64 (tz m.natAbs:Int))<|.lits 3<|.call (N (m.natAbs / 2^((tz m.natAbs:Int)).toNat))<|.lit<|.call (zV (sgn (decide (m<0)) (m.natAbs / 2^((tz m.natAbs:Int)).toNat)))<|.lit<|.yes<|.lits 3<|.call (.bool (vdb (sgn (decide (m<0)) (m.natAbs / 2^((tz m.natAbs:Int)).toNat)) (e+(tz m.natAbs:Int))))<|.lit<|.both (.lits 3<|.ret) (.lits 3<|.ret)))))
  (cast_ob (aI True.intro (aI (fun (h1:(iLt e (-131072))=true)=>have _gh1:=iLt_t h1;(Y_zero (mk_r1 oO):vsub (.tup [(.agg [(.bool false),.nil,(.int .i64 0)]),(.int .i64 1)]) (.tup [(yV (mkM m e) (mkX m e)),(.int .i64 (mkE m e))]))) (fun (h2:(iLt e (-131072))=false)=>have _gh2:=iLt_f h2;aI (fun (h3:(iGt e 131072)=true)=>have _gh3:=iGt_t h3;(Y_zero (mk_r1 oO):vsub (.tup [(.agg [(.bool false),.nil,(.int .i64 0)]),(.int .i64 1)]) (.tup [(yV (mkM m e) (mkX m e)),(.int .i64 (mkE m e))]))) (fun (h4:(iGt e 131072)=false)=>have _gh4:=iGt_f h4;aI (int_Sign m oA) (aI (fun (h5:(iEq ((m).sign) 0)=true)=>have _gh5:=iEq_t h5;(Y_zero (mk_r2 oO oO):vsub (.tup [(.agg [(.bool false),.nil,(.int .i64 0)]),(.int .i64 0)]) (.tup [(yV (mkM m e) (mkX m e)),(.int .i64 (mkE m e))]))) (fun (h6:(iEq ((m).sign) 0)=false)=>have _gh6:=iEq_f h6;aI (nat_Zeros m.natAbs oA) (have f11:=tz_L m.natAbs;aI (nat_Shr m.natAbs (tz m.natAbs:Int) oA oA) (have f10:=L_div m.natAbs (2^((tz m.natAbs:Int)).toNat);aI (int_Nat (decide (m<0)) (m.natAbs / 2^((tz m.natAbs:Int)).toNat) oA) (have f9:=L_sgn (decide (m<0)) (m.natAbs / 2^((tz m.natAbs:Int)).toNat);aI (fits_i64 oA:(fits .i64 (e+(tz m.natAbs:Int)))=true) (aI (dy_Valid (sgn (decide (m<0)) (m.natAbs / 2^((tz m.natAbs:Int)).toNat)) (e+(tz m.natAbs:Int)) oA) (aI (fun (h7:(!(vdb (sgn (decide (m<0)) (m.natAbs / 2^((tz m.natAbs:Int)).toNat)) (e+(tz m.natAbs:Int))))=true)=>(Y_zero (mk_r3 oO oO (notb_t (by assumption))):vsub (.tup [(.agg [(.bool false),.nil,(.int .i64 0)]),(.int .i64 3)]) (.tup [(yV (mkM m e) (mkX m e)),(.int .i64 (mkE m e))]))) (fun (h8:(!(vdb (sgn (decide (m<0)) (m.natAbs / 2^((tz m.natAbs:Int)).toNat)) (e+(tz m.natAbs:Int))))=false)=>(Y_of (mk_r4 oO oO (notb_f (by assumption))):vsub (.tup [(yV (sgn (decide (m<0)) (m.natAbs / 2^((tz m.natAbs:Int)).toNat)) (e+(tz m.natAbs:Int))),(.int .i64 0)]) (.tup [(yV (mkM m e) (mkX m e)),(.int .i64 (mkE m e))])))))))))))))) (by kernel_rfl))
theorem dy_Sign (m e:Int)(c0:L (m).natAbs≤16777216):Impl Tryz.prog Amb 73 [(yV m e)] (.int .i64 ((m).sign)):=by
 exact impl_ob hP hAmb Tryz.func73 (by kernel_rfl) (.lits 2<|.call (.int .i64 ((m).sign))<|.lit<|.ret)
  (cast_ob (aI True.intro (aI (int_Sign m oA) ((vsub_refl (.int .i64 ((m).sign)))))) (by kernel_rfl))
theorem dy_Neg (m e:Int)(c0:L (m).natAbs≤16777216):Impl Tryz.prog Amb 93 [(yV m e)] (yV (-m) e):=by
 exact impl_ob hP hAmb Tryz.func93 (by kernel_rfl) (.lits 2<|.call (zV (-m))<|.lits 4<|.ret)
  (cast_ob (aI True.intro (aI (int_Neg m oA) (have f1:=L_abs_neg m;(vsub_refl (yV (-m) e))))) (by kernel_rfl))
theorem dy_Top (m e:Int)(c0:L (m).natAbs≤16777216)(c1:(-200000:Int)≤e∧e≤200000):Impl Tryz.prog Amb 128 [(yV m e)] (.int .i64 (topD m e)):=by
 have e0:=L_len m.natAbs
 have e1:=L_pos_iff m.natAbs
 have e2:=nbits_L m.natAbs
 have e3:=Int.sign_eq_zero_iff_zero (a:=m)
 exact impl_ob hP hAmb Tryz.func128 (by kernel_rfl) (.lits 2<|.call (.int .i64 ((m).sign))<|.lit<|.both (.lit<|.ret) (.lits 2<|.call (.int .i64 (nbits m.natAbs:Int))<|.lits 2<|.yes<|.lit<|.ret))
  (cast_ob (aI True.intro (aI (dy_Sign m e oA) (have f4:=sign_range m;aI (fun (h1:(iEq ((m).sign) 0)=true)=>have _gh1:=iEq_t h1;(vsub_of (congrArg (V.int .i64) (by unfold topD;first | (rw[if_pos (show m=0 by omega)];done) | (rw[if_neg (show m≠0 by omega)]))):vsub (.int .i64 0) (.int .i64 (topD m e)))) (fun (h2:(iEq ((m).sign) 0)=false)=>have _gh2:=iEq_f h2;aI (nat_Bits m.natAbs oA) (have f3:=nbits_L m.natAbs;aI (fits_i64 oA:(fits .i64 ((nbits m.natAbs:Int)+e))=true) ((vsub_of (congrArg (V.int .i64) (by unfold topD;first | (rw[if_pos (show m=0 by omega)];done) | (rw[if_neg (show m≠0 by omega)]))):vsub (.int .i64 ((nbits m.natAbs:Int)+e)) (.int .i64 (topD m e))))))))) (by kernel_rfl))
theorem r08_Valid (m e:Int)(c0:L (m).natAbs≤16777216):Impl Tryz.prog Amb 107 [(yV m e)] (.bool (vdb m e)):=by
 have e0:=L_len m.natAbs
 have e1:=L_pos_iff m.natAbs
 exact impl_ob hP hAmb Tryz.func107 (by kernel_rfl) (.lits 2<|.call (.bool true)<|.lits 4<|.both (.lits 3<|.ret) (.lits 2<|.call (.int .i64 (nbits m.natAbs:Int))<|.lit<|.both (.lits 5<|.both (.lits 5<|.both (.lits 5<|.call (.bool (m.natAbs.testBit 0))<|.lits 2<|.ret) (.lits 5<|.ret)) (.lits 9<|.ret)) (.lits 13<|.ret)))
  (cast_ob (aI True.intro (aI (r05_Valid m oA) (aI (fun (h1:(iEq ((lim m.natAbs).length:Int) 0)=true)=>have _gh1:=iEq_t h1;(vsub_of (congrArg V.bool (vdb_1 oO)):vsub (.bool (iEq e 0)) (.bool (vdb m e)))) (fun (h2:(iEq ((lim m.natAbs).length:Int) 0)=false)=>have _gh2:=iEq_f h2;aI (r01_Bits m.natAbs oA) (have f9:=nbits_L m.natAbs;aI (fun (h3:(iLe (nbits m.natAbs:Int) 65536)=true)=>have _gh3:=iLe_t h3;aI (fun (h4:(iGe e (-65536))=true)=>have _gh4:=iGe_t h4;aI (fun (h5:(iLe e 65536)=true)=>have _gh5:=iLe_t h5;aI (r01_Bit m.natAbs 0 oA oA) ((vsub_of (congrArg V.bool (vdb_2 oO)):vsub (.bool (m.natAbs.testBit 0)) (.bool (vdb m e))))) (fun (h6:(iLe e 65536)=false)=>have _gh6:=iLe_f h6;(vsub_of (congrArg V.bool (vdb_3 oO oO)):vsub (.bool false) (.bool (vdb m e))))) (fun (h7:(iGe e (-65536))=false)=>have _gh7:=iGe_f h7;(vsub_of (congrArg V.bool (vdb_3 oO oO)):vsub (.bool false) (.bool (vdb m e))))) (fun (h8:(iLe (nbits m.natAbs:Int) 65536)=false)=>have _gh8:=iLe_f h8;(vsub_of (congrArg V.bool (vdb_3 oO oO)):vsub (.bool false) (.bool (vdb m e))))))))) (by kernel_rfl))
theorem r08_Make (m e:Int)(c0:L (m).natAbs≤32768)(c1:(-9000000000000000000:Int)≤e∧e≤9000000000000000000):Impl Tryz.prog Amb 44 [(zV m),(.int .i64 e)] (.tup [(yV (mkM m e) (mkX m e)),(.int .i64 (mkE m e))]):=by
 have e0:=L_len m.natAbs
 have e1:=L_pos_iff m.natAbs
 have e3:=Int.sign_eq_zero_iff_zero (a:=m)
 have e4:=tz_L m.natAbs
 exact impl_ob hP hAmb Tryz.func44 (by kernel_rfl) (.lit<|.both (.lits 6<|.ret) (.lits 3<|.both (.lits 3<|.ret) (.lits 2<|.both (.lits 3<|.ret) (.lits 2<|.call (.int .i64 (tz m.natAbs:Int))<|.lits 3<|.call (N (m.natAbs / 2^((tz m.natAbs:Int)).toNat))<|.lit<|.call (zV (sgn (decide (m<0)) (m.natAbs / 2^((tz m.natAbs:Int)).toNat)))<|.lit<|.yes<|.lits 3<|.call (.bool (vdb (sgn (decide (m<0)) (m.natAbs / 2^((tz m.natAbs:Int)).toNat)) (e+(tz m.natAbs:Int))))<|.lit<|.both (.lits 3<|.ret) (.lits 3<|.ret)))))
  (cast_ob (aI True.intro (aI (fun (h1:(iLt e (-131072))=true)=>have _gh1:=iLt_t h1;(Y_zero (mk_r1 oO):vsub (.tup [(.agg [(.bool false),.nil,(.int .i64 0)]),(.int .i64 1)]) (.tup [(yV (mkM m e) (mkX m e)),(.int .i64 (mkE m e))]))) (fun (h2:(iLt e (-131072))=false)=>have _gh2:=iLt_f h2;aI (fun (h3:(iGt e 131072)=true)=>have _gh3:=iGt_t h3;(Y_zero (mk_r1 oO):vsub (.tup [(.agg [(.bool false),.nil,(.int .i64 0)]),(.int .i64 1)]) (.tup [(yV (mkM m e) (mkX m e)),(.int .i64 (mkE m e))]))) (fun (h4:(iGt e 131072)=false)=>have _gh4:=iGt_f h4;aI (fun (h5:(iEq ((lim m.natAbs).length:Int) 0)=true)=>have _gh5:=iEq_t h5;(Y_zero (mk_r2 oO oO):vsub (.tup [(.agg [(.bool false),.nil,(.int .i64 0)]),(.int .i64 0)]) (.tup [(yV (mkM m e) (mkX m e)),(.int .i64 (mkE m e))]))) (fun (h6:(iEq ((lim m.natAbs).length:Int) 0)=false)=>have _gh6:=iEq_f h6;aI (r01_Zeros m.natAbs oA) (have f11:=tz_L m.natAbs;aI (r01_Shr m.natAbs (tz m.natAbs:Int) oA oA) (have f10:=L_div m.natAbs (2^((tz m.natAbs:Int)).toNat);aI (r05_Nat (decide (m<0)) (m.natAbs / 2^((tz m.natAbs:Int)).toNat) oA) (have f9:=L_sgn (decide (m<0)) (m.natAbs / 2^((tz m.natAbs:Int)).toNat);aI (fits_i64 oA:(fits .i64 (e+(tz m.natAbs:Int)))=true) (aI (r08_Valid (sgn (decide (m<0)) (m.natAbs / 2^((tz m.natAbs:Int)).toNat)) (e+(tz m.natAbs:Int)) oA) (aI (fun (h7:(!(vdb (sgn (decide (m<0)) (m.natAbs / 2^((tz m.natAbs:Int)).toNat)) (e+(tz m.natAbs:Int))))=true)=>(Y_zero (mk_r3 oO oO (notb_t (by assumption))):vsub (.tup [(.agg [(.bool false),.nil,(.int .i64 0)]),(.int .i64 3)]) (.tup [(yV (mkM m e) (mkX m e)),(.int .i64 (mkE m e))]))) (fun (h8:(!(vdb (sgn (decide (m<0)) (m.natAbs / 2^((tz m.natAbs:Int)).toNat)) (e+(tz m.natAbs:Int))))=false)=>(Y_of (mk_r4 oO oO (notb_f (by assumption))):vsub (.tup [(yV (sgn (decide (m<0)) (m.natAbs / 2^((tz m.natAbs:Int)).toNat)) (e+(tz m.natAbs:Int))),(.int .i64 0)]) (.tup [(yV (mkM m e) (mkX m e)),(.int .i64 (mkE m e))]))))))))))))) (by kernel_rfl))
theorem r08_Sign (m e:Int)(c0:L (m).natAbs≤16777216):Impl Tryz.prog Amb 72 [(yV m e)] (.int .i64 ((m).sign)):=by
 exact impl_ob hP hAmb Tryz.func72 (by kernel_rfl) (.lits 2<|.call (.int .i64 ((m).sign))<|.lit<|.ret)
  (cast_ob (aI True.intro (aI (r05_Sign m oA) ((vsub_refl (.int .i64 ((m).sign)))))) (by kernel_rfl))
theorem r08_Neg (m e:Int)(c0:L (m).natAbs≤16777216):Impl Tryz.prog Amb 71 [(yV m e)] (yV (-m) e):=by
 exact impl_ob hP hAmb Tryz.func71 (by kernel_rfl) (.lits 2<|.call (zV (-m))<|.lits 4<|.ret)
  (cast_ob (aI True.intro (aI (r05_Neg m oA) (have f1:=L_abs_neg m;(vsub_refl (yV (-m) e))))) (by kernel_rfl))
theorem dy_align (m e n f:Int)(c0:L (m).natAbs≤8192)(c1:L (n).natAbs≤8192)(c2:(-200000:Int)≤e∧e≤200000)(c3:(-200000:Int)≤f∧f≤200000):Impl Tryz.prog Amb 161 [(yV m e),(yV n f)] (.tup [(zV (m*2^(e-(iMin e f)).toNat)),(zV (n*2^(f-(iMin e f)).toNat)),(.int .i64 (iMin e f))]):=by
 have m0:=iMin_range e f
 exact impl_ob hP hAmb Tryz.func161 (by kernel_rfl) (.lits 6<|.yes<|.lit<|.call (zV (m*2^((e-(iMin e f))).toNat))<|.lits 3<|.yes<|.lit<|.call (zV (n*2^((f-(iMin e f))).toNat))<|.lits 3<|.ret)
  (cast_ob (aI True.intro (aI (fits_i64 oA:(fits .i64 (e-(iMin e f)))=true) (aI (int_Shl m (e-(iMin e f)) oA oA) (have f2:=L_abs_shl m ((e-(iMin e f))).toNat;aI (fits_i64 oA:(fits .i64 (f-(iMin e f)))=true) (aI (int_Shl n (f-(iMin e f)) oA oA) (have f1:=L_abs_shl n ((f-(iMin e f))).toNat;(vsub_of (by first | rfl | simp_all):vsub (.tup [(zV (m*2^((e-(iMin e f))).toNat)),(zV (n*2^((f-(iMin e f))).toNat)),(.int .i64 (iMin e f))]) (.tup [(zV (m*2^(e-(iMin e f)).toNat)),(zV (n*2^(f-(iMin e f)).toNat)),(.int .i64 (iMin e f))])))))))) (by kernel_rfl))
theorem dy_Cmp (m e n f:Int)(c0:L (m).natAbs≤8192)(c1:L (n).natAbs≤8192)(c2:(-200000:Int)≤e∧e≤200000)(c3:(-200000:Int)≤f∧f≤200000):Impl Tryz.prog Amb 96 [(yV m e),(yV n f)] (.int .i64 (cmpD m e n f)):=by
 have s0:=sign_range m
 have s1:=sign_range n
 have t0:=topD_range m e
 have t1:=topD_range n f
 exact impl_ob hP hAmb Tryz.func96 (by kernel_rfl) (.lits 2<|.call (.int .i64 ((m).sign))<|.lits 2<|.call (.int .i64 ((n).sign))<|.lit<|.both (.lits 4<|.both (.lit<|.ret) (.lit<|.both (.lit<|.ret) (.lit<|.both (.lit<|.ret) (.lits 2<|.call (.int .i64 (topD m e))<|.lits 2<|.call (.int .i64 (topD n f))<|.lit<|.both (.lit<|.both (.lit<|.yes<|.lit<|.ret) (.lit<|.ret)) (.lits 3<|.call (.tup [(zV (m*2^(e-(iMin e f)).toNat)),(zV (n*2^(f-(iMin e f)).toNat)),(.int .i64 (iMin e f))])<|.lits 5<|.call (.int .i64 (cmpI (m*2^(e-(iMin e f)).toNat) (n*2^(f-(iMin e f)).toNat)))<|.lit<|.ret))))) (.lits 5<|.both (.lit<|.ret) (.lit<|.both (.lit<|.ret) (.lits 2<|.call (.int .i64 (topD m e))<|.lits 2<|.call (.int .i64 (topD n f))<|.lit<|.both (.lit<|.both (.lit<|.yes<|.lit<|.ret) (.lit<|.ret)) (.lits 3<|.call (.tup [(zV (m*2^(e-(iMin e f)).toNat)),(zV (n*2^(f-(iMin e f)).toNat)),(.int .i64 (iMin e f))])<|.lits 5<|.call (.int .i64 (cmpI (m*2^(e-(iMin e f)).toNat) (n*2^(f-(iMin e f)).toNat)))<|.lit<|.ret)))))
  (cast_ob (aI True.intro (aI (dy_Sign m e oA) (have f30:=sign_range m;aI (dy_Sign n f oA) (have f29:=sign_range n;aI (fun (h1:(iNe ((m).sign) ((n).sign))=true)=>have _gh1:=iNe_t h1;aI (fun (h2:(iLt ((m).sign) ((n).sign))=true)=>have _gh2:=iLt_t h2;(vsub_of (congrArg (V.int .i64) (dcmp_lt oO)):vsub (.int .i64 (-1)) (.int .i64 (cmpD m e n f)))) (fun (h3:(iLt ((m).sign) ((n).sign))=false)=>have _gh3:=iLt_f h3;aI (fun (h4:(iNe ((m).sign) ((n).sign))=true)=>have _gh4:=iNe_t h4;(vsub_of (congrArg (V.int .i64) (dcmp_gt oO)):vsub (.int .i64 1) (.int .i64 (cmpD m e n f)))) (fun (h5:(iNe ((m).sign) ((n).sign))=false)=>have _gh5:=iNe_f h5;aI (fun (h6:(iEq ((m).sign) 0)=true)=>have _gh6:=iEq_t h6;(False.elim oO:vsub (.int .i64 0) (.int .i64 (cmpD m e n f)))) (fun (h7:(iEq ((m).sign) 0)=false)=>have _gh7:=iEq_f h7;aI (dy_Top m e oA oA) (have f15:=topD_range m e;aI (dy_Top n f oA oA) (have f14:=topD_range n f;aI (fun (h8:(iNe (topD m e) (topD n f))=true)=>have _gh8:=iNe_t h8;aI (fun (h9:(iLt (topD m e) (topD n f))=true)=>have _gh9:=iLt_t h9;aI (fits_i64 oA:(fits .i64 ((0:Int)-(m).sign))=true) ((False.elim oO:vsub (.int .i64 ((0:Int)-(m).sign)) (.int .i64 (cmpD m e n f))))) (fun (h10:(iLt (topD m e) (topD n f))=false)=>have _gh10:=iLt_f h10;(False.elim oO:vsub (.int .i64 ((m).sign)) (.int .i64 (cmpD m e n f))))) (fun (h11:(iNe (topD m e) (topD n f))=false)=>have _gh11:=iNe_f h11;aI (dy_align m e n f oA oA oA oA) (have f13:=al_facts m n e f oA oA;aI (int_Cmp (m*2^(e-(iMin e f)).toNat) (n*2^(f-(iMin e f)).toNat) oA oA) (have f12:=cmpI_range (m*2^(e-(iMin e f)).toNat) (n*2^(f-(iMin e f)).toNat);(False.elim oO:vsub (.int .i64 (cmpI (m*2^(e-(iMin e f)).toNat) (n*2^(f-(iMin e f)).toNat))) (.int .i64 (cmpD m e n f)))))))))))) (fun (h16:(iNe ((m).sign) ((n).sign))=false)=>have _gh16:=iNe_f h16;aI (fun (h17:(iNe ((m).sign) ((n).sign))=true)=>have _gh17:=iNe_t h17;(False.elim oO:vsub (.int .i64 1) (.int .i64 (cmpD m e n f)))) (fun (h18:(iNe ((m).sign) ((n).sign))=false)=>have _gh18:=iNe_f h18;aI (fun (h19:(iEq ((m).sign) 0)=true)=>have _gh19:=iEq_t h19;(vsub_of (congrArg (V.int .i64) (dcmp_zero oO oO)):vsub (.int .i64 0) (.int .i64 (cmpD m e n f)))) (fun (h20:(iEq ((m).sign) 0)=false)=>have _gh20:=iEq_f h20;aI (dy_Top m e oA oA) (have f28:=topD_range m e;aI (dy_Top n f oA oA) (have f27:=topD_range n f;aI (fun (h21:(iNe (topD m e) (topD n f))=true)=>have _gh21:=iNe_t h21;aI (fun (h22:(iLt (topD m e) (topD n f))=true)=>have _gh22:=iLt_t h22;aI (fits_i64 oA:(fits .i64 ((0:Int)-(m).sign))=true) ((vsub_of (congrArg (V.int .i64) (dcmp_t1 oO oO oO)):vsub (.int .i64 ((0:Int)-(m).sign)) (.int .i64 (cmpD m e n f))))) (fun (h23:(iLt (topD m e) (topD n f))=false)=>have _gh23:=iLt_f h23;(vsub_of (congrArg (V.int .i64) (dcmp_t2 oO oO oO)):vsub (.int .i64 ((m).sign)) (.int .i64 (cmpD m e n f))))) (fun (h24:(iNe (topD m e) (topD n f))=false)=>have _gh24:=iNe_f h24;aI (dy_align m e n f oA oA oA oA) (have f26:=al_facts m n e f oA oA;aI (int_Cmp (m*2^(e-(iMin e f)).toNat) (n*2^(f-(iMin e f)).toNat) oA oA) (have f25:=cmpI_range (m*2^(e-(iMin e f)).toNat) (n*2^(f-(iMin e f)).toNat);(vsub_of (congrArg (V.int .i64) (rfl)):vsub (.int .i64 (cmpI (m*2^(e-(iMin e f)).toNat) (n*2^(f-(iMin e f)).toNat))) (.int .i64 (cmpD m e n f))))))))))))))) (by kernel_rfl))
theorem r08_Cmp (m e n f:Int)(c0:L (m).natAbs≤8192)(c1:L (n).natAbs≤8192)(c2:(-200000:Int)≤e∧e≤200000)(c3:(-200000:Int)≤f∧f≤200000):Impl Tryz.prog Amb 20 [(yV m e),(yV n f)] (.int .i64 (cmpD m e n f)):=by
 have m0:=iMin_range e f
 exact impl_ob hP hAmb Tryz.func20 (by kernel_rfl) (.lits 6<|.yes<|.lit<|.call (zV (m*2^((e-(iMin e f))).toNat))<|.lits 3<|.yes<|.lit<|.call (zV (n*2^((f-(iMin e f))).toNat))<|.lit<|.call (.int .i64 (cmpI (m*2^((e-(iMin e f))).toNat) (n*2^((f-(iMin e f))).toNat)))<|.lit<|.ret)
  (cast_ob (aI True.intro (aI (fits_i64 oA:(fits .i64 (e-(iMin e f)))=true) (aI (r05_Shl m (e-(iMin e f)) oA oA) (have f3:=L_abs_shl m ((e-(iMin e f))).toNat;aI (fits_i64 oA:(fits .i64 (f-(iMin e f)))=true) (aI (r05_Shl n (f-(iMin e f)) oA oA) (have f2:=L_abs_shl n ((f-(iMin e f))).toNat;aI (r05_Cmp (m*2^((e-(iMin e f))).toNat) (n*2^((f-(iMin e f))).toNat) oA oA) (have f1:=cmpI_range (m*2^((e-(iMin e f))).toNat) (n*2^((f-(iMin e f))).toNat);(vsub_of (by first | rfl | simp_all):vsub (.int .i64 (cmpI (m*2^((e-(iMin e f))).toNat) (n*2^((f-(iMin e f))).toNat))) (.int .i64 (cmpD m e n f)))))))))) (by kernel_rfl))
theorem dy_Of (n:Int)(c0:(-9223372036854775808:Int)≤n∧n≤9223372036854775807):Impl Tryz.prog Amb 138 [(.int .i64 n)] (yV (mkM n 0) (mkX n 0)):=by
 exact impl_ob hP hAmb Tryz.func138 (by kernel_rfl) (.lit<|.call (zV n)<|.lit<|.call (.tup [(yV (mkM n 0) (mkX n 0)),(.int .i64 (mkE n 0))])<|.lits 4<|.ret)
  (cast_ob (aI True.intro (aI (int_Of n oA) (have f2:=(L_i64 oA:L (n:Int).natAbs≤2);aI (dy_Make n 0 oA oA) (have f1:=mk_facts n 0;(vsub_refl (yV (mkM n 0) (mkX n 0))))))) (by kernel_rfl))
theorem r08_Of (n:Int)(c0:(-9223372036854775808:Int)≤n∧n≤9223372036854775807):Impl Tryz.prog Amb 54 [(.int .i64 n)] (yV (mkM n 0) (mkX n 0)):=by
 exact impl_ob hP hAmb Tryz.func54 (by kernel_rfl) (.lit<|.call (zV n)<|.lit<|.call (.tup [(yV (mkM n 0) (mkX n 0)),(.int .i64 (mkE n 0))])<|.lits 4<|.ret)
  (cast_ob (aI True.intro (aI (r05_Of n oA) (have f2:=(L_i64 oA:L (n:Int).natAbs≤2);aI (r08_Make n 0 oA oA) (have f1:=mk_facts n 0;(vsub_refl (yV (mkM n 0) (mkX n 0))))))) (by kernel_rfl))
end Go.Proofs.YtkkbddkpggjgpaaGreatDoor

namespace Go.Proofs.YtkkbddkpggjgpaaGreatDoor
def ivCmp (m e n f p g q h:Int):Int:=if cmpD n f p g<0 then -1 else if 0<cmpD m e q h then 1 else 0
theorem L_pow2 {x k n:Nat}(h:x<2^n)(hn:n≤32*k):L x≤k:=L_le (by rw[B_pow];exact Nat.lt_of_lt_of_le h (Nat.pow_le_pow_right (by omega) hn))
theorem ivc_1 {m e n f p g q h:Int}(k:cmpD n f p g<0):-1=ivCmp m e n f p g q h:=by unfold ivCmp;rw[if_pos k]
theorem ivc_2 {m e n f p g q h:Int}(k:0≤cmpD n f p g)(l:0<cmpD m e q h):1=ivCmp m e n f p g q h:=by unfold ivCmp;rw[if_neg (by omega),if_pos l]
theorem ivc_3 {m e n f p g q h:Int}(k:0≤cmpD n f p g)(l:cmpD m e q h≤0):0=ivCmp m e n f p g q h:=by unfold ivCmp;rw[if_neg (by omega),if_neg (by omega)]
theorem sm_1 {m n e f:Int}(h:e=f):decide (m=n)=decide (e=f∧m=n):=by by_cases q:m=n<;>simp [q,h]
end Go.Proofs.YtkkbddkpggjgpaaGreatDoor

namespace Go.Proofs.YtkkbddkpggjgpaaGreatDoor
open Go.RowKit
set_option maxRecDepth 100000
theorem r10_Cmp (m e n f p g q h:Int)(c0:L (m).natAbs≤8192)(c1:L (n).natAbs≤8192)(c2:(-65536:Int)≤e∧e≤65536)(c3:(-65536:Int)≤f∧f≤65536)(c4:L (p).natAbs≤8192)(c5:L (q).natAbs≤8192)(c6:(-65536:Int)≤g∧g≤65536)(c7:(-65536:Int)≤h∧h≤65536):Impl Tryz.prog Amb 21 [(wV m e n f),(wV p g q h)] (.int .i64 (ivCmp m e n f p g q h)):=by
 exact impl_ob hP hAmb Tryz.func21 (by kernel_rfl) (.lits 3<|.call (.int .i64 (cmpD n f p g))<|.lit<|.both (.lit<|.ret) (.lits 3<|.call (.int .i64 (cmpD m e q h))<|.lit<|.both (.lit<|.ret) (.lit<|.ret)))
  (cast_ob (aI True.intro (aI (r08_Cmp n f p g oA oA oA oA) (have f6:=cmpD_range n f p g;aI (fun (h1:(iLt (cmpD n f p g) 0)=true)=>have _gh1:=iLt_t h1;(vsub_of (congrArg (V.int .i64) (ivc_1 oO)):vsub (.int .i64 (-1)) (.int .i64 (ivCmp m e n f p g q h)))) (fun (h2:(iLt (cmpD n f p g) 0)=false)=>have _gh2:=iLt_f h2;aI (r08_Cmp m e q h oA oA oA oA) (have f5:=cmpD_range m e q h;aI (fun (h3:(iGt (cmpD m e q h) 0)=true)=>have _gh3:=iGt_t h3;(vsub_of (congrArg (V.int .i64) (ivc_2 oO oO)):vsub (.int .i64 1) (.int .i64 (ivCmp m e n f p g q h)))) (fun (h4:(iGt (cmpD m e q h) 0)=false)=>have _gh4:=iGt_f h4;(vsub_of (congrArg (V.int .i64) (ivc_3 oO oO)):vsub (.int .i64 0) (.int .i64 (ivCmp m e n f p g q h))))))))) (by kernel_rfl))
theorem r08_Same (m e n f:Int)(c0:L (m).natAbs≤16777216)(c1:L (n).natAbs≤16777216):Impl Tryz.prog Amb 70 [(yV m e),(yV n f)] (.bool (decide (e=f∧m=n))):=by
 exact impl_ob hP hAmb Tryz.func70 (by kernel_rfl) (.lits 3<|.both (.lits 7<|.call (.bool (decide (m=n)))<|.lits 2<|.ret) (.lits 6<|.ret))
  (cast_ob (aI True.intro (aI (fun (h1:(iEq e f)=true)=>have _gh1:=iEq_t h1;aI (r05_Same m n oA oA) ((vsub_of (congrArg V.bool (sm_1 oO)):vsub (.bool (decide (m=n))) (.bool (decide (e=f∧m=n)))))) (fun (h2:(iEq e f)=false)=>have _gh2:=iEq_f h2;(vsub_of (congrArg V.bool ((decide_eq_false oO).symm)):vsub (.bool false) (.bool (decide (e=f∧m=n))))))) (by kernel_rfl))
end Go.Proofs.YtkkbddkpggjgpaaGreatDoor

namespace Go.Proofs.YtkkbddkpggjgpaaGreatDoor
theorem rem_two {k:Int}(h:0≤k):wRem k (2:Int)=k%2:=Int.tmod_eq_emod_of_nonneg h
theorem L_pow1 (k:Nat):L ((1:Int)*2^k).natAbs≤k / 32+1:=by
 rw[Int.one_mul,Int.natAbs_pow];exact L_two_pow k
def eG:Nat→Int→Int→Int→Int→Int→Int × Int
 | 0,_,_,_,a,b=>(a,b)
 | f+1,k,lo,hi,a,b =>
  if lo.natAbs≤1∧hi.natAbs≤1 then (a,b) else
  eG f (k+1) (Int.fdiv (min lo hi) k) (-(Int.fdiv (-(max lo hi)) k)) (a+(Int.fdiv (min lo hi) k)) (b+(-(Int.fdiv (-(max lo hi)) k)))
def eT (v:Int):Int × Int:=eG (v.toNat+2) 1 ((1:Int)*2^v.toNat) ((1:Int)*2^v.toNat) ((1:Int)*2^v.toNat) ((1:Int)*2^v.toNat)
theorem L_lit (n:Nat)(h:n<4294967296):L n≤1:=L_le (by simpa using h)
end Go.Proofs.YtkkbddkpggjgpaaGreatDoor



namespace Go.Proofs.YtkkbddkpggjgpaaGreatDoor
theorem weak_box1 {s:List D}{h:List Box}(b:Nat)(x y:Box)(hb:h[b]?=some x)(ha:y.alive=x.alive)(hf:y.frozen=x.frozen)(hl:y.cells.length=x.cells.length)
  (hr:∀ (w:World) (S:Nat→Prop) (l:List Value),RdL w S l x.cells→RdL w S l y.cells):Weak ⟨s,h⟩ ⟨s,h.set b y⟩:=by
 intro w0 S0 a w ρ ok
 have hbl:b<h.length:=lt_of_get hb
 have hget:∀ (i:Nat) (z:Box),(h.set b y)[i]?=some z→∃ u:Box,h[i]?=some u∧z.alive=u.alive∧z.frozen=u.frozen∧z.cells.length=u.cells.length∧∀ (w:World) (S:Nat→Prop) (l:List Value),RdL w S l u.cells→RdL w S l z.cells:=by
  intro i z hz
  rw[List.getElem?_set] at hz
  split at hz
  ·rename_i e
   subst e
   (try rw[if_pos hbl] at hz)
   cases hz
   exact⟨x,hb,ha,hf,hl,hr⟩
  ·exact⟨z,hz,rfl,rfl,rfl,fun _ _ _ q=>q⟩
 have hstab:∀ c,stab S0 ρ h c→stab S0 ρ (h.set b y) c:=fun c hc=>⟨hc.1,fun i z hz za zf hi=>by
  obtain⟨u,hu,ua,uf,_⟩:=hget i z hz
  exact hc.2 i u hu (ua ▸ za) (uf ▸ zf) hi⟩
 have hls:Lasts w w (stab S0 ρ h) (stab S0 ρ (h.set b y)):=⟨Nat.le_refl _,fun c _ hc=>⟨hstab c hc,rfl⟩⟩
 refine⟨ρ,⟨ok.ok.below,by simpa using ok.ok.heap.len,ok.ok.heap.low,?_,?_⟩,ok.size,fun t=>(ok.slots t).lasts hls (fun _ _ _ q=>q) (fun _ _ q=>q),ok.defers⟩
 ·intro i j p q β hp hq pa qa hi hj
  obtain⟨p',hp',pa',_⟩:=hget i p hp
  obtain⟨q',hq',qa',_⟩:=hget j q hq
  exact ok.ok.heap.inj i j p' q' β hp' hq' (pa' ▸ pa) (qa' ▸ qa) hi hj
 ·intro i z β hz za hi
  obtain⟨u,hu,ua,_,ul,ur⟩:=hget i z hz
  obtain⟨vs,t,h1,h2,h3⟩:=ok.ok.heap.box i u β hu (ua ▸ za) hi
  exact⟨vs,t,h1,by rw[ul];exact h2,by rw[ul];exact ur _ _ _ (h3.lasts hls)⟩
theorem rd_z0 {w:World}{S:Nat→Prop}{l:List Value}(h:RdL w S l [.bool false,.nil]):RdL w S l [.bool (decide ((0:Int)<0)),N (0:Int).natAbs]:=by
 cases h with | cons h1 h=>cases h with | cons h2 h=>cases h with | nil =>
  refine .cons (by simpa using h1) (.cons ?_ .nil)
  have:N (0:Int).natAbs=.sl 1 []:=by simp [N,lim,limbs_zero,U]
  rw[this]
  cases h2
  exact .nilsl
def arcG (n:Nat)(g:Bool):Nat→Int→Nat→Int→Int × Int
 | 0,k,_,s=>(k,s)
 | f+1,k,p,s=>if p=0 then (k,s) else arcG n g f (k+1) (p / n / n) (s+sgn (g && decide (k%2=1)) (p / (2*k+1).toNat))
def arcT (n:Int)(g:Bool)(s:Int):Int × Int:=arcG n.toNat g (s.toNat+2) 0 (1*2^s.toNat / n.toNat) 0
def ArcInv (n:Int)(g:Bool)(s:Int)(T:Int × Int)(f k:Int)(p:Nat)(a:Int):Prop :=
 0≤f∧0≤k∧k+f=s+1∧arcG n.toNat g (f.toNat+1) k p a=T∧p<2^f.toNat∧L p≤s / 32+2∧L a.natAbs≤s / 32+2+k
theorem arc_end {n:Int}{g:Bool}{s:Int}{T:Int × Int}{f k a:Int}{p:Nat}(h:ArcInv n g s T f k p a)(hp:p=0):k=T.1∧a=T.2:=by
 obtain⟨h1,h2,h3,h4,_⟩:=h
 rw[arcG,if_pos hp] at h4
 rw[← h4];exact⟨rfl,rfl⟩
theorem arc_f {n:Int}{g:Bool}{s:Int}{T:Int × Int}{f k a:Int}{p:Nat}(h:ArcInv n g s T f k p a)(hp:p≠0):1≤f:=by
 obtain⟨h1,h2,h3,h4,h5,_⟩:=h
 refine Decidable.byContradiction fun q=>?_
 rw[show f.toNat=0 by omega] at h5
 omega
theorem arc_next {n:Int}{g:Bool}{s:Int}{T:Int × Int}{f k a:Int}{p:Nat}(hn:2≤n)(h:ArcInv n g s T f k p a)(hp:p≠0){b:Bool}(hb:b=(g && decide (k%2=1))) :
  ArcInv n g s T (f-1) (k+1) (p / n.toNat / n.toNat) (a+sgn b (p / (2*k+1).toNat)):=by
 have hf:=arc_f h hp
 obtain⟨h1,h2,h3,h4,h5,h6,h7⟩:=h
 have hfn:f.toNat=(f-1).toNat+1:=by omega
 rw[arcG,if_neg hp,hfn] at h4
 rw[hfn,Nat.pow_succ] at h5
 have d1:p / n.toNat≤p / 2:=Nat.div_le_div_left (by omega) (by omega)
 have d2:p / n.toNat / n.toNat≤p / n.toNat:=Nat.div_le_self _ _
 have l1:=L_mono (Nat.le_trans d2 (Nat.le_trans d1 (Nat.div_le_self p 2)))
 have l2:=L_div p (2*k+1).toNat
 have l3:=L_sgn b (p / (2*k+1).toNat)
 have l4:=L_abs_add a (sgn b (p / (2*k+1).toNat))
 refine⟨by omega,by omega,by omega,by rw[hb];exact h4,by omega,by omega,by omega⟩
theorem arc_init {n:Int}{g:Bool}{s:Int}(hs:0≤s):ArcInv n g s (arcT n g s) (s+1) 0 (1*2^s.toNat / n.toNat) 0:=by
 have l0:=L_two_pow s.toNat
 have l1:=L_div (1*2^s.toNat) n.toNat
 rw[Nat.one_mul] at l1 ⊢
 have d:2^s.toNat / n.toNat≤2^s.toNat:=Nat.div_le_self _ _
 have e:2^s.toNat<2^(s+1).toNat:=Nat.pow_lt_pow_right (by omega) (by omega)
 refine⟨by omega,by omega,by omega,?_,by omega,by omega,by simp [L_zero];omega⟩
 unfold arcT
 rw[show (s+1).toNat+1=s.toNat+2 by omega,Nat.one_mul]
theorem arc_bound {n:Int}{g:Bool}{s:Int}{T:Int × Int}{f k a:Int}{p:Nat}(h:ArcInv n g s T f k p a):0≤k∧k≤s+1∧L p≤s / 32+2∧L a.natAbs≤s / 32+3+s:=by
 obtain⟨h1,h2,h3,h4,h5,h6,h7⟩:=h;omega
theorem arc_T {n:Int}{g:Bool}{s:Int}{T:Int × Int}(hn:2≤n):∀ (m:Nat) (f k:Int) (p:Nat) (a:Int),f.toNat=m→ArcInv n g s T f k p a→0≤T.1∧T.1≤s+1∧L T.2.natAbs≤s / 32+3+s
 | m,f,k,p,a,hm,h=>by
  have hb:=arc_bound h
  by_cases ht:p=0
  ·obtain⟨e1,e2⟩:=arc_end h ht
   rw[← e1,← e2];exact⟨hb.1,hb.2.1,hb.2.2.2⟩
  ·have hf:=arc_f h ht
   cases m with
   | zero=>omega
   | succ m=>exact arc_T hn m _ _ _ _ (by omega) (arc_next hn h ht rfl)
theorem arcT_L {n:Int}(g:Bool){s:Int}(hn:2≤n)(hs:0≤s∧s≤6000):0≤(arcT n g s).1∧(arcT n g s).1≤s+1∧L ((arcT n g s).2-3*((arcT n g s).1+2)).natAbs≤s / 32+7+s∧L ((arcT n g s).2+3*((arcT n g s).1+2)).natAbs≤s / 32+7+s:=by
 have h:=arc_T hn _ _ _ _ _ rfl (arc_init (n:=n) (g:=g) hs.1)
 have l0:=L_i64 (n:=3*((arcT n g s).1+2)) (by omega)
 have l1:=L_abs_sub (arcT n g s).2 (3*((arcT n g s).1+2))
 have l2:=L_abs_add (arcT n g s).2 (3*((arcT n g s).1+2))
 omega
theorem arc_b {k:Int}(h:0≤k):iEq (wRem k (2:Int)) 1=(true && decide (k%2=1)):=by
 rw[rem_two h];unfold iEq;by_cases q:k%2=1<;>simp [q]
theorem arc_b0 (k:Int):false=(false && decide (k%2=1)):=rfl
theorem rd_nil_N0 {w:World}{S:Nat→Prop}{v:Value}(h:Rd w S v .nil):Rd w S v (N (0:Int).natAbs):=by
 have:N (0:Int).natAbs=.sl 1 []:=by simp [N,lim,limbs_zero,U]
 rw[this];cases h;exact .nilsl
theorem vsub_w0 (c:Int):vsub (.tup [.agg [.bool false,.nil,.int .i64 0,.bool false,.nil,.int .i64 0],.int .i64 c])
  (.tup [.agg [.bool (decide ((0:Int)<0)),N (0:Int).natAbs,.int .i64 0,.bool (decide ((0:Int)<0)),N (0:Int).natAbs,.int .i64 0],.int .i64 c]):=by
 refine vsub_tup2 (fun w S x hx=>?_) (vsub_refl _)
 obtain⟨arr,rfl,hr⟩:=hx.agg_inv
 cases hr with | cons h1 hr=>cases hr with | cons h2 hr=>cases hr with | cons h3 hr=>cases hr with | cons h4 hr=>cases hr with | cons h5 hr=>cases hr with | cons h6 hr=>cases hr with | nil =>
  exact .agg (.cons (by simpa using h1) (.cons (rd_nil_N0 h2) (.cons h3 (.cons (by simpa using h4) (.cons (rd_nil_N0 h5) (.cons h6 .nil))))))
theorem nbits_of_lt {x k:Nat}(h:x<2^k):nbits x≤k:=by
 by_cases hx:x=0
 ·rw[hx];simp [nbits]
 ·have h1:=nbits_le hx
  have h2:=nbits_pos hx
  have:=(Nat.pow_lt_pow_iff_right (a:=2) (by omega)).1 (Nat.lt_of_le_of_lt h1 h)
  omega
end Go.Proofs.YtkkbddkpggjgpaaGreatDoor
