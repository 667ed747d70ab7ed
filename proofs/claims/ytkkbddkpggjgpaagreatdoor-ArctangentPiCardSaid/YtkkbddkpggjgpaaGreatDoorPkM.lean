/-
  Lower layers: what functions of the program compute, and plain facts. Conditions: as the theorems say.
-/
import Derived.Test.YtkkbddkpggjgpaaGreatDoorPkL
set_option linter.unusedVariables false
set_option linter.unusedSimpArgs false
namespace Go.Proofs.YtkkbddkpggjgpaaGreatDoor
open Go.RowKit
set_option maxRecDepth 100000
def r02_Mul_out_I (a b:Nat)(x:Int × List V × List Nat):Prop:=x.2.1=U x.2.2∧MulInv a b x.1 x.2.2
def r02_Mul_out_mu (a _:Nat)(x:Int × List V × List Nat):Nat:=((L a:Int)-x.1).toNat
def r02_Mul_out_ex (a b:Nat)(y:List Nat):Ex × St:=(.exit 0,⟨mkS 67 [(5,(.osl 0 0 ((((lim a).length:Int)+((lim b).length:Int)).toNat) 1))],[⟨true,false,(U y)⟩]⟩)
def r02_Mul_out_J (a b:Nat)(y:List Nat):Prop:=MulInv a b (L a:Int) y
abbrev r02_Mul_out_N (a b:Nat):=NX (r02_Mul_out_mk a b) (r02_Mul_out_I a b) (r02_Mul_out_mu a b) (r02_Mul_out_ex a b) (r02_Mul_out_J a b)
theorem r02_Mul_out (a b:Nat)(c0:L a≤33554432∧L b≤33554432)(x0:Int × List V × List Nat)(hI:r02_Mul_out_I a b x0):LoopOk Tryz.prog Amb (loopN Tryz.f150 0) (r02_Mul_out_mk a b x0) (fun e st_=>∃ y,r02_Mul_out_J a b y∧r02_Mul_out_ex a b y=(e,st_)) :=
 loop_ob hP hAmb ⟨[1,5,17,18,19],1,[]⟩ (r02_Mul_out_mk a b) (r02_Mul_out_I a b) (r02_Mul_out_mu a b) (r02_Mul_out_ex a b) (r02_Mul_out_J a b) x0 hI (fun (i,o,l)=>.lit<|.both (.yes<|.yes<|.loop ⟨[1,5,6,7,8,17,18,19,24,25,26],1,[]⟩ ((r02_Mul_in_mk a b i (gi (limbs a) i.toNat) l (0,0,o,l))) (Int × List Nat) (r02_Mul_in_ex a b i (gi (limbs a) i.toNat) l) (r02_Mul_in_J a b i (gi (limbs a) i.toNat) l) (fun y=>.lit<|.yes<|.lit<|.no<|.yes<|.yes<|.lit<|.yes<|.fin2 ⟨[1,5,17,18,19],1,[]⟩)) (.fin2 ⟨[5],1,[]⟩)) (by
  rintro ⟨i,o,l⟩ hI
  have hI:o=U l∧MulInv a b i l:=hI
  obtain⟨rfl,h1⟩:=hI
  have ⟨p0,p1,p2,_⟩:=h1
  have e0:=L_len a
  have e1:=L_len b
  have g4:=U_len l
  exact cast_ob (aI True.intro (aI (fun (h101:(iLt i ((lim a).length:Int))=true)=>have _gh101:=iLt_t h101;aI (inB_mk oA:(inB i ((lim a).length))=true) (aI (ld_L oA:(Nat.blt i.toNat (lim a).length && isIntK .u32 (nth (lim a) i.toNat .unk))=true) (aI tT (aI (rfl:(r02_Mul_in_mk a b i (gi (limbs a) i.toNat) l (0,0,(U l),l))=(r02_Mul_in_mk a b i (gi (limbs a) i.toNat) l (0,0,(U l),l))) (aI (r02_Mul_in a b i (gi (limbs a) i.toNat) l c0 oO (⟨gi_nonneg _ _,gi_lt (dig_limbs a) _⟩) oO (0,0,(U l),l) (show (U l)=U l∧MulIn b i.toNat (gi (limbs a) i.toNat) l 0 0 l from ⟨rfl,mulin_init _ _ _ h1.2.2.2.1⟩)) (fun y (hJ:r02_Mul_in_J a b i (gi (limbs a) i.toNat) l y)=>have hJ:MulIn b i.toNat (gi (limbs a) i.toNat) l (L b:Int) y.1 y.2:=hJ;have ⟨_,_,y2,y3,y4,_⟩:=hJ;have y5:=U_len y.2;aI (fits_i64 oA:(fits .i64 (i+((lim b).length:Int)))=true) (aI (inB_mk oA:(inB (i+((lim b).length:Int)) ((((lim a).length:Int)+((lim b).length:Int)).toNat))=true) (aI (st_ok oA:(Nat.ble ((0+(i+((lim b).length:Int)).toNat)+1) (U y.2).length)=true) (aI (fits_i64 oA:(fits .i64 (i+1))=true) (aI tT ((nx_next ((i+1),(List.set (U y.2) (0+(i+((lim b).length:Int)).toNat) (.int .u32 (IntKind.wrap .u32 y.1))),(y.2.set (i.toNat+L b) (IntKind.wrap .u32 y.1).toNat)) (show (List.set (U y.2) (0+(i+((lim b).length:Int)).toNat) (.int .u32 (IntKind.wrap .u32 y.1)))=U (y.2.set (i.toNat+L b) (IntKind.wrap .u32 y.1).toNat)∧MulInv a b (i+1) (y.2.set (i.toNat+L b) (IntKind.wrap .u32 y.1).toNat) from ⟨setU _ oO (wrap_pos _),mul_next h1 oO rfl hJ⟩) (show ((L a:Int)-(i+1)).toNat<((L a:Int)-i).toNat by omega):r02_Mul_out_N a b (i,(U l),l) .normal (r02_Mul_out_mk a b ((i+1),(List.set (U y.2) (0+(i+((lim b).length:Int)).toNat) (.int .u32 (IntKind.wrap .u32 y.1))),(y.2.set (i.toNat+L b) (IntKind.wrap .u32 y.1).toNat))))))))))))))) (fun (h102:(iLt i ((lim a).length:Int))=false)=>have _gh102:=iLt_f h102;aI tT ((nx_exit 0 ((r02_Mul_out_ex a b l).2) l (show MulInv a b (L a:Int) l from (show i=(L a:Int) by omega) ▸ h1) rfl:r02_Mul_out_N a b (i,(U l),l) (.exit 0) ((r02_Mul_out_ex a b l).2)))))) (by kernel_rfl))
theorem r02_Mul (a:Nat)(b:Nat)(c0:L a≤33554432)(c1:L b≤33554432):Impl Tryz.prog Amb 150 [(N a),(N b)] (N (a*b)):=by
 have e0:=L_len a
 have e1:=L_len b
 exact impl_ob hP hAmb Tryz.func150 (by kernel_rfl) (.lit<|.yes<|.yes<|.loop ⟨[1,5,17,18,19],1,[]⟩ ((r02_Mul_out_mk a b (0,(List.replicate ((((lim a).length:Int)+((lim b).length:Int)).toNat) (.int .u32 0)),(List.replicate (L a+L b) 0)))) (List Nat) (r02_Mul_out_ex a b) (r02_Mul_out_J a b) (fun y=>.yes<|.call (N (val y))<|.lit<|.ret))
  (cast_ob (aI True.intro (aI (fits_i64 oA:(fits .i64 (((lim a).length:Int)+((lim b).length:Int)))=true) (aI (mk_ok oA:(((iEq (((lim a).length:Int)+((lim b).length:Int)) (((lim a).length:Int)+((lim b).length:Int))) && (iLe 0 (((lim a).length:Int)+((lim b).length:Int)))) && (iLe (((lim a).length:Int)+((lim b).length:Int)) 1073741824))=true) (aI tT (aI (rfl:(r02_Mul_out_mk a b (0,(List.replicate ((((lim a).length:Int)+((lim b).length:Int)).toNat) (.int .u32 0)),(List.replicate (L a+L b) 0)))=(r02_Mul_out_mk a b (0,(List.replicate ((((lim a).length:Int)+((lim b).length:Int)).toNat) (.int .u32 0)),(List.replicate (L a+L b) 0)))) (aI (r02_Mul_out a b oO (0,(List.replicate ((((lim a).length:Int)+((lim b).length:Int)).toNat) (.int .u32 0)),(List.replicate (L a+L b) 0)) (show (List.replicate ((((lim a).length:Int)+((lim b).length:Int)).toNat) (.int .u32 0))=U (List.replicate (L a+L b) 0)∧MulInv a b 0 (List.replicate (L a+L b) 0) from ⟨by rw[show ((((lim a).length:Int)+((lim b).length:Int)).toNat)=L a+L b by omega];exact U_rep _,mul_init _ _⟩)) (fun y (hJ:r02_Mul_out_J a b y)=>have hJ:MulInv a b (L a:Int) y:=hJ;have ⟨q0,q1,q2⟩:=mul_end hJ;have q5:=U_len y;aI (ok_arg oA:((true && Nat.ble (0+((((lim a).length:Int)+((lim b).length:Int)).toNat)) (U y).length) && true)=true) (aI (r01_TrimC (List.take ((((lim a).length:Int)+((lim b).length:Int)).toNat) (List.drop 0 (U y))) y (tkU rfl oO) q0 oO) ((vsub_of (congrArg N q2):vsub (N (val y)) (N (a*b)))))))))))) (by kernel_rfl))
def r03_fits_0_mk (r b:Nat)(x:Int × Int):St:=⟨mkS 28 [(0,(.val (N r))),(1,(.val (N b))),(5,(.val (.int .u64 x.1))),(6,(.val (.int .u64 x.2)))],[]⟩
def r03_fits_0_I (r b:Nat)(x:Int × Int):Prop:=0≤x.1∧x.1≤x.2∧x.2≤4294967295∧b*(x.1).toNat≤r∧r<b*((x.2).toNat+1)
def r03_fits_0_mu (_ _:Nat)(x:Int × Int):Nat:=(x.2-x.1).toNat
def r03_fits_0_ex (_ _:Nat)(y:Int):Ex × St:=(.exit 0,⟨mkS 28 [(5,(.val (.int .u64 y)))],[]⟩)
def r03_fits_0_J (r b:Nat)(y:Int):Prop:=y=((r / b:Nat):Int)∧0≤y∧y<4294967296
abbrev r03_fits_0_N (r b:Nat):=NX (r03_fits_0_mk r b) (r03_fits_0_I r b) (r03_fits_0_mu r b) (r03_fits_0_ex r b) (r03_fits_0_J r b)
theorem r03_fits_0 (r b:Nat)(c0:L r≤67108864)(c1:L b≤33554432)(x0:Int × Int)(hI:r03_fits_0_I r b x0):LoopOk Tryz.prog Amb (loopN Tryz.f226 0) (r03_fits_0_mk r b x0) (fun e st_=>∃ y,r03_fits_0_J r b y∧r03_fits_0_ex r b y=(e,st_)) :=
 loop_ob hP hAmb ⟨[0,1,5,6],0,[]⟩ (r03_fits_0_mk r b) (r03_fits_0_I r b) (r03_fits_0_mu r b) (r03_fits_0_ex r b) (r03_fits_0_J r b) x0 hI (fun (x,y)=>.lit<|.both (.lit<|.yes<|.lit<|.yes<|.lit<|.yes<|.lit<|.no<|.lit<|.call (N (b*((IntKind.wrap .u32 (Int.tdiv ((x+y)+1) (2:Int)))).toNat+0))<|.lit<|.call (.int .i64 (cmpN (b*((IntKind.wrap .u32 (Int.tdiv ((x+y)+1) (2:Int)))).toNat+0) r))<|.lit<|.both (.fin2 ⟨[0,1,5,6],0,[]⟩) (.lit<|.yes<|.fin2 ⟨[0,1,5,6],0,[]⟩)) (.fin2 ⟨[5],0,[]⟩)) (by
  rintro ⟨x,y⟩ hI
  have hI:0≤x∧x≤y∧y≤4294967295∧b*(x).toNat≤r∧r<b*((y).toNat+1):=hI
  obtain⟨h1,h2,h3,h4,h5⟩:=hI
  have t0:Int.tdiv ((x+y)+1) (2:Int)=(x+y+1) / 2:=Int.tdiv_eq_ediv_of_nonneg oO
  have w0:IntKind.wrap .u32 (Int.tdiv ((x+y)+1) (2:Int))=(x+y+1) / 2:=by rw[t0,wrap_u32];omega
  exact cast_ob (aI True.intro (aI (fun (h101:(iLt x y)=true)=>have _gh101:=iLt_t h101;aI (fits_u64 oA:(fits .u64 (x+y))=true) (aI (fits_u64 oA:(fits .u64 ((x+y)+1))=true) (aI (fits_u64 oA:(fits .u64 (Int.tdiv ((x+y)+1) (2:Int)))=true) (aI (r02_Small b (IntKind.wrap .u32 (Int.tdiv ((x+y)+1) (2:Int))) 0 oA oA oA) (have f105:=L_small0 b (IntKind.wrap .u32 (Int.tdiv ((x+y)+1) (2:Int)));aI (r01_Cmp (b*((IntKind.wrap .u32 (Int.tdiv ((x+y)+1) (2:Int)))).toNat+0) r oA oA) (have f104:=cmpN_range (b*((IntKind.wrap .u32 (Int.tdiv ((x+y)+1) (2:Int)))).toNat+0) r;aI (fun (h102:(iLe (cmpN (b*((IntKind.wrap .u32 (Int.tdiv ((x+y)+1) (2:Int)))).toNat+0) r) 0)=true)=>have _gh102:=iLe_t h102;aI tT ((nx_next ((Int.tdiv ((x+y)+1) (2:Int)),y) (show 0≤(Int.tdiv ((x+y)+1) (2:Int))∧(Int.tdiv ((x+y)+1) (2:Int))≤y∧y≤4294967295∧b*((Int.tdiv ((x+y)+1) (2:Int))).toNat≤r∧r<b*((y).toNat+1) from ⟨by omega,by omega,by omega,by first | assumption | exact fits_le (w:=IntKind.wrap .u32 (Int.tdiv ((x+y)+1) (2:Int))) oO (by assumption),by first | assumption | exact fits_gt (w:=IntKind.wrap .u32 (Int.tdiv ((x+y)+1) (2:Int))) oO oO (by assumption)⟩) (show (y-(Int.tdiv ((x+y)+1) (2:Int))).toNat<(y-x).toNat by omega):r03_fits_0_N r b (x,y) .normal (r03_fits_0_mk r b ((Int.tdiv ((x+y)+1) (2:Int)),y))))) (fun (h103:(iLe (cmpN (b*((IntKind.wrap .u32 (Int.tdiv ((x+y)+1) (2:Int)))).toNat+0) r) 0)=false)=>have _gh103:=iLe_f h103;aI (fits_u64 oA:(fits .u64 ((Int.tdiv ((x+y)+1) (2:Int))-1))=true) (aI tT ((nx_next (x,((Int.tdiv ((x+y)+1) (2:Int))-1)) (show 0≤x∧x≤((Int.tdiv ((x+y)+1) (2:Int))-1)∧((Int.tdiv ((x+y)+1) (2:Int))-1)≤4294967295∧b*(x).toNat≤r∧r<b*((((Int.tdiv ((x+y)+1) (2:Int))-1)).toNat+1) from ⟨by omega,by omega,by omega,by first | assumption | exact fits_le (w:=IntKind.wrap .u32 (Int.tdiv ((x+y)+1) (2:Int))) oO (by assumption),by first | assumption | exact fits_gt (w:=IntKind.wrap .u32 (Int.tdiv ((x+y)+1) (2:Int))) oO oO (by assumption)⟩) (show (((Int.tdiv ((x+y)+1) (2:Int))-1)-x).toNat<(y-x).toNat by omega):r03_fits_0_N r b (x,y) .normal (r03_fits_0_mk r b (x,((Int.tdiv ((x+y)+1) (2:Int))-1))))))))))))) (fun (h106:(iLt x y)=false)=>have _gh106:=iLt_f h106;aI tT ((nx_exit 0 ((r03_fits_0_ex r b x).2) x (show x=((r / b:Nat):Int)∧0≤x∧x<4294967296 from ⟨fits_end h1 h4 (by rw[show x=y by omega];exact h5),by omega,by omega⟩) rfl:r03_fits_0_N r b (x,y) (.exit 0) ((r03_fits_0_ex r b x).2)))))) (by kernel_rfl))
theorem r03_fits (r:Nat)(b:Nat)(c0:L r≤67108864)(c1:L b≤33554432)(c2:r<b*4294967296):Impl Tryz.prog Amb 226 [(N r),(N b)] (.int .u32 ((r / b:Nat):Int)):=by
 exact impl_ob hP hAmb Tryz.func226 (by kernel_rfl) (.loop ⟨[0,1,5,6],0,[]⟩ ((r03_fits_0_mk r b ((0:Int),(4294967295:Int)))) (Int) (r03_fits_0_ex r b) (r03_fits_0_J r b) (fun y=>.lit<|.no<|.lit<|.ret))
  (cast_ob (aI True.intro (aI tT (aI (rfl:(r03_fits_0_mk r b ((0:Int),(4294967295:Int)))=(r03_fits_0_mk r b ((0:Int),(4294967295:Int)))) (aI (r03_fits_0 r b oO oO ((0:Int),(4294967295:Int)) (show 0≤(0:Int)∧(0:Int)≤(4294967295:Int)∧(4294967295:Int)≤4294967295∧b*((0:Int)).toNat≤r∧r<b*(((4294967295:Int)).toNat+1) from ⟨by omega,by omega,by omega,by simp,by simpa using c2⟩)) (fun y (hJ:r03_fits_0_J r b y)=>have hJ:y=((r / b:Nat):Int)∧0≤y∧y<4294967296:=hJ;have ⟨q0,q1,q2⟩:=hJ;(vsub_of (congrArg (V.int .u32) (by rw[wrap_self ⟨q1,q2⟩];exact q0)):vsub (.int .u32 (IntKind.wrap .u32 y)) (.int .u32 ((r / b:Nat):Int)))))))) (by kernel_rfl))
def r03_DivMod_0_mk (a b:Nat)(x:(Int × List V × List Nat)⊕(Int × Nat × List V × List Nat)):St:=Sum.elim (fun (x:Int × List V × List Nat)=>⟨mkS 52 [(0,(.val (N a))),(1,(.val (N b))),(7,(.osl 0 0 (((lim a).length:Int).toNat) 1)),(8,(.val .nil)),(9,(.val (.int .i64 x.1)))],[⟨true,false,x.2.1⟩]⟩) (fun (x:Int × Nat × List V × List Nat)=>⟨mkS 52 [(0,(.val (N a))),(1,(.val (N b))),(7,(.osl 0 0 (((lim a).length:Int).toNat) 1)),(8,(.val (N x.2.1))),(9,(.val (.int .i64 x.1)))],[⟨true,false,x.2.2.1⟩]⟩) x
def r03_DivMod_0_I (a b:Nat)(x:(Int × List V × List Nat)⊕(Int × Nat × List V × List Nat)):Prop:=Sum.elim (fun (x:Int × List V × List Nat)=>x.2.1=U x.2.2∧RDiv a b x.1 0 x.2.2) (fun (x:Int × Nat × List V × List Nat)=>x.2.2.1=U x.2.2.2∧RDiv a b x.1 x.2.1 x.2.2.2) x
def r03_DivMod_0_mu (_ _:Nat)(x:(Int × List V × List Nat)⊕(Int × Nat × List V × List Nat)):Nat:=Sum.elim (fun (x:Int × List V × List Nat)=>(x.1+1).toNat) (fun (x:Int × Nat × List V × List Nat)=>(x.1+1).toNat) x
def r03_DivMod_0_ex (a _:Nat)(y:(Int × Nat × List V × List Nat)⊕(Int × List V × List Nat)):Ex × St:=Sum.elim (fun (y:Int × Nat × List V × List Nat)=>(.exit 0,⟨mkS 52 [(7,(.osl 0 0 (((lim a).length:Int).toNat) 1)),(8,(.val (N y.2.1)))],[⟨true,false,y.2.2.1⟩]⟩)) (fun (y:Int × List V × List Nat)=>(.exit 0,⟨mkS 52 [(7,(.osl 0 0 (((lim a).length:Int).toNat) 1)),(8,(.val .nil))],[⟨true,false,y.2.1⟩]⟩)) y
def r03_DivMod_0_J (a b:Nat)(y:(Int × Nat × List V × List Nat)⊕(Int × List V × List Nat)):Prop:=Sum.elim (fun (y:Int × Nat × List V × List Nat)=>y.2.2.1=U y.2.2.2∧RDiv a b y.1 y.2.1 y.2.2.2∧y.1<0) (fun (y:Int × List V × List Nat)=>y.2.1=U y.2.2∧RDiv a b y.1 0 y.2.2∧y.1<0) y
abbrev r03_DivMod_0_N (a b:Nat):=NX (r03_DivMod_0_mk a b) (r03_DivMod_0_I a b) (r03_DivMod_0_mu a b) (r03_DivMod_0_ex a b) (r03_DivMod_0_J a b)
theorem r03_DivMod_0 (a b:Nat)(c0:L a≤33554432)(c1:L b≤16777216)(c2:0<b)(x0:(Int × List V × List Nat)⊕(Int × Nat × List V × List Nat))(hI:r03_DivMod_0_I a b x0):LoopOk Tryz.prog Amb (loopN Tryz.f214 0) (r03_DivMod_0_mk a b x0) (fun e st_=>∃ y,r03_DivMod_0_J a b y∧r03_DivMod_0_ex a b y=(e,st_)) :=
 loop_ob hP hAmb ⟨[0,1,7,8,9],1,[]⟩ (r03_DivMod_0_mk a b) (r03_DivMod_0_I a b) (r03_DivMod_0_mu a b) (r03_DivMod_0_ex a b) (r03_DivMod_0_J a b) x0 hI (Sum.elim (fun (i,o,l)=>.lit<|.both (.yes<|.yes<|.lits 2<|.call (N (val ([(gi (limbs a) i.toNat).toNat])))<|.lit<|.call (.int .i64 (cmpN (val ([(gi (limbs a) i.toNat).toNat])) b))<|.lit<|.both (.lit<|.call (.int .u32 (((val ([(gi (limbs a) i.toNat).toNat])) / b:Nat):Int))<|.yes<|.yes<|.yes<|.yes<|.lit<|.call (N (b*((intV (nth (List.set o (0+i.toNat) (.int .u32 (((val ([(gi (limbs a) i.toNat).toNat])) / b:Nat):Int))) (0+i.toNat) .unk))).toNat+0))<|.lit<|.call (N ((val ([(gi (limbs a) i.toNat).toNat]))-(b*((intV (nth (List.set o (0+i.toNat) (.int .u32 (((val ([(gi (limbs a) i.toNat).toNat])) / b:Nat):Int))) (0+i.toNat) .unk))).toNat+0)))<|.lit<|.yes<|.fin2 ⟨[0,1,7,8,9],1,[]⟩) (.lit<|.yes<|.fin2 ⟨[0,1,7,8,9],1,[]⟩)) (.fin2 ⟨[7,8],1,[]⟩)) (fun (i,r,o,l)=>.lit<|.both (.yes<|.yes<|.yes<|.yes<|.call (N (val ((gi (limbs a) i.toNat).toNat::limbs r)))<|.lit<|.call (.int .i64 (cmpN (val ((gi (limbs a) i.toNat).toNat::limbs r)) b))<|.lit<|.both (.lit<|.call (.int .u32 (((val ((gi (limbs a) i.toNat).toNat::limbs r)) / b:Nat):Int))<|.yes<|.yes<|.yes<|.yes<|.lit<|.call (N (b*((intV (nth (List.set o (0+i.toNat) (.int .u32 (((val ((gi (limbs a) i.toNat).toNat::limbs r)) / b:Nat):Int))) (0+i.toNat) .unk))).toNat+0))<|.lit<|.call (N ((val ((gi (limbs a) i.toNat).toNat::limbs r))-(b*((intV (nth (List.set o (0+i.toNat) (.int .u32 (((val ((gi (limbs a) i.toNat).toNat::limbs r)) / b:Nat):Int))) (0+i.toNat) .unk))).toNat+0)))<|.lit<|.yes<|.fin2 ⟨[0,1,7,8,9],1,[]⟩) (.lit<|.yes<|.fin2 ⟨[0,1,7,8,9],1,[]⟩)) (.fin2 ⟨[7,8],1,[]⟩))) (by
  rintro (⟨i,o,l⟩ | ⟨i,r,o,l⟩) hI
  ·skip
   have hI:o=U l∧RDiv a b i 0 l:=hI
   obtain⟨rfl,h1⟩:=hI
   have ⟨p0,p1,p2,p3,p4,_⟩:=h1
   have e0:=L_len a
   have e1:=L_len b
   have g4:=U_len l
   have g0:=gi_nonneg (limbs a) i.toNat
   have g1:=gi_lt (dig_limbs a) i.toNat
   have h2:val ([(gi (limbs a) i.toNat).toNat])=(gi (limbs a) i.toNat).toNat+4294967296*0:=by simp [val]
   have e5:=L_val (dig_one ⟨g0,g1⟩)
   have e6:([(gi (limbs a) i.toNat).toNat]).length=1:=rfl
   exact cast_ob (aI True.intro (aI (fun (h101:(iGe i 0)=true)=>have _gh101:=iGe_t h101;aI (inB_mk oA:(inB i ((lim a).length))=true) (aI (ld_L oA:(Nat.blt i.toNat (lim a).length && isIntK .u32 (nth (lim a) i.toNat .unk))=true) (aI (r01_TrimC ([(V.int .u32 (gi (limbs a) i.toNat))]) ([(gi (limbs a) i.toNat).toNat]) (U_one _ g0) (dig_one ⟨g0,g1⟩) (by simp)) (aI (r01_Cmp (val ([(gi (limbs a) i.toNat).toNat])) b oA oA) (have f109:=cmpN_range (val ([(gi (limbs a) i.toNat).toNat])) b;aI (fun (h102:(iGe (cmpN (val ([(gi (limbs a) i.toNat).toNat])) b) 0)=true)=>have _gh102:=iGe_t h102;aI (r03_fits (val ([(gi (limbs a) i.toNat).toNat])) b oA oA (rdiv_lt h1 h2)) (have f107:=(Int.natCast_nonneg ((val ([(gi (limbs a) i.toNat).toNat])) / b):0≤(((val ([(gi (limbs a) i.toNat).toNat])) / b:Nat):Int));have f106:=(div_lt_B (by first | omega | exact rdiv_lt h1 h2):(val ([(gi (limbs a) i.toNat).toNat])) / b<4294967296);aI (inB_mk oA:(inB i (((lim a).length:Int).toNat))=true) (aI (st_ok oA:(Nat.ble ((0+i.toNat)+1) (U l).length)=true) (aI (inB_mk oA:(inB i (((lim a).length:Int).toNat))=true) (aI (ldset_ok rfl oA:(Nat.blt (0+i.toNat) (List.set (U l) (0+i.toNat) (.int .u32 (((val ([(gi (limbs a) i.toNat).toNat])) / b:Nat):Int))).length && isIntK .u32 (nth (List.set (U l) (0+i.toNat) (.int .u32 (((val ([(gi (limbs a) i.toNat).toNat])) / b:Nat):Int))) (0+i.toNat) .unk))=true) (have f103:=(ldset_eq rfl oA:(intV (nth (List.set (U l) (0+i.toNat) (.int .u32 (((val ([(gi (limbs a) i.toNat).toNat])) / b:Nat):Int))) (0+i.toNat) .unk))=(((val ([(gi (limbs a) i.toNat).toNat])) / b:Nat):Int));aI (r02_Small b (intV (nth (List.set (U l) (0+i.toNat) (.int .u32 (((val ([(gi (limbs a) i.toNat).toNat])) / b:Nat):Int))) (0+i.toNat) .unk)) 0 oA oA oA) (have f105:=L_small0 b (intV (nth (List.set (U l) (0+i.toNat) (.int .u32 (((val ([(gi (limbs a) i.toNat).toNat])) / b:Nat):Int))) (0+i.toNat) .unk));aI (r01_Less (val ([(gi (limbs a) i.toNat).toNat])) (b*((intV (nth (List.set (U l) (0+i.toNat) (.int .u32 (((val ([(gi (limbs a) i.toNat).toNat])) / b:Nat):Int))) (0+i.toNat) .unk))).toNat+0) oA oA (rdiv_le (ldset_eq rfl oO))) (have f104:=L_sub (val ([(gi (limbs a) i.toNat).toNat])) (b*((intV (nth (List.set (U l) (0+i.toNat) (.int .u32 (((val ([(gi (limbs a) i.toNat).toNat])) / b:Nat):Int))) (0+i.toNat) .unk))).toNat+0);aI (fits_i64 oA:(fits .i64 (i-1))=true) (aI tT ((nx_next (Sum.inr ((i-1),((val ([(gi (limbs a) i.toNat).toNat]))-(b*((intV (nth (List.set (U l) (0+i.toNat) (.int .u32 (((val ([(gi (limbs a) i.toNat).toNat])) / b:Nat):Int))) (0+i.toNat) .unk))).toNat+0)),(List.set (U l) (0+i.toNat) (.int .u32 (((val ([(gi (limbs a) i.toNat).toNat])) / b:Nat):Int))),(l.set i.toNat (((val ([(gi (limbs a) i.toNat).toNat])) / b:Nat):Int).toNat))) (show (List.set (U l) (0+i.toNat) (.int .u32 (((val ([(gi (limbs a) i.toNat).toNat])) / b:Nat):Int)))=U (l.set i.toNat (((val ([(gi (limbs a) i.toNat).toNat])) / b:Nat):Int).toNat)∧RDiv a b (i-1) ((val ([(gi (limbs a) i.toNat).toNat]))-(b*((intV (nth (List.set (U l) (0+i.toNat) (.int .u32 (((val ([(gi (limbs a) i.toNat).toNat])) / b:Nat):Int))) (0+i.toNat) .unk))).toNat+0)) (l.set i.toNat (((val ([(gi (limbs a) i.toNat).toNat])) / b:Nat):Int).toNat) from ⟨U_set0 _ oO,rdiv_yes h1 h2 oO oO ⟨ldset_eq rfl oO,rfl⟩⟩) (show (i-1+1).toNat<(i+1).toNat by omega):r03_DivMod_0_N a b (Sum.inl (i,(U l),l)) .normal (r03_DivMod_0_mk a b (Sum.inr ((i-1),((val ([(gi (limbs a) i.toNat).toNat]))-(b*((intV (nth (List.set (U l) (0+i.toNat) (.int .u32 (((val ([(gi (limbs a) i.toNat).toNat])) / b:Nat):Int))) (0+i.toNat) .unk))).toNat+0)),(List.set (U l) (0+i.toNat) (.int .u32 (((val ([(gi (limbs a) i.toNat).toNat])) / b:Nat):Int))),(l.set i.toNat (((val ([(gi (limbs a) i.toNat).toNat])) / b:Nat):Int).toNat))))))))))))))) (fun (h108:(iGe (cmpN (val ([(gi (limbs a) i.toNat).toNat])) b) 0)=false)=>have _gh108:=iGe_f h108;aI (fits_i64 oA:(fits .i64 (i-1))=true) (aI tT ((nx_next (Sum.inr ((i-1),(val ([(gi (limbs a) i.toNat).toNat])),(U l),l)) (show (U l)=U l∧RDiv a b (i-1) (val ([(gi (limbs a) i.toNat).toNat])) l from ⟨rfl,rdiv_no h1 h2 oO oO⟩) (show (i-1+1).toNat<(i+1).toNat by omega):r03_DivMod_0_N a b (Sum.inl (i,(U l),l)) .normal (r03_DivMod_0_mk a b (Sum.inr ((i-1),(val ([(gi (limbs a) i.toNat).toNat])),(U l),l)))))))))))) (fun (h110:(iGe i 0)=false)=>have _gh110:=iGe_f h110;aI tT ((nx_exit 0 ((r03_DivMod_0_ex a b (Sum.inr (i,(U l),l))).2) (Sum.inr (i,(U l),l)) (show (U l)=U l∧RDiv a b i 0 l∧i<0 from ⟨rfl,h1,by omega⟩) rfl:r03_DivMod_0_N a b (Sum.inl (i,(U l),l)) (.exit 0) ((r03_DivMod_0_ex a b (Sum.inr (i,(U l),l))).2)))))) (by kernel_rfl)
  ·skip
   have hI:o=U l∧RDiv a b i r l:=hI
   obtain⟨rfl,h1⟩:=hI
   have ⟨p0,p1,p2,p3,p4,_⟩:=h1
   have e0:=L_len a
   have e1:=L_len b
   have g4:=U_len l
   have g0:=gi_nonneg (limbs a) i.toNat
   have g1:=gi_lt (dig_limbs a) i.toNat
   have h2:val ((gi (limbs a) i.toNat).toNat::limbs r)=(gi (limbs a) i.toNat).toNat+4294967296*r:=by simp [val,val_limbs]
   have e2:=L_len r
   have e3:=L_mono (Nat.le_of_lt p4)
   have e4:=L_mono (show r≤b by omega)
   have e5:=L_val (dig_cons g0 g1 r)
   have e6:((gi (limbs a) i.toNat).toNat::limbs r).length=L r+1:=rfl
   exact cast_ob (aI True.intro (aI (fun (h101:(iGe i 0)=true)=>have _gh101:=iGe_t h101;aI (inB_mk oA:(inB i ((lim a).length))=true) (aI (ld_L oA:(Nat.blt i.toNat (lim a).length && isIntK .u32 (nth (lim a) i.toNat .unk))=true) (aI (and_mk (and_mk (and_mk (rfl) (by first | assumption | exact U_cells _)) (st_ok oA)) (by first | rfl | (simp<;>omega) | (rw[L_len];simp)):(true && (lim r).all isCell && Nat.ble (1+(lim r).length) 1073741824 && Nat.beq ([(V.int .u32 (gi (limbs a) i.toNat))]).length 1)=true) (aI (ok_arg oA:((true && Nat.ble (0+(1+(lim r).length)) ([(V.int .u32 (gi (limbs a) i.toNat))] ++ (lim r)).length) && true)=true) (aI (r01_TrimC (List.take (1+(lim r).length) (List.drop 0 ([(V.int .u32 (gi (limbs a) i.toNat))] ++ (lim r)))) ((gi (limbs a) i.toNat).toNat::limbs r) (U_cons_take g0) (dig_cons g0 g1 r) (by rw[List.length_cons,show (limbs r).length=L r from rfl];omega)) (aI (r01_Cmp (val ((gi (limbs a) i.toNat).toNat::limbs r)) b oA oA) (have f109:=cmpN_range (val ((gi (limbs a) i.toNat).toNat::limbs r)) b;aI (fun (h102:(iGe (cmpN (val ((gi (limbs a) i.toNat).toNat::limbs r)) b) 0)=true)=>have _gh102:=iGe_t h102;aI (r03_fits (val ((gi (limbs a) i.toNat).toNat::limbs r)) b oA oA (rdiv_lt h1 h2)) (have f107:=(Int.natCast_nonneg ((val ((gi (limbs a) i.toNat).toNat::limbs r)) / b):0≤(((val ((gi (limbs a) i.toNat).toNat::limbs r)) / b:Nat):Int));have f106:=(div_lt_B (by first | omega | exact rdiv_lt h1 h2):(val ((gi (limbs a) i.toNat).toNat::limbs r)) / b<4294967296);aI (inB_mk oA:(inB i (((lim a).length:Int).toNat))=true) (aI (st_ok oA:(Nat.ble ((0+i.toNat)+1) (U l).length)=true) (aI (inB_mk oA:(inB i (((lim a).length:Int).toNat))=true) (aI (ldset_ok rfl oA:(Nat.blt (0+i.toNat) (List.set (U l) (0+i.toNat) (.int .u32 (((val ((gi (limbs a) i.toNat).toNat::limbs r)) / b:Nat):Int))).length && isIntK .u32 (nth (List.set (U l) (0+i.toNat) (.int .u32 (((val ((gi (limbs a) i.toNat).toNat::limbs r)) / b:Nat):Int))) (0+i.toNat) .unk))=true) (have f103:=(ldset_eq rfl oA:(intV (nth (List.set (U l) (0+i.toNat) (.int .u32 (((val ((gi (limbs a) i.toNat).toNat::limbs r)) / b:Nat):Int))) (0+i.toNat) .unk))=(((val ((gi (limbs a) i.toNat).toNat::limbs r)) / b:Nat):Int));aI (r02_Small b (intV (nth (List.set (U l) (0+i.toNat) (.int .u32 (((val ((gi (limbs a) i.toNat).toNat::limbs r)) / b:Nat):Int))) (0+i.toNat) .unk)) 0 oA oA oA) (have f105:=L_small0 b (intV (nth (List.set (U l) (0+i.toNat) (.int .u32 (((val ((gi (limbs a) i.toNat).toNat::limbs r)) / b:Nat):Int))) (0+i.toNat) .unk));aI (r01_Less (val ((gi (limbs a) i.toNat).toNat::limbs r)) (b*((intV (nth (List.set (U l) (0+i.toNat) (.int .u32 (((val ((gi (limbs a) i.toNat).toNat::limbs r)) / b:Nat):Int))) (0+i.toNat) .unk))).toNat+0) oA oA (rdiv_le (ldset_eq rfl oO))) (have f104:=L_sub (val ((gi (limbs a) i.toNat).toNat::limbs r)) (b*((intV (nth (List.set (U l) (0+i.toNat) (.int .u32 (((val ((gi (limbs a) i.toNat).toNat::limbs r)) / b:Nat):Int))) (0+i.toNat) .unk))).toNat+0);aI (fits_i64 oA:(fits .i64 (i-1))=true) (aI tT ((nx_next (Sum.inr ((i-1),((val ((gi (limbs a) i.toNat).toNat::limbs r))-(b*((intV (nth (List.set (U l) (0+i.toNat) (.int .u32 (((val ((gi (limbs a) i.toNat).toNat::limbs r)) / b:Nat):Int))) (0+i.toNat) .unk))).toNat+0)),(List.set (U l) (0+i.toNat) (.int .u32 (((val ((gi (limbs a) i.toNat).toNat::limbs r)) / b:Nat):Int))),(l.set i.toNat (((val ((gi (limbs a) i.toNat).toNat::limbs r)) / b:Nat):Int).toNat))) (show (List.set (U l) (0+i.toNat) (.int .u32 (((val ((gi (limbs a) i.toNat).toNat::limbs r)) / b:Nat):Int)))=U (l.set i.toNat (((val ((gi (limbs a) i.toNat).toNat::limbs r)) / b:Nat):Int).toNat)∧RDiv a b (i-1) ((val ((gi (limbs a) i.toNat).toNat::limbs r))-(b*((intV (nth (List.set (U l) (0+i.toNat) (.int .u32 (((val ((gi (limbs a) i.toNat).toNat::limbs r)) / b:Nat):Int))) (0+i.toNat) .unk))).toNat+0)) (l.set i.toNat (((val ((gi (limbs a) i.toNat).toNat::limbs r)) / b:Nat):Int).toNat) from ⟨U_set0 _ oO,rdiv_yes h1 h2 oO oO ⟨ldset_eq rfl oO,rfl⟩⟩) (show (i-1+1).toNat<(i+1).toNat by omega):r03_DivMod_0_N a b (Sum.inr (i,r,(U l),l)) .normal (r03_DivMod_0_mk a b (Sum.inr ((i-1),((val ((gi (limbs a) i.toNat).toNat::limbs r))-(b*((intV (nth (List.set (U l) (0+i.toNat) (.int .u32 (((val ((gi (limbs a) i.toNat).toNat::limbs r)) / b:Nat):Int))) (0+i.toNat) .unk))).toNat+0)),(List.set (U l) (0+i.toNat) (.int .u32 (((val ((gi (limbs a) i.toNat).toNat::limbs r)) / b:Nat):Int))),(l.set i.toNat (((val ((gi (limbs a) i.toNat).toNat::limbs r)) / b:Nat):Int).toNat))))))))))))))) (fun (h108:(iGe (cmpN (val ((gi (limbs a) i.toNat).toNat::limbs r)) b) 0)=false)=>have _gh108:=iGe_f h108;aI (fits_i64 oA:(fits .i64 (i-1))=true) (aI tT ((nx_next (Sum.inr ((i-1),(val ((gi (limbs a) i.toNat).toNat::limbs r)),(U l),l)) (show (U l)=U l∧RDiv a b (i-1) (val ((gi (limbs a) i.toNat).toNat::limbs r)) l from ⟨rfl,rdiv_no h1 h2 oO oO⟩) (show (i-1+1).toNat<(i+1).toNat by omega):r03_DivMod_0_N a b (Sum.inr (i,r,(U l),l)) .normal (r03_DivMod_0_mk a b (Sum.inr ((i-1),(val ((gi (limbs a) i.toNat).toNat::limbs r)),(U l),l)))))))))))))) (fun (h110:(iGe i 0)=false)=>have _gh110:=iGe_f h110;aI tT ((nx_exit 0 ((r03_DivMod_0_ex a b (Sum.inl (i,r,(U l),l))).2) (Sum.inl (i,r,(U l),l)) (show (U l)=U l∧RDiv a b i r l∧i<0 from ⟨rfl,h1,by omega⟩) rfl:r03_DivMod_0_N a b (Sum.inr (i,r,(U l),l)) (.exit 0) ((r03_DivMod_0_ex a b (Sum.inl (i,r,(U l),l))).2)))))) (by kernel_rfl))
theorem r03_DivMod (a:Nat)(b:Nat)(c0:L a≤33554432)(c1:L b≤16777216)(c2:0<b):Impl Tryz.prog Amb 214 [(N a),(N b)] (.tup [(N (a / b)),(N (a%b)),(.bool true)]):=by
 have e0:=L_len a
 have e1:=L_len b
 have e2:=L_pos_iff b
 exact impl_ob hP hAmb Tryz.func214 (by kernel_rfl) (.lit<|.no<|.yes<|.lit<|.yes<|.loop2 ⟨[0,1,7,8,9],1,[]⟩ ((r03_DivMod_0_mk a b (Sum.inl ((((lim a).length:Int)-1),(List.replicate (((lim a).length:Int).toNat) (.int .u32 0)),(List.replicate (L a) 0))))) (Int × Nat × List V × List Nat) (Int × List V × List Nat) (r03_DivMod_0_ex a b) (r03_DivMod_0_J a b) (fun y=>.yes<|.call (N (val y.2.2.2))<|.lit<|.ret) (fun y=>.yes<|.call (N (val y.2.2))<|.lit<|.ret))
  (cast_ob (aI True.intro (aI (iEq_mkF oO:(iEq ((lim b).length:Int) 0)=false) (aI (mk_ok oA:(((iEq ((lim a).length:Int) ((lim a).length:Int)) && (iLe 0 ((lim a).length:Int))) && (iLe ((lim a).length:Int) 1073741824))=true) (aI (fits_i64 oA:(fits .i64 (((lim a).length:Int)-1))=true) (aI tT (aI (rfl:(r03_DivMod_0_mk a b (Sum.inl ((((lim a).length:Int)-1),(List.replicate (((lim a).length:Int).toNat) (.int .u32 0)),(List.replicate (L a) 0))))=(r03_DivMod_0_mk a b (Sum.inl ((((lim a).length:Int)-1),(List.replicate (((lim a).length:Int).toNat) (.int .u32 0)),(List.replicate (L a) 0))))) (aI (r03_DivMod_0 a b oO oO oO (Sum.inl ((((lim a).length:Int)-1),(List.replicate (((lim a).length:Int).toNat) (.int .u32 0)),(List.replicate (L a) 0))) (show (List.replicate (((lim a).length:Int).toNat) (.int .u32 0))=U (List.replicate (L a) 0)∧RDiv a b (((lim a).length:Int)-1) 0 (List.replicate (L a) 0) from ⟨by rw[show (((lim a).length:Int)).toNat=L a by omega];exact U_rep _,by rw[L_len];exact rdiv_init c2⟩)) (aI (fun (y:Int × Nat × List V × List Nat) (hJ:r03_DivMod_0_J a b (.inl y))=>have hJ:y.2.2.1=U y.2.2.2∧RDiv a b y.1 y.2.1 y.2.2.2∧y.1<0:=hJ;have ⟨q0,q1,q2⟩:=hJ;have ⟨q3,q4,q5,q6⟩:=rdiv_end q1 q2;have q7:y.2.2.1.length=L a:=(by rw[q0,U_len,q4]);aI (ok_arg oA:((true && Nat.ble (0+((lim a).length:Int).toNat) y.2.2.1.length) && true)=true) (aI (r01_TrimC (List.take (((lim a).length:Int).toNat) (List.drop 0 y.2.2.1)) y.2.2.2 (tkU q0 oO) q3 oO) ((by rw[q5,q6];exact vsub_refl _:vsub (.tup [(N (val y.2.2.2)),(N y.2.1),(.bool true)]) (.tup [(N (a / b)),(N (a%b)),(.bool true)]))))) (fun (y:Int × List V × List Nat) (hJ:r03_DivMod_0_J a b (.inr y))=>have hJ:y.2.1=U y.2.2∧RDiv a b y.1 0 y.2.2∧y.1<0:=hJ;have ⟨q0,q1,q2⟩:=hJ;have ⟨q3,q4,q5,q6⟩:=rdiv_end q1 q2;have q7:y.2.1.length=L a:=(by rw[q0,U_len,q4]);aI (ok_arg oA:((true && Nat.ble (0+((lim a).length:Int).toNat) y.2.1.length) && true)=true) (aI (r01_TrimC (List.take (((lim a).length:Int).toNat) (List.drop 0 y.2.1)) y.2.2 (tkU q0 oO) q3 oO) ((by rw[q5,← q6];exact vsub_tup3 (vsub_refl _) (by show vsub .nil (.sl 1 (U (limbs 0)));rw[limbs_zero];exact vsub_nil 1) (vsub_refl _):vsub (.tup [(N (val y.2.2)),.nil,(.bool true)]) (.tup [(N (a / b)),(N (a%b)),(.bool true)]))))))))))))) (by kernel_rfl))

end Go.Proofs.YtkkbddkpggjgpaaGreatDoor

namespace Go.Proofs.YtkkbddkpggjgpaaGreatDoor
theorem L_sgn (b:Bool)(a:Nat):L (sgn b a).natAbs=L a:=by rw[sgn_abs]
theorem L_u64 {a:Nat}(h:a<18446744073709551616){k:Nat}(hk:2≤k:=by omega):L a≤k:=Nat.le_trans (L_le (k:=2) (by omega)) hk
theorem L_i64 {n:Int}(h:(-9223372036854775808:Int)≤n∧n≤9223372036854775807):L n.natAbs≤2:=L_le (by omega)
theorem of5_1 {n:Int}(h:n<0∧-9223372036854775808≤n):sgn (iLt n 0) (IntKind.wrap .u64 (0-IntKind.wrap .u64 n)).toNat=n:=by
 rw[show iLt n 0=true from iLt_mk h.1,wrap_u64,wrap_u64]
 unfold sgn;simp;omega
theorem of5_2 {n:Int}(h:0≤n∧n≤9223372036854775807):sgn (iLt n 0) (IntKind.wrap .u64 n).toNat=n:=by
 rw[show iLt n 0=false from iLt_mkF h.1,wrap_u64]
 unfold sgn;simp;omega
theorem L_abs_sub (x y:Int):L (x-y).natAbs≤max (L x.natAbs) (L y.natAbs)+1:=by
 have:=L_abs_add x (-y)
 rw[L_abs_neg] at this
 exact this
theorem cmpI_range (x y:Int):(cmpI x y=-1∧x<y)∨(cmpI x y=1∧y<x)∨(cmpI x y=0∧x=y):=by
 unfold cmpI
 split
 ·exact .inl ⟨rfl,by assumption⟩
 ·split
  ·exact .inr (.inl ⟨rfl,by assumption⟩)
  ·exact .inr (.inr ⟨rfl,by omega⟩)
theorem sign_sub (x y:Int):(x-y).sign=cmpI x y:=by
 rcases cmpI_range x y with ⟨h,h1⟩ | ⟨h,h1⟩ | ⟨h,h1⟩<;>rw[h]
 ·exact Int.sign_eq_neg_one_of_neg (by omega)
 ·exact Int.sign_eq_one_of_pos (by omega)
 ·rw[show x-y=0 by omega];rfl
theorem L_abs_shl (x:Int)(k:Nat):L (x*2^k).natAbs≤L x.natAbs+k / 32+1:=by
 rw[Int.natAbs_mul,Int.natAbs_pow];exact L_shl _ _
theorem natAbs_div_le (x:Int)(k:Nat):(x / 2^k).natAbs≤x.natAbs:=by
 rw[pow_cast]
 have hp:0<2^k:=Nat.pow_pos (by omega)
 rcases Int.lt_or_le x 0 with h | h
 ·have h1:x≤x / ((2^k:Nat):Int):=by
   rw[Int.le_ediv_iff_mul_le (by omega)]
   have:x*((2^k:Nat):Int)≤x*1:=Int.mul_le_mul_of_nonpos_left (by omega) (by omega)
   omega
  have h2:x / ((2^k:Nat):Int)<0:=Int.ediv_neg_of_neg_of_pos h (by omega)
  omega
 ·have h1:x / ((2^k:Nat):Int)≤x:=Int.ediv_le_self _ h
  have h2:0≤x / ((2^k:Nat):Int):=Int.ediv_nonneg h (by omega)
  omega
theorem L_abs_shr (x:Int)(k:Nat):L (x / 2^k).natAbs≤L x.natAbs:=L_mono (natAbs_div_le x k)
theorem fdiv_unique {x y q:Int}(hy:y≠0)(h:(0<y∧q*y≤x∧x<q*y+y)∨(y<0∧x≤q*y∧q*y+y<x)):Int.fdiv x y=q:=by
 rcases h with ⟨h0,h1,h2⟩ | ⟨h0,h1,h2⟩
 ·rw[Int.fdiv_eq_ediv_of_nonneg _ (by omega)]
  have a:=(Int.le_ediv_iff_mul_le h0).2 h1
  have b:x / y<q+1:=by
   rw[Int.ediv_lt_iff_lt_mul h0,Int.add_mul];omega
  omega
 ·rw[← Int.neg_fdiv_neg,Int.fdiv_eq_ediv_of_nonneg _ (by omega)]
  have e:q*-y=-(q*y):=Int.mul_neg ..
  have a:q≤-x / -y:=(Int.le_ediv_iff_mul_le (by omega)).2 (by rw[e];omega)
  have b:-x / -y<q+1:=by
   rw[Int.ediv_lt_iff_lt_mul (by omega),Int.add_mul,e];omega
  omega
theorem abs_div (x y:Int)(hy:y≠0):∃ q r:Int,0≤q∧0≤r∧(x.natAbs / y.natAbs:Nat)=q.toNat∧(x.natAbs%y.natAbs:Nat)=r.toNat∧r<y.natAbs∧(x.natAbs:Int)=q*y.natAbs+r:=by
 refine⟨((x.natAbs / y.natAbs:Nat):Int),((x.natAbs%y.natAbs:Nat):Int),Int.natCast_nonneg _,Int.natCast_nonneg _,(Int.toNat_natCast _).symm,(Int.toNat_natCast _).symm,?_,?_⟩
 ·have:=Nat.mod_lt x.natAbs (show 0<y.natAbs by omega);omega
 ·have:=Nat.div_add_mod x.natAbs y.natAbs
  rw[Nat.mul_comm] at this
  rw[← Int.natCast_mul,← Int.natCast_add,this]
theorem dm5_1 {x y:Int}(hy:y≠0)(hs:(!bEq (decide (x<0)) (decide (y<0)))=true)(hr:0<x.natAbs%y.natAbs):sgn (!bEq (decide (x<0)) (decide (y<0))) (x.natAbs / y.natAbs)-1=Int.fdiv x y:=by
 symm
 rw[hs,sgn_t]
 have hs:=bEq_f (notb_t hs)
 obtain⟨q,r,h0,h1,h2,h3,h4,h5⟩:=abs_div x y hy
 rw[h2,Int.toNat_of_nonneg h0]
 apply fdiv_unique hy
 rcases Int.lt_or_le y 0 with h | h
 ·refine .inr ⟨h,?_⟩
  have e:(y.natAbs:Int)=-y:=by omega
  rw[e] at h5 h4
  have e2:(x.natAbs:Int)=x:=by omega
  rw[Int.sub_mul,Int.neg_mul,Int.one_mul]
  rw[Int.mul_neg] at h5
  omega
 ·refine .inl ⟨by omega,?_⟩
  have e:(y.natAbs:Int)=y:=by omega
  rw[e] at h5 h4
  have e2:(x.natAbs:Int)=-x:=by omega
  rw[Int.sub_mul,Int.neg_mul,Int.one_mul]
  omega
theorem dm5_2 {x y:Int}(hy:y≠0)(hr:x.natAbs%y.natAbs=0):sgn (!bEq (decide (x<0)) (decide (y<0))) (x.natAbs / y.natAbs)=Int.fdiv x y:=by
 symm
 obtain⟨q,r,h0,h1,h2,h3,h4,h5⟩:=abs_div x y hy
 apply fdiv_unique hy
 have hr0:r=0:=by omega
 rw[h2]
 cases hb:bEq (decide (x<0)) (decide (y<0)) with
 | true =>
  have hs:=bEq_t hb
  simp only [Bool.not_true,sgn_f]
  rw[Int.toNat_of_nonneg h0]
  rcases Int.lt_or_le y 0 with h | h
  ·refine .inr ⟨h,?_⟩
   rw[show (y.natAbs:Int)=-y by omega,Int.mul_neg] at h5
   omega
  ·refine .inl ⟨by omega,?_⟩
   rw[show (y.natAbs:Int)=y by omega] at h5
   omega
 | false =>
  have hs:=bEq_f hb
  simp only [Bool.not_false,sgn_t]
  rw[Int.toNat_of_nonneg h0,Int.neg_mul]
  rcases Int.lt_or_le y 0 with h | h
  ·refine .inr ⟨h,?_⟩
   rw[show (y.natAbs:Int)=-y by omega,Int.mul_neg] at h5
   omega
  ·refine .inl ⟨by omega,?_⟩
   rw[show (y.natAbs:Int)=y by omega] at h5
   omega
theorem dm5_3 {x y:Int}(hy:y≠0)(hs:(!bEq (decide (x<0)) (decide (y<0)))=false):sgn (!bEq (decide (x<0)) (decide (y<0))) (x.natAbs / y.natAbs)=Int.fdiv x y:=by
 symm
 rw[hs,sgn_f]
 have hs:=bEq_t (notb_f hs)
 obtain⟨q,r,h0,h1,h2,h3,h4,h5⟩:=abs_div x y hy
 apply fdiv_unique hy
 rw[h2,Int.toNat_of_nonneg h0]
 rcases Int.lt_or_le y 0 with h | h
 ·refine .inr ⟨h,?_⟩
  rw[show (y.natAbs:Int)=-y by omega,Int.mul_neg] at h5
  rw[show (y.natAbs:Int)=-y by omega] at h4
  omega
 ·refine .inl ⟨by omega,?_⟩
  rw[show (y.natAbs:Int)=y by omega] at h5 h4
  omega
theorem L_fdiv (x y:Int):L (Int.fdiv x y).natAbs≤L x.natAbs+1:=by
 by_cases hy:y=0
 ·subst hy;rw[Int.fdiv_zero];simp [L_zero]
 ·have l0:=L_div x.natAbs y.natAbs
  have l1:=L_sgn (!bEq (decide (x<0)) (decide (y<0))) (x.natAbs / y.natAbs)
  have l2:=L_abs_sub (sgn (!bEq (decide (x<0)) (decide (y<0))) (x.natAbs / y.natAbs)) 1
  have l3:=L_le (n:=1) (k:=1) (by decide)
  by_cases hs:(!bEq (decide (x<0)) (decide (y<0)))=true
  ·by_cases hr:0<x.natAbs%y.natAbs
   ·rw[← dm5_1 hy hs hr]
    by_cases hx:L x.natAbs=0
    ·have:=(L_pos_iff x.natAbs)
     have hx0:x.natAbs=0:=by omega
     rw[hx0] at hr;simp at hr
    ·simp only [Int.natAbs_one] at l2;omega
   ·rw[← dm5_2 hy (by omega)];omega
  ·rw[← dm5_3 hy (by simpa using hs)];omega
theorem sgn_one {b:Bool}(h:b=true)(k:Nat):sgn b (k+1)=sgn b k-1:=by subst h;rw[sgn_t,sgn_t];omega
theorem rm5_1 {x y:Int}(hy:y≠0)(hs:(!bEq (decide (x<0)) (decide (y<0)))=true)(hr:0<x.natAbs%y.natAbs):sgn (decide (y<0)) (y.natAbs-x.natAbs%y.natAbs)=x-Int.fdiv x y*y:=by
 rw[← dm5_1 hy hs hr,hs,sgn_t]
 have hs:=bEq_f (notb_t hs)
 obtain⟨q,r,h0,h1,h2,h3,h4,h5⟩:=abs_div x y hy
 rw[h2,h3,Int.toNat_of_nonneg h0,Int.sub_mul,Int.neg_mul,Int.one_mul]
 rcases Int.lt_or_le y 0 with h | h
 ·rw[decide_eq_true h,sgn_t]
  rw[show (y.natAbs:Int)=-y by omega,Int.mul_neg] at h5
  omega
 ·rw[decide_eq_false (by omega),sgn_f]
  rw[show (y.natAbs:Int)=y by omega] at h5
  omega
theorem rm5_2 {x y:Int}(hy:y≠0)(hr:x.natAbs%y.natAbs=0):sgn (decide (y<0)) (x.natAbs%y.natAbs)=x-Int.fdiv x y*y:=by
 rw[← dm5_2 hy hr,hr]
 have e0:sgn (decide (y<0)) 0=0:=by unfold sgn;split<;>rfl
 rw[e0]
 have h:=Nat.div_add_mod x.natAbs y.natAbs
 rw[hr,Nat.add_zero] at h
 have h2:((x.natAbs / y.natAbs:Nat):Int)*y.natAbs=x.natAbs:=by rw[← Int.natCast_mul,Nat.mul_comm,h]
 generalize ((x.natAbs / y.natAbs:Nat))=q at *
 cases hb:bEq (decide (x<0)) (decide (y<0)) with
 | true =>
  have hs:=bEq_t hb
  simp only [Bool.not_true,sgn_f]
  rcases Int.lt_or_le y 0 with h | h
  ·rw[show (y.natAbs:Int)=-y by omega,Int.mul_neg] at h2;omega
  ·rw[show (y.natAbs:Int)=y by omega] at h2;omega
 | false =>
  have hs:=bEq_f hb
  simp only [Bool.not_false,sgn_t]
  rw[Int.neg_mul]
  rcases Int.lt_or_le y 0 with h | h
  ·rw[show (y.natAbs:Int)=-y by omega,Int.mul_neg] at h2;omega
  ·rw[show (y.natAbs:Int)=y by omega] at h2;omega
theorem rm5_3 {x y:Int}(hy:y≠0)(hs:(!bEq (decide (x<0)) (decide (y<0)))=false):sgn (decide (y<0)) (x.natAbs%y.natAbs)=x-Int.fdiv x y*y:=by
 rw[← dm5_3 hy hs,hs,sgn_f]
 have hs:=bEq_t (notb_f hs)
 obtain⟨q,r,h0,h1,h2,h3,h4,h5⟩:=abs_div x y hy
 rw[h2,h3,Int.toNat_of_nonneg h0]
 rcases Int.lt_or_le y 0 with h | h
 ·rw[decide_eq_true h,sgn_t]
  rw[show (y.natAbs:Int)=-y by omega,Int.mul_neg] at h5
  omega
 ·rw[decide_eq_false (by omega),sgn_f]
  rw[show (y.natAbs:Int)=y by omega] at h5
  omega
theorem L_rm (x y:Int):L (x-Int.fdiv x y*y).natAbs≤max (L x.natAbs) (L (Int.fdiv x y).natAbs+L y.natAbs)+1:=by
 have h1:=L_abs_sub x (Int.fdiv x y*y)
 have h2:=L_abs_mul (Int.fdiv x y) y
 omega
end Go.Proofs.YtkkbddkpggjgpaaGreatDoor

namespace Go.Proofs.YtkkbddkpggjgpaaGreatDoor
open Go.RowKit
set_option maxRecDepth 100000
theorem r05_Nat (b:Bool)(a:Nat)(c0:L a≤67108864):Impl Tryz.prog Amb 53 [(.bool b),(N a)] (zV (sgn b a)):=by
 have e0:=L_len a
 exact impl_ob hP hAmb Tryz.func53 (by kernel_rfl) (.lit<|.call (N a)<|.both (.lits 7<|.ret) (.lits 6<|.ret))
  (cast_ob (aI True.intro (aI (r01_TrimN a oA) (aI (fun (h1:b=true)=>(nat_ret1 h1 a:vsub (.agg [(.bool (iGt ((lim a).length:Int) 0)),(N a)]) (zV (sgn b a)))) (fun (h2:b=false)=>(nat_ret2 h2 a:vsub (.agg [(.bool false),(N a)]) (zV (sgn b a))))))) (by kernel_rfl))
theorem r05_Of (n:Int)(c0:(-9223372036854775808:Int)≤n∧n≤9223372036854775807):Impl Tryz.prog Amb 45 [(.int .i64 n)] (zV n):=by
 have w0:=wrap_u64 n
 have w1:=wrap_u64 (0-IntKind.wrap .u64 n)
 have l0:=L_i64 c0
 exact impl_ob hP hAmb Tryz.func45 (by kernel_rfl) (.lit<|.no<|.lit<|.both (.lit<|.no<|.lits 2<|.call (N (((IntKind.wrap .u64 ((0:Int)-(IntKind.wrap .u64 n)))).toNat))<|.lit<|.call (zV (sgn (iLt n 0) (((IntKind.wrap .u64 ((0:Int)-(IntKind.wrap .u64 n)))).toNat)))<|.lits 2<|.ret) (.lits 2<|.call (N (((IntKind.wrap .u64 n)).toNat))<|.lit<|.call (zV (sgn (iLt n 0) (((IntKind.wrap .u64 n)).toNat)))<|.lits 2<|.ret))
  (cast_ob (aI True.intro (aI (fun (h1:(iLt n 0)=true)=>have _gh1:=iLt_t h1;aI (r01_Of (IntKind.wrap .u64 ((0:Int)-(IntKind.wrap .u64 n))) (by rw[wrap_u64];omega)) (aI (r05_Nat (iLt n 0) (((IntKind.wrap .u64 ((0:Int)-(IntKind.wrap .u64 n)))).toNat) (L_u64 oO)) (have f2:=L_sgn (iLt n 0) (((IntKind.wrap .u64 ((0:Int)-(IntKind.wrap .u64 n)))).toNat);(Z_of (of5_1 oO):vsub (zV (sgn (iLt n 0) (((IntKind.wrap .u64 ((0:Int)-(IntKind.wrap .u64 n)))).toNat))) (zV n))))) (fun (h3:(iLt n 0)=false)=>have _gh3:=iLt_f h3;aI (r01_Of (IntKind.wrap .u64 n) (by rw[wrap_u64];omega)) (aI (r05_Nat (iLt n 0) (((IntKind.wrap .u64 n)).toNat) (L_u64 oO)) (have f4:=L_sgn (iLt n 0) (((IntKind.wrap .u64 n)).toNat);(Z_of (of5_2 oO):vsub (zV (sgn (iLt n 0) (((IntKind.wrap .u64 n)).toNat))) (zV n))))))) (by kernel_rfl))
theorem r05_Sign (x:Int)(c0:L (x).natAbs≤67108864):Impl Tryz.prog Amb 125 [(zV x)] (.int .i64 ((x).sign)):=by
 have e0:=L_len x.natAbs
 have e1:=L_pos_iff x.natAbs
 exact impl_ob hP hAmb Tryz.func125 (by kernel_rfl) (.lits 2<|.both (.lit<|.ret) (.lit<|.both (.lit<|.ret) (.lit<|.ret)))
  (cast_ob (aI True.intro (aI (fun (h1:(iEq ((lim x.natAbs).length:Int) 0)=true)=>have _gh1:=iEq_t h1;(vsub_of (congrArg (V.int .i64) (by rw[show x=0 by omega];rfl)):vsub (.int .i64 0) (.int .i64 ((x).sign)))) (fun (h2:(iEq ((lim x.natAbs).length:Int) 0)=false)=>have _gh2:=iEq_f h2;aI (fun (h3:(decide (x<0))=true)=>have _gh3:=of_decide_eq_true h3;(vsub_of (congrArg (V.int .i64) (Int.sign_eq_neg_one_of_neg oO).symm):vsub (.int .i64 (-1)) (.int .i64 ((x).sign)))) (fun (h4:(decide (x<0))=false)=>have _gh4:=of_decide_eq_false h4;(vsub_of (congrArg (V.int .i64) (Int.sign_eq_one_of_pos oO).symm):vsub (.int .i64 1) (.int .i64 ((x).sign))))))) (by kernel_rfl))
theorem r05_Valid (x:Int)(c0:L (x).natAbs≤67108864):Impl Tryz.prog Amb 169 [(zV x)] (.bool true):=by
 have e0:=L_len x.natAbs
 have e1:=L_pos_iff x.natAbs
 exact impl_ob hP hAmb Tryz.func169 (by kernel_rfl) (.lits 2<|.call (.bool true)<|.lits 6<|.both (.lits 7<|.ret) (.lits 9<|.ret))
  (cast_ob (aI True.intro (aI (r01_Valid x.natAbs oA) (aI (fun (h1:(!(decide (x<0)))=true)=>have _gh1:=of_decide_eq_false (notb_t h1);(vsub_refl (.bool true))) (fun (h2:(!(decide (x<0)))=false)=>have _gh2:=of_decide_eq_true (notb_f h2);(vsub_of (congrArg V.bool (by first | rfl | (apply iGt_mk;omega) | (apply iGt_mk;rw[L_len];omega) | simp_all | (simp;omega))):vsub (.bool (iGt ((lim x.natAbs).length:Int) 0)) (.bool true)))))) (by kernel_rfl))
theorem r05_Neg (x:Int)(c0:L (x).natAbs≤67108864):Impl Tryz.prog Amb 117 [(zV x)] (zV (-x)):=by
 exact impl_ob hP hAmb Tryz.func117 (by kernel_rfl) (.lits 4<|.call (zV (sgn (!(decide (x<0))) x.natAbs))<|.lits 2<|.ret)
  (cast_ob (aI True.intro (aI (r05_Nat (!(decide (x<0))) x.natAbs oA) (have f1:=L_sgn (!(decide (x<0))) x.natAbs;(Z_of (by unfold sgn;by_cases h:x<0<;>simp [h]<;>omega):vsub (zV (sgn (!(decide (x<0))) x.natAbs)) (zV (-x)))))) (by kernel_rfl))
theorem r05_Add (x y:Int)(c0:L (x).natAbs≤50331648)(c1:L (y).natAbs≤50331648):Impl Tryz.prog Amb 109 [(zV x),(zV y)] (zV (x+y)):=by
 exact impl_ob hP hAmb Tryz.func109 (by kernel_rfl) (.lits 3<|.both (.lits 4<|.call (N (x.natAbs+y.natAbs))<|.lit<|.call (zV (sgn (decide (x<0)) (x.natAbs+y.natAbs)))<|.lits 2<|.ret) (.lits 3<|.call (.int .i64 (cmpN x.natAbs y.natAbs))<|.lit<|.both (.lits 4<|.call (N (y.natAbs-x.natAbs))<|.lit<|.call (zV (sgn (decide (y<0)) (y.natAbs-x.natAbs)))<|.lits 2<|.ret) (.lits 4<|.call (N (x.natAbs-y.natAbs))<|.lit<|.call (zV (sgn (decide (x<0)) (x.natAbs-y.natAbs)))<|.lits 2<|.ret)))
  (cast_ob (aI True.intro (aI (fun (h1:(bEq (decide (x<0)) (decide (y<0)))=true)=>have _gh1:=bEq_t h1;aI (r01_Add x.natAbs y.natAbs (by first | omega | (have:=cmpN_range x.natAbs y.natAbs;omega)) (by first | omega | (have:=cmpN_range x.natAbs y.natAbs;omega))) (have f3:=L_add x.natAbs y.natAbs;aI (r05_Nat (decide (x<0)) (x.natAbs+y.natAbs) (by first | omega | (have:=cmpN_range x.natAbs y.natAbs;omega))) (have f2:=L_sgn (decide (x<0)) (x.natAbs+y.natAbs);(Z_of (sgn_nat (fun h=>by omega) (fun h=>by omega)):vsub (zV (sgn (decide (x<0)) (x.natAbs+y.natAbs))) (zV (x+y)))))) (fun (h4:(bEq (decide (x<0)) (decide (y<0)))=false)=>have _gh4:=bEq_f h4;aI (r01_Cmp x.natAbs y.natAbs (by first | omega | (have:=cmpN_range x.natAbs y.natAbs;omega)) (by first | omega | (have:=cmpN_range x.natAbs y.natAbs;omega))) (have f11:=cmpN_range x.natAbs y.natAbs;aI (fun (h5:(iLt (cmpN x.natAbs y.natAbs) 0)=true)=>have _gh5:=iLt_t h5;aI (r01_Less y.natAbs x.natAbs (by first | omega | (have:=cmpN_range x.natAbs y.natAbs;omega)) (by first | omega | (have:=cmpN_range x.natAbs y.natAbs;omega)) (by first | omega | (have:=cmpN_range x.natAbs y.natAbs;omega))) (have f7:=L_sub y.natAbs x.natAbs;aI (r05_Nat (decide (y<0)) (y.natAbs-x.natAbs) (by first | omega | (have:=cmpN_range x.natAbs y.natAbs;omega))) (have f6:=L_sgn (decide (y<0)) (y.natAbs-x.natAbs);(Z_of (sgn_nat (fun h=>by omega) (fun h=>by omega)):vsub (zV (sgn (decide (y<0)) (y.natAbs-x.natAbs))) (zV (x+y)))))) (fun (h8:(iLt (cmpN x.natAbs y.natAbs) 0)=false)=>have _gh8:=iLt_f h8;aI (r01_Less x.natAbs y.natAbs (by first | omega | (have:=cmpN_range x.natAbs y.natAbs;omega)) (by first | omega | (have:=cmpN_range x.natAbs y.natAbs;omega)) (by first | omega | (have:=cmpN_range x.natAbs y.natAbs;omega))) (have f10:=L_sub x.natAbs y.natAbs;aI (r05_Nat (decide (x<0)) (x.natAbs-y.natAbs) (by first | omega | (have:=cmpN_range x.natAbs y.natAbs;omega))) (have f9:=L_sgn (decide (x<0)) (x.natAbs-y.natAbs);(Z_of (sgn_nat (fun h=>by omega) (fun h=>by omega)):vsub (zV (sgn (decide (x<0)) (x.natAbs-y.natAbs))) (zV (x+y)))))))))) (by kernel_rfl))
theorem r05_Sub (x y:Int)(c0:L (x).natAbs≤50331648)(c1:L (y).natAbs≤50331648):Impl Tryz.prog Amb 126 [(zV x),(zV y)] (zV (x-y)):=by
 exact impl_ob hP hAmb Tryz.func126 (by kernel_rfl) (.lits 3<|.call (zV (-y))<|.lit<|.call (zV (x+(-y)))<|.lits 2<|.ret)
  (cast_ob (aI True.intro (aI (r05_Neg y oA) (have f2:=L_abs_neg y;aI (r05_Add x (-y) oA oA) (have f1:=L_abs_add x (-y);(Z_of oO:vsub (zV (x+(-y))) (zV (x-y))))))) (by kernel_rfl))
theorem r05_Mul (x y:Int)(c0:L (x).natAbs≤33554432)(c1:L (y).natAbs≤33554432):Impl Tryz.prog Amb 82 [(zV x),(zV y)] (zV (x*y)):=by
 exact impl_ob hP hAmb Tryz.func82 (by kernel_rfl) (.lits 6<|.call (N (x.natAbs*y.natAbs))<|.lit<|.call (zV (sgn (!(bEq (decide (x<0)) (decide (y<0)))) (x.natAbs*y.natAbs)))<|.lits 2<|.ret)
  (cast_ob (aI True.intro (aI (r02_Mul x.natAbs y.natAbs oA oA) (have f2:=L_mul x.natAbs y.natAbs;aI (r05_Nat (!(bEq (decide (x<0)) (decide (y<0)))) (x.natAbs*y.natAbs) oA) (have f1:=L_sgn (!(bEq (decide (x<0)) (decide (y<0)))) (x.natAbs*y.natAbs);(Z_of (sgn_mul x y):vsub (zV (sgn (!(bEq (decide (x<0)) (decide (y<0)))) (x.natAbs*y.natAbs))) (zV (x*y))))))) (by kernel_rfl))
theorem r05_Cmp (x y:Int)(c0:L (x).natAbs≤50331648)(c1:L (y).natAbs≤50331648):Impl Tryz.prog Amb 67 [(zV x),(zV y)] (.int .i64 (cmpI x y)):=by
 exact impl_ob hP hAmb Tryz.func67 (by kernel_rfl) (.lits 3<|.call (zV (x-y))<|.lit<|.call (.int .i64 (((x-y)).sign))<|.lit<|.ret)
  (cast_ob (aI True.intro (aI (r05_Sub x y oA oA) (have f1:=L_abs_sub x y;aI (r05_Sign (x-y) oA) ((vsub_of (congrArg (V.int .i64) (sign_sub x y)):vsub (.int .i64 (((x-y)).sign)) (.int .i64 (cmpI x y))))))) (by kernel_rfl))
theorem r05_Shl (x n:Int)(c0:L (x).natAbs≤50331648)(c1:(0:Int)≤n∧n≤1048576):Impl Tryz.prog Amb 68 [(zV x),(.int .i64 n)] (zV (x*2^(n).toNat)):=by
 exact impl_ob hP hAmb Tryz.func68 (by kernel_rfl) (.lits 3<|.call (N (x.natAbs*2^(n).toNat))<|.lit<|.call (zV (sgn (decide (x<0)) (x.natAbs*2^(n).toNat)))<|.lits 2<|.ret)
  (cast_ob (aI True.intro (aI (r01_Shl x.natAbs n oA oA) (have f2:=L_shl x.natAbs (n).toNat;aI (r05_Nat (decide (x<0)) (x.natAbs*2^(n).toNat) oA) (have f1:=L_sgn (decide (x<0)) (x.natAbs*2^(n).toNat);(Z_of (sgn_shl x _):vsub (zV (sgn (decide (x<0)) (x.natAbs*2^(n).toNat))) (zV (x*2^(n).toNat))))))) (by kernel_rfl))
end Go.Proofs.YtkkbddkpggjgpaaGreatDoor

namespace Go.Proofs.YtkkbddkpggjgpaaGreatDoor
def vdb (m e:Int):Bool:=if m=0 then decide (e=0) else decide (nbits m.natAbs≤65536) && decide (-65536≤e) && decide (e≤65536) && m.natAbs.testBit 0
def dm (m:Int):Int:=sgn (decide (m<0)) (m.natAbs / 2^tz m.natAbs)
def de (m e:Int):Int:=e+(tz m.natAbs:Int)
def mkE (m e:Int):Int:=if e < -131072∨131072<e then 1 else if m=0 then 0 else if vdb (dm m) (de m e)=true then 0 else 3
def mkM (m e:Int):Int:=if mkE m e=0 then dm m else 0
def mkX (m e:Int):Int:=if mkE m e=0∧m≠0 then de m e else 0
def exE (m e:Int):Int:=if mkE m e=0 then 0 else 3
def cmpD (m e n f:Int):Int:=cmpI (m*2^(e-iMin e f).toNat) (n*2^(f-iMin e f).toNat)
def topD (m e:Int):Int:=if m=0 then 0 else (nbits m.natAbs:Int)+e
def adS (m e n f:Int):Int:=m*2^(e-iMin e f).toNat+n*2^(f-iMin e f).toNat
theorem vdb_1 {m e:Int}(h:m=0):iEq e 0=vdb m e:=by unfold vdb iEq;rw[if_pos h];by_cases q:e=0<;>simp [q]
theorem vdb_2 {m e:Int}(h:m≠0∧nbits m.natAbs≤65536∧-65536≤e∧e≤65536):m.natAbs.testBit 0=vdb m e:=by
 unfold vdb;rw[if_neg h.1,decide_eq_true h.2.1,decide_eq_true h.2.2.1,decide_eq_true h.2.2.2];rfl
theorem vdb_3 {m e:Int}(h:m≠0)(k:65536<nbits m.natAbs∨e < -65536∨65536<e):false=vdb m e:=by
 unfold vdb;rw[if_neg h]
 rcases k with k | k | k
 ·rw[decide_eq_false (by omega)];rfl
 ·rw[show decide (-65536≤e)=false from decide_eq_false (by omega)];simp
 ·rw[show decide (e≤65536)=false from decide_eq_false (by omega)];simp
theorem vdb_iff {m e:Int}:vdb m e=true↔(m=0∧e=0)∨(m≠0∧nbits m.natAbs≤65536∧-65536≤e∧e≤65536∧m.natAbs%2=1):=by
 unfold vdb
 by_cases h:m=0
 ·rw[if_pos h];simp [h]
 ·rw[if_neg h]
  simp only [Bool.and_eq_true,decide_eq_true_eq,Nat.testBit_zero,h,false_and,false_or,ne_eq,not_false_eq_true,true_and]
  constructor
  ·rintro ⟨⟨⟨a,b⟩,c⟩,d⟩;exact⟨a,b,c,d⟩
  ·rintro ⟨a,b,c,d⟩;exact⟨⟨⟨a,b⟩,c⟩,d⟩
theorem iMin_range (a b:Int):iMin a b≤a∧iMin a b≤b∧(iMin a b=a∨iMin a b=b):=by
 unfold iMin;split<;>omega
theorem dm_zero:dm 0=0:=by simp [dm,sgn]
theorem tz_div {m:Int}(h:m≠0):2^tz m.natAbs ∣ m.natAbs:=Nat.dvd_of_mod_eq_zero (tz_spec (show m.natAbs≠0 by omega)).1
theorem dm_mul (m:Int):dm m*2^tz m.natAbs=m:=by
 by_cases h:m=0
 ·rw[h,dm_zero,Int.zero_mul]
 ·have hd:=Nat.div_mul_cancel (tz_div h)
  unfold dm sgn
  split<;>rename_i hs
  ·have hs:=of_decide_eq_true hs
   rw[Int.neg_mul,pow_cast,← Int.natCast_mul,hd];omega
  ·have hs:=of_decide_eq_false (show decide (m<0)=false by simpa using hs)
   rw[pow_cast,← Int.natCast_mul,hd];omega
theorem dm_abs (m:Int):(dm m).natAbs=m.natAbs / 2^tz m.natAbs:=sgn_abs _ _
theorem dm_ne {m:Int}(h:m≠0):dm m≠0:=fun e=>by have:=dm_mul m;rw[e,Int.zero_mul] at this;exact h this.symm
theorem dm_odd {m:Int}(h:m≠0):(dm m).natAbs%2=1:=by
 rw[dm_abs];exact (tz_spec (show m.natAbs≠0 by omega)).2
theorem L_dm (m:Int):L (dm m).natAbs≤L m.natAbs:=by rw[dm_abs];exact L_div _ _
theorem mk_facts (m e:Int):L (mkM m e).natAbs≤L m.natAbs∧-65536≤mkX m e∧mkX m e≤65536∧0≤mkE m e∧mkE m e≤3:=by
 have h0:0≤mkE m e∧mkE m e≤3:=by unfold mkE;repeat' split<;>omega
 refine⟨?_,?_,?_,h0.1,h0.2⟩
 ·unfold mkM;split
  ·exact L_dm m
  ·simp [L_zero]
 all_goals
  unfold mkX
  split
  ·rename_i h
   obtain⟨h1,h2⟩:=h
   unfold mkE at h1
   split at h1
   ·omega
   ·try rw[if_neg h2] at h1
    split at h1
    ·rename_i hv
     unfold vdb at hv
     rw[if_neg (dm_ne h2)] at hv
     simp only [Bool.and_eq_true,decide_eq_true_eq] at hv
     omega
    ·omega
  ·omega
theorem mk_r1 {m e:Int}(h:e < -131072∨131072<e):mkM m e=0∧mkX m e=0∧mkE m e=1:=by
 have h1:mkE m e=1:=by unfold mkE;rw[if_pos h]
 refine⟨?_,?_,h1⟩
 ·unfold mkM;rw[if_neg (by omega)]
 ·unfold mkX;rw[if_neg (by omega)]
theorem mk_r2 {m e:Int}(h:-131072≤e∧e≤131072)(hm:m=0):mkM m e=0∧mkX m e=0∧mkE m e=0:=by
 have h1:mkE m e=0:=by unfold mkE;rw[if_neg (by omega),if_pos hm]
 refine⟨?_,?_,h1⟩
 ·unfold mkM;rw[if_pos h1,hm,dm_zero]
 ·unfold mkX;rw[if_neg (fun q=>q.2 hm)]
theorem mk_r3 {m e:Int}(h:-131072≤e∧e≤131072)(hm:m≠0)(hv:vdb (dm m) (de m e)=false):mkM m e=0∧mkX m e=0∧mkE m e=3:=by
 have h1:mkE m e=3:=by unfold mkE;rw[if_neg (by omega),if_neg hm,if_neg (by rw[hv];simp)]
 refine⟨?_,?_,h1⟩
 ·unfold mkM;rw[if_neg (by omega)]
 ·unfold mkX;rw[if_neg (by omega)]
theorem mk_r4 {m e:Int}(h:-131072≤e∧e≤131072)(hm:m≠0)(hv:vdb (dm m) (de m e)=true):mkM m e=dm m∧mkX m e=de m e∧mkE m e=0:=by
 have h1:mkE m e=0:=by unfold mkE;rw[if_neg (by omega),if_neg hm,if_pos hv]
 refine⟨?_,?_,h1⟩
 ·unfold mkM;rw[if_pos h1]
 ·unfold mkX;rw[if_pos ⟨h1,hm⟩]
theorem Y_of {m n e f:Int}{c d:Int}(h:n=m∧f=e∧d=c):vsub (.tup [.agg [.bool (decide (m<0)),N m.natAbs,.int .i64 e],.int .i64 c]) (.tup [.agg [.bool (decide (n<0)),N n.natAbs,.int .i64 f],.int .i64 d]):=by
 obtain⟨rfl,rfl,rfl⟩:=h;exact vsub_refl _
theorem vsub_zero3:vsub (.agg [.bool false,.nil,.int .i64 0]) (.agg [.bool (decide ((0:Int)<0)),N (0:Int).natAbs,.int .i64 0]):=fun w S x hx=>by
 obtain⟨arr,rfl,hr⟩:=hx.agg_inv
 cases hr with | cons h1 hr=>cases hr with | cons h2 hr=>cases hr with | cons h3 hr=>cases hr with | nil =>
  refine .agg (.cons (by simpa using h1) (.cons ?_ (.cons h3 .nil)))
  have:N (0:Int).natAbs=.sl 1 []:=by simp [N,lim,limbs_zero,U]
  rw[this]
  cases h2
  exact .nilsl
theorem Y_zero {m e c d:Int}(h:m=0∧e=0∧d=c):vsub (.tup [.agg [.bool false,.nil,.int .i64 0],.int .i64 c]) (.tup [.agg [.bool (decide (m<0)),N m.natAbs,.int .i64 e],.int .i64 d]):=by
 obtain⟨rfl,rfl,rfl⟩:=h;exact vsub_tup2 vsub_zero3 (vsub_refl _)
theorem two_pos (k:Nat):0<(2:Int)^k:=by rw[pow_cast];have:=Nat.pow_pos (n:=k) (show 0<2 by omega);omega
theorem sign_range (m:Int):(m.sign=-1∧m<0)∨(m.sign=1∧0<m)∨(m.sign=0∧m=0):=by
 rcases Int.lt_trichotomy m 0 with h | h | h
 ·exact .inl ⟨Int.sign_eq_neg_one_of_neg h,h⟩
 ·exact .inr (.inr ⟨by rw[h];rfl,h⟩)
 ·exact .inr (.inl ⟨Int.sign_eq_one_of_pos h,h⟩)
theorem topD_range (m e:Int):(m=0∧topD m e=0)∨(m≠0∧e<topD m e∧topD m e≤32*(L m.natAbs:Int)+e):=by
 unfold topD
 by_cases h:m=0
 ·exact .inl ⟨h,if_pos h⟩
 ·have h1:=nbits_pos (show m.natAbs≠0 by omega)
  have h2:=nbits_L m.natAbs
  rw[if_neg h]
  exact .inr ⟨h,by omega,by omega⟩
theorem al_facts (m n e f:Int)(he:-200000≤e∧e≤200000)(hf:-200000≤f∧f≤200000):L (m*2^(e-iMin e f).toNat).natAbs≤L m.natAbs+12501∧L (n*2^(f-iMin e f).toNat).natAbs≤L n.natAbs+12501∧iMin e f≤e∧iMin e f≤f∧(iMin e f=e∨iMin e f=f):=by
 have h1:=L_abs_shl m (e-iMin e f).toNat
 have h2:=L_abs_shl n (f-iMin e f).toNat
 have h3:=iMin_range e f
 omega
theorem cmpD_range (m e n f:Int):cmpD m e n f=-1∨cmpD m e n f=1∨cmpD m e n f=0:=by
 unfold cmpD
 have:=cmpI_range (m*2^(e-iMin e f).toNat) (n*2^(f-iMin e f).toNat)
 omega
theorem cmpI_lt {x y:Int}(h:x<y):cmpI x y=-1:=if_pos h
theorem cmpI_gt {x y:Int}(h:y<x):cmpI x y=1:=by unfold cmpI;rw[if_neg (by omega),if_pos h]
theorem cmpI_eq {x y:Int}(h:x=y):cmpI x y=0:=by unfold cmpI;rw[if_neg (by omega),if_neg (by omega)]
theorem mul_pos2 {m:Int}(k:Nat)(h:0<m):0<m*2^k:=Int.mul_pos h (two_pos k)
theorem mul_neg2 {m:Int}(k:Nat)(h:m<0):m*2^k<0:=Int.mul_neg_of_neg_of_pos h (two_pos k)
theorem dcmp_lt {m e n f:Int}(h:m.sign<n.sign):-1=cmpD m e n f:=by
 symm
 apply cmpI_lt
 rcases sign_range m with ⟨a,b⟩ | ⟨a,b⟩ | ⟨a,b⟩<;>rcases sign_range n with ⟨c,d⟩ | ⟨c,d⟩ | ⟨c,d⟩<;>try omega
 ·have:=mul_neg2 (e-iMin e f).toNat b;have:=mul_pos2 (f-iMin e f).toNat d;omega
 ·have:=mul_neg2 (e-iMin e f).toNat b;rw[d];omega
 ·have:=mul_pos2 (f-iMin e f).toNat d;rw[b];omega
theorem cmpI_swap (x y:Int):cmpI x y=- cmpI y x:=by
 rcases cmpI_range x y with ⟨h,k⟩ | ⟨h,k⟩ | ⟨h,k⟩
 ·rw[h,cmpI_gt k]
 ·rw[h,cmpI_lt k];rfl
 ·rw[h,cmpI_eq k.symm];rfl
theorem iMin_comm (a b:Int):iMin a b=iMin b a:=by have:=iMin_range a b;have:=iMin_range b a;omega
theorem cmpD_swap (m e n f:Int):cmpD m e n f=- cmpD n f m e:=by unfold cmpD;rw[iMin_comm f e,cmpI_swap]
theorem dcmp_gt {m e n f:Int}(h:n.sign<m.sign):1=cmpD m e n f:=by
 rw[cmpD_swap,← dcmp_lt h];rfl
theorem dcmp_zero {m e n f:Int}(h:m=0)(k:n=0):0=cmpD m e n f:=by
 symm;apply cmpI_eq;rw[h,k];simp
theorem top_lt {m e n f:Int}(hm:m≠0)(hn:n≠0)(h:topD m e<topD n f):(m.natAbs:Int)*2^(e-iMin e f).toNat<(n.natAbs:Int)*2^(f-iMin e f).toNat:=by
 unfold topD at h
 rw[if_neg hm,if_neg hn] at h
 have hr:=iMin_range e f
 have h1:=nbits_lt m.natAbs
 have h2:=nbits_le (show n.natAbs≠0 by omega)
 have h3:=nbits_pos (show n.natAbs≠0 by omega)
 generalize iMin e f=c at *
 rw[pow_cast,pow_cast,← Int.natCast_mul,← Int.natCast_mul]
 apply Int.ofNat_lt.2
 have a1:m.natAbs*2^(e-c).toNat<2^(nbits m.natAbs+(e-c).toNat):=by
  rw[Nat.pow_add];exact (Nat.mul_lt_mul_right (Nat.pow_pos (by omega))).2 h1
 have a2:2^(nbits n.natAbs-1+(f-c).toNat)≤n.natAbs*2^(f-c).toNat:=by
  rw[Nat.pow_add];exact Nat.mul_le_mul_right _ h2
 have a3:2^(nbits m.natAbs+(e-c).toNat)≤2^(nbits n.natAbs-1+(f-c).toNat):=Nat.pow_le_pow_right (by omega) (by omega)
 omega
theorem dcmp_t1 {m e n f:Int}(hs:m.sign=n.sign)(hm:m.sign≠0)(h:topD m e<topD n f):(0:Int)-m.sign=cmpD m e n f:=by
 rcases sign_range m with ⟨a,b⟩ | ⟨a,b⟩ | ⟨a,b⟩<;>rcases sign_range n with ⟨c,d⟩ | ⟨c,d⟩ | ⟨c,d⟩<;>try omega
 ·have:=top_lt (show m≠0 by omega) (show n≠0 by omega) h
  rw[show (m.natAbs:Int)=-m by omega,show (n.natAbs:Int)=-n by omega,Int.neg_mul,Int.neg_mul] at this
  unfold cmpD
  rw[a,cmpI_gt (by omega)];rfl
 ·have:=top_lt (show m≠0 by omega) (show n≠0 by omega) h
  rw[show (m.natAbs:Int)=m by omega,show (n.natAbs:Int)=n by omega] at this
  unfold cmpD
  rw[a,cmpI_lt (by omega)];rfl
theorem dcmp_t2 {m e n f:Int}(hs:m.sign=n.sign)(hm:m.sign≠0)(h:topD n f<topD m e):m.sign=cmpD m e n f:=by
 have:=dcmp_t1 hs.symm (by omega) h
 rw[cmpD_swap,← this];omega
theorem ex_range (m e:Int):(mkE m e=0∧exE m e=0)∨(mkE m e≠0∧exE m e=3):=by
 unfold exE
 by_cases h:mkE m e=0
 ·exact .inl ⟨h,if_pos h⟩
 ·exact .inr ⟨h,if_neg h⟩
theorem mk_no {m e:Int}(h:mkE m e≠0):mkM m e=0∧mkX m e=0:=by
 unfold mkM mkX;rw[if_neg h,if_neg (fun q=>h q.1)];exact⟨rfl,rfl⟩
theorem ex_ret1 {m e:Int}(h:mkE m e≠0):vsub (.tup [.agg [.bool false,.nil,.int .i64 0],.int .i64 3]) (.tup [.agg [.bool (decide (mkM m e<0)),N (mkM m e).natAbs,.int .i64 (mkX m e)],.int .i64 (exE m e)]) :=
 Y_zero ⟨(mk_no h).1,(mk_no h).2,by have:=ex_range m e;omega⟩
theorem ex_ret2 {m e:Int}(h:mkE m e=0):vsub (.tup [.agg [.bool (decide (mkM m e<0)),N (mkM m e).natAbs,.int .i64 (mkX m e)],.int .i64 0]) (.tup [.agg [.bool (decide (mkM m e<0)),N (mkM m e).natAbs,.int .i64 (mkX m e)],.int .i64 (exE m e)]):=by
 have:=ex_range m e
 rw[show exE m e=0 by omega];exact vsub_refl _
theorem ad_facts (m e n f:Int)(he:-65536≤e∧e≤65536)(hf:-65536≤f∧f≤65536):L (adS m e n f).natAbs≤max (L m.natAbs) (L n.natAbs)+4098∧iMin e f≤e∧iMin e f≤f∧(iMin e f=e∨iMin e f=f):=by
 have h0:=iMin_range e f
 have h1:=L_abs_shl m (e-iMin e f).toNat
 have h2:=L_abs_shl n (f-iMin e f).toNat
 have h3:=L_abs_add (m*2^(e-iMin e f).toNat) (n*2^(f-iMin e f).toNat)
 unfold adS
 omega
theorem tz_mul {a:Nat}(h:a≠0)(k:Nat):tz (a*2^k)=tz a+k:=by
 obtain⟨h1,h2⟩:=tz_spec h
 apply tz_unique
 ·rw[Nat.pow_add,Nat.mul_comm a,Nat.mul_comm (2^tz a),Nat.mul_mod_mul_left,h1,Nat.mul_zero]
 ·rw[Nat.pow_add,Nat.mul_div_mul_right _ _ (Nat.pow_pos (by omega)),h2]
theorem abs_shl (m:Int)(k:Nat):(m*2^k).natAbs=m.natAbs*2^k:=by rw[Int.natAbs_mul,Int.natAbs_pow];rfl
theorem dm_shl (m:Int)(k:Nat):dm (m*2^k)=dm m:=by
 by_cases h:m=0
 ·subst h;rw[Int.zero_mul]
 ·unfold dm
  rw[abs_shl,tz_mul (by omega),Nat.pow_add,Nat.mul_div_mul_right _ _ (Nat.pow_pos (by omega))]
  congr 1
  have:=two_pos k
  by_cases hm:m<0
  ·rw[decide_eq_true hm,decide_eq_true (mul_neg2 k hm)]
  ·rw[decide_eq_false hm,decide_eq_false]
   have:=mul_pos2 k (show 0<m by omega)
   omega
theorem de_shl {m:Int}(h:m≠0)(e:Int)(k:Nat):de (m*2^k) e=de m (e+k):=by
 unfold de;rw[abs_shl,tz_mul (by omega)];omega
theorem mk_shl (m e:Int)(k:Nat)(h0:-131072≤e)(h1:e+k≤131072):mkM (m*2^k) e=mkM m (e+k)∧mkX (m*2^k) e=mkX m (e+k)∧mkE (m*2^k) e=mkE m (e+k):=by
 by_cases h:m=0
 ·subst h
  rw[Int.zero_mul]
  obtain⟨a,b,c⟩:=mk_r2 (m:=0) (e:=e) (by omega) rfl
  obtain⟨a',b',c'⟩:=mk_r2 (m:=0) (e:=e+k) (by omega) rfl
  rw[a,b,c,a',b',c'];exact⟨rfl,rfl,rfl⟩
 ·have hne:m*2^k≠0:=Int.mul_ne_zero h (by have:=two_pos k;omega)
  have hE:mkE (m*2^k) e=mkE m (e+k):=by
   have l:mkE (m*2^k) e=if vdb (dm (m*2^k)) (de (m*2^k) e)=true then 0 else 3:=by
    unfold mkE;rw[if_neg (show ¬ (e < -131072∨131072<e) by omega),if_neg hne]
   have r:mkE m (e+k)=if vdb (dm m) (de m (e+k))=true then 0 else 3:=by
    unfold mkE;rw[if_neg (show ¬ (e+(k:Int) < -131072∨131072<e+(k:Int)) by omega),if_neg h]
   rw[l,r,dm_shl,de_shl h]
  refine⟨?_,?_,hE⟩
  ·unfold mkM;rw[hE,dm_shl]
  ·unfold mkX;rw[hE,de_shl h];simp [h,hne]
theorem mk_shl' {m e c:Int}(h:c≤e)(h0:-131072≤c)(h1:e≤131072):mkM (m*2^(e-c).toNat) c=mkM m e∧mkX (m*2^(e-c).toNat) c=mkX m e∧mkE (m*2^(e-c).toNat) c=mkE m e:=by
 have:=mk_shl m c (e-c).toNat h0 (by omega)
 rwa [show c+((e-c).toNat:Int)=e by omega] at this
theorem ad_zero1 {m e n f:Int}(h:m=0)(he:-65536≤e∧e≤65536)(hf:-65536≤f∧f≤65536):mkM (adS m e n f) (iMin e f)=mkM n f∧mkX (adS m e n f) (iMin e f)=mkX n f∧exE (adS m e n f) (iMin e f)=exE n f:=by
 have hr:=iMin_range e f
 have:=mk_shl' (m:=n) (e:=f) (c:=iMin e f) (by omega) (by omega) (by omega)
 unfold adS
 rw[h,Int.zero_mul,Int.zero_add]
 unfold exE
 rw[this.1,this.2.1,this.2.2]
 exact⟨rfl,rfl,rfl⟩
theorem ad_zero2 {m e n f:Int}(h:n=0)(he:-65536≤e∧e≤65536)(hf:-65536≤f∧f≤65536):mkM (adS m e n f) (iMin e f)=mkM m e∧mkX (adS m e n f) (iMin e f)=mkX m e∧exE (adS m e n f) (iMin e f)=exE m e:=by
 have hr:=iMin_range e f
 have:=mk_shl' (m:=m) (e:=e) (c:=iMin e f) (by omega) (by omega) (by omega)
 unfold adS
 rw[h,Int.zero_mul,Int.add_zero]
 unfold exE
 rw[this.1,this.2.1,this.2.2]
 exact⟨rfl,rfl,rfl⟩
abbrev e0T (c:Int):V:=.tup [.agg [.bool false,.nil,.int .i64 0,.bool false,.nil,.int .i64 0],.int .i64 c]
abbrev mkT (m e:Int):V:=.tup [.agg [.bool (decide (mkM m e<0)),N (mkM m e).natAbs,.int .i64 (mkX m e)],.int .i64 (mkE m e)]
abbrev exT (m e:Int):V:=.tup [.agg [.bool (decide (mkM m e<0)),N (mkM m e).natAbs,.int .i64 (mkX m e)],.int .i64 (exE m e)]
end Go.Proofs.YtkkbddkpggjgpaaGreatDoor

namespace Go.Proofs.YtkkbddkpggjgpaaGreatDoor
open Go.RowKit
set_option maxRecDepth 100000
theorem dy_Valid (m e:Int)(c0:L (m).natAbs≤16777216):Impl Tryz.prog Amb 135 [(yV m e)] (.bool (vdb m e)):=by
 have e0:=L_len m.natAbs
 have e1:=L_pos_iff m.natAbs
 exact impl_ob hP hAmb Tryz.func135 (by kernel_rfl) (.lits 2<|.call (.bool true)<|.lits 4<|.both (.lits 3<|.ret) (.lits 2<|.call (.int .i64 (nbits m.natAbs:Int))<|.lit<|.both (.lits 5<|.both (.lits 5<|.both (.lits 5<|.call (.bool (m.natAbs.testBit 0))<|.lits 2<|.ret) (.lits 5<|.ret)) (.lits 9<|.ret)) (.lits 13<|.ret)))
  (cast_ob (aI True.intro (aI (int_Valid m oA) (aI (fun (h1:(iEq ((lim m.natAbs).length:Int) 0)=true)=>have _gh1:=iEq_t h1;(vsub_of (congrArg V.bool (vdb_1 oO)):vsub (.bool (iEq e 0)) (.bool (vdb m e)))) (fun (h2:(iEq ((lim m.natAbs).length:Int) 0)=false)=>have _gh2:=iEq_f h2;aI (nat_Bits m.natAbs oA) (have f9:=nbits_L m.natAbs;aI (fun (h3:(iLe (nbits m.natAbs:Int) 65536)=true)=>have _gh3:=iLe_t h3;aI (fun (h4:(iGe e (-65536))=true)=>have _gh4:=iGe_t h4;aI (fun (h5:(iLe e 65536)=true)=>have _gh5:=iLe_t h5;aI (nat_Bit m.natAbs 0 oA oA) ((vsub_of (congrArg V.bool (vdb_2 oO)):vsub (.bool (m.natAbs.testBit 0)) (.bool (vdb m e))))) (fun (h6:(iLe e 65536)=false)=>have _gh6:=iLe_f h6;(vsub_of (congrArg V.bool (vdb_3 oO oO)):vsub (.bool false) (.bool (vdb m e))))) (fun (h7:(iGe e (-65536))=false)=>have _gh7:=iGe_f h7;(vsub_of (congrArg V.bool (vdb_3 oO oO)):vsub (.bool false) (.bool (vdb m e))))) (fun (h8:(iLe (nbits m.natAbs:Int) 65536)=false)=>have _gh8:=iLe_f h8;(vsub_of (congrArg V.bool (vdb_3 oO oO)):vsub (.bool false) (.bool (vdb m e))))))))) (by kernel_rfl))
theorem dy_Make (m e:Int)(c0:L (m).natAbs≤32768)(c1:(-9000000000000000000:Int)≤e∧e≤9000000000000000000):Impl Tryz.prog Amb 74 [(zV m),(.int .i64 e)] (.tup [(yV (mkM m e) (mkX m e)),(.int .i64 (mkE m e))]):=by
 have e0:=L_len m.natAbs
 have e1:=L_pos_iff m.natAbs
 have e3:=Int.sign_eq_zero_iff_zero (a:=m)
 have e4:=tz_L m.natAbs
 exact impl_ob hP hAmb Tryz.func74 (by kernel_rfl) (.lit<|.both (.lits 6<|.ret) (.lits 3<|.both (.lits 3<|.ret) (.lits 2<|.call (.int .i64 ((m).sign))<|.lit<|.both (.lits 3<|.ret) (.lits 2<|.call (.int .i64 (tz m.natAbs:Int))<|.lits 3<|.call (N (m.natAbs / 2^((tz m.natAbs:Int)).toNat))<|.lit<|.call (zV (sgn (decide (m<0)) (m.natAbs / 2^((tz m.natAbs:Int)).toNat)))<|.lit<|.yes<|.lits 3<|.call (.bool (vdb (sgn (decide (m<0)) (m.natAbs / 2^((tz m.natAbs:Int)).toNat)) (e+(tz m.natAbs:Int))))<|.lit<|.both (.lits 3<|.ret) (.lits 3<|.ret)))))
  (cast_ob (aI True.intro (aI (fun (h1:(iLt e (-131072))=true)=>have _gh1:=iLt_t h1;(Y_zero (mk_r1 oO):vsub (.tup [(.agg [(.bool false),.nil,(.int .i64 0)]),(.int .i64 1)]) (.tup [(yV (mkM m e) (mkX m e)),(.int .i64 (mkE m e))]))) (fun (h2:(iLt e (-131072))=false)=>have _gh2:=iLt_f h2;aI (fun (h3:(iGt e 131072)=true)=>have _gh3:=iGt_t h3;(Y_zero (mk_r1 oO):vsub (.tup [(.agg [(.bool false),.nil,(.int .i64 0)]),(.int .i64 1)]) (.tup [(yV (mkM m e) (mkX m e)),(.int .i64 (mkE m e))]))) (fun (h4:(iGt e 131072)=false)=>have _gh4:=iGt_f h4;aI (int_Sign m oA) (aI (fun (h5:(iEq ((m).sign) 0)=true)=>have _gh5:=iEq_t h5;(Y_zero (mk_r2 oO oO):vsub (.tup [(.agg [(.bool false),.nil,(.int .i64 0)]),(.int .i64 0)]) (.tup [(yV (mkM m e) (mkX m e)),(.int .i64 (mkE m e))]))) (fun (h6:(iEq ((m).sign) 0)=false)=>have _gh6:=iEq_f h6;aI (nat_Zeros m.natAbs oA) (have f11:=tz_L m.natAbs;aI (nat_Shr m.natAbs (tz m.natAbs:Int) oA oA) (have f10:=L_div m.natAbs (2^((tz m.natAbs:Int)).toNat);aI (int_Nat (decide (m<0)) (m.natAbs / 2^((tz m.natAbs:Int)).toNat) oA) (have f9:=L_sgn (decide (m<0)) (m.natAbs / 2^((tz m.natAbs:Int)).toNat);aI (fits_i64 oA:(fits .i64 (e+(tz m.natAbs:Int)))=true) (aI (dy_Valid (sgn (decide (m<0)) (m.natAbs / 2^((tz m.natAbs:Int)).toNat)) (e+(tz m.natAbs:Int)) oA) (aI (fun (h7:(!(vdb (sgn (decide (m<0)) (m.natAbs / 2^((tz m.natAbs:Int)).toNat)) (e+(tz m.natAbs:Int))))=true)=>(Y_zero (mk_r3 oO oO (notb_t (by assumption))):vsub (.tup [(.agg [(.bool false),.nil,(.int .i64 0)]),(.int .i64 3)]) (.tup [(yV (mkM m e) (mkX m e)),(.int .i64 (mkE m e))]))) (fun (h8:(!(vdb (sgn (decide (m<0)) (m.natAbs / 2^((tz m.natAbs:Int)).toNat)) (e+(tz m.natAbs:Int))))=false)=>(Y_of (mk_r4 oO oO (notb_f (by assumption))):vsub (.tup [(yV (sgn (decide (m<0)) (m.natAbs / 2^((tz m.natAbs:Int)).toNat)) (e+(tz m.natAbs:Int))),(.int .i64 0)]) (.tup [(yV (mkM m e) (mkX m e)),(.int .i64 (mkE m e))])))))))))))))) (by kernel_rfl))
theorem dy_Sign (m e:Int)(c0:L (m).natAbs≤16777216):Impl Tryz.prog Amb 73 [(yV m e)] (.int .i64 ((m).sign)):=by
 exact impl_ob hP hAmb Tryz.func73 (by kernel_rfl) (.lits 2<|.call (.int .i64 ((m).sign))<|.lit<|.ret)
  (cast_ob (aI True.intro (aI (int_Sign m oA) ((vsub_refl (.int .i64 ((m).sign)))))) (by kernel_rfl))
theorem dy_Neg (m e:Int)(c0:L (m).natAbs≤16777216):Impl Tryz.prog Amb 93 [(yV m e)] (yV (-m) e):=by
 exact impl_ob hP hAmb Tryz.func93 (by kernel_rfl) (.lits 2<|.call (zV (-m))<|.lits 4<|.ret)
  (cast_ob (aI True.intro (aI (int_Neg m oA) (have f1:=L_abs_neg m;(vsub_refl (yV (-m) e))))) (by kernel_rfl))
theorem dy_Top (m e:Int)(c0:L (m).natAbs≤16777216)(c1:(-200000:Int)≤e∧e≤200000):Impl Tryz.prog Amb 128 [(yV m e)] (.int .i64 (topD m e)):=by
 have e0:=L_len m.natAbs
 have e1:=L_pos_iff m.natAbs
 have e2:=nbits_L m.natAbs
 have e3:=Int.sign_eq_zero_iff_zero (a:=m)
 exact impl_ob hP hAmb Tryz.func128 (by kernel_rfl) (.lits 2<|.call (.int .i64 ((m).sign))<|.lit<|.both (.lit<|.ret) (.lits 2<|.call (.int .i64 (nbits m.natAbs:Int))<|.lits 2<|.yes<|.lit<|.ret))
  (cast_ob (aI True.intro (aI (dy_Sign m e oA) (have f4:=sign_range m;aI (fun (h1:(iEq ((m).sign) 0)=true)=>have _gh1:=iEq_t h1;(vsub_of (congrArg (V.int .i64) (by unfold topD;first | (rw[if_pos (show m=0 by omega)];done) | (rw[if_neg (show m≠0 by omega)]))):vsub (.int .i64 0) (.int .i64 (topD m e)))) (fun (h2:(iEq ((m).sign) 0)=false)=>have _gh2:=iEq_f h2;aI (nat_Bits m.natAbs oA) (have f3:=nbits_L m.natAbs;aI (fits_i64 oA:(fits .i64 ((nbits m.natAbs:Int)+e))=true) ((vsub_of (congrArg (V.int .i64) (by unfold topD;first | (rw[if_pos (show m=0 by omega)];done) | (rw[if_neg (show m≠0 by omega)]))):vsub (.int .i64 ((nbits m.natAbs:Int)+e)) (.int .i64 (topD m e))))))))) (by kernel_rfl))
theorem r08_Valid (m e:Int)(c0:L (m).natAbs≤16777216):Impl Tryz.prog Amb 107 [(yV m e)] (.bool (vdb m e)):=by
 have e0:=L_len m.natAbs
 have e1:=L_pos_iff m.natAbs
 exact impl_ob hP hAmb Tryz.func107 (by kernel_rfl) (.lits 2<|.call (.bool true)<|.lits 4<|.both (.lits 3<|.ret) (.lits 2<|.call (.int .i64 (nbits m.natAbs:Int))<|.lit<|.both (.lits 5<|.both (.lits 5<|.both (.lits 5<|.call (.bool (m.natAbs.testBit 0))<|.lits 2<|.ret) (.lits 5<|.ret)) (.lits 9<|.ret)) (.lits 13<|.ret)))
  (cast_ob (aI True.intro (aI (r05_Valid m oA) (aI (fun (h1:(iEq ((lim m.natAbs).length:Int) 0)=true)=>have _gh1:=iEq_t h1;(vsub_of (congrArg V.bool (vdb_1 oO)):vsub (.bool (iEq e 0)) (.bool (vdb m e)))) (fun (h2:(iEq ((lim m.natAbs).length:Int) 0)=false)=>have _gh2:=iEq_f h2;aI (r01_Bits m.natAbs oA) (have f9:=nbits_L m.natAbs;aI (fun (h3:(iLe (nbits m.natAbs:Int) 65536)=true)=>have _gh3:=iLe_t h3;aI (fun (h4:(iGe e (-65536))=true)=>have _gh4:=iGe_t h4;aI (fun (h5:(iLe e 65536)=true)=>have _gh5:=iLe_t h5;aI (r01_Bit m.natAbs 0 oA oA) ((vsub_of (congrArg V.bool (vdb_2 oO)):vsub (.bool (m.natAbs.testBit 0)) (.bool (vdb m e))))) (fun (h6:(iLe e 65536)=false)=>have _gh6:=iLe_f h6;(vsub_of (congrArg V.bool (vdb_3 oO oO)):vsub (.bool false) (.bool (vdb m e))))) (fun (h7:(iGe e (-65536))=false)=>have _gh7:=iGe_f h7;(vsub_of (congrArg V.bool (vdb_3 oO oO)):vsub (.bool false) (.bool (vdb m e))))) (fun (h8:(iLe (nbits m.natAbs:Int) 65536)=false)=>have _gh8:=iLe_f h8;(vsub_of (congrArg V.bool (vdb_3 oO oO)):vsub (.bool false) (.bool (vdb m e))))))))) (by kernel_rfl))
theorem r08_Make (m e:Int)(c0:L (m).natAbs≤32768)(c1:(-9000000000000000000:Int)≤e∧e≤9000000000000000000):Impl Tryz.prog Amb 44 [(zV m),(.int .i64 e)] (.tup [(yV (mkM m e) (mkX m e)),(.int .i64 (mkE m e))]):=by
 have e0:=L_len m.natAbs
 have e1:=L_pos_iff m.natAbs
 have e3:=Int.sign_eq_zero_iff_zero (a:=m)
 have e4:=tz_L m.natAbs
 exact impl_ob hP hAmb Tryz.func44 (by kernel_rfl) (.lit<|.both (.lits 6<|.ret) (.lits 3<|.both (.lits 3<|.ret) (.lits 2<|.both (.lits 3<|.ret) (.lits 2<|.call (.int .i64 (tz m.natAbs:Int))<|.lits 3<|.call (N (m.natAbs / 2^((tz m.natAbs:Int)).toNat))<|.lit<|.call (zV (sgn (decide (m<0)) (m.natAbs / 2^((tz m.natAbs:Int)).toNat)))<|.lit<|.yes<|.lits 3<|.call (.bool (vdb (sgn (decide (m<0)) (m.natAbs / 2^((tz m.natAbs:Int)).toNat)) (e+(tz m.natAbs:Int))))<|.lit<|.both (.lits 3<|.ret) (.lits 3<|.ret)))))
  (cast_ob (aI True.intro (aI (fun (h1:(iLt e (-131072))=true)=>have _gh1:=iLt_t h1;(Y_zero (mk_r1 oO):vsub (.tup [(.agg [(.bool false),.nil,(.int .i64 0)]),(.int .i64 1)]) (.tup [(yV (mkM m e) (mkX m e)),(.int .i64 (mkE m e))]))) (fun (h2:(iLt e (-131072))=false)=>have _gh2:=iLt_f h2;aI (fun (h3:(iGt e 131072)=true)=>have _gh3:=iGt_t h3;(Y_zero (mk_r1 oO):vsub (.tup [(.agg [(.bool false),.nil,(.int .i64 0)]),(.int .i64 1)]) (.tup [(yV (mkM m e) (mkX m e)),(.int .i64 (mkE m e))]))) (fun (h4:(iGt e 131072)=false)=>have _gh4:=iGt_f h4;aI (fun (h5:(iEq ((lim m.natAbs).length:Int) 0)=true)=>have _gh5:=iEq_t h5;(Y_zero (mk_r2 oO oO):vsub (.tup [(.agg [(.bool false),.nil,(.int .i64 0)]),(.int .i64 0)]) (.tup [(yV (mkM m e) (mkX m e)),(.int .i64 (mkE m e))]))) (fun (h6:(iEq ((lim m.natAbs).length:Int) 0)=false)=>have _gh6:=iEq_f h6;aI (r01_Zeros m.natAbs oA) (have f11:=tz_L m.natAbs;aI (r01_Shr m.natAbs (tz m.natAbs:Int) oA oA) (have f10:=L_div m.natAbs (2^((tz m.natAbs:Int)).toNat);aI (r05_Nat (decide (m<0)) (m.natAbs / 2^((tz m.natAbs:Int)).toNat) oA) (have f9:=L_sgn (decide (m<0)) (m.natAbs / 2^((tz m.natAbs:Int)).toNat);aI (fits_i64 oA:(fits .i64 (e+(tz m.natAbs:Int)))=true) (aI (r08_Valid (sgn (decide (m<0)) (m.natAbs / 2^((tz m.natAbs:Int)).toNat)) (e+(tz m.natAbs:Int)) oA) (aI (fun (h7:(!(vdb (sgn (decide (m<0)) (m.natAbs / 2^((tz m.natAbs:Int)).toNat)) (e+(tz m.natAbs:Int))))=true)=>(Y_zero (mk_r3 oO oO (notb_t (by assumption))):vsub (.tup [(.agg [(.bool false),.nil,(.int .i64 0)]),(.int .i64 3)]) (.tup [(yV (mkM m e) (mkX m e)),(.int .i64 (mkE m e))]))) (fun (h8:(!(vdb (sgn (decide (m<0)) (m.natAbs / 2^((tz m.natAbs:Int)).toNat)) (e+(tz m.natAbs:Int))))=false)=>(Y_of (mk_r4 oO oO (notb_f (by assumption))):vsub (.tup [(yV (sgn (decide (m<0)) (m.natAbs / 2^((tz m.natAbs:Int)).toNat)) (e+(tz m.natAbs:Int))),(.int .i64 0)]) (.tup [(yV (mkM m e) (mkX m e)),(.int .i64 (mkE m e))]))))))))))))) (by kernel_rfl))
theorem dy_align (m e n f:Int)(c0:L (m).natAbs≤8192)(c1:L (n).natAbs≤8192)(c2:(-200000:Int)≤e∧e≤200000)(c3:(-200000:Int)≤f∧f≤200000):Impl Tryz.prog Amb 161 [(yV m e),(yV n f)] (.tup [(zV (m*2^(e-(iMin e f)).toNat)),(zV (n*2^(f-(iMin e f)).toNat)),(.int .i64 (iMin e f))]):=by
 have m0:=iMin_range e f
 exact impl_ob hP hAmb Tryz.func161 (by kernel_rfl) (.lits 6<|.yes<|.lit<|.call (zV (m*2^((e-(iMin e f))).toNat))<|.lits 3<|.yes<|.lit<|.call (zV (n*2^((f-(iMin e f))).toNat))<|.lits 3<|.ret)
  (cast_ob (aI True.intro (aI (fits_i64 oA:(fits .i64 (e-(iMin e f)))=true) (aI (int_Shl m (e-(iMin e f)) oA oA) (have f2:=L_abs_shl m ((e-(iMin e f))).toNat;aI (fits_i64 oA:(fits .i64 (f-(iMin e f)))=true) (aI (int_Shl n (f-(iMin e f)) oA oA) (have f1:=L_abs_shl n ((f-(iMin e f))).toNat;(vsub_of (by first | rfl | simp_all):vsub (.tup [(zV (m*2^((e-(iMin e f))).toNat)),(zV (n*2^((f-(iMin e f))).toNat)),(.int .i64 (iMin e f))]) (.tup [(zV (m*2^(e-(iMin e f)).toNat)),(zV (n*2^(f-(iMin e f)).toNat)),(.int .i64 (iMin e f))])))))))) (by kernel_rfl))
theorem dy_Cmp (m e n f:Int)(c0:L (m).natAbs≤8192)(c1:L (n).natAbs≤8192)(c2:(-200000:Int)≤e∧e≤200000)(c3:(-200000:Int)≤f∧f≤200000):Impl Tryz.prog Amb 96 [(yV m e),(yV n f)] (.int .i64 (cmpD m e n f)):=by
 have s0:=sign_range m
 have s1:=sign_range n
 have t0:=topD_range m e
 have t1:=topD_range n f
 exact impl_ob hP hAmb Tryz.func96 (by kernel_rfl) (.lits 2<|.call (.int .i64 ((m).sign))<|.lits 2<|.call (.int .i64 ((n).sign))<|.lit<|.both (.lits 4<|.both (.lit<|.ret) (.lit<|.both (.lit<|.ret) (.lit<|.both (.lit<|.ret) (.lits 2<|.call (.int .i64 (topD m e))<|.lits 2<|.call (.int .i64 (topD n f))<|.lit<|.both (.lit<|.both (.lit<|.yes<|.lit<|.ret) (.lit<|.ret)) (.lits 3<|.call (.tup [(zV (m*2^(e-(iMin e f)).toNat)),(zV (n*2^(f-(iMin e f)).toNat)),(.int .i64 (iMin e f))])<|.lits 5<|.call (.int .i64 (cmpI (m*2^(e-(iMin e f)).toNat) (n*2^(f-(iMin e f)).toNat)))<|.lit<|.ret))))) (.lits 5<|.both (.lit<|.ret) (.lit<|.both (.lit<|.ret) (.lits 2<|.call (.int .i64 (topD m e))<|.lits 2<|.call (.int .i64 (topD n f))<|.lit<|.both (.lit<|.both (.lit<|.yes<|.lit<|.ret) (.lit<|.ret)) (.lits 3<|.call (.tup [(zV (m*2^(e-(iMin e f)).toNat)),(zV (n*2^(f-(iMin e f)).toNat)),(.int .i64 (iMin e f))])<|.lits 5<|.call (.int .i64 (cmpI (m*2^(e-(iMin e f)).toNat) (n*2^(f-(iMin e f)).toNat)))<|.lit<|.ret)))))
  (cast_ob (aI True.intro (aI (dy_Sign m e oA) (have f30:=sign_range m;aI (dy_Sign n f oA) (have f29:=sign_range n;aI (fun (h1:(iNe ((m).sign) ((n).sign))=true)=>have _gh1:=iNe_t h1;aI (fun (h2:(iLt ((m).sign) ((n).sign))=true)=>have _gh2:=iLt_t h2;(vsub_of (congrArg (V.int .i64) (dcmp_lt oO)):vsub (.int .i64 (-1)) (.int .i64 (cmpD m e n f)))) (fun (h3:(iLt ((m).sign) ((n).sign))=false)=>have _gh3:=iLt_f h3;aI (fun (h4:(iNe ((m).sign) ((n).sign))=true)=>have _gh4:=iNe_t h4;(vsub_of (congrArg (V.int .i64) (dcmp_gt oO)):vsub (.int .i64 1) (.int .i64 (cmpD m e n f)))) (fun (h5:(iNe ((m).sign) ((n).sign))=false)=>have _gh5:=iNe_f h5;aI (fun (h6:(iEq ((m).sign) 0)=true)=>have _gh6:=iEq_t h6;(False.elim oO:vsub (.int .i64 0) (.int .i64 (cmpD m e n f)))) (fun (h7:(iEq ((m).sign) 0)=false)=>have _gh7:=iEq_f h7;aI (dy_Top m e oA oA) (have f15:=topD_range m e;aI (dy_Top n f oA oA) (have f14:=topD_range n f;aI (fun (h8:(iNe (topD m e) (topD n f))=true)=>have _gh8:=iNe_t h8;aI (fun (h9:(iLt (topD m e) (topD n f))=true)=>have _gh9:=iLt_t h9;aI (fits_i64 oA:(fits .i64 ((0:Int)-(m).sign))=true) ((False.elim oO:vsub (.int .i64 ((0:Int)-(m).sign)) (.int .i64 (cmpD m e n f))))) (fun (h10:(iLt (topD m e) (topD n f))=false)=>have _gh10:=iLt_f h10;(False.elim oO:vsub (.int .i64 ((m).sign)) (.int .i64 (cmpD m e n f))))) (fun (h11:(iNe (topD m e) (topD n f))=false)=>have _gh11:=iNe_f h11;aI (dy_align m e n f oA oA oA oA) (have f13:=al_facts m n e f oA oA;aI (int_Cmp (m*2^(e-(iMin e f)).toNat) (n*2^(f-(iMin e f)).toNat) oA oA) (have f12:=cmpI_range (m*2^(e-(iMin e f)).toNat) (n*2^(f-(iMin e f)).toNat);(False.elim oO:vsub (.int .i64 (cmpI (m*2^(e-(iMin e f)).toNat) (n*2^(f-(iMin e f)).toNat))) (.int .i64 (cmpD m e n f)))))))))))) (fun (h16:(iNe ((m).sign) ((n).sign))=false)=>have _gh16:=iNe_f h16;aI (fun (h17:(iNe ((m).sign) ((n).sign))=true)=>have _gh17:=iNe_t h17;(False.elim oO:vsub (.int .i64 1) (.int .i64 (cmpD m e n f)))) (fun (h18:(iNe ((m).sign) ((n).sign))=false)=>have _gh18:=iNe_f h18;aI (fun (h19:(iEq ((m).sign) 0)=true)=>have _gh19:=iEq_t h19;(vsub_of (congrArg (V.int .i64) (dcmp_zero oO oO)):vsub (.int .i64 0) (.int .i64 (cmpD m e n f)))) (fun (h20:(iEq ((m).sign) 0)=false)=>have _gh20:=iEq_f h20;aI (dy_Top m e oA oA) (have f28:=topD_range m e;aI (dy_Top n f oA oA) (have f27:=topD_range n f;aI (fun (h21:(iNe (topD m e) (topD n f))=true)=>have _gh21:=iNe_t h21;aI (fun (h22:(iLt (topD m e) (topD n f))=true)=>have _gh22:=iLt_t h22;aI (fits_i64 oA:(fits .i64 ((0:Int)-(m).sign))=true) ((vsub_of (congrArg (V.int .i64) (dcmp_t1 oO oO oO)):vsub (.int .i64 ((0:Int)-(m).sign)) (.int .i64 (cmpD m e n f))))) (fun (h23:(iLt (topD m e) (topD n f))=false)=>have _gh23:=iLt_f h23;(vsub_of (congrArg (V.int .i64) (dcmp_t2 oO oO oO)):vsub (.int .i64 ((m).sign)) (.int .i64 (cmpD m e n f))))) (fun (h24:(iNe (topD m e) (topD n f))=false)=>have _gh24:=iNe_f h24;aI (dy_align m e n f oA oA oA oA) (have f26:=al_facts m n e f oA oA;aI (int_Cmp (m*2^(e-(iMin e f)).toNat) (n*2^(f-(iMin e f)).toNat) oA oA) (have f25:=cmpI_range (m*2^(e-(iMin e f)).toNat) (n*2^(f-(iMin e f)).toNat);(vsub_of (congrArg (V.int .i64) (rfl)):vsub (.int .i64 (cmpI (m*2^(e-(iMin e f)).toNat) (n*2^(f-(iMin e f)).toNat))) (.int .i64 (cmpD m e n f))))))))))))))) (by kernel_rfl))
theorem r08_Cmp (m e n f:Int)(c0:L (m).natAbs≤8192)(c1:L (n).natAbs≤8192)(c2:(-200000:Int)≤e∧e≤200000)(c3:(-200000:Int)≤f∧f≤200000):Impl Tryz.prog Amb 20 [(yV m e),(yV n f)] (.int .i64 (cmpD m e n f)):=by
 have m0:=iMin_range e f
 exact impl_ob hP hAmb Tryz.func20 (by kernel_rfl) (.lits 6<|.yes<|.lit<|.call (zV (m*2^((e-(iMin e f))).toNat))<|.lits 3<|.yes<|.lit<|.call (zV (n*2^((f-(iMin e f))).toNat))<|.lit<|.call (.int .i64 (cmpI (m*2^((e-(iMin e f))).toNat) (n*2^((f-(iMin e f))).toNat)))<|.lit<|.ret)
  (cast_ob (aI True.intro (aI (fits_i64 oA:(fits .i64 (e-(iMin e f)))=true) (aI (r05_Shl m (e-(iMin e f)) oA oA) (have f3:=L_abs_shl m ((e-(iMin e f))).toNat;aI (fits_i64 oA:(fits .i64 (f-(iMin e f)))=true) (aI (r05_Shl n (f-(iMin e f)) oA oA) (have f2:=L_abs_shl n ((f-(iMin e f))).toNat;aI (r05_Cmp (m*2^((e-(iMin e f))).toNat) (n*2^((f-(iMin e f))).toNat) oA oA) (have f1:=cmpI_range (m*2^((e-(iMin e f))).toNat) (n*2^((f-(iMin e f))).toNat);(vsub_of (by first | rfl | simp_all):vsub (.int .i64 (cmpI (m*2^((e-(iMin e f))).toNat) (n*2^((f-(iMin e f))).toNat))) (.int .i64 (cmpD m e n f)))))))))) (by kernel_rfl))
theorem dy_exact (m e:Int)(c0:L (m).natAbs≤32768)(c1:(-9000000000000000000:Int)≤e∧e≤9000000000000000000):Impl Tryz.prog Amb 159 [(zV m),(.int .i64 e)] (.tup [(yV (mkM m e) (mkX m e)),(.int .i64 (exE m e))]):=by
 exact impl_ob hP hAmb Tryz.func159 (by kernel_rfl) (.lits 2<|.call (.tup [(yV (mkM m e) (mkX m e)),(.int .i64 (mkE m e))])<|.lits 2<|.both (.lits 3<|.ret) (.lits 3<|.ret))
  (cast_ob (aI True.intro (aI (dy_Make m e oA oA) (have f3:=mk_facts m e;aI (fun (h1:(iNe (mkE m e) 0)=true)=>have _gh1:=iNe_t h1;(ex_ret1 oO:vsub (.tup [(.agg [(.bool false),.nil,(.int .i64 0)]),(.int .i64 3)]) (.tup [(yV (mkM m e) (mkX m e)),(.int .i64 (exE m e))]))) (fun (h2:(iNe (mkE m e) 0)=false)=>have _gh2:=iNe_f h2;(ex_ret2 oO:vsub (.tup [(yV (mkM m e) (mkX m e)),(.int .i64 0)]) (.tup [(yV (mkM m e) (mkX m e)),(.int .i64 (exE m e))])))))) (by kernel_rfl))
theorem dy_Add (m e n f:Int)(c0:L (m).natAbs≤8192)(c1:L (n).natAbs≤8192)(c2:(-65536:Int)≤e∧e≤65536)(c3:(-65536:Int)≤f∧f≤65536):Impl Tryz.prog Amb 99 [(yV m e),(yV n f)] (.tup [(yV (mkM (adS m e n f) (iMin e f)) (mkX (adS m e n f) (iMin e f))),(.int .i64 (exE (adS m e n f) (iMin e f)))]):=by
 have s0:=sign_range m
 have s1:=sign_range n
 exact impl_ob hP hAmb Tryz.func99 (by kernel_rfl) (.lits 2<|.call (.int .i64 ((m).sign))<|.lit<|.both (.lits 3<|.call (.tup [(yV (mkM n f) (mkX n f)),(.int .i64 (exE n f))])<|.lits 2<|.ret) (.lits 2<|.call (.int .i64 ((n).sign))<|.lit<|.both (.lits 3<|.call (.tup [(yV (mkM m e) (mkX m e)),(.int .i64 (exE m e))])<|.lits 2<|.ret) (.lits 3<|.call (.tup [(zV (m*2^(e-(iMin e f)).toNat)),(zV (n*2^(f-(iMin e f)).toNat)),(.int .i64 (iMin e f))])<|.lits 5<|.call (zV ((m*2^(e-(iMin e f)).toNat)+(n*2^(f-(iMin e f)).toNat)))<|.lit<|.call (.tup [(yV (mkM ((m*2^(e-(iMin e f)).toNat)+(n*2^(f-(iMin e f)).toNat)) (iMin e f)) (mkX ((m*2^(e-(iMin e f)).toNat)+(n*2^(f-(iMin e f)).toNat)) (iMin e f))),(.int .i64 (exE ((m*2^(e-(iMin e f)).toNat)+(n*2^(f-(iMin e f)).toNat)) (iMin e f)))])<|.lits 2<|.ret)))
  (cast_ob (aI True.intro (aI (dy_Sign m e oA) (have f14:=sign_range m;aI (fun (h1:(iEq ((m).sign) 0)=true)=>have _gh1:=iEq_t h1;aI (dy_exact n f oA oA) (have f3:=ex_range n f;have f2:=mk_facts n f;(Y_of (ad_zero1 oO oO oO):vsub (.tup [(yV (mkM n f) (mkX n f)),(.int .i64 (exE n f))]) (.tup [(yV (mkM (adS m e n f) (iMin e f)) (mkX (adS m e n f) (iMin e f))),(.int .i64 (exE (adS m e n f) (iMin e f)))])))) (fun (h4:(iEq ((m).sign) 0)=false)=>have _gh4:=iEq_f h4;aI (dy_Sign n f oA) (have f13:=sign_range n;aI (fun (h5:(iEq ((n).sign) 0)=true)=>have _gh5:=iEq_t h5;aI (dy_exact m e oA oA) (have f7:=ex_range m e;have f6:=mk_facts m e;(Y_of (ad_zero2 oO oO oO):vsub (.tup [(yV (mkM m e) (mkX m e)),(.int .i64 (exE m e))]) (.tup [(yV (mkM (adS m e n f) (iMin e f)) (mkX (adS m e n f) (iMin e f))),(.int .i64 (exE (adS m e n f) (iMin e f)))])))) (fun (h8:(iEq ((n).sign) 0)=false)=>have _gh8:=iEq_f h8;aI (dy_align m e n f oA oA oA oA) (have f12:=al_facts m n e f oA oA;aI (int_Add (m*2^(e-(iMin e f)).toNat) (n*2^(f-(iMin e f)).toNat) oA oA) (have f11:=L_abs_add (m*2^(e-(iMin e f)).toNat) (n*2^(f-(iMin e f)).toNat);aI (dy_exact ((m*2^(e-(iMin e f)).toNat)+(n*2^(f-(iMin e f)).toNat)) (iMin e f) oA oA) (have f10:=ex_range ((m*2^(e-(iMin e f)).toNat)+(n*2^(f-(iMin e f)).toNat)) (iMin e f);have f9:=mk_facts ((m*2^(e-(iMin e f)).toNat)+(n*2^(f-(iMin e f)).toNat)) (iMin e f);(vsub_refl _:vsub (.tup [(yV (mkM ((m*2^(e-(iMin e f)).toNat)+(n*2^(f-(iMin e f)).toNat)) (iMin e f)) (mkX ((m*2^(e-(iMin e f)).toNat)+(n*2^(f-(iMin e f)).toNat)) (iMin e f))),(.int .i64 (exE ((m*2^(e-(iMin e f)).toNat)+(n*2^(f-(iMin e f)).toNat)) (iMin e f)))]) (.tup [(yV (mkM (adS m e n f) (iMin e f)) (mkX (adS m e n f) (iMin e f))),(.int .i64 (exE (adS m e n f) (iMin e f)))]))))))))))) (by kernel_rfl))
theorem dy_Mul (m e n f:Int)(c0:L (m).natAbs≤16384)(c1:L (n).natAbs≤16384)(c2:(-200000:Int)≤e∧e≤200000)(c3:(-200000:Int)≤f∧f≤200000):Impl Tryz.prog Amb 95 [(yV m e),(yV n f)] (.tup [(yV (mkM (m*n) (e+f)) (mkX (m*n) (e+f))),(.int .i64 (exE (m*n) (e+f)))]):=by
 exact impl_ob hP hAmb Tryz.func95 (by kernel_rfl) (.lits 3<|.call (zV (m*n))<|.lits 3<|.yes<|.lit<|.call (.tup [(yV (mkM (m*n) (e+f)) (mkX (m*n) (e+f))),(.int .i64 (exE (m*n) (e+f)))])<|.lits 2<|.ret)
  (cast_ob (aI True.intro (aI (int_Mul m n oA oA) (have f3:=L_abs_mul m n;aI (fits_i64 oA:(fits .i64 (e+f))=true) (aI (dy_exact (m*n) (e+f) oA oA) (have f2:=ex_range (m*n) (e+f);have f1:=mk_facts (m*n) (e+f);(vsub_refl (.tup [(yV (mkM (m*n) (e+f)) (mkX (m*n) (e+f))),(.int .i64 (exE (m*n) (e+f)))]))))))) (by kernel_rfl))
theorem r08_Of (n:Int)(c0:(-9223372036854775808:Int)≤n∧n≤9223372036854775807):Impl Tryz.prog Amb 54 [(.int .i64 n)] (yV (mkM n 0) (mkX n 0)):=by
 exact impl_ob hP hAmb Tryz.func54 (by kernel_rfl) (.lit<|.call (zV n)<|.lit<|.call (.tup [(yV (mkM n 0) (mkX n 0)),(.int .i64 (mkE n 0))])<|.lits 4<|.ret)
  (cast_ob (aI True.intro (aI (r05_Of n oA) (have f2:=(L_i64 oA:L (n:Int).natAbs≤2);aI (r08_Make n 0 oA oA) (have f1:=mk_facts n 0;(vsub_refl (yV (mkM n 0) (mkX n 0))))))) (by kernel_rfl))
end Go.Proofs.YtkkbddkpggjgpaaGreatDoor

namespace Go.Proofs.YtkkbddkpggjgpaaGreatDoor
def ivB (m e n f:Int):Bool:=vdb m e && vdb n f && decide (cmpD m e n f≤0)
def ivCmp (m e n f p g q h:Int):Int:=if cmpD n f p g<0 then -1 else if 0<cmpD m e q h then 1 else 0
theorem perm_1 {p:Int}(h:-2048≤p):iLe p 8192=decide ((-2048:Int)≤p∧p≤8192):=by
 unfold iLe;by_cases q:p≤8192<;>simp [q,h]
theorem perm_no {p:Int}(h:(-2048:Int)≤p∧p≤8192):(!decide ((-2048:Int)≤p∧p≤8192))=false:=by rw[decide_eq_true h];rfl
theorem on_3 {m e p:Int}(h:(-2048:Int)≤p∧p≤8192)(hm:m≠0):iGe e (0-p)=decide (((-2048:Int)≤p∧p≤8192)∧(m=0∨-p≤e)):=by
 unfold iGe
 by_cases q:e≥0-p
 ·rw[decide_eq_true q,decide_eq_true];omega
 ·rw[decide_eq_false q,decide_eq_false];omega
theorem L_bits {x k n:Nat}(h:nbits x≤n)(hn:n≤32*k):L x≤k:=L_le (by rw[B_pow];exact Nat.lt_of_lt_of_le (nbits_lt _) (Nat.pow_le_pow_right (by omega) (Nat.le_trans h hn)))
theorem L_pow2 {x k n:Nat}(h:x<2^n)(hn:n≤32*k):L x≤k:=L_le (by rw[B_pow];exact Nat.lt_of_lt_of_le h (Nat.pow_le_pow_right (by omega) hn))
theorem vdb_range (m e:Int):vdb m e=true→-65536≤e∧e≤65536∧L m.natAbs≤2048:=by
 intro h
 rcases vdb_iff.1 h with ⟨h1,h2⟩ | ⟨h1,h2,h3,h4,_⟩
 ·rw[h1,h2];simp [L_zero]
 ·exact⟨h3,h4,L_bits h2 (by omega)⟩
theorem iv_1 {m e n f:Int}(h:vdb m e=true)(k:vdb n f=true):iLe (cmpD m e n f) 0=ivB m e n f:=by unfold ivB;rw[h,k];rfl
theorem iv_2 {m e n f:Int}(h:vdb m e=false):false=ivB m e n f:=by unfold ivB;rw[h];rfl
theorem iv_3 {m e n f:Int}(h:vdb n f=false):false=ivB m e n f:=by unfold ivB;rw[h];simp
theorem ivc_1 {m e n f p g q h:Int}(k:cmpD n f p g<0):-1=ivCmp m e n f p g q h:=by unfold ivCmp;rw[if_pos k]
theorem ivc_2 {m e n f p g q h:Int}(k:0≤cmpD n f p g)(l:0<cmpD m e q h):1=ivCmp m e n f p g q h:=by unfold ivCmp;rw[if_neg (by omega),if_pos l]
theorem ivc_3 {m e n f p g q h:Int}(k:0≤cmpD n f p g)(l:cmpD m e q h≤0):0=ivCmp m e n f p g q h:=by unfold ivCmp;rw[if_neg (by omega),if_neg (by omega)]
end Go.Proofs.YtkkbddkpggjgpaaGreatDoor

namespace Go.Proofs.YtkkbddkpggjgpaaGreatDoor
open Go.RowKit
set_option maxRecDepth 100000
theorem gr_permitted (p:Int)(c0:(-9223372036854775808:Int)≤p∧p≤9223372036854775807):Impl Tryz.prog Amb 199 [(.int .i64 p)] (.bool (decide ((-2048:Int)≤p∧p≤8192))):=by
 exact impl_ob hP hAmb Tryz.func199 (by kernel_rfl) (.lit<|.both (.lits 4<|.ret) (.lits 3<|.ret))
  (cast_ob (aI True.intro (aI (fun (h1:(iGe p (-2048))=true)=>have _gh1:=iGe_t h1;(vsub_of (congrArg V.bool (perm_1 oO)):vsub (.bool (iLe p 8192)) (.bool (decide ((-2048:Int)≤p∧p≤8192))))) (fun (h2:(iGe p (-2048))=false)=>have _gh2:=iGe_f h2;(vsub_of (congrArg V.bool (decide_eq_false oO).symm):vsub (.bool false) (.bool (decide ((-2048:Int)≤p∧p≤8192))))))) (by kernel_rfl))
theorem gr_On (m e p:Int)(c0:L (m).natAbs≤16777216)(c1:(-9223372036854775808:Int)≤p∧p≤9223372036854775807):Impl Tryz.prog Amb 203 [(yV m e),(.int .i64 p)] (.bool (decide (((-2048:Int)≤p∧p≤8192)∧(m=0∨-p≤e)))):=by
 have e0:=L_len m.natAbs
 have e1:=L_pos_iff m.natAbs
 have s0:=sign_range m
 exact impl_ob hP hAmb Tryz.func203 (by kernel_rfl) (.lit<|.call (.bool (decide ((-2048:Int)≤p∧p≤8192)))<|.both (.lits 3<|.call (.int .i64 ((m).sign))<|.lits 3<|.both (.lits 8<|.ret) (.lits 5<|.yes<|.lits 6<|.ret)) (.lits 6<|.ret))
  (cast_ob (aI True.intro (aI (gr_permitted p oA) (aI (fun (h1:(decide ((-2048:Int)≤p∧p≤8192))=true)=>have _gh1:=of_decide_eq_true h1;aI (dy_Sign m e oA) (have f4:=sign_range m;aI (fun (h2:(iEq ((m).sign) 0)=true)=>have _gh2:=iEq_t h2;(vsub_of (congrArg V.bool ((decide_eq_true oO).symm)):vsub (.bool true) (.bool (decide (((-2048:Int)≤p∧p≤8192)∧(m=0∨-p≤e)))))) (fun (h3:(iEq ((m).sign) 0)=false)=>have _gh3:=iEq_f h3;aI (fits_i64 oA:(fits .i64 ((0:Int)-p))=true) ((vsub_of (congrArg V.bool (on_3 oO oO)):vsub (.bool (iGe e ((0:Int)-p))) (.bool (decide (((-2048:Int)≤p∧p≤8192)∧(m=0∨-p≤e))))))))) (fun (h5:(decide ((-2048:Int)≤p∧p≤8192))=false)=>have _gh5:=of_decide_eq_false h5;(vsub_of (congrArg V.bool ((decide_eq_false oO).symm)):vsub (.bool false) (.bool (decide (((-2048:Int)≤p∧p≤8192)∧(m=0∨-p≤e))))))))) (by kernel_rfl))
theorem iv_Valid (m e n f:Int)(c0:L (m).natAbs≤8192)(c1:L (n).natAbs≤8192):Impl Tryz.prog Amb 201 [(wV m e n f)] (.bool (ivB m e n f)):=by
 have v0:=vdb_range m e
 have v1:=vdb_range n f
 exact impl_ob hP hAmb Tryz.func201 (by kernel_rfl) (.lits 2<|.call (.bool (vdb m e))<|.both (.lits 4<|.call (.bool (vdb n f))<|.lit<|.both (.lits 7<|.call (.int .i64 (cmpD m e n f))<|.lits 4<|.ret) (.lits 7<|.ret)) (.lits 11<|.ret))
  (cast_ob (aI True.intro (aI (dy_Valid m e (by first | omega | (have:=v0 (by assumption);have:=v1 (by assumption);omega))) (aI (fun (h1:(vdb m e)=true)=>aI (dy_Valid n f (by first | omega | (have:=v0 (by assumption);have:=v1 (by assumption);omega))) (aI (fun (h2:(vdb n f)=true)=>aI (dy_Cmp m e n f (by first | omega | (have:=v0 (by assumption);have:=v1 (by assumption);omega)) (by first | omega | (have:=v0 (by assumption);have:=v1 (by assumption);omega)) (by first | omega | (have:=v0 (by assumption);have:=v1 (by assumption);omega)) (by first | omega | (have:=v0 (by assumption);have:=v1 (by assumption);omega))) (have f3:=cmpD_range m e n f;(vsub_of (congrArg V.bool (iv_1 (by assumption) (by assumption))):vsub (.bool (iLe (cmpD m e n f) 0)) (.bool (ivB m e n f))))) (fun (h4:(vdb n f)=false)=>(vsub_of (congrArg V.bool (iv_3 (by assumption))):vsub (.bool false) (.bool (ivB m e n f)))))) (fun (h5:(vdb m e)=false)=>(vsub_of (congrArg V.bool (iv_2 (by assumption))):vsub (.bool false) (.bool (ivB m e n f))))))) (by kernel_rfl))
theorem r10_Cmp (m e n f p g q h:Int)(c0:L (m).natAbs≤8192)(c1:L (n).natAbs≤8192)(c2:(-65536:Int)≤e∧e≤65536)(c3:(-65536:Int)≤f∧f≤65536)(c4:L (p).natAbs≤8192)(c5:L (q).natAbs≤8192)(c6:(-65536:Int)≤g∧g≤65536)(c7:(-65536:Int)≤h∧h≤65536):Impl Tryz.prog Amb 21 [(wV m e n f),(wV p g q h)] (.int .i64 (ivCmp m e n f p g q h)):=by
 exact impl_ob hP hAmb Tryz.func21 (by kernel_rfl) (.lits 3<|.call (.int .i64 (cmpD n f p g))<|.lit<|.both (.lit<|.ret) (.lits 3<|.call (.int .i64 (cmpD m e q h))<|.lit<|.both (.lit<|.ret) (.lit<|.ret)))
  (cast_ob (aI True.intro (aI (r08_Cmp n f p g oA oA oA oA) (have f6:=cmpD_range n f p g;aI (fun (h1:(iLt (cmpD n f p g) 0)=true)=>have _gh1:=iLt_t h1;(vsub_of (congrArg (V.int .i64) (ivc_1 oO)):vsub (.int .i64 (-1)) (.int .i64 (ivCmp m e n f p g q h)))) (fun (h2:(iLt (cmpD n f p g) 0)=false)=>have _gh2:=iLt_f h2;aI (r08_Cmp m e q h oA oA oA oA) (have f5:=cmpD_range m e q h;aI (fun (h3:(iGt (cmpD m e q h) 0)=true)=>have _gh3:=iGt_t h3;(vsub_of (congrArg (V.int .i64) (ivc_2 oO oO)):vsub (.int .i64 1) (.int .i64 (ivCmp m e n f p g q h)))) (fun (h4:(iGt (cmpD m e q h) 0)=false)=>have _gh4:=iGt_f h4;(vsub_of (congrArg (V.int .i64) (ivc_3 oO oO)):vsub (.int .i64 0) (.int .i64 (ivCmp m e n f p g q h))))))))) (by kernel_rfl))
end Go.Proofs.YtkkbddkpggjgpaaGreatDoor

namespace Go.Proofs.YtkkbddkpggjgpaaGreatDoor
theorem rem_two {k:Int}(h:0≤k):wRem k (2:Int)=k%2:=Int.tmod_eq_emod_of_nonneg h
theorem L_pow1 (k:Nat):L ((1:Int)*2^k).natAbs≤k / 32+1:=by
 rw[Int.one_mul,Int.natAbs_pow];exact L_two_pow k
def eG:Nat→Int→Int→Int→Int→Int→Int × Int
 | 0,_,_,_,a,b=>(a,b)
 | f+1,k,lo,hi,a,b =>
  if lo.natAbs≤1∧hi.natAbs≤1 then (a,b) else
  eG f (k+1) (Int.fdiv (min lo hi) k) (-(Int.fdiv (-(max lo hi)) k)) (a+(Int.fdiv (min lo hi) k)) (b+(-(Int.fdiv (-(max lo hi)) k)))
def eT (v:Int):Int × Int:=eG (v.toNat+2) 1 ((1:Int)*2^v.toNat) ((1:Int)*2^v.toNat) ((1:Int)*2^v.toNat) ((1:Int)*2^v.toNat)
theorem L_lit (n:Nat)(h:n<4294967296):L n≤1:=L_le (by simpa using h)
end Go.Proofs.YtkkbddkpggjgpaaGreatDoor


