/-
  Lower layers: what functions of the program compute, and plain facts. Conditions: as the theorems say.
-/
import Derived.Test.YtkkbddkpggjgpaaGreatDoorChecked
import Derived.Test.YtkkbddkpggjgpaaGreatDoorRows
import Derived.WalkKit
import Derived.ProofKit
import Derived.OpenShut
import Derived.Deep.DeepHandedRow
import Derived.Lib.LaidTab
import Derived.Lib.SmallJoins
import Derived.ChangeSlices
import Derived.Carry
import Derived.Test.YtkkbddkpggjgpaaGreatDoorCards
import Derived.Test.YtkkbddkpggjgpaaGreatDoorTie
import Derived.Test.YtkkbddkpggjgpaaGreatDoorPbT
set_option linter.unusedVariables false
set_option linter.unusedSimpArgs false
namespace Go.Proofs.YtkkbddkpggjgpaaGreatDoor
open Go.RowKit
set_option maxRecDepth 100000
set_option maxHeartbeats 2000000
theorem iMax_bd (t:Int):0≤iMax 0 t∧t≤iMax 0 t∧(iMax 0 t≤0∨iMax 0 t≤t):=by unfold iMax;split<;>omega
theorem sqv_n {a v:Int}:sgn false (rt (a*2^v.toNat).natAbs)=sqLo a v:=by
 unfold sqLo
 rw[abs_shl,sgn_f]
theorem r13_Sqrt (a b v:Int)(c0:L (a).natAbs≤1000)(c1:L (b).natAbs≤1000)(c2:(0:Int)≤v∧v≤20000):Impl Tryz.prog Amb 180 [(sV a b),(.int .i64 v)] (sV (sqLo a v) (sqLo b v+1)):=by
 have z1:=L_lit 1 (by decide)
 have m1:=L_abs_shl a v.toNat
 have m2:=L_abs_shl b v.toNat
 exact impl_ob hP hAmb Tryz.func180 (by kernel_rfl) (.lits 2<|.call (zV (a*2^(v).toNat))<|.lits 2<|.call (.tup [(N (rt ((a*2^(v).toNat).natAbs))),(N ((a*2^(v).toNat).natAbs-rt ((a*2^(v).toNat).natAbs)*rt ((a*2^(v).toNat).natAbs)))])<|.lits 2<|.call (zV (b*2^(v).toNat))<|.lits 2<|.call (.tup [(N (rt ((b*2^(v).toNat).natAbs))),(N ((b*2^(v).toNat).natAbs-rt ((b*2^(v).toNat).natAbs)*rt ((b*2^(v).toNat).natAbs)))])<|.lit<|.call (zV (sgn false (rt ((a*2^(v).toNat).natAbs))))<|.lit<|.call (zV (sgn false (rt ((b*2^(v).toNat).natAbs))))<|.lit<|.call (zV (1:Int))<|.lit<|.call (zV ((sgn false (rt ((b*2^(v).toNat).natAbs)))+(1:Int)))<|.lits 3<|.ret)
  (cast_ob (aI True.intro (aI (r05_Shl a v oO oO) (have f10:=L_abs_shl a (v).toNat;aI (r04_Sqrt ((a*2^(v).toNat).natAbs) oO) (have f9:=L_sub ((a*2^(v).toNat).natAbs) (rt ((a*2^(v).toNat).natAbs)*rt ((a*2^(v).toNat).natAbs));have f8:=rt_L ((a*2^(v).toNat).natAbs);aI (r05_Shl b v oO oO) (have f7:=L_abs_shl b (v).toNat;aI (r04_Sqrt ((b*2^(v).toNat).natAbs) oO) (have f6:=L_sub ((b*2^(v).toNat).natAbs) (rt ((b*2^(v).toNat).natAbs)*rt ((b*2^(v).toNat).natAbs));have f5:=rt_L ((b*2^(v).toNat).natAbs);aI (r05_Nat false (rt ((a*2^(v).toNat).natAbs)) oO) (have f4:=L_sgn false (rt ((a*2^(v).toNat).natAbs));aI (r05_Nat false (rt ((b*2^(v).toNat).natAbs)) oO) (have f3:=L_sgn false (rt ((b*2^(v).toNat).natAbs));aI (r05_Of 1 oO) (have f2:=(L_i64 oO:L (1:Int).natAbs≤2);aI (r05_Add (sgn false (rt ((b*2^(v).toNat).natAbs))) (1:Int) oO oO) (have f1:=L_abs_add (sgn false (rt ((b*2^(v).toNat).natAbs))) (1:Int);(Sp_of sqv_n (by rw[sqv_n]):vsub (sV (sgn false (rt ((a*2^(v).toNat).natAbs))) ((sgn false (rt ((b*2^(v).toNat).natAbs)))+(1:Int))) (sV (sqLo a v) (sqLo b v+1))))))))))))) (by kernel_rfl))
theorem r16_half0 (x1 x2 v o1 m1 m2 a1 a2 r1 r2 d1 d2 z1 z2:Int)(c0:Impl Tryz.prog Amb 57 [(.int .i64 1),(.int .i64 v)] (sV o1 o1))(c1:Impl Tryz.prog Amb 122 [(sV x1 x2),(sV x1 x2),(.int .i64 v)] (sV m1 m2))(c2:Impl Tryz.prog Amb 119 [(sV o1 o1),(sV m1 m2)] (sV a1 a2))(c3:Impl Tryz.prog Amb 180 [(sV a1 a2),(.int .i64 v)] (sV r1 r2))(c4:Impl Tryz.prog Amb 119 [(sV o1 o1),(sV r1 r2)] (sV d1 d2))(c5:Impl Tryz.prog Amb 56 [(sV x1 x2),(sV d1 d2),(.int .i64 v)] (sV z1 z2)):Impl Tryz.prog Amb 121 [(sV x1 x2),(.int .i64 v)] (sV z1 z2):=by
 exact impl_ob hP hAmb Tryz.func121 (by kernel_rfl) (.lit<|.call (sV o1 o1)<|.lits 7<|.call (sV m1 m2)<|.lit<|.call (sV a1 a2)<|.lit<|.call (sV r1 r2)<|.lit<|.call (sV d1 d2)<|.lit<|.call (sV z1 z2)<|.lits 2<|.ret)
  (cast_ob (aI True.intro (aI (c0 ) (aI (c1 ) (aI (c2 ) (aI (c3 ) (aI (c4 ) (aI (c5 ) ((vsub_refl (sV z1 z2)))))))))) (by kernel_rfl))
def r16_in_0_mk (v:Int)(ha hb:Nat→Int)(x:Nat × Int):St:=⟨mkS 53 [(1,(.val (.int .i64 v))),(2,(.own 0 0)),(4,(.own 1 0)),(10,(.val (.int .i64 x.2)))],[⟨true,false,[(V.bool (decide ((ha x.1)<0))),(N ((ha x.1).natAbs)),(V.bool (decide ((hb x.1)<0))),(N ((hb x.1).natAbs))]⟩,⟨true,false,[(V.bool false),V.nil,(V.bool false),V.nil]⟩]⟩
def r16_in_0_I (_:Int)(_ _:Nat→Int)(x:Nat × Int):Prop:=x.2=(x.1:Int)∧x.1≤4
def r16_in_0_mu (_:Int)(_ _:Nat→Int)(x:Nat × Int):Nat:=4-x.1
def r16_in_0_ex (v:Int)(ha hb:Nat→Int)(y:Nat):Ex × St:=(.exit 0,⟨mkS 53 [(1,(.val (.int .i64 v))),(2,(.own 0 0)),(4,(.own 1 0))],[⟨true,false,[(V.bool (decide ((ha y)<0))),(N ((ha y).natAbs)),(V.bool (decide ((hb y)<0))),(N ((hb y).natAbs))]⟩,⟨true,false,[(V.bool false),V.nil,(V.bool false),V.nil]⟩]⟩)
def r16_in_0_J (_:Int)(_ _:Nat→Int)(y:Nat):Prop:=y=4
abbrev r16_in_0_N (v:Int)(ha hb:Nat→Int):=NX (r16_in_0_mk v ha hb) (r16_in_0_I v ha hb) (r16_in_0_mu v ha hb) (r16_in_0_ex v ha hb) (r16_in_0_J v ha hb)
theorem r16_in_0 (v:Int)(ha hb:Nat→Int)(c0:∀ i:Nat,i<4→Impl Tryz.prog Amb 121 [(sV (ha i) (hb i)),(.int .i64 v)] (sV (ha (i+1)) (hb (i+1))))(c1:∀ i:Nat,i≤4→0≤ha i)(x0:Nat × Int)(hI:r16_in_0_I v ha hb x0):LoopOk Tryz.prog Amb (loopN Tryz.f63 0) (r16_in_0_mk v ha hb x0) (fun e st_=>∃ y,r16_in_0_J v ha hb y∧r16_in_0_ex v ha hb y=(e,st_)) :=
 loop_ob hP hAmb ⟨[1,2,4,10],2,[]⟩ (r16_in_0_mk v ha hb) (r16_in_0_I v ha hb) (r16_in_0_mu v ha hb) (r16_in_0_ex v ha hb) (r16_in_0_J v ha hb) x0 hI (fun (i,ii)=>.lit<|.both (.lits 2<|.call (sV (ha (i+1)) (hb (i+1)))<|.lits 2<|.no<|.lit<|.yes<|.fin2 ⟨[1,2,4,10],2,[]⟩) (.fin2 ⟨[1,2,4],2,[]⟩)) (by
  rintro ⟨i,ii⟩ hI
  have hI:ii=(i:Int)∧i≤4:=hI
  obtain⟨h1,h2⟩:=hI
  have nn0:i<4→0≤ha (i+1):=fun q=>c1 (i+1) oO
  exact cast_ob (aI True.intro (aI (fun (h101:(iLt ii 4)=true)=>have _gh101:=iLt_t h101;aI (c0 i oO ) (aI (decide_eq_false (by have:=nn0 oO;omega):(decide ((ha (i+1))<0))=false) (aI (fits_i64 oO:(fits .i64 (ii+1))=true) (aI tT ((nx_next ((i+1),(ii+1)) (show (ii+1)=((i+1):Int)∧(i+1)≤4 from ⟨by omega,by omega⟩) (show 4-(i+1)<4-i by omega):r16_in_0_N v ha hb (i,ii) .normal (r16_in_0_mk v ha hb ((i+1),(ii+1))))))))) (fun (h102:(iLt ii 4)=false)=>have _gh102:=iLt_f h102;aI tT ((nx_exit 0 ((r16_in_0_ex v ha hb i).2) i (show i=4 from show i=4 by omega) rfl:r16_in_0_N v ha hb (i,ii) (.exit 0) ((r16_in_0_ex v ha hb i).2)))))) (by kernel_rfl))
def r16_in_1_mk (_:Nat)(v q1 q2 ga gb:Int)(tp1 tp2 yp1 yp2:Nat→Int)(x:(Nat × Int)⊕(Nat × Int)):St:=Sum.elim (fun (x:Nat × Int)=>⟨mkS 53 [(1,(.val (.int .i64 v))),(4,(.own 1 0)),(5,(.own 2 0)),(6,(.own 3 0)),(7,(.own 4 0)),(8,(.val (.int .i64 x.2)))],[⟨true,false,[(V.bool (decide (ga<0))),(N ga.natAbs),(V.bool (decide (gb<0))),(N gb.natAbs)]⟩,⟨true,false,[(V.bool false),V.nil,(V.bool false),V.nil]⟩,⟨true,false,[(V.bool (decide (q1<0))),(N q1.natAbs),(V.bool (decide (q2<0))),(N q2.natAbs)]⟩,⟨true,false,[(V.bool (decide ((sq0 ga tp1 (2*x.1))<0))),(N ((sq0 ga tp1 (2*x.1)).natAbs)),(V.bool (decide ((sq0 gb tp2 (2*x.1))<0))),(N ((sq0 gb tp2 (2*x.1)).natAbs))]⟩,⟨true,false,[(V.bool (decide ((rsA yp1 yp2 (2*x.1))<0))),(N ((rsA yp1 yp2 (2*x.1)).natAbs)),(V.bool (decide ((rsB yp1 yp2 (2*x.1))<0))),(N ((rsB yp1 yp2 (2*x.1)).natAbs))]⟩]⟩) (fun (x:Nat × Int)=>⟨mkS 53 [(1,(.val (.int .i64 v))),(4,(.own 1 0)),(5,(.own 2 0)),(6,(.own 3 0)),(7,(.own 4 0)),(8,(.val (.int .i64 x.2)))],[⟨true,false,[(V.bool (decide (ga<0))),(N ga.natAbs),(V.bool (decide (gb<0))),(N gb.natAbs)]⟩,⟨true,false,[(V.bool false),V.nil,(V.bool false),V.nil]⟩,⟨true,false,[(V.bool (decide (q1<0))),(N q1.natAbs),(V.bool (decide (q2<0))),(N q2.natAbs)]⟩,⟨true,false,[(V.bool (decide ((sq0 ga tp1 (2*x.1+1))<0))),(N ((sq0 ga tp1 (2*x.1+1)).natAbs)),(V.bool (decide ((sq0 gb tp2 (2*x.1+1))<0))),(N ((sq0 gb tp2 (2*x.1+1)).natAbs))]⟩,⟨true,false,[(V.bool (decide ((rsA yp1 yp2 (2*x.1+1))<0))),(N ((rsA yp1 yp2 (2*x.1+1)).natAbs)),(V.bool (decide ((rsB yp1 yp2 (2*x.1+1))<0))),(N ((rsB yp1 yp2 (2*x.1+1)).natAbs))]⟩]⟩) x
def r16_in_1_I (nn:Nat)(_ _ _ _ _:Int)(_ _ _ _:Nat→Int)(x:(Nat × Int)⊕(Nat × Int)):Prop:=Sum.elim (fun (x:Nat × Int)=>2*x.1≤nn∧x.2=2*(x.1:Int)) (fun (x:Nat × Int)=>2*x.1+1≤nn∧x.2=2*(x.1:Int)+1) x
def r16_in_1_mu (nn:Nat)(_ _ _ _ _:Int)(_ _ _ _:Nat→Int)(x:(Nat × Int)⊕(Nat × Int)):Nat:=Sum.elim (fun (x:Nat × Int)=>nn-2*x.1) (fun (x:Nat × Int)=>nn-(2*x.1+1)) x
def r16_in_1_ex (_:Nat)(_ q1 q2 ga gb:Int)(tp1 tp2 yp1 yp2:Nat→Int)(y:Nat):Ex × St:=(.exit 2,⟨mkS 53 [(4,(.own 1 0)),(7,(.own 4 0))],[⟨true,false,[(V.bool (decide (ga<0))),(N ga.natAbs),(V.bool (decide (gb<0))),(N gb.natAbs)]⟩,⟨true,false,[(V.bool false),V.nil,(V.bool false),V.nil]⟩,⟨true,false,[(V.bool (decide (q1<0))),(N q1.natAbs),(V.bool (decide (q2<0))),(N q2.natAbs)]⟩,⟨true,false,[(V.bool (decide ((sq0 ga tp1 y)<0))),(N ((sq0 ga tp1 y).natAbs)),(V.bool (decide ((sq0 gb tp2 y)<0))),(N ((sq0 gb tp2 y).natAbs))]⟩,⟨true,false,[(V.bool (decide ((rsA yp1 yp2 y)<0))),(N ((rsA yp1 yp2 y).natAbs)),(V.bool (decide ((rsB yp1 yp2 y)<0))),(N ((rsB yp1 yp2 y).natAbs))]⟩]⟩)
def r16_in_1_J (nn:Nat)(_ _ _ _ _:Int)(_ _ _ _:Nat→Int)(y:Nat):Prop:=y=nn
abbrev r16_in_1_N (nn:Nat)(v q1 q2 ga gb:Int)(tp1 tp2 yp1 yp2:Nat→Int):=NX (r16_in_1_mk nn v q1 q2 ga gb tp1 tp2 yp1 yp2) (r16_in_1_I nn v q1 q2 ga gb tp1 tp2 yp1 yp2) (r16_in_1_mu nn v q1 q2 ga gb tp1 tp2 yp1 yp2) (r16_in_1_ex nn v q1 q2 ga gb tp1 tp2 yp1 yp2) (r16_in_1_J nn v q1 q2 ga gb tp1 tp2 yp1 yp2)
theorem r16_in_1 (nn:Nat)(v q1 q2 ga gb:Int)(tp1 tp2 yp1 yp2:Nat→Int)(c0:∀ j,j≤nn→Impl Tryz.prog Amb 123 [(sV (sq0 ga tp1 j) (sq0 gb tp2 j))] (.bool (decide (nn≤j))))(c1:∀ (j:Nat) (k:Int),j<nn→k=j→Impl Tryz.prog Amb 61 [(sV (sq0 ga tp1 j) (sq0 gb tp2 j)),(.int .i64 (((2:Int)*k)+1))] (sV (yp1 j) (yp2 j)))(c2:∀ j,j<nn→j%2=1→Impl Tryz.prog Amb 64 [(sV (yp1 j) (yp2 j))] (sV (-(yp2 j)) (-(yp1 j))))(c3:∀ j,j<nn→j%2=0→Impl Tryz.prog Amb 119 [(sV (rsA yp1 yp2 j) (rsB yp1 yp2 j)),(sV (yp1 j) (yp2 j))] (sV (rsA yp1 yp2 (j+1)) (rsB yp1 yp2 (j+1))))(c4:∀ j,j<nn→j%2=1→Impl Tryz.prog Amb 119 [(sV (rsA yp1 yp2 j) (rsB yp1 yp2 j)),(sV (-(yp2 j)) (-(yp1 j)))] (sV (rsA yp1 yp2 (j+1)) (rsB yp1 yp2 (j+1))))(c5:∀ j,j<nn→Impl Tryz.prog Amb 122 [(sV (sq0 ga tp1 j) (sq0 gb tp2 j)),(sV q1 q2),(.int .i64 v)] (sV (sq0 ga tp1 (j+1)) (sq0 gb tp2 (j+1))))(c6:nn≤10000)(x0:(Nat × Int)⊕(Nat × Int))(hI:r16_in_1_I nn v q1 q2 ga gb tp1 tp2 yp1 yp2 x0):LoopOk Tryz.prog Amb (loopN Tryz.f63 1) (r16_in_1_mk nn v q1 q2 ga gb tp1 tp2 yp1 yp2 x0) (fun e st_=>∃ y,r16_in_1_J nn v q1 q2 ga gb tp1 tp2 yp1 yp2 y∧r16_in_1_ex nn v q1 q2 ga gb tp1 tp2 yp1 yp2 y=(e,st_)) :=
 loop_ob hP hAmb ⟨[1,4,5,6,7,8],5,[]⟩ (r16_in_1_mk nn v q1 q2 ga gb tp1 tp2 yp1 yp2) (r16_in_1_I nn v q1 q2 ga gb tp1 tp2 yp1 yp2) (r16_in_1_mu nn v q1 q2 ga gb tp1 tp2 yp1 yp2) (r16_in_1_ex nn v q1 q2 ga gb tp1 tp2 yp1 yp2) (r16_in_1_J nn v q1 q2 ga gb tp1 tp2 yp1 yp2) x0 hI (Sum.elim (fun (h,k)=>.lits 2<|.call (.bool (decide (nn≤(2*h))))<|.lit<|.both (.lits 2<|.yes<|.lit<|.yes<|.lit<|.call (sV (yp1 (2*h)) (yp2 (2*h)))<|.lits 3<|.no<|.lits 3<|.call (sV (rsA yp1 yp2 ((2*h)+1)) (rsB yp1 yp2 ((2*h)+1)))<|.lits 4<|.call (sV (sq0 ga tp1 ((2*h)+1)) (sq0 gb tp2 ((2*h)+1)))<|.lits 2<|.yes<|.fin2 ⟨[1,4,5,6,7,8],5,[]⟩) (.fin2 ⟨[4,7],5,[]⟩)) (fun (h,k)=>.lits 2<|.call (.bool (decide (nn≤(2*h+1))))<|.lit<|.both (.lits 2<|.yes<|.lit<|.yes<|.lit<|.call (sV (yp1 (2*h+1)) (yp2 (2*h+1)))<|.lits 3<|.yes<|.lits 2<|.call (sV (-(yp2 (2*h+1))) (-(yp1 (2*h+1))))<|.lits 4<|.call (sV (rsA yp1 yp2 ((2*h+1)+1)) (rsB yp1 yp2 ((2*h+1)+1)))<|.lits 4<|.call (sV (sq0 ga tp1 ((2*h+1)+1)) (sq0 gb tp2 ((2*h+1)+1)))<|.lits 2<|.yes<|.fin2 ⟨[1,4,5,6,7,8],5,[]⟩) (.fin2 ⟨[4,7],5,[]⟩))) (by
  rintro (⟨h,k⟩ | ⟨h,k⟩) hI
  ·skip
   have hI:2*h≤nn∧k=2*(h:Int):=hI
   obtain⟨h1,h2⟩:=hI
   have hr:wRem k 2=k%2:=Int.tmod_eq_emod_of_nonneg oO
   exact cast_ob (aI True.intro (aI (c0 (2*h) h1 ) (aI (fun (h101:(!(decide (nn≤(2*h))))=true)=>have _gh101:=of_decide_eq_false (notb_t h101);aI (fits_i64 oO:(fits .i64 ((2:Int)*k))=true) (aI (fits_i64 oO:(fits .i64 (((2:Int)*k)+1))=true) (aI (c1 (2*h) k oO oO ) (aI (iEq_mkF oO:(iEq (wRem k (2:Int)) 1)=false) (aI (c3 (2*h) oO oO ) (aI (c5 (2*h) oO ) (aI (fits_i64 oO:(fits .i64 (k+1))=true) (aI tT ((nx_next (Sum.inr (h,(k+1))) (show 2*h+1≤nn∧(k+1)=2*(h:Int)+1 from ⟨by omega,by omega⟩) (show nn-(2*h+1)<nn-2*h by omega):r16_in_1_N nn v q1 q2 ga gb tp1 tp2 yp1 yp2 (Sum.inl (h,k)) .normal (r16_in_1_mk nn v q1 q2 ga gb tp1 tp2 yp1 yp2 (Sum.inr (h,(k+1)))))))))))))) (fun (h102:(!(decide (nn≤(2*h))))=false)=>have _gh102:=of_decide_eq_true (notb_f h102);aI tT ((nx_exit 2 ((r16_in_1_ex nn v q1 q2 ga gb tp1 tp2 yp1 yp2 (2*h)).2) (2*h) (show (2*h)=nn from show (2*h)=nn by omega) rfl:r16_in_1_N nn v q1 q2 ga gb tp1 tp2 yp1 yp2 (Sum.inl (h,k)) (.exit 2) ((r16_in_1_ex nn v q1 q2 ga gb tp1 tp2 yp1 yp2 (2*h)).2))))))) (by kernel_rfl)
  ·skip
   have hI:2*h+1≤nn∧k=2*(h:Int)+1:=hI
   obtain⟨h1,h2⟩:=hI
   have hr:wRem k 2=k%2:=Int.tmod_eq_emod_of_nonneg oO
   exact cast_ob (aI True.intro (aI (c0 (2*h+1) h1 ) (aI (fun (h101:(!(decide (nn≤(2*h+1))))=true)=>have _gh101:=of_decide_eq_false (notb_t h101);aI (fits_i64 oO:(fits .i64 ((2:Int)*k))=true) (aI (fits_i64 oO:(fits .i64 (((2:Int)*k)+1))=true) (aI (c1 (2*h+1) k oO oO ) (aI (iEq_mk oO:(iEq (wRem k (2:Int)) 1)=true) (aI (c2 (2*h+1) oO oO ) (aI (c4 (2*h+1) oO oO ) (aI (c5 (2*h+1) oO ) (aI (fits_i64 oO:(fits .i64 (k+1))=true) (aI tT ((nx_next (Sum.inl ((h+1),(k+1))) (show 2*(h+1)≤nn∧(k+1)=2*((h+1):Int) from ⟨by omega,by omega⟩) (show nn-2*(h+1)<nn-(2*h+1) by omega):r16_in_1_N nn v q1 q2 ga gb tp1 tp2 yp1 yp2 (Sum.inr (h,k)) .normal (r16_in_1_mk nn v q1 q2 ga gb tp1 tp2 yp1 yp2 (Sum.inl ((h+1),(k+1))))))))))))))) (fun (h102:(!(decide (nn≤(2*h+1))))=false)=>have _gh102:=of_decide_eq_true (notb_f h102);aI tT ((nx_exit 2 ((r16_in_1_ex nn v q1 q2 ga gb tp1 tp2 yp1 yp2 (2*h+1)).2) (2*h+1) (show (2*h+1)=nn from show (2*h+1)=nn by omega) rfl:r16_in_1_N nn v q1 q2 ga gb tp1 tp2 yp1 yp2 (Sum.inr (h,k)) (.exit 2) ((r16_in_1_ex nn v q1 q2 ga gb tp1 tp2 yp1 yp2 (2*h+1)).2))))))) (by kernel_rfl))
theorem r16_inner0 (x1 x2 v q1 q2 u1 u2 v1 v2:Int)(nn:Nat)(ha:Nat→Int)(hb:Nat→Int)(tp1:Nat→Int)(tp2:Nat→Int)(yp1:Nat→Int)(yp2:Nat→Int)(c0:∀ i:Nat,i<4→Impl Tryz.prog Amb 121 [(sV (ha i) (hb i)),(.int .i64 v)] (sV (ha (i+1)) (hb (i+1))))(c1:∀ i:Nat,i≤4→0≤ha i)(c2:Impl Tryz.prog Amb 122 [(sV (ha 4) (hb 4)),(sV (ha 4) (hb 4)),(.int .i64 v)] (sV q1 q2))(c3:Impl Tryz.prog Amb 57 [(.int .i64 0),(.int .i64 v)] (sV (rsA yp1 yp2 0) (rsB yp1 yp2 0)))(c4:∀ j,j≤nn→Impl Tryz.prog Amb 123 [(sV (sq0 (ha 4) tp1 j) (sq0 (hb 4) tp2 j))] (.bool (decide (nn≤j))))(c5:∀ (j:Nat) (k:Int),j<nn→k=j→Impl Tryz.prog Amb 61 [(sV (sq0 (ha 4) tp1 j) (sq0 (hb 4) tp2 j)),(.int .i64 (((2:Int)*k)+1))] (sV (yp1 j) (yp2 j)))(c6:∀ j,j<nn→j%2=1→Impl Tryz.prog Amb 64 [(sV (yp1 j) (yp2 j))] (sV (-(yp2 j)) (-(yp1 j))))(c7:∀ j,j<nn→j%2=0→Impl Tryz.prog Amb 119 [(sV (rsA yp1 yp2 j) (rsB yp1 yp2 j)),(sV (yp1 j) (yp2 j))] (sV (rsA yp1 yp2 (j+1)) (rsB yp1 yp2 (j+1))))(c8:∀ j,j<nn→j%2=1→Impl Tryz.prog Amb 119 [(sV (rsA yp1 yp2 j) (rsB yp1 yp2 j)),(sV (-(yp2 j)) (-(yp1 j)))] (sV (rsA yp1 yp2 (j+1)) (rsB yp1 yp2 (j+1))))(c9:∀ j,j<nn→Impl Tryz.prog Amb 122 [(sV (sq0 (ha 4) tp1 j) (sq0 (hb 4) tp2 j)),(sV q1 q2),(.int .i64 v)] (sV (sq0 (ha 4) tp1 (j+1)) (sq0 (hb 4) tp2 (j+1))))(c10:nn≤10000)(c11:Impl Tryz.prog Amb 124 [(sV (rsA yp1 yp2 nn) (rsB yp1 yp2 nn)),(.int .i64 3)] (sV u1 u2))(c12:Impl Tryz.prog Amb 120 [(sV u1 u2),(.int .i64 16)] (sV v1 v2)):Impl Tryz.prog Amb 63 [(sV (ha 0) (hb 0)),(.int .i64 v)] (sV v1 v2):=by
 exact impl_ob hP hAmb Tryz.func63 (by kernel_rfl) (.loop ⟨[1,2,4,10],2,[]⟩ ((r16_in_0_mk v ha hb (0,0))) (Nat) (r16_in_0_ex v ha hb) (r16_in_0_J v ha hb) (fun y=>.lits 3<|.call (sV q1 q2)<|.lits 3<|.call (sV (rsA yp1 yp2 0) (rsB yp1 yp2 0))<|.loop ⟨[1,4,5,6,7,8],5,[]⟩ ((r16_in_1_mk nn v q1 q2 (ha y) (hb y) tp1 tp2 yp1 yp2 (Sum.inl (0,0)))) (Nat) (r16_in_1_ex nn v q1 q2 (ha y) (hb y) tp1 tp2 yp1 yp2) (r16_in_1_J nn v q1 q2 (ha y) (hb y) tp1 tp2 yp1 yp2) (fun z=>.lits 2<|.call (sV u1 u2)<|.lit<|.call (sV v1 v2)<|.lits 2<|.ret)))
  (cast_ob (aI True.intro (aI tT (aI (rfl:(r16_in_0_mk v ha hb (0,0))=(r16_in_0_mk v ha hb (0,0))) (aI (r16_in_0 v ha hb c0 c1 (0,0) (show 0=(0:Int)∧0≤4 from ⟨by omega,by omega⟩)) (fun y (hJ:r16_in_0_J v ha hb y)=>have hJ:y=4:=hJ;have hY:=hJ;aI ((hY ▸ c2) ) (aI (c3 ) (aI tT (aI (rfl:(r16_in_1_mk nn v q1 q2 (ha y) (hb y) tp1 tp2 yp1 yp2 (Sum.inl (0,0)))=(r16_in_1_mk nn v q1 q2 (ha y) (hb y) tp1 tp2 yp1 yp2 (Sum.inl (0,0)))) (aI (r16_in_1 nn v q1 q2 (ha y) (hb y) tp1 tp2 yp1 yp2 (hY ▸ c4) (hY ▸ c5) c6 c7 c8 (hY ▸ c9) c10 (Sum.inl (0,0)) (show 2*0≤nn∧0=2*(0:Int) from ⟨by omega,by omega⟩)) (fun z (hJ:r16_in_1_J nn v q1 q2 (ha y) (hb y) tp1 tp2 yp1 yp2 z)=>have hJ:z=nn:=hJ;have hZ:=hJ;aI ((hZ ▸ c11) ) (aI (c12 ) ((vsub_refl (sV v1 v2)))))))))))))) (by kernel_rfl))
theorem r16_shrink (a b n:Int)(c0:L (a).natAbs≤1000)(c1:L (b).natAbs≤1000)(c2:(0:Int)≤n∧n≤5000):Impl Tryz.prog Amb 58 [(sV a b),(.int .i64 n)] (sV (a / 2^(n).toNat) (-(-b / 2^(n).toNat))):=by
 have l1:=L_abs_shr a n.toNat
 have l2:=L_abs_neg b
 have l3:=L_abs_shr (-b) n.toNat
 have l4:=L_abs_neg (-b / 2^n.toNat)
 exact impl_ob hP hAmb Tryz.func58 (by kernel_rfl) (.lits 2<|.call (zV (a / 2^(n).toNat))<|.lits 2<|.call (zV (-b))<|.lit<|.call (zV ((-b) / 2^(n).toNat))<|.lit<|.call (zV (-((-b) / 2^(n).toNat)))<|.lits 3<|.ret)
  (cast_ob (aI True.intro (aI (r05_Shr a n oO oO) (have f4:=L_abs_shr a (n).toNat;aI (r05_Neg b oO) (have f3:=L_abs_neg b;aI (r05_Shr (-b) n oO oO) (have f2:=L_abs_shr (-b) (n).toNat;aI (r05_Neg ((-b) / 2^(n).toNat) oO) (have f1:=L_abs_neg ((-b) / 2^(n).toNat);(vsub_refl _:vsub (sV (a / 2^(n).toNat) (-((-b) / 2^(n).toNat))) (sV (a / 2^(n).toNat) (-(-b / 2^(n).toNat)))))))))) (by kernel_rfl))
theorem r16_AtSP (m ee w a cc tp o1 b1 b2 x1 x2 z1 z2 p1 p2 n1 n2 e1 e2 y1 y2 s1 s2 g1 g2 g3 g4:Int)(c0:(0:Int)≤w∧w≤2000)(c1:-5000≤tp∧tp≤5000)(c2:0≤m)(c3:cc≤0)(c4:Impl Tryz.prog Amb 53 [(.bool false),(N m.natAbs)] (zV a))(c5:Impl Tryz.prog Amb 54 [(.int .i64 1)] (yV (1:Int) 0))(c6:Impl Tryz.prog Amb 20 [(yV a ee),(yV (1:Int) 0)] (.int .i64 cc))(c7:Impl Tryz.prog Amb 59 [(yV a ee),(.int .i64 (w+60))] (sV x1 x2))(c8:Impl Tryz.prog Amb 63 [(sV x1 x2),(.int .i64 (w+60))] (sV y1 y2))(c9:Impl Tryz.prog Amb 65 [(sV y1 y2),(.int .i64 (w+60)),(.int .i64 (w+16))] (wV g1 g2 g3 g4)):Impl Tryz.prog Amb 17 [(yV m ee),(.int .i64 w)] (wV g1 g2 g3 g4):=by
 have mx:=iMax_bd tp
 exact impl_ob hP hAmb Tryz.func17 (by kernel_rfl) (.lit<|.yes<|.lits 4<|.call (zV a)<|.lits 3<|.call (yV (1:Int) 0)<|.lit<|.call (.int .i64 cc)<|.lit<|.no<|.lits 2<|.call (sV x1 x2)<|.lit<|.call (sV y1 y2)<|.lits 2<|.no<|.lits 2<|.yes<|.lit<|.call (wV g1 g2 g3 g4)<|.lits 2<|.ret)
  (cast_ob (aI True.intro (aI (fits_i64 oS:(fits .i64 (w+60))=true) (aI (c4 ) (aI (c5 ) (aI (c6 ) (aI (iGt_mkF oO:(iGt cc 0)=false) (aI (c7 ) (aI (c8 ) (aI (decide_eq_false oO:(decide (m<0))=false) (aI (fits_i64 oS:(fits .i64 (w+16))=true) (aI (c9 ) ((vsub_refl (wV g1 g2 g3 g4)))))))))))))) (by kernel_rfl))
theorem r16_AtSN (m ee w a cc tp o1 b1 b2 x1 x2 z1 z2 p1 p2 n1 n2 e1 e2 y1 y2 s1 s2 g1 g2 g3 g4:Int)(c0:(0:Int)≤w∧w≤2000)(c1:-5000≤tp∧tp≤5000)(c2:m<0)(c3:cc≤0)(c4:Impl Tryz.prog Amb 53 [(.bool false),(N m.natAbs)] (zV a))(c5:Impl Tryz.prog Amb 54 [(.int .i64 1)] (yV (1:Int) 0))(c6:Impl Tryz.prog Amb 20 [(yV a ee),(yV (1:Int) 0)] (.int .i64 cc))(c7:Impl Tryz.prog Amb 59 [(yV a ee),(.int .i64 (w+60))] (sV x1 x2))(c8:Impl Tryz.prog Amb 63 [(sV x1 x2),(.int .i64 (w+60))] (sV y1 y2))(c9:Impl Tryz.prog Amb 64 [(sV y1 y2)] (sV s1 s2))(c10:Impl Tryz.prog Amb 65 [(sV s1 s2),(.int .i64 (w+60)),(.int .i64 (w+16))] (wV g1 g2 g3 g4)):Impl Tryz.prog Amb 17 [(yV m ee),(.int .i64 w)] (wV g1 g2 g3 g4):=by
 have mx:=iMax_bd tp
 exact impl_ob hP hAmb Tryz.func17 (by kernel_rfl) (.lit<|.yes<|.lits 4<|.call (zV a)<|.lits 3<|.call (yV (1:Int) 0)<|.lit<|.call (.int .i64 cc)<|.lit<|.no<|.lits 2<|.call (sV x1 x2)<|.lit<|.call (sV y1 y2)<|.lits 2<|.yes<|.lits 2<|.call (sV s1 s2)<|.lits 3<|.yes<|.lit<|.call (wV g1 g2 g3 g4)<|.lits 2<|.ret)
  (cast_ob (aI True.intro (aI (fits_i64 oS:(fits .i64 (w+60))=true) (aI (c4 ) (aI (c5 ) (aI (c6 ) (aI (iGt_mkF oO:(iGt cc 0)=false) (aI (c7 ) (aI (c8 ) (aI (decide_eq_true oO:(decide (m<0))=true) (aI (c9 ) (aI (fits_i64 oS:(fits .i64 (w+16))=true) (aI (c10 ) ((vsub_refl (wV g1 g2 g3 g4))))))))))))))) (by kernel_rfl))
theorem r16_AtBP (m ee w a cc tp o1 b1 b2 x1 x2 z1 z2 p1 p2 n1 n2 e1 e2 y1 y2 s1 s2 g1 g2 g3 g4:Int)(c0:(0:Int)≤w∧w≤2000)(c1:-5000≤tp∧tp≤5000)(c2:0≤m)(c3:0<cc)(c4:Impl Tryz.prog Amb 53 [(.bool false),(N m.natAbs)] (zV a))(c5:Impl Tryz.prog Amb 54 [(.int .i64 1)] (yV (1:Int) 0))(c6:Impl Tryz.prog Amb 20 [(yV a ee),(yV (1:Int) 0)] (.int .i64 cc))(c7:Impl Tryz.prog Amb 55 [(yV a ee)] (.int .i64 tp))(c8:Impl Tryz.prog Amb 57 [(.int .i64 1),(.int .i64 (w+60))] (sV o1 o1))(c9:Impl Tryz.prog Amb 59 [(yV a ee),(.int .i64 ((w+60)+(iMax (0:Int) tp)))] (sV b1 b2))(c10:Impl Tryz.prog Amb 58 [(sV b1 b2),(.int .i64 (((w+60)+(iMax (0:Int) tp))-(w+60)))] (sV x1 x2))(c11:Impl Tryz.prog Amb 56 [(sV o1 o1),(sV x1 x2),(.int .i64 (w+60))] (sV z1 z2))(c12:Impl Tryz.prog Amb 62 [(.int .i64 (w+60))] (sV p1 p2))(c13:Impl Tryz.prog Amb 61 [(sV p1 p2),(.int .i64 2)] (sV n1 n2))(c14:Impl Tryz.prog Amb 63 [(sV z1 z2),(.int .i64 (w+60))] (sV e1 e2))(c15:Impl Tryz.prog Amb 60 [(sV n1 n2),(sV e1 e2)] (sV y1 y2))(c16:Impl Tryz.prog Amb 65 [(sV y1 y2),(.int .i64 (w+60)),(.int .i64 (w+16))] (wV g1 g2 g3 g4)):Impl Tryz.prog Amb 17 [(yV m ee),(.int .i64 w)] (wV g1 g2 g3 g4):=by
 have mx:=iMax_bd tp
 exact impl_ob hP hAmb Tryz.func17 (by kernel_rfl) (.lit<|.yes<|.lits 4<|.call (zV a)<|.lits 3<|.call (yV (1:Int) 0)<|.lit<|.call (.int .i64 cc)<|.lit<|.yes<|.lits 2<|.call (.int .i64 tp)<|.lits 2<|.yes<|.lit<|.call (sV o1 o1)<|.lits 2<|.call (sV b1 b2)<|.lit<|.yes<|.lit<|.call (sV x1 x2)<|.lit<|.call (sV z1 z2)<|.lit<|.call (sV p1 p2)<|.lit<|.call (sV n1 n2)<|.lits 2<|.call (sV e1 e2)<|.lit<|.call (sV y1 y2)<|.lits 2<|.no<|.lits 2<|.yes<|.lit<|.call (wV g1 g2 g3 g4)<|.lits 2<|.ret)
  (cast_ob (aI True.intro (aI (fits_i64 oS:(fits .i64 (w+60))=true) (aI (c4 ) (aI (c5 ) (aI (c6 ) (aI (iGt_mk oO:(iGt cc 0)=true) (aI (c7 ) (aI (fits_i64 oS:(fits .i64 ((w+60)+(iMax (0:Int) tp)))=true) (aI (c8 ) (aI (c9 ) (aI (fits_i64 oS:(fits .i64 (((w+60)+(iMax (0:Int) tp))-(w+60)))=true) (aI (c10 ) (aI (c11 ) (aI (c12 ) (aI (c13 ) (aI (c14 ) (aI (c15 ) (aI (decide_eq_false oO:(decide (m<0))=false) (aI (fits_i64 oS:(fits .i64 (w+16))=true) (aI (c16 ) ((vsub_refl (wV g1 g2 g3 g4))))))))))))))))))))))) (by kernel_rfl))
theorem r16_AtBN (m ee w a cc tp o1 b1 b2 x1 x2 z1 z2 p1 p2 n1 n2 e1 e2 y1 y2 s1 s2 g1 g2 g3 g4:Int)(c0:(0:Int)≤w∧w≤2000)(c1:-5000≤tp∧tp≤5000)(c2:m<0)(c3:0<cc)(c4:Impl Tryz.prog Amb 53 [(.bool false),(N m.natAbs)] (zV a))(c5:Impl Tryz.prog Amb 54 [(.int .i64 1)] (yV (1:Int) 0))(c6:Impl Tryz.prog Amb 20 [(yV a ee),(yV (1:Int) 0)] (.int .i64 cc))(c7:Impl Tryz.prog Amb 55 [(yV a ee)] (.int .i64 tp))(c8:Impl Tryz.prog Amb 57 [(.int .i64 1),(.int .i64 (w+60))] (sV o1 o1))(c9:Impl Tryz.prog Amb 59 [(yV a ee),(.int .i64 ((w+60)+(iMax (0:Int) tp)))] (sV b1 b2))(c10:Impl Tryz.prog Amb 58 [(sV b1 b2),(.int .i64 (((w+60)+(iMax (0:Int) tp))-(w+60)))] (sV x1 x2))(c11:Impl Tryz.prog Amb 56 [(sV o1 o1),(sV x1 x2),(.int .i64 (w+60))] (sV z1 z2))(c12:Impl Tryz.prog Amb 62 [(.int .i64 (w+60))] (sV p1 p2))(c13:Impl Tryz.prog Amb 61 [(sV p1 p2),(.int .i64 2)] (sV n1 n2))(c14:Impl Tryz.prog Amb 63 [(sV z1 z2),(.int .i64 (w+60))] (sV e1 e2))(c15:Impl Tryz.prog Amb 60 [(sV n1 n2),(sV e1 e2)] (sV y1 y2))(c16:Impl Tryz.prog Amb 64 [(sV y1 y2)] (sV s1 s2))(c17:Impl Tryz.prog Amb 65 [(sV s1 s2),(.int .i64 (w+60)),(.int .i64 (w+16))] (wV g1 g2 g3 g4)):Impl Tryz.prog Amb 17 [(yV m ee),(.int .i64 w)] (wV g1 g2 g3 g4):=by
 have mx:=iMax_bd tp
 exact impl_ob hP hAmb Tryz.func17 (by kernel_rfl) (.lit<|.yes<|.lits 4<|.call (zV a)<|.lits 3<|.call (yV (1:Int) 0)<|.lit<|.call (.int .i64 cc)<|.lit<|.yes<|.lits 2<|.call (.int .i64 tp)<|.lits 2<|.yes<|.lit<|.call (sV o1 o1)<|.lits 2<|.call (sV b1 b2)<|.lit<|.yes<|.lit<|.call (sV x1 x2)<|.lit<|.call (sV z1 z2)<|.lit<|.call (sV p1 p2)<|.lit<|.call (sV n1 n2)<|.lits 2<|.call (sV e1 e2)<|.lit<|.call (sV y1 y2)<|.lits 2<|.yes<|.lits 2<|.call (sV s1 s2)<|.lits 3<|.yes<|.lit<|.call (wV g1 g2 g3 g4)<|.lits 2<|.ret)
  (cast_ob (aI True.intro (aI (fits_i64 oS:(fits .i64 (w+60))=true) (aI (c4 ) (aI (c5 ) (aI (c6 ) (aI (iGt_mk oO:(iGt cc 0)=true) (aI (c7 ) (aI (fits_i64 oS:(fits .i64 ((w+60)+(iMax (0:Int) tp)))=true) (aI (c8 ) (aI (c9 ) (aI (fits_i64 oS:(fits .i64 (((w+60)+(iMax (0:Int) tp))-(w+60)))=true) (aI (c10 ) (aI (c11 ) (aI (c12 ) (aI (c13 ) (aI (c14 ) (aI (c15 ) (aI (decide_eq_true oO:(decide (m<0))=true) (aI (c16 ) (aI (fits_i64 oS:(fits .i64 (w+16))=true) (aI (c17 ) ((vsub_refl (wV g1 g2 g3 g4)))))))))))))))))))))))) (by kernel_rfl))
end Go.Proofs.YtkkbddkpggjgpaaGreatDoor








namespace Go.Proofs.YtkkbddkpggjgpaaGreatDoor
open Go.RowKit
set_option maxRecDepth 100000
set_option maxHeartbeats 2000000
theorem mill_DyadicB (b:Bool)(l:List Nat)(e n k:Int)(c0:Dig l)(c1:l.length≤9223372036854775807)(c2:(-9223372036854775808:Int)≤e∧e≤9223372036854775807)(c3:(0:Int)≤n∧n≤90)(c4:(0:Int)≤k∧k≤60000):Impl Tryz.prog Amb 18 [(.agg [(.bool b),(.sl 1 (U l)),(.int .i64 e)]),(.int .i64 n),(.int .i64 k)] (.tup [(yV (mkM (rawI b l n) (e%(2*k+1)-k)) (mkX (rawI b l n) (e%(2*k+1)-k))),(.bool (decide ((l.length:Int)≤n)))]):=by
 have ej:=Int.emod_nonneg e (show (2*k+1:Int)≠0 by omega)
 have ek:=Int.emod_lt_of_pos e (show (0:Int)<2*k+1 by omega)
 exact impl_ob hP hAmb Tryz.func18 (by kernel_rfl) (.lits 2<|.call (.tup [(zV (rawI b l n)),(.bool (decide ((l.length:Int)≤n)))])<|.lits 2<|.both (.lits 3<|.ret) (.lits 3<|.yes<|.lit<|.yes<|.lit<|.call (.int .i64 (e%(((2:Int)*k)+1)))<|.lit<|.yes<|.lit<|.call (mkT (rawI b l n) ((e%(((2:Int)*k)+1))-k))<|.lits 4<|.ret))
  (cast_ob (aI True.intro (aI (mill_Int b l n oO oO oO) (have f6:=(rawI_L (b:=b) ‹Dig l› (show (0:Int)≤n by omega));aI (fun (h1:(!(decide ((l.length:Int)≤n)))=true)=>have _gh1:=of_decide_eq_false (notb_t h1);(rawd_ret1 oO:vsub (.tup [(.agg [(.bool false),.nil,(.int .i64 0)]),(.bool false)]) (.tup [(yV (mkM (rawI b l n) (e%(2*k+1)-k)) (mkX (rawI b l n) (e%(2*k+1)-k))),(.bool (decide ((l.length:Int)≤n)))]))) (fun (h2:(!(decide ((l.length:Int)≤n)))=false)=>have _gh2:=of_decide_eq_true (notb_f h2);aI (fits_i64 oO:(fits .i64 ((2:Int)*k))=true) (aI (fits_i64 oO:(fits .i64 (((2:Int)*k)+1))=true) (aI (mill_Mod e (((2:Int)*k)+1) oO oO) (have f5:=Int.emod_lt_of_pos e (show (0:Int)<(((2:Int)*k)+1) by omega);have f4:=Int.emod_nonneg e (show ((((2:Int)*k)+1):Int)≠0 by omega);aI (fits_i64 oO:(fits .i64 ((e%(((2:Int)*k)+1))-k))=true) (aI (r08_Make (rawI b l n) ((e%(((2:Int)*k)+1))-k) oO oO) (have f3:=mk_facts (rawI b l n) ((e%(((2:Int)*k)+1))-k);(vsub_tup2 (vsub_refl _) (vsub_of (congrArg V.bool (rawd_ok (mk_fine3 oO oO) oO))):vsub (.tup [(yV (mkM (rawI b l n) ((e%(((2:Int)*k)+1))-k)) (mkX (rawI b l n) ((e%(((2:Int)*k)+1))-k))),(.bool (iEq (mkE (rawI b l n) ((e%(((2:Int)*k)+1))-k)) 0))]) (.tup [(yV (mkM (rawI b l n) (e%(2*k+1)-k)) (mkX (rawI b l n) (e%(2*k+1)-k))),(.bool (decide ((l.length:Int)≤n)))]))))))))))) (by kernel_rfl))
theorem mkX_up {m e c:Int}(hc:0≤c)(h:mkE m e=0)(he:e≤c):mkX m e≤c+32*(L m.natAbs:Int)∧(e≤mkX m e∨mkX m e=0):=by
 have t:=tz_L m.natAbs
 rcases mk_cases h with ⟨_,_,h2⟩ | ⟨_,_,h2,_⟩
 ·rw[h2];omega
 ·rw[h2];unfold de;omega
end Go.Proofs.YtkkbddkpggjgpaaGreatDoor

namespace Go.Proofs.YtkkbddkpggjgpaaGreatDoor
open Go.RowKit
set_option maxRecDepth 100000
def eA (w:Int):Int:=(mkM ((eLo (w+24)) / 2^24) (-w))
def eB (w:Int):Int:=(mkX ((eLo (w+24)) / 2^24) (-w))
end Go.Proofs.YtkkbddkpggjgpaaGreatDoor

namespace Go.Proofs.YtkkbddkpggjgpaaGreatDoor
open Go.RowKit
set_option maxRecDepth 100000
set_option maxHeartbeats 2000000
def rpLo (v:Int):Int:=((((atanT 5 v).1-2)*16)+(-(((atanT 239 v).2+2)*4)))
def rpHi (v:Int):Int:=((((atanT 5 v).2+2)*16)+(-(((atanT 239 v).1-2)*4)))
theorem rpi_all:(List.range 400).all (fun t=>decide (t<24) || (decide (0≤rpLo (t:Int)) && decide (rpLo (t:Int)*2^(430-t)≤ptPi) && decide (ptPi≤rpHi (t:Int)*2^(430-t)) && decide (rpHi (t:Int)≤8*2^t) && decide (rpHi (t:Int)-rpLo (t:Int)≤16384)))=true:=by kernel_rfl
theorem rpi_at {t:Nat}(ht:t<400)(h24:24≤t):(((rpLo (t:Int):Int):Rat)≤cQ*2*((2^t:Int):Rat)∧cQ*2*((2^t:Int):Rat)≤((rpHi (t:Int):Int):Rat))∧0≤rpLo (t:Int)∧rpHi (t:Int)≤8*2^t∧rpHi (t:Int)-rpLo (t:Int)≤16384:=by
 have h:=List.all_eq_true.1 rpi_all t (List.mem_range.2 ht)
 simp only [Bool.or_eq_true,Bool.and_eq_true,decide_eq_true_eq] at h
 have h:=h.resolve_left oO
 rw[← cQ2]
 exact⟨⟨(cl_sc oO).1 h.1.1.1.2,(cl_sc oO).2 h.1.1.2⟩,h.1.1.1.1,h.1.2,h.2⟩
theorem rq_half {v:Int}(hv:24≤v∧v<400):∃ p1 p2 n1 n2:Int,Impl Tryz.prog Amb 62 [(.int .i64 v)] (sV p1 p2)∧Impl Tryz.prog Amb 61 [(sV p1 p2),(.int .i64 2)] (sV n1 n2)∧((n1:Rat)≤cQ*((2^v.toNat:Int):Rat)∧cQ*((2^v.toNat:Int):Rat)≤(n2:Rat))∧(0≤n1∧n2≤8*2^v.toNat∧n2-n1≤8194)∧L n1.natAbs≤70∧L n2.natAbs≤70:=by
 have hP:=r13_PiSpan v oO
 have rl:=rpi_at (t:=v.toNat) oO oO
 rw[Int.toNat_of_nonneg (show 0≤v by omega)] at rl
 have hP:Impl Tryz.prog Amb 62 [(.int .i64 v)] (sV (rpLo v) (rpHi v)):=hP
 generalize rpLo v=p1 at *
 generalize rpHi v=p2 at *
 obtain⟨rc,r0,r8,rw_⟩:=rl
 have p12:p1≤p2:=Rat.intCast_le_intCast.1 (Rat.le_trans rc.1 rc.2)
 have pv2:((2^v.toNat:Nat):Int)=(2:Int)^v.toNat:=(pow_cast _).symm
 have l1:L p1.natAbs≤70:=abs_big (t:=v.toNat) (c:=8) oO oO oO
 have l2:L p2.natAbs≤70:=abs_big (t:=v.toNat) (c:=8) oO oO oO
 have hO:=r13_Over p1 p2 2 oO oO oO
 have oi:=ov_in (a:=p1) (b:=p2) (n:=2) oO rc.1 rc.2
 have e2:cQ*2*((2^v.toNat:Int):Rat) / ((2:Int):Rat)=cQ*((2^v.toNat:Int):Rat):=by
  rw[show ((2:Int):Rat)=2 from rfl,show cQ*2*((2^v.toNat:Int):Rat)=cQ*((2^v.toNat:Int):Rat)*2 by grind,Rat.mul_div_cancel (by decide)]
 rw[e2] at oi
 have oo:ovLo p1 p2 2=p1 / 2∧ovHi p1 p2 2=-(-p2 / 2):=by
  unfold ovLo ovHi
  rw[show min p1 p2=p1 by omega,show max p1 p2=p2 by omega,Int.fdiv_eq_ediv_of_nonneg _ oO,Int.fdiv_eq_ediv_of_nonneg _ oO]
  exact⟨rfl,rfl⟩
 have q1:0≤ovLo p1 p2 2:=by rw[oo.1];omega
 have q2:ovHi p1 p2 2≤8*2^v.toNat:=by rw[oo.2];omega
 have q3:ovHi p1 p2 2-ovLo p1 p2 2≤8194:=by rw[oo.1,oo.2];omega
 have q4:ovLo p1 p2 2≤ovHi p1 p2 2:=by rw[oo.1,oo.2];omega
 exact⟨p1,p2,ovLo p1 p2 2,ovHi p1 p2 2,hP,hO,oi,⟨q1,q2,q3⟩,abs_big (t:=v.toNat) (c:=8) oO oO oO,abs_big (t:=v.toNat) (c:=8) oO oO oO⟩
end Go.Proofs.YtkkbddkpggjgpaaGreatDoor

namespace Go.Proofs.YtkkbddkpggjgpaaGreatDoor
open Go.RowKit
set_option maxRecDepth 100000
set_option maxHeartbeats 2000000
def hvR (v a b:Int):Int × Int:=rdv a b (1*(2^v.toNat)+sqLo (1*(2^v.toNat)+rm1 a b a b (2^v.toNat)) v) (1*(2^v.toNat)+(sqLo (1*(2^v.toNat)+rm2 a b a b (2^v.toNat)) v+1)) (2^v.toNat)
theorem abs_L {x:Int}{n k:Nat}(h:x.natAbs≤2^n)(hk:n+1≤32*k):L x.natAbs≤k:=by
 have:=Nat.pow_lt_pow_right (a:=2) oO (show n<n+1 by omega)
 exact L_pow2 (n:=n+1) oO hk
theorem r16_halfE (a b v:Int)(hv:12≤v∧v≤400)(a0:0≤a)(ab:a≤b)(hb:8*b≤9*(2^v.toNat)) :
  Impl Tryz.prog Amb 121 [(sV a b),(.int .i64 v)] (.agg [(.bool (decide ((hvR v a b).1<0))),(N (((hvR v a b).1).natAbs)),(.bool (decide ((hvR v a b).2<0))),(N (((hvR v a b).2).natAbs))])∧Hstep (2^v.toNat) a b (hvR v a b).1 (hvR v a b).2:=by
 have P:=two_pos v.toNat
 have P12:=two_up (show 12≤v.toNat by omega)
 rw[show (2:Int)^12=4096 from rfl] at P12
 have sp:=sq_prod a0 ab (2^v.toNat)
 have m0:=Int.ediv_nonneg (Int.mul_nonneg a0 a0) (show 0≤(2:Int)^v.toNat by omega)
 have lq:=sq_T2 a0 ab hb (show v.toNat≤6000 by omega)
 have la:L a.natAbs≤200:=L_T a0 oO (show v.toNat≤6000 by omega)
 have lb:L b.natAbs≤200:=L_T oO oO (show v.toNat≤6000 by omega)
 have nm:0≤-(-(b*b) / (2^v.toNat)):=by
  have:=Int.mul_nonneg (show 0≤b by omega) (show 0≤b by omega)
  have:-(b*b) / (2^v.toNat)≤0:=Int.ediv_le_of_le_mul P oO
  omega
 have lO:=L_pow1 v.toNat
 have g1:=sqLo_spec (a:=1*(2^v.toNat)+rm1 a b a b (2^v.toNat)) (s:=v) (by rw[sp.1];omega)
 have g2:=sqLo_spec (a:=1*(2^v.toNat)+rm2 a b a b (2^v.toNat)) (s:=v) (by rw[sp.2];omega)
 have l1:=L_abs_add (1*(2^v.toNat)) (rm1 a b a b (2^v.toNat))
 have l2:=L_abs_add (1*(2^v.toNat)) (rm2 a b a b (2^v.toNat))
 rw[sp.1] at l1
 rw[sp.2] at l2
 have l3:=(sqr_L (a:=1*(2^v.toNat)+rm1 a b a b (2^v.toNat)) (s:=v)).1
 have l4:=(sqr_L (a:=1*(2^v.toNat)+rm2 a b a b (2^v.toNat)) (s:=v)).1
 rw[sp.1] at l3
 rw[sp.2] at l4
 have e1:(1:Int)*(2^v.toNat)=(2^v.toNat):=Int.one_mul _
 have st:=hv_stepG (T:=(2^v.toNat)) (a:=a) (b:=b) (m1:=rm1 a b a b (2^v.toNat)) (m2:=rm2 a b a b (2^v.toNat)) (r1:=sqLo (1*(2^v.toNat)+rm1 a b a b (2^v.toNat)) v) (r2:=sqLo (1*(2^v.toNat)+rm2 a b a b (2^v.toNat)) v+1) P a0 ab oO sp.1 sp.2 g1.1 (by have:=g1.2.1;rw[e1] at this ⊢;exact this) (by have:=g1.2.2;rw[e1] at this ⊢;exact this) oO
  (by have:=Int.le_of_lt g2.2.2;rw[e1] at this ⊢;exact this) (by have:=g2.2.1;rw[e1] at this ⊢;rw[show ∀ z:Int,z+1-1=z from fun z=>by omega];omega)
 have pk:=dv_pick (a:=a) (b:=b) (c:=1*(2^v.toNat)+sqLo (1*(2^v.toNat)+rm1 a b a b (2^v.toNat)) v) (d:=1*(2^v.toNat)+(sqLo (1*(2^v.toNat)+rm2 a b a b (2^v.toNat)) v+1)) P a0 ab oO (by have:=st.2.2.2;omega)
 have hO:=r13_Of 1 v oO oO
 have hM:=r13_Mul a b a b v oO oO oO oO oO
 have hA:=r13_Add (1*(2^v.toNat)) (1*(2^v.toNat)) (rm1 a b a b (2^v.toNat)) (rm2 a b a b (2^v.toNat)) oO oO (by rw[sp.1];omega) (by rw[sp.2];omega)
 have hS:=r13_Sqrt (1*(2^v.toNat)+rm1 a b a b (2^v.toNat)) (1*(2^v.toNat)+rm2 a b a b (2^v.toNat)) v (by rw[sp.1];omega) (by rw[sp.2];omega) oO
 have l5:=L_abs_add (sqLo (1*(2^v.toNat)+rm2 a b a b (2^v.toNat)) v) 1
 have l6:=L_lit 1 (by decide)
 have l6:L (1:Int).natAbs≤1:=l6
 rw[sp.2] at l5
 have hB:=r13_Add (1*(2^v.toNat)) (1*(2^v.toNat)) (sqLo (1*(2^v.toNat)+rm1 a b a b (2^v.toNat)) v) (sqLo (1*(2^v.toNat)+rm2 a b a b (2^v.toNat)) v+1) oO oO (by rw[sp.1];omega) (by rw[sp.2];omega)
 have l7:=L_abs_add (1*(2^v.toNat)) (sqLo (1*(2^v.toNat)+rm1 a b a b (2^v.toNat)) v)
 have l8:=L_abs_add (1*(2^v.toNat)) (sqLo (1*(2^v.toNat)+rm2 a b a b (2^v.toNat)) v+1)
 rw[sp.1] at l7
 rw[sp.2] at l8
 have hD:=r13_Div a b (1*(2^v.toNat)+sqLo (1*(2^v.toNat)+rm1 a b a b (2^v.toNat)) v) (1*(2^v.toNat)+(sqLo (1*(2^v.toNat)+rm2 a b a b (2^v.toNat)) v+1)) v oO oO (by rw[sp.1];omega) (by rw[sp.2];omega) oO oO oO
 refine⟨r16_half0 a b v _ _ _ _ _ _ _ _ _ _ _ hO hM hA hS hB hD,?_⟩
 have q1:(hvR v a b).1=(hvQ (2^v.toNat) a b (sqLo (1*(2^v.toNat)+rm1 a b a b (2^v.toNat)) v) (sqLo (1*(2^v.toNat)+rm2 a b a b (2^v.toNat)) v+1)).1:=by
  show (rdv _ _ _ _ _).1=_
  rw[pk.1,e1];rfl
 have q2:(hvR v a b).2=(hvQ (2^v.toNat) a b (sqLo (1*(2^v.toNat)+rm1 a b a b (2^v.toNat)) v) (sqLo (1*(2^v.toNat)+rm2 a b a b (2^v.toNat)) v+1)).2:=by
  show (rdv _ _ _ _ _).2=_
  rw[pk.2,e1];rfl
 rw[q1,q2]
 exact⟨st.1.1,st.1.2.1,st.1.2.2.1,st.2.1.1,st.2.1.2⟩
def hvT (v x1 x2:Int):Nat→Int × Int
 | 0=>(x1,x2)
 | i+1=>hvR v (hvT v x1 x2 i).1 (hvT v x1 x2 i).2
theorem hvT_ex (v x1 x2:Int):∃ ha hb:Nat→Int,(ha 0=x1∧hb 0=x2)∧∀ i,ha (i+1)=(hvR v (ha i) (hb i)).1∧hb (i+1)=(hvR v (ha i) (hb i)).2:=⟨fun i=>(hvT v x1 x2 i).1,fun i=>(hvT v x1 x2 i).2,⟨rfl,rfl⟩,fun _=>⟨rfl,rfl⟩⟩
theorem sq0_2 (v:Nat)(a b:Int):∀ j,sq0 a (fun j=>(sP v a b j).1) j=(sP v a b j).1∧sq0 b (fun j=>(sP v a b j).2) j=(sP v a b j).2
 | 0=>⟨rfl,rfl⟩
 | _+1=>⟨rfl,rfl⟩
theorem r16_innerE (x1 x2 v:Int)(hv:48≤v∧v≤400)(h0:0≤x1)(h1:x1≤x2)(h2:8*x2≤9*(2^v.toNat)) :
  ∃ y1 y2:Int,Impl Tryz.prog Amb 63 [(sV x1 x2),(.int .i64 v)] (sV y1 y2)∧LoE (AT0 ((x1:Rat)*((((2^v.toNat):Int):Rat))⁻¹)) v.toNat y1∧HiE (AT0 ((x2:Rat)*((((2^v.toNat):Int):Rat))⁻¹)) v.toNat y2∧L y1.natAbs≤40∧L y2.natAbs≤40:=by
 have P:=two_pos v.toNat
 have PB:=two_up (show 12≤v.toNat by omega)
 rw[show (2:Int)^12=4096 from rfl] at PB
 obtain⟨ha,hb,⟨a0,b0⟩,nx⟩:=hvT_ex v x1 x2
 have st:∀ i,0≤ha i→ha i≤hb i→8*hb i≤9*(2^v.toNat)→Hstep (2^v.toNat) (ha i) (hb i) (ha (i+1)) (hb (i+1)):=fun i q1 q2 q3=>by
  rw[(nx i).1,(nx i).2]
  exact (r16_halfE (ha i) (hb i) v oO q1 q2 q3).2
 have z0:0≤ha 0:=by omega
 have z1:ha 0≤hb 0:=by omega
 have z2:8*hb 0≤9*(2^v.toNat):=by omega
 have fb:=hs_facts z0 z1 z2 oO st
 have sm:=hs_small z0 z1 z2 oO st 4
 rw[show (2:Int)^4=16 from rfl] at sm
 have f4:=fb 4
 have rr:RrH v.toNat (ha 4) (hb 4):=by
  have e:((2^(v.toNat-1):Nat):Int)*2=(2^v.toNat):=by
   obtain⟨n,hn⟩:∃ n,v.toNat=n+1:=⟨v.toNat-1,by omega⟩
   rw[hn,Nat.add_sub_cancel,← pow_cast,Int.pow_succ]
  exact⟨by omega,by omega,by omega⟩
 obtain⟨N,n1,n2,n3⟩:=sP_small rr
 have LIM:=rin_lim (v:=v.toNat) z0 z1 z2 oO st n2
 have lh:∀ i,L (ha i).natAbs≤200∧L (hb i).natAbs≤200:=fun i=>by
  have f:=fb i
  exact⟨L_T f.1 oO (show v.toNat≤6000 by omega),L_T oO oO (show v.toNat≤6000 by omega)⟩
 have z4:=sq0_2 v.toNat (ha 4) (hb 4)
 have qa:=rq_abs rr
 have lq:L (rm1 (ha 4) (hb 4) (ha 4) (hb 4) (2^v.toNat)).natAbs≤40∧L (rm2 (ha 4) (hb 4) (ha 4) (hb 4) (2^v.toNat)).natAbs≤40:=⟨abs_L qa.1 oO,abs_L qa.2 oO⟩
 have lp:∀ j,j≤N→L (sP v.toNat (ha 4) (hb 4) j).1.natAbs≤40∧L (sP v.toNat (ha 4) (hb 4) j).2.natAbs≤40:=fun j hj=>by
  have p:=rP_abs rr j oO
  exact⟨abs_L p.1 oO,abs_L p.2 oO⟩
 have ly:∀ j,j≤N→L (yo1 v.toNat (ha 4) (hb 4) j).natAbs≤40∧L (yo2 v.toNat (ha 4) (hb 4) j).natAbs≤40:=fun j hj=>by
  have p:=yo_abs rr (j:=j) oO
  exact⟨abs_L p.1 oO,abs_L p.2 oO⟩
 have ls:∀ j,j≤N→L (rsA (yo1 v.toNat (ha 4) (hb 4)) (yo2 v.toNat (ha 4) (hb 4)) j).natAbs≤36∧L (rsB (yo1 v.toNat (ha 4) (hb 4)) (yo2 v.toNat (ha 4) (hb 4)) j).natAbs≤36:=fun j hj=>by
  have p:=rs_abs rr j oO
  have e:2^(v.toNat+10)=1024*2^v.toNat:=by rw[Nat.pow_add,Nat.mul_comm]
  have m:=Nat.mul_le_mul_right (2^v.toNat) (show j≤1024 by omega)
  exact⟨abs_L (n:=v.toNat+10) oO oO,abs_L (n:=v.toNat+10) oO oO⟩
 have lN:=ls N (Nat.le_refl _)
 have l3:=L_lit 3 (by decide)
 have l3:L (3:Int).natAbs≤1:=l3
 have w1:=L_abs_sub (rsA (yo1 v.toNat (ha 4) (hb 4)) (yo2 v.toNat (ha 4) (hb 4)) N) 3
 have w2:=L_abs_add (rsB (yo1 v.toNat (ha 4) (hb 4)) (yo2 v.toNat (ha 4) (hb 4)) N) 3
 have l16:=L_lit 16 (by decide)
 have l16:L (16:Int).natAbs≤1:=l16
 have t1:=L_abs_mul (rsA (yo1 v.toNat (ha 4) (hb 4)) (yo2 v.toNat (ha 4) (hb 4)) N-3) 16
 have t2:=L_abs_mul (rsB (yo1 v.toNat (ha 4) (hb 4)) (yo2 v.toNat (ha 4) (hb 4)) N+3) 16
 have hW:=r13_Wide (rsA (yo1 v.toNat (ha 4) (hb 4)) (yo2 v.toNat (ha 4) (hb 4)) N) (rsB (yo1 v.toNat (ha 4) (hb 4)) (yo2 v.toNat (ha 4) (hb 4)) N) 3 oO oO oO
 have hTi:=r13_Times (rsA (yo1 v.toNat (ha 4) (hb 4)) (yo2 v.toNat (ha 4) (hb 4)) N-3) (rsB (yo1 v.toNat (ha 4) (hb 4)) (yo2 v.toNat (ha 4) (hb 4)) N+3) 16 oO oO oO
 rw[← a0,← b0]
 refine⟨_,_,r16_inner0 x1 x2 v (rm1 (ha 4) (hb 4) (ha 4) (hb 4) (2^v.toNat)) (rm2 (ha 4) (hb 4) (ha 4) (hb 4) (2^v.toNat)) _ _ _ _ N ha hb (fun j=>(sP v.toNat (ha 4) (hb 4) j).1) (fun j=>(sP v.toNat (ha 4) (hb 4) j).2) (yo1 v.toNat (ha 4) (hb 4)) (yo2 v.toNat (ha 4) (hb 4)) ?_ (fun i _=>(fb i).1) ?_ ?_ ?_ ?_ ?_ ?_ ?_ ?_ oO hW hTi,LIM.1,LIM.2,by omega,by omega⟩
 ·intro i _
  have f:=fb i
  exact impl_eq (sp_eqA (nx i).1.symm (nx i).2.symm) (r16_halfE (ha i) (hb i) v oO f.1 f.2.1 f.2.2).1
 ·have l:=lh 4
  exact r13_Mul (ha 4) (hb 4) (ha 4) (hb 4) v oO oO oO oO oO
 ·exact impl_eq (sp_eqA (Int.zero_mul _) (Int.zero_mul _)) (r13_Of 0 v oO oO)
 ·intro j hj
  have l:=lp j hj
  refine impl_eq (congrArg V.bool (decide_eq_decide.2 ?_)) (impl_arg (fun w S l h=>by rw[(z4 j).1,(z4 j).2] at h;exact h) (r13_Tiny (sP v.toNat (ha 4) (hb 4) j).1 (sP v.toNat (ha 4) (hb 4) j).2 oO oO))
  constructor
  ·intro hq
   refine Decidable.byContradiction fun hn=>n3 j oO hq
  ·intro hq
   rw[show j=N by omega]
   exact n2
 ·intro j k hj hk
  have l:=lp j oO
  subst hk
  exact impl_arg (fun w S l h=>by rw[(z4 j).1,(z4 j).2] at h;exact h) (r13_Over (sP v.toNat (ha 4) (hb 4) j).1 (sP v.toNat (ha 4) (hb 4) j).2 (2*(j:Int)+1) oO oO oO)
 ·intro j hj _
  have l:=ly j oO
  exact r13_Neg (yo1 v.toNat (ha 4) (hb 4) j) (yo2 v.toNat (ha 4) (hb 4) j) oO oO
 ·intro j hj he
  have l:=ly j oO
  have l2:=ls j oO
  exact impl_eq (sp_eqA (if_neg oO).symm (if_neg oO).symm) (r13_Add (rsA (yo1 v.toNat (ha 4) (hb 4)) (yo2 v.toNat (ha 4) (hb 4)) j) (rsB (yo1 v.toNat (ha 4) (hb 4)) (yo2 v.toNat (ha 4) (hb 4)) j) (yo1 v.toNat (ha 4) (hb 4) j) (yo2 v.toNat (ha 4) (hb 4) j) oO oO oO oO)
 ·intro j hj he
  have l:=ly j oO
  have l2:=ls j oO
  have n4:=L_abs_neg (yo1 v.toNat (ha 4) (hb 4) j)
  have n5:=L_abs_neg (yo2 v.toNat (ha 4) (hb 4) j)
  exact impl_eq (sp_eqA (if_pos he).symm (if_pos he).symm) (r13_Add (rsA (yo1 v.toNat (ha 4) (hb 4)) (yo2 v.toNat (ha 4) (hb 4)) j) (rsB (yo1 v.toNat (ha 4) (hb 4)) (yo2 v.toNat (ha 4) (hb 4)) j) (-(yo2 v.toNat (ha 4) (hb 4) j)) (-(yo1 v.toNat (ha 4) (hb 4) j)) oO oO oO oO)
 ·intro j hj
  have l:=lp j oO
  exact impl_arg (fun w S l h=>by rw[(z4 j).1,(z4 j).2] at h;exact h) (r13_Mul (sP v.toNat (ha 4) (hb 4) j).1 (sP v.toNat (ha 4) (hb 4) j).2 (rm1 (ha 4) (hb 4) (ha 4) (hb 4) (2^v.toNat)) (rm2 (ha 4) (hb 4) (ha 4) (hb 4) (2^v.toNat)) v oO oO oO oO oO)
end Go.Proofs.YtkkbddkpggjgpaaGreatDoor

namespace Go.Proofs.YtkkbddkpggjgpaaGreatDoor
open Go.RowKit
set_option maxRecDepth 100000
set_option maxHeartbeats 2000000
theorem inv_span2 {T x1 x2 z1 z2:Int}(hT:0<T)(h1:T≤x1)(h2:x1≤x2)(e1:z1*x2≤T*T)(e2:T*T<z1*x2+x2)(e3:T*T≤z2*x1)(e4:z2*x1<T*T+x1):0≤z1∧z1≤z2∧z2≤T:=by
 have TT:=Int.mul_pos hT hT
 have a0:0≤z1:=by
  refine Decidable.byContradiction fun hn=>?_
  have:=Int.mul_le_mul_of_nonneg_right (show z1≤-1 by omega) (show 0≤x2 by omega)
  omega
 have a1:z2≤T:=by
  refine Decidable.byContradiction fun hn=>?_
  have m1:=Int.mul_le_mul_of_nonneg_right (show T+1≤z2 by omega) (show 0≤x1 by omega)
  have m2:=Int.mul_le_mul_of_nonneg_left h1 (show 0≤T by omega)
  rw[Int.add_mul] at m1
  omega
 have a2:z1≤z2:=by
  refine Decidable.byContradiction fun hn=>?_
  have m1:=Int.mul_le_mul_of_nonneg_right (show z2+1≤z1 by omega) (show 0≤x1 by omega)
  have m2:=Int.mul_le_mul_of_nonneg_left h2 a0
  rw[Int.add_mul] at m1
  omega
 exact⟨a0,a2,a1⟩
theorem spl_110:mkM 1 0=1∧mkX 1 0=0:=⟨by kernel_rfl,by kernel_rfl⟩
theorem r16_AtE (m ee w:Int)(hw:0≤w∧w≤200)(hm:L (m).natAbs≤20)(he:-3000≤ee∧ee≤2100)(hv:vdb m ee=true) :
  ∃ g1 g2:Int,Impl Tryz.prog Amb 17 [(yV m ee),(.int .i64 w)] (wV (mkM g1 (-(w+16))) (mkX g1 (-(w+16))) (mkM g2 (-(w+16))) (mkX g2 (-(w+16))))∧EnE (AT (dv m ee)) (w.toNat+16) g1 g2 gE∧L g1.natAbs≤80∧L g2.natAbs≤80:=by
 obtain⟨t,ht⟩:∃ t:Nat,(t:Int)=w+60:=⟨(w+60).toNat,by omega⟩
 have tn:(w+60).toNat=t:=by omega
 have P:=two_pos t
 have PB:=two_up (show 60≤t by omega)
 rw[show (2:Int)^60=1152921504606846976 from rfl] at PB
 have hNa:=r05_Nat false m.natAbs oO
 rw[show sgn false m.natAbs=(m.natAbs:Int) from sgn_f _] at hNa
 have la:L ((m.natAbs:Int)).natAbs≤20:=by rw[Int.natAbs_natCast];exact hm
 have hva:=vdb_nabs hv
 have X0:0≤dv (m.natAbs:Int) ee:=dv_ge0.2 (Int.natCast_nonneg _)
 have o1:=r08_Of 1 oO
 rw[spl_110.1,spl_110.2] at o1
 have l1':=L_lit 1 (by decide)
 have hCm:=r08_Cmp (m.natAbs:Int) ee 1 0 oO (by show L 1≤8192;omega) oO oO
 have T0:(0:Rat)<((2^t:Int):Rat):=Rat.intCast_pos.2 P
 have i0:=Rat.inv_pos.2 T0
 have ie:=inv_one T0
 have d10:dv 1 0=1:=of_decide_eq_true (by kernel_rfl)
 have tq0:=tq_pos
 have tz:=tq_gE (n:=w.toNat+16) oO
 have Z0:(0:Rat)<((2^(w.toNat+16):Int):Rat):=Rat.intCast_pos.2 (two_pos _)
 have tZ:=Rat.mul_pos tq0 Z0
 -- signs and scale
 have fin:∀ {y1 y2:Int},EnE (ATp (dv (m.natAbs:Int) ee)) t y1 y2 (3*tq*((2^t:Int):Rat))→L y1.natAbs≤75→L y2.natAbs≤75→(∀ s1 s2:Int,s1=-y2→s2=-y1→m<0→Impl Tryz.prog Amb 64 [(sV y1 y2)] (sV s1 s2)) ∧
   ∀ s1 s2:Int,((m<0∧s1=-y2∧s2=-y1)∨(¬ m<0∧s1=y1∧s2=y2))→∃ g1 g2:Int,Impl Tryz.prog Amb 65 [(sV s1 s2),(.int .i64 (w+60)),(.int .i64 (w+16))] (wV (mkM g1 (-(w+16))) (mkX g1 (-(w+16))) (mkM g2 (-(w+16))) (mkX g2 (-(w+16))))∧EnE (AT (dv m ee)) (w.toNat+16) g1 g2 gE∧L g1.natAbs≤80∧L g2.natAbs≤80:=by
  intro y1 y2 E ly1 ly2
  have n1:=L_abs_neg y1
  have n2:=L_abs_neg y2
  refine⟨fun s1 s2 q1 q2 _=>?_,fun s1 s2 q=>?_⟩
  ·subst q1;subst q2
   exact r13_Neg y1 y2 oO oO
  ·have e:EnE (AT (dv m ee)) t s1 s2 (3*tq*((2^t:Int):Rat)):=by
    rcases q with ⟨h,q1,q2⟩ | ⟨h,q1,q2⟩
    ·subst q1;subst q2
     exact E.ng.congr fun K=>by rw[AT_m (dv_neg_lt h),← dv_neg,show -m=(m.natAbs:Int) by omega]
    ·subst q1;subst q2
     exact E.congr fun K=>by rw[AT_p (fun q=>h (dv_lt_neg q)),show (m.natAbs:Int)=m by omega]
   have ls:L s1.natAbs≤75∧L s2.natAbs≤75:=by
    rcases q with ⟨h,q1,q2⟩ | ⟨h,q1,q2⟩
    ·subst q1;subst q2;omega
    ·subst q1;subst q2;omega
   have hO:=r13_Out s1 s2 (w+60) (w+16) oO oO oO
   rw[show (w+60-(w+16)).toNat=44 by omega] at hO
   have e:=(e.half (s:=w.toNat+16) (n:=44) oO).mono (g':=gE) (by grind)
   have k1:=L_abs_shr s1 44
   have k2:=L_abs_neg s2
   have k3:=L_abs_shr (-s2) 44
   have k4:=L_abs_neg (-s2 / 2^44)
   exact⟨_,_,hO,e,by omega,by omega⟩
 have lim:∀ {g1 g2:Int},EnE (AT (dv m ee)) (w.toNat+16) g1 g2 gE→L g1.natAbs≤80→L g2.natAbs≤80→True:=fun _ _ _=>trivial
 by_cases c:0<cmpD (m.natAbs:Int) ee 1 0
 ·-- beyond 1
  have X1:1<dv (m.natAbs:Int) ee:=by have:=cmpD_pos.1 c;rw[d10] at this;exact this
  have tp:=topD_range (m.natAbs:Int) ee
  have hTp:=r08_Top (m.natAbs:Int) ee oO oO
  have mx:=iMax_bd (topD (m.natAbs:Int) ee)
  have hAt:=r13_At (m.natAbs:Int) ee (w+60+iMax 0 (topD (m.natAbs:Int) ee)) oO oO hva oO
  have lf:=flr_LD (m.natAbs:Int) ee (w+60+iMax 0 (topD (m.natAbs:Int) ee))
  obtain⟨n,hn⟩:∃ n:Nat,(n:Int)=iMax 0 (topD (m.natAbs:Int) ee):=⟨(iMax 0 (topD (m.natAbs:Int) ee)).toNat,by omega⟩
  generalize hX:dv (m.natAbs:Int) ee=X at *
  have sc1:=(flr_sc X (t+n)).1
  have sc2:=(cei_sc X (t+n)).1
  rw[show ((t+n:Nat):Int)=w+60+iMax 0 (topD (m.natAbs:Int) ee) by omega] at sc1 sc2
  have hO:=r13_Of 1 (w+60) oO oO
  rw[tn] at hO
  have big:2^t*2^n≤flr X (w+60+iMax 0 (topD (m.natAbs:Int) ee)):=le_flr.2 (by
   have k:=dv_shl 1 (-(w+60+iMax 0 (topD (m.natAbs:Int) ee))) (t+n)
   rw[show -(w+60+iMax 0 (topD (m.natAbs:Int) ee))+((t+n:Nat):Int)=0 by omega,d10,Int.one_mul,Int.pow_add] at k
   rw[k];exact Rat.le_of_lt X1)
  have big:=Int.le_ediv_of_mul_le (two_pos n) big
  generalize flr X (w+60+iMax 0 (topD (m.natAbs:Int) ee))=b1 at *
  generalize cei X (w+60+iMax 0 (topD (m.natAbs:Int) ee))=b2 at *
  have lb:L b1.natAbs≤900∧L b2.natAbs≤900:=by omega
  have hSh:=r16_shrink b1 b2 (w+60+iMax 0 (topD (m.natAbs:Int) ee)-(w+60)) oO oO oO
  rw[show (w+60+iMax 0 (topD (m.natAbs:Int) ee)-(w+60)).toNat=n by omega] at hSh
  have he:=half_enc (a:=b1) (b:=b2) (X:=X) (t:=t+n) (s:=t) (n:=n) rfl sc1 sc2
  have s1:=L_abs_shr b1 n
  have s2:=L_abs_neg b2
  have s3:=L_abs_shr (-b2) n
  have s4:=L_abs_neg (-b2 / 2^n)
  generalize b1 / 2^n=x1 at *
  generalize -(-b2 / 2^n)=x2 at *
  have x12:x1≤x2:=Rat.intCast_le_intCast.1 (Rat.le_trans he.1 he.2)
  -- the quotient
  have lO:=L_pow1 t
  have hD:=r13_Div (1*2^t) (1*2^t) x1 x2 (w+60) oO oO oO oO oO oO oO
  have pk:=dv_pick (a:=1*2^t) (b:=1*2^t) (c:=x1) (d:=x2) (T:=2^t) P oO (Int.le_refl _) oO x12
  rw[tn] at hD
  generalize (rdv (1*2^t) (1*2^t) x1 x2 (2^t)).1=z1 at *
  generalize (rdv (1*2^t) (1*2^t) x1 x2 (2^t)).2=z2 at *
  have q1:=Int.ediv_mul_le (1*2^t*2^t) (show x2≠0 by omega)
  have q2:=Int.lt_ediv_add_one_mul_self (1*2^t*2^t) (show 0<x2 by omega)
  have q3:=Int.ediv_mul_le (-(1*2^t*2^t)) (show x1≠0 by omega)
  have q4:=Int.lt_ediv_add_one_mul_self (-(1*2^t*2^t)) (show 0<x1 by omega)
  rw[← pk.1] at q1 q2
  have pk2:-(1*2^t*2^t) / x1=-z2:=by have:=pk.2;omega
  rw[pk2] at q3 q4
  rw[Int.add_mul,Int.one_mul] at q2 q4
  have e1:(1:Int)*2^t*2^t=2^t*2^t:=by rw[Int.one_mul]
  rw[e1] at q1 q3
  rw[Int.neg_mul] at q3 q4
  have zf:=inv_span2 (T:=2^t) (x1:=x1) (x2:=x2) (z1:=z1) (z2:=z2) P big x12 q1 (by rw[Int.one_mul] at q2;omega) oO (by rw[Int.one_mul] at q4;omega)
  obtain⟨e1',e2',hI,l,u,le1,le2⟩:=r16_innerE z1 z2 (w+60) oO zf.1 zf.2.1 (by rw[tn];omega)
  rw[tn] at l u
  have v1:=(inv_enc (z:=z1) (x:=x2) P X1).1 ⟨he.2,zf.1,q1⟩
  have v2:=(inv_enc (z:=z2) (x:=x1) P X1).2 ⟨he.1,by omega,by omega⟩
  have iv:=inv_le1 (x:=X) (Rat.le_of_lt X1)
  have n2':0≤(z1:Rat)*(((2^t:Int):Rat))⁻¹:=Rat.mul_nonneg (Rat.intCast_nonneg.2 zf.1) (Rat.le_of_lt i0)
  have zt:(z2:Rat)*(((2^t:Int):Rat))⁻¹≤1:=by
   have m:=Rat.mul_le_mul_of_nonneg_right (Rat.intCast_le_intCast.2 zf.2.2) (Rat.le_of_lt i0)
   have one:(((2^t:Int)):Rat)*(((2^t:Int):Rat))⁻¹=1:=by rw[Rat.mul_comm];exact ie
   rw[one] at m;exact m
  obtain⟨p1,p2,m1,m2,hP,hOv,hq,_,lm1,lm2⟩:=rq_half (v:=w+60) oO
  rw[tn] at hq
  have hSb:=r13_Sub m1 m2 e1' e2' oO oO oO oO
  have E:=en_comp l u (by grind) (AT0_le n2' v1 (by grind)) (AT0_le (by grind) v2 (by grind)) hq.1 hq.2
  have y1:=L_abs_sub m1 e2'
  have y2:=L_abs_sub m2 e1'
  have hSb:Impl Tryz.prog Amb 60 [(sV m1 m2),(sV e1' e2')] (sV (m1-e2') (m2-e1')):=impl_eq (sp_eqA oO oO) hSb
  obtain⟨hN,hOut⟩:=fin E oO oO
  by_cases hs:m<0
  ·obtain⟨g1,g2,hG,eG,lg1,lg2⟩:=hOut _ _ (.inl ⟨hs,rfl,rfl⟩)
   exact⟨g1,g2,r16_AtBN m ee w (m.natAbs:Int) _ (topD (m.natAbs:Int) ee) (1*2^t) b1 b2 x1 x2 z1 z2 p1 p2 m1 m2 e1' e2' (m1-e2') (m2-e1') _ _ _ _ _ _ oO oO hs c hNa o1 hCm hTp hO hAt hSh hD hP hOv hI hSb (hN _ _ rfl rfl hs) hG,eG,by omega,by omega⟩
  ·obtain⟨g1,g2,hG,eG,lg1,lg2⟩:=hOut _ _ (.inr ⟨hs,rfl,rfl⟩)
   exact⟨g1,g2,r16_AtBP m ee w (m.natAbs:Int) _ (topD (m.natAbs:Int) ee) (1*2^t) b1 b2 x1 x2 z1 z2 p1 p2 m1 m2 e1' e2' (m1-e2') (m2-e1') 0 0 _ _ _ _ oO oO oO c hNa o1 hCm hTp hO hAt hSh hD hP hOv hI hSb hG,eG,by omega,by omega⟩
 ·-- up to 1
  have X1:dv (m.natAbs:Int) ee≤1:=by
   have:=Rat.not_lt.1 (fun q=>c (cmpD_pos.2 q))
   rw[d10] at this;exact this
  have hAt:=r13_At (m.natAbs:Int) ee (w+60) oO oO hva oO
  generalize hX:dv (m.natAbs:Int) ee=X at *
  have sc1:=(flr_sc X t).1
  have sc2:=(cei_sc X t).1
  have fc:=flr_cei1 X t
  rw[show ((t:Nat):Int)=w+60 by omega] at sc1 sc2 fc
  have x10:0≤flr X (w+60):=le_flr.2 (by rw[dv_zero];exact X0)
  have x2T:cei X (w+60)≤2^t:=cei_le.2 (by
   have k:=dv_shl 1 (-(w+60)) t
   rw[show -(w+60)+((t:Nat):Int)=0 by omega,d10,Int.one_mul] at k
   rw[k];exact X1)
  generalize flr X (w+60)=x1 at *
  generalize cei X (w+60)=x2 at *
  obtain⟨y1,y2,hI,l,u,le1,le2⟩:=r16_innerE x1 x2 (w+60) oO x10 fc.2 (by rw[tn];omega)
  rw[tn] at l u
  have s1:=(at_sc (x:=x1) (X:=X) P).1 sc1
  have s2:=(at_sc (x:=x2) (X:=X) P).2 sc2
  have n1:0≤(x1:Rat)*(((2^t:Int):Rat))⁻¹:=Rat.mul_nonneg (Rat.intCast_nonneg.2 x10) (Rat.le_of_lt i0)
  have zt:(x2:Rat)*(((2^t:Int):Rat))⁻¹≤1:=by
   have m:=Rat.mul_le_mul_of_nonneg_right (Rat.intCast_le_intCast.2 x2T) (Rat.le_of_lt i0)
   have one:(((2^t:Int)):Rat)*(((2^t:Int):Rat))⁻¹=1:=by rw[Rat.mul_comm];exact ie
   rw[one] at m;exact m
  have E:=en_mid l u n1 s1 (by grind) s2 (by grind)
  obtain⟨hN,hOut⟩:=fin E oO oO
  by_cases hs:m<0
  ·obtain⟨g1,g2,hG,eG,lg1,lg2⟩:=hOut _ _ (.inl ⟨hs,rfl,rfl⟩)
   exact⟨g1,g2,r16_AtSN m ee w (m.natAbs:Int) _ 0 0 0 0 x1 x2 0 0 0 0 0 0 0 0 y1 y2 _ _ _ _ _ _ oO oO hs oO hNa o1 hCm hAt hI (hN _ _ rfl rfl hs) hG,eG,by omega,by omega⟩
  ·obtain⟨g1,g2,hG,eG,lg1,lg2⟩:=hOut _ _ (.inr ⟨hs,rfl,rfl⟩)
   exact⟨g1,g2,r16_AtSP m ee w (m.natAbs:Int) _ 0 0 0 0 x1 x2 0 0 0 0 0 0 0 0 y1 y2 0 0 _ _ _ _ oO oO oO oO hNa o1 hCm hAt hI hG,eG,by omega,by omega⟩
end Go.Proofs.YtkkbddkpggjgpaaGreatDoor

namespace Go.Proofs.YtkkbddkpggjgpaaGreatDoor
open Go.RowKit
set_option maxRecDepth 100000
set_option maxHeartbeats 2000000
theorem l16_of (a b:Int)(c0:(-9223372036854775808:Int)≤a∧a≤9223372036854775807)(c1:(-9223372036854775808:Int)≤b∧b≤9223372036854775807):Impl Tryz.prog Amb 36 [(.int .i64 a),(.int .i64 b)] (wV (mkM a 0) (mkX a 0) (mkM b 0) (mkX b 0)):=by
 exact impl_ob hP hAmb Tryz.func36 (by kernel_rfl) (.lit<|.call (yV (mkM a 0) (mkX a 0))<|.lit<|.call (yV (mkM b 0) (mkX b 0))<|.lits 3<|.ret)
  (cast_ob (aI True.intro (aI (r08_Of a oO) (have f14:=(of_fit (n:=a) oO).2.2.2.2.1;have f13:=(of_fit (n:=a) oO).2.2.2.1;have f12:=(of_fit (n:=a) oO).2.2.1;have f11:=(of_fit (n:=a) oO).2.1;have f10:=(of_fit (n:=a) oO).1;have f9:=(L_i64 oO:L (a:Int).natAbs≤2);have f8:=mk_facts a 0;aI (r08_Of b oO) (have f7:=(of_fit (n:=b) oO).2.2.2.2.1;have f6:=(of_fit (n:=b) oO).2.2.2.1;have f5:=(of_fit (n:=b) oO).2.2.1;have f4:=(of_fit (n:=b) oO).2.1;have f3:=(of_fit (n:=b) oO).1;have f2:=(L_i64 oO:L (b:Int).natAbs≤2);have f1:=mk_facts b 0;(vsub_refl (wV (mkM a 0) (mkX a 0) (mkM b 0) (mkX b 0))))))) (by kernel_rfl))
theorem at_RecipB (n w:Int)(c0:(-9223372036854775808:Int)≤n∧n≤9223372036854775807)(c1:(-9223372036854775808:Int)≤w∧w≤9223372036854775807)(c2:0≤w∧w≤4096)(c3:n<2):Impl Tryz.prog Amb 26 [(.int .i64 n),(.int .i64 w)] (.tup [(.agg [(.bool false),.nil,(.int .i64 0),(.bool false),.nil,(.int .i64 0)]),(.int .i64 1)]):=by
 exact impl_ob hP hAmb Tryz.func26 (by kernel_rfl) (.lit<|.no<|.lits 3<|.no<|.lits 4<|.yes<|.lits 6<|.ret)
  (cast_ob (aI True.intro (aI (iLt_mkF oO:(iLt w 0)=false) (aI (iGt_mkF oO:(iGt w 4096)=false) (aI (iLt_mk oO:(iLt n 2)=true) ((vsub_refl (.tup [(.agg [(.bool false),.nil,(.int .i64 0),(.bool false),.nil,(.int .i64 0)]),(.int .i64 1)]))))))) (by kernel_rfl))
theorem l16_awake0 (t1 t2 t3 t4 a1 a2 a3 a4:Int)(qa:Rat)(c0:Impl Tryz.prog Amb 36 [(.int .i64 0),(.int .i64 0)] (wV t1 t2 t3 t4))(c1:Impl Tryz.prog Amb 15 [(wV t1 t2 t3 t4),(.int .i64 4)] (.tup [(wV a1 a2 a3 a4),(.int .i64 0)]))(c2:Impl Tryz.prog Amb 26 [(.int .i64 1),(.int .i64 5)] (.tup [(.agg [(.bool false),.nil,(.int .i64 0),(.bool false),.nil,(.int .i64 0)]),(.int .i64 1)]))(c3:Impl Tryz.prog Amb 29 [(.int .i64 0)] (.agg [(.bool (decide (qa.num<0))),(N qa.num.natAbs),(N qa.den)]))(c4:Impl Tryz.prog Amb 41 [(wV a1 a2 a3 a4),(.agg [(.bool (decide (qa.num<0))),(N qa.num.natAbs),(N qa.den)])] (.bool true)):Impl Tryz.prog Amb 11 [] (.bool true):=by
 exact impl_ob hP hAmb Tryz.func11 (by kernel_rfl) (.lit<|.call (wV t1 t2 t3 t4)<|.lit<|.call (.tup [(wV a1 a2 a3 a4),(.int .i64 0)])<|.lits 2<|.call (.tup [(.agg [(.bool false),.nil,(.int .i64 0),(.bool false),.nil,(.int .i64 0)]),(.int .i64 1)])<|.lits 6<|.call (.agg [(.bool (decide (qa.num<0))),(N qa.num.natAbs),(N qa.den)])<|.lits 2<|.call (.bool true)<|.lits 6<|.ret)
  (cast_ob (aI True.intro (aI (c0 ) (aI (c1 ) (aI (c2 ) (aI (c3 ) (aI (c4 ) ((vsub_refl (.bool true))))))))) (by kernel_rfl))
theorem l16_FarF (b1:Bool)(l1:List Nat)(e1 n w m ee p q y1 y2 y3 y4 g1 g2 g3 g4:Int)(c0:(-9223372036854775808:Int)≤n∧n≤9223372036854775807)(c1:(-9223372036854775808:Int)≤w∧w≤9223372036854775807)(c2:Impl Tryz.prog Amb 11 [] (.bool true))(c3:Impl Tryz.prog Amb 18 [(.agg [(.bool b1),(.sl 1 (U l1)),(.int .i64 e1)]),(.int .i64 2),(.int .i64 50)] (.tup [(yV m ee),(.bool false)])):Impl Tryz.prog Amb 4 [(.agg [(.bool b1),(.sl 1 (U l1)),(.int .i64 e1)]),(.int .i64 n),(.int .i64 w)] (.bool true):=by
 exact impl_ob hP hAmb Tryz.func4 (by kernel_rfl) (.lit<|.call (.bool true)<|.lits 4<|.call (.tup [(yV m ee),(.bool false)])<|.lits 4<|.ret)
  (cast_ob (aI True.intro (aI (c2 ) (aI (c3 ) ((vsub_refl (.bool true)))))) (by kernel_rfl))
theorem l16_FarT (b1:Bool)(l1:List Nat)(e1 n w m ee p q y1 y2 y3 y4 g1 g2 g3 g4:Int)(c0:(-9223372036854775808:Int)≤n∧n≤9223372036854775807)(c1:(-9223372036854775808:Int)≤w∧w≤9223372036854775807)(c2:Impl Tryz.prog Amb 11 [] (.bool true))(c3:Impl Tryz.prog Amb 18 [(.agg [(.bool b1),(.sl 1 (U l1)),(.int .i64 e1)]),(.int .i64 2),(.int .i64 50)] (.tup [(yV m ee),(.bool true)]))(c4:Impl Tryz.prog Amb 19 [(yV m ee),(.int .i64 (n%1900))] (.tup [(yV p q),(.int .i64 0)]))(c5:Impl Tryz.prog Amb 15 [(wV p q p q),(.int .i64 (w%60))] (.tup [(wV y1 y2 y3 y4),(.int .i64 0)]))(c6:Impl Tryz.prog Amb 17 [(yV p q),(.int .i64 (w%60))] (wV g1 g2 g3 g4))(c7:Impl Tryz.prog Amb 15 [(wV p q p q),(.int .i64 ((-1)-(w%60)))] (.tup [(.agg [(.bool false),.nil,(.int .i64 0),(.bool false),.nil,(.int .i64 0)]),(.int .i64 1)]))(c8:Impl Tryz.prog Amb 15 [(wV p q p q),(.int .i64 ((4097:Int)+(w%60)))] (.tup [(.agg [(.bool false),.nil,(.int .i64 0),(.bool false),.nil,(.int .i64 0)]),(.int .i64 1)]))(c9:Impl Tryz.prog Amb 16 [(wV y1 y2 y3 y4),(wV g1 g2 g3 g4),(wV g1 g2 g3 g4),(.int .i64 (w%60))] (.bool true)):Impl Tryz.prog Amb 4 [(.agg [(.bool b1),(.sl 1 (U l1)),(.int .i64 e1)]),(.int .i64 n),(.int .i64 w)] (.bool true):=by
 exact impl_ob hP hAmb Tryz.func4 (by kernel_rfl) (.lit<|.call (.bool true)<|.lits 4<|.call (.tup [(yV m ee),(.bool true)])<|.lits 5<|.call (.int .i64 (n%1900))<|.lit<|.call (.tup [(yV p q),(.int .i64 0)])<|.lits 2<|.call (.int .i64 (w%60))<|.lits 6<|.call (.tup [(wV y1 y2 y3 y4),(.int .i64 0)])<|.lits 3<|.call (wV g1 g2 g3 g4)<|.lits 3<|.yes<|.lit<|.call (.tup [(.agg [(.bool false),.nil,(.int .i64 0),(.bool false),.nil,(.int .i64 0)]),(.int .i64 1)])<|.lits 3<|.yes<|.lit<|.call (.tup [(.agg [(.bool false),.nil,(.int .i64 0),(.bool false),.nil,(.int .i64 0)]),(.int .i64 1)])<|.lits 11<|.call (.bool true)<|.lits 10<|.ret)
  (cast_ob (aI True.intro (aI (c2 ) (aI (c3 ) (aI (mill_Mod n 1900 oS oS) (have f4:=Int.emod_lt_of_pos n (show (0:Int)<1900 by first | omega | assumption);have f3:=Int.emod_nonneg n (show (1900:Int)≠0 by first | omega | assumption);aI (c4 ) (aI (mill_Mod w 60 oS oS) (have f2:=Int.emod_lt_of_pos w (show (0:Int)<60 by first | omega | assumption);have f1:=Int.emod_nonneg w (show (60:Int)≠0 by first | omega | assumption);aI (c5 ) (aI (c6 ) (aI (fits_i64 oS:(fits .i64 ((-1)-(w%60)))=true) (aI (c7 ) (aI (fits_i64 oS:(fits .i64 ((4097:Int)+(w%60)))=true) (aI (c8 ) (aI (c9 ) ((vsub_refl (.bool true)))))))))))))))) (by kernel_rfl))
end Go.Proofs.YtkkbddkpggjgpaaGreatDoor

namespace Go.Proofs.YtkkbddkpggjgpaaGreatDoor
open Go.RowKit
set_option maxRecDepth 100000
set_option maxHeartbeats 4000000
theorem AT_00 (K:Nat):AT 0 K=0:=by
 rw[AT_p (show ¬ (0:Rat)<0 by grind),ATp_1 (show (0:Rat)≤1 by decide)]
 unfold AT0
 rw[if_pos (by grind),AL_zero]
theorem l16_00:mkM 0 0=0∧mkX 0 0=0:=⟨by kernel_rfl,by kernel_rfl⟩
theorem l16_awake:Impl Tryz.prog Amb 11 [] (.bool true):=by
 have y:=l16_of 0 0 oO oO
 rw[l16_00.1,l16_00.2] at y
 have z0:L (0:Int).natAbs=0:=L_zero
 obtain⟨l1,h1,l2,h2,hA,⟨e1,_,_⟩,⟨e2,_,_⟩,la,lb⟩:=at_AtanE 0 0 0 0 4 oO oO oO oO oO
 rw[dv_zero] at e1 e2
 have g:=gE_b
 have k1:l1≤0:=by
  obtain⟨N,e⟩:=e1
  have e:=(e N (Nat.le_refl _)).1
  rw[AT_00,Rat.zero_mul,Rat.zero_add] at e
  refine Decidable.byContradiction fun hn=>?_
  have:((1:Int):Rat)≤(l1:Rat):=Rat.intCast_le_intCast.2 oO
  rw[show ((1:Int):Rat)=1 from rfl] at this
  grind
 have k2:0≤h2:=by
  obtain⟨N,e⟩:=e2
  have e:=(e N (Nat.le_refl _)).2
  rw[AT_00,Rat.zero_mul] at e
  refine Decidable.byContradiction fun hn=>?_
  have:(h2:Rat)≤((-1:Int):Rat):=Rat.intCast_le_intCast.2 oO
  rw[show ((-1:Int):Rat)=-1 from rfl] at this
  grind
 have hH:=g_has l1 h2 0 4 oO oO oO oO oO oO
 exact l16_awake0 _ _ _ _ _ _ _ _ _ y hA (at_RecipB 1 5 oO oO oO oO) (r07_Of 0 oO) hH
theorem l16_fround (p q k:Int)(h1:(L p.natAbs≤20∧(-3000≤q∧q≤2100)∧vdb p q=true))(hk:0≤k∧k≤200):∃ ya yb yc yd la lb lc ld:Int,Impl Tryz.prog Amb 15 [(wV p q p q),(.int .i64 k)] (.tup [(wV ya yb yc yd),(.int .i64 0)])∧Impl Tryz.prog Amb 17 [(yV p q),(.int .i64 k)] (wV la lb lc ld)∧Impl Tryz.prog Amb 16 [(wV ya yb yc yd),(wV la lb lc ld),(wV la lb lc ld),(.int .i64 k)] (.bool true):=by
 obtain⟨l1,h1',l2,h2',hA,⟨e1,w1,_⟩,⟨e2,w2,_⟩,z1,z2⟩:=at_AtanE p q p q k oO oO oO oO oO
 obtain⟨a1,b1,hB,e3,z3,z4⟩:=r16_AtE p q k hk h1.1 h1.2.1 h1.2.2
 obtain⟨n1,n2,n3,n4,n5⟩:=near_A oO Rat.le_refl w1 w2 e1 e2 e3 e3
 exact⟨_,_,_,_,_,_,_,_,hA,hB,r13_Near l1 h2' a1 b1 a1 b1 k oO oO oO oO oO oO oO n1 n2 n3 n4 n5⟩
theorem l16_ArctangentFar (b1:Bool)(l1:List Nat)(e1 n w:Int)(c0:Dig l1)(c1:l1.length≤9223372036854775807)(c2:(-9223372036854775808:Int)≤e1∧e1≤9223372036854775807)(c3:(-9223372036854775808:Int)≤n∧n≤9223372036854775807)(c4:(-9223372036854775808:Int)≤w∧w≤9223372036854775807):Impl Tryz.prog Amb 4 [(.agg [(.bool b1),(.sl 1 (U l1)),(.int .i64 e1)]),.int .i64 n,.int .i64 w] (.bool true):=by
 have w160:=Int.emod_nonneg w (show (60:Int)≠0 by omega)
 have w260:=Int.emod_lt_of_pos w (show (0:Int)<60 by omega)
 have w11900:=Int.emod_nonneg n (show (1900:Int)≠0 by omega)
 have w21900:=Int.emod_lt_of_pos n (show (0:Int)<1900 by omega)
 have hD:=mill_DyadicB b1 l1 e1 2 50 c0 c1 c2 oO oO
 have hr:=rawI_L (b:=b1) (n:=2) c0 oO
 have ej:=Int.emod_nonneg e1 (show (2*50+1:Int)≠0 by omega)
 have ek:=Int.emod_lt_of_pos e1 (show (0:Int)<2*50+1 by omega)
 have hE:=mk_fine3 (m:=(rawI b1 l1 2)) (e:=(e1%(2*50+1)-50)) oO oO
 have hf:=mk_facts (rawI b1 l1 2) (e1%(2*50+1)-50)
 have hx:=mkX_up (c:=50) oO hE oO
 have hv:=mk_vdb hE
 generalize (mkM (rawI b1 l1 2) (e1%(2*50+1)-50))=m at *
 generalize (mkX (rawI b1 l1 2) (e1%(2*50+1)-50))=ee at *
 have lm:L m.natAbs≤2:=by omega
 have er:-50≤ee∧ee≤114:=by omega
 clear hE hx hf hr ej ek
 by_cases hl:(l1.length:Int)≤2
 ·rw[decide_eq_true hl] at hD
  have hS:=r08_Shift m ee (n%1900) oO oO oO
  have mf:=mk_fit (m:=m) (e:=ee+n%1900) oO oO
  have i1:=iMin_range (ee+n%1900) 0
  have i2:iMax (ee+n%1900) 0≤2014:=by unfold iMax;split<;>omega
  rw[mf.1] at hS
  have fx:(L (mkM m (ee+n%1900)).natAbs≤20∧(-3000≤(mkX m (ee+n%1900))∧(mkX m (ee+n%1900))≤2100)∧vdb (mkM m (ee+n%1900)) (mkX m (ee+n%1900))=true):=⟨by omega,by omega,mf.2.2.2.2.1⟩
  obtain⟨_,_,_,_,_,_,_,_,x1,x2,x3⟩:=l16_fround _ _ (w%60) fx oO
  have eA:=at_AtanA (mkM m (ee+n%1900)) (mkX m (ee+n%1900)) (mkM m (ee+n%1900)) (mkX m (ee+n%1900)) (-1-w%60) oO (.inl oO)
  have eB:=at_AtanA (mkM m (ee+n%1900)) (mkX m (ee+n%1900)) (mkM m (ee+n%1900)) (mkX m (ee+n%1900)) (4097+w%60) oO (.inr oO)
  exact l16_FarT b1 l1 e1 n w m ee _ _ _ _ _ _ _ _ _ _ c3 c4 l16_awake hD hS x1 x2 eA eB x3
 ·rw[decide_eq_false hl] at hD
  exact l16_FarF b1 l1 e1 n w m ee 0 0 0 0 0 0 0 0 0 0 c3 c4 l16_awake hD
end Go.Proofs.YtkkbddkpggjgpaaGreatDoor

namespace Go.Proofs.YtkkbddkpggjgpaaGreatDoor
open Go.ChangeShapes Go.WideShapes Go.ChangeAt Go.RowKit
theorem ownNone:ownKnob Tryz.prog.godebug=none:=by kernel_rfl
theorem gTab:Tryz.prog.globalNamed "math/bits.deBruijn32tab"=some 0:=by kernel_rfl
theorem gTabType:(Tryz.prog.globals[0]?).map (·.type)=some 162:=by kernel_rfl
theorem cellsTab:Tryz.prog.cellsOf 162=32:=by kernel_rfl
theorem cellsU8:Tryz.prog.cellsOf 5=1:=by kernel_rfl
theorem amb_of {W:World}(h:laidMetH Tryz.prog [("math/bits.deBruijn32tab",Rows.laid_math_bits_deBruijn32tab)] W):Amb W:=by
 have t:Lib.TabIs Tryz.prog W "math/bits.deBruijn32tab" .u8 tab32:=Lib.tabIs_of_head (rest:=[]) gTab gTabType Tryz.underlying162 Tryz.underlying5 cellsU8 cellsTab h
 intro i v hi
 have hlt:i<tab32.length:=by
  rcases Nat.lt_or_ge i tab32.length with q | q
  ·exact q
  ·rw[List.getElem?_eq_none q] at hi;cases hi
 have h1:=t.cell gTab i hlt
 rw[List.getD_eq_getElem?_getD,hi] at h1
 exact h1
theorem int_wf {n:Int}(h:(Lit.int .i64 n).wf=true):(-9223372036854775808:Int)≤n∧n≤9223372036854775807:=by
 simp only [Lit.wf,Bool.and_eq_true,decide_eq_true_eq] at h
 simp [IntKind.min,IntKind.max,IntKind.signed,IntKind.bits] at h
 omega
noncomputable def laidWorld (os : Os) : World :=
  { World.holding Tryz.prog os ⟨#[], #[], []⟩ with heap := (World.holding Tryz.prog os ⟨#[], #[], []⟩).heap.modify 0 fun
      | .cells _ t frozen => .cells (tab32.map (Value.int .u8)).toArray t frozen
      | o => o }
theorem post_of_below {H:Type}{enc:TypeId × Value→H}{P:Program}{f:Func}{s:ChangeSpec}{apart fresh handsOn again:Bool}{W W':World}{args:Array Value}{v:Value}{ds gs:List (DataW H)}{before pa pv:List MemPlace}
  (hW:DataW.Whole enc P f.params.toList s.vars apart W args.toList ds gs before)
  (hres:∀ (b:Nat) (sp:Nat→Bool) (hd:Bool),DataW.TrodAll enc P W' b sp hd f.resultTypes.toList (v.resultList f.resultTypes.size) (s.fn H (ds ++ gs)).results [])
  (hargs:∀ sp:Nat→Bool,(∀ p∈before,sp p.block=true)→DataW.TrodAll enc P W' 0 sp true f.params.toList args.toList (s.fn H (ds ++ gs)).args pa)
  (hvars:∀ sp:Nat→Bool,(∀ p∈before,sp p.block=true)→DataW.TrodVars enc P W' sp s.vars (s.fn H (ds ++ gs)).vars pv)
  (hps:before=pa ++ pv) (hb:Below W.heap.size W W')
  (hok:∀ (j:Nat) (t:TypeId) (r:Value),f.resultTypes[j]?=some t→(v.resultList f.resultTypes.size)[j]?=some r→Value.okWide P W' .any 0 t r):s.post enc P f apart fresh handsOn again W args v W':=by
 have lt:=hW.lt
 have old:∀ p∈before,(fun b=>decide (b<W.heap.size)) p.block=true:=fun p hp=>decide_eq_true (lt p hp)
 subst hps
 refine⟨ds,gs,pa ++ pv,[],pa,pv,hW,hres _ _ _,hargs _ old,hvars _ old,hb.frame _,fun _=>?_⟩
 obtain⟨_,_,_,_,_,hz,hn⟩:=hW
 have h1:=trodAll_append (hargs (fun _=>true) fun _ _=>rfl) (hres 0 (fun _=>true) true)
 refine⟨hok,_,_,_,⟨_,pv,h1,hvars _ fun _ _=>rfl,rfl,fun b off hp=>?_,fun ha=>?_⟩,fun p hp _=>?_⟩
 ·have hp':MemPlace.cell b off∈pa ++ pv:=by simpa using hp
  rw[hb.frozen (lt _ hp')]
  exact hz b off hp'
 ·simpa using hn ha
 ·simpa using hp
end Go.Proofs.YtkkbddkpggjgpaaGreatDoor

namespace Go.Proofs.YtkkbddkpggjgpaaGreatDoor
open Go.ChangeShapes Go.WideShapes Go.ChangeAt Go.RowKit
set_option maxRecDepth 100000
variable {H:Type} {enc:TypeId × Value→H} {W:World} {sp:Nat→Bool} {held:Bool}
theorem laidOut:laidOutB Tryz.prog=true:=by kernel_rfl
theorem cellsU32:Tryz.prog.cellsOf 97=1:=by kernel_rfl
theorem cellsSl:Tryz.prog.cellsOf 22=1:=by kernel_rfl
theorem cellsBool:Tryz.prog.cellsOf 4=1:=by kernel_rfl
theorem cellsInt:Tryz.prog.cellsOf 3=1:=by kernel_rfl
theorem cellsZ:Tryz.prog.cellsOf 24=2:=by kernel_rfl
theorem cellsY:Tryz.prog.cellsOf 26=3:=by kernel_rfl
theorem rdl_U (S:Nat→Prop):∀ l:List Nat,RdL W S (l.map fun (d:Nat)=>Value.int .u32 (d:Int)) (U l)
 | []=>.nil
 | _::l=>.cons .int (rdl_U S l)
theorem wf_u32 {n:Int}(h:(Lit.int .u32 n).wf=true):0≤n∧n<4294967296:=by
 simp only [Lit.wf,Bool.and_eq_true,decide_eq_true_eq] at h
 simp [IntKind.min,IntKind.max,IntKind.signed,IntKind.bits] at h
 omega
theorem open_slice32 {n:Nat}{c:Value}{x:DataW H × List MemPlace}{b0:Nat}(h:DataW.trod enc Tryz.prog W 0 sp held n 22 [c]=some x)(hok:Cell.okWide Tryz.prog W .any b0 22 c) :
  ∃ l:List Nat,Dig l∧l.length≤maxLen∧Rd W (fun _=>True) c (.sl 1 (U l)):=by
 rcases open_ints Tryz.underlying22 Tryz.underlying97 cellsU32 h with ⟨hc,_⟩ | ⟨a,len,cap,zs,hc,_,hl,hm,hz,_,hcell,hwf⟩
 ·obtain rfl:c=.slice none 0 0:=by simpa using hc
  exact⟨[],(fun d hd=>by cases hd),Nat.zero_le _,.nilsl⟩
 ·obtain rfl:c=.slice (some a) len cap:=by simpa using hc
  have hlen:len≤zs.length:=by rw[hz];split<;>omega
  simp only [Cell.okWide,Cell.ok,Tryz.underlying22,World.has] at hok
  obtain⟨_,_,_,hs,row,cells,hsh,_⟩:=hok
  obtain⟨ab,ao,spot⟩:=a
  simp only at hs hsh
  subst hs
  have hb:ab<W.heap.size:=by
   unfold World.shape? at hsh
   split at hsh
   ·rename_i q;exact (Array.getElem?_eq_some_iff.1 q).1
   ·cases hsh
  refine⟨(zs.take len).map Int.toNat,?_,?_,?_⟩
  ·intro d hd
   obtain⟨z,hz',rfl⟩:=List.mem_map.1 hd
   have:=wf_u32 (hwf z (List.mem_of_mem_take hz'))
   show z.toNat<4294967296
   omega
  ·simp;omega
  ·refine .sl (vals:=((zs.take len).map Int.toNat).map fun (d:Nat)=>Value.int .u32 (d:Int)) trivial hb hl (by simp [U];omega) (rdl_U _ _) ?_
   intro i v hv
   simp only [List.getElem?_map,Option.map_eq_some_iff] at hv
   obtain⟨d,⟨z,hz',rfl⟩,rfl⟩:=hv
   have hi:i<len:=by
    rcases Nat.lt_or_ge i len with q | q
    ·exact q
    ·rw[List.getElem?_eq_none (by simp;omega)] at hz';cases hz'
   rw[List.getElem?_take,if_pos hi] at hz'
   have h1:=hcell i (by omega)
   rw[List.getD_eq_getElem?_getD,hz'] at h1
   have h2:=wf_u32 (hwf z (List.mem_of_getElem? hz'))
   have h3:((z.toNat:Nat):Int)=z:=Int.toNat_of_nonneg h2.1
   simp only [Option.getD_some] at h1
   rw[h3]
   have h4:(Addr.mk ab ao none).add i=⟨ab,ao+i,none⟩:=by
    unfold Addr.add;split
    ·rename_i q;subst q;rfl
    ·rfl
   rw[h4] at h1
   exact h1
theorem open_Z {n:Nat}{c0 c1:Value}{x:DataW H × List MemPlace}{b0:Nat}(h:DataW.trod enc Tryz.prog W 0 sp held n 24 [c0,c1]=some x)(hok:Cell.okWide Tryz.prog W .any b0 22 c1) :
  ∃ (b:Bool) (l:List Nat),Dig l∧l.length≤maxLen∧RdL W (fun _=>True) [c0,c1] [.bool b,.sl 1 (U l)]:=by
 obtain⟨y0,y1,m,_,_,h0,h1⟩:=trod_struct2 Tryz.underlying24 h
 have k0:DataW.trod enc Tryz.prog W 0 sp held m 4 [c0]=some y0:=by simpa [cellsBool] using h0
 have k1:DataW.trod enc Tryz.prog W 0 sp held m 22 [c1]=some y1:=by simpa [cellsSl] using h1
 obtain⟨b,hb,_⟩:=DataW.trod_bool Tryz.underlying4 k0
 obtain rfl:c0=.bool b:=by simpa using hb
 obtain⟨l,d,e,r⟩:=open_slice32 k1 hok
 exact⟨b,l,d,e,.cons .bool (.cons r .nil)⟩
theorem open_Y {n:Nat}{c0 c1 c2:Value}{x:DataW H × List MemPlace}{b0:Nat}(h:DataW.trod enc Tryz.prog W 0 sp held n 26 [c0,c1,c2]=some x)(hok:Cell.okWide Tryz.prog W .any b0 22 c1) :
  ∃ (b:Bool) (l:List Nat) (e:Int),Dig l∧l.length≤maxLen∧((-9223372036854775808:Int)≤e∧e≤9223372036854775807)∧RdL W (fun _=>True) [c0,c1,c2] [.bool b,.sl 1 (U l),.int .i64 e]:=by
 obtain⟨y0,y1,m,_,_,h0,h1⟩:=trod_struct2 Tryz.underlying26 h
 have k0:DataW.trod enc Tryz.prog W 0 sp held m 24 [c0,c1]=some y0:=by simpa [cellsZ] using h0
 have k1:DataW.trod enc Tryz.prog W 0 sp held m 3 [c2]=some y1:=by simpa [cellsInt] using h1
 obtain⟨b,l,d,e,r⟩:=open_Z k0 hok
 obtain⟨z,hz,_,hw⟩:=DataW.trod_int Tryz.underlying3 k1
 obtain rfl:c2=.int .i64 z:=by simpa using hz
 cases r with | cons r0 r=>cases r with | cons r1 r=>cases r with | nil =>
  exact⟨b,l,z,d,e,int_wf hw,.cons r0 (.cons r1 (.cons .int .nil))⟩
end Go.Proofs.YtkkbddkpggjgpaaGreatDoor

namespace Go.Proofs.YtkkbddkpggjgpaaGreatDoor
open Go.ChangeShapes Go.WideShapes Go.ChangeAt Go.RowKit
set_option maxRecDepth 100000
variable {H:Type} {enc:TypeId × Value→H} {W:World} {sp:Nat→Bool} {held:Bool}
theorem array3 {α:Type}{cs:Array α}(h:cs.size=3):∃ c0 c1 c2,cs=#[c0,c1,c2]:=by
 obtain⟨l⟩:=cs
 match l,h with
 | [c0,c1,c2],_=>exact⟨c0,c1,c2,rfl⟩
end Go.Proofs.YtkkbddkpggjgpaaGreatDoor

namespace Go.Proofs.YtkkbddkpggjgpaaGreatDoor
open Go.ChangeShapes Go.WideShapes Go.ChangeAt Go.RowKit
set_option maxRecDepth 100000
variable {H:Type} {enc:TypeId × Value→H} {W:World} {sp:Nat→Bool} {held:Bool}
theorem open_D {v:Value}{d:DataW H}{p:List MemPlace}{b0:Nat}(hv:Value.okWide Tryz.prog W .any b0 26 v)(h:DataW.Trod enc Tryz.prog W 0 sp held 26 v d p) :
  ∃ (b:Bool) (l:List Nat) (e:Int),(Dig l∧l.length≤maxLen∧((-9223372036854775808:Int)≤e∧e≤9223372036854775807))∧Rd W (fun _=>True) v (.agg [.bool b,.sl 1 (U l),.int .i64 e]):=by
 simp only [Value.okWide,Tryz.underlying26] at hv
 obtain⟨cs,rfl,hsz,ts,hts,_,hrow⟩:=hv
 have e0:Tryz.prog.cellTypes Tryz.prog.depth 26=some [4,22,3]:=by kernel_rfl
 rw[e0] at hts
 obtain rfl:=Option.some.inj hts
 obtain⟨c0,c1,c2,rfl⟩:=array3 (hsz.trans cellsY)
 obtain⟨u1,q1,ok1⟩:=hrow 1 c1 rfl
 obtain rfl:22=u1:=by simpa using q1
 obtain⟨n,hn⟩:=h
 have k:DataW.trod enc Tryz.prog W 0 sp held n 26 [c0,c1,c2]=some (d,p):=by simpa [Value.cells] using hn
 obtain⟨b,l,e,d1,d2,d3,r1⟩:=open_Y k ok1
 exact⟨b,l,e,⟨d1,d2,d3⟩,.agg r1⟩
end Go.Proofs.YtkkbddkpggjgpaaGreatDoor

namespace Go.Proofs.YtkkbddkpggjgpaaGreatDoor.arctangentFar
open Go.ChangeShapes Go.WideShapes Go.ChangeAt Go.RowKit
set_option maxRecDepth 100000 in
theorem contract (H:Type)(enc:TypeId × Value→H)(W:World)(base:Nat)(args:Array Value)(ds gs:List (DataW H))(before:List MemPlace)
  (hval:∀ (j:Nat) t v,Tryz.f4.params[j]?=some t→args[j]?=some v→Value.okWide Tryz.prog W .any base t v)
  (hW:DataW.Whole enc Tryz.prog Tryz.f4.params.toList Rows.arctangentFarSpec.vars false W args.toList ds gs before) (hL:laidMetH Tryz.prog Rows.arctangentFarRow.laid W) :
  Calls Tryz.prog 4 args W fun e W'=>∃ v,e=.returned v∧Rows.arctangentFarSpec.post enc Tryz.prog Tryz.f4 false true false false W args v W':=by
 have hW':=hW
 obtain⟨p,q,hA0,hV,rfl,hfz,hnd⟩:=hW
 have hA:DataW.TrodAll enc Tryz.prog W 0 (fun _=>true) true Tryz.f4.params.toList args.toList ds p:=hA0
 rw[Tryz.params4] at hA hval
 obtain⟨v0,vs0,d0,ds0,p0,q0,hargs0,rfl,rfl,h0,r0⟩:=trodAll_cons hA
 obtain⟨v1,vs1,d1,ds1,p1,q1,hargs1,rfl,rfl,h1,r1⟩:=trodAll_cons r0
 obtain⟨v2,vs2,d2,ds2,p2,q2,hargs2,rfl,rfl,h2,r2⟩:=trodAll_cons r1
 obtain⟨rfl,rfl,rfl⟩:=trodAll_nil r2
 obtain rfl:args=#[v0,v1,v2]:=by cases args;simp_all
 obtain⟨rfl,rfl⟩:=trodVars_none hV
 obtain⟨b0,l0,e0,⟨a0,a0',a0''⟩,t0⟩:=open_D (hval 0 26 v0 rfl rfl) h0
 have m0:l0.length≤9223372036854775807:=a0'
 have k1:=h1
 obtain⟨x1,rfl,rfl,rfl,w1⟩:=open_int Tryz.underlying3 (hval 1 3 v1 rfl rfl) h1
 have b1:=int_wf w1
 have k2:=h2
 obtain⟨x2,rfl,rfl,rfl,w2⟩:=open_int Tryz.underlying3 (hval 2 3 v2 rfl rfl) h2
 have b2:=int_wf w2
 clear hA0
 have hlt:=hW'.lt
 have hI:=l16_ArctangentFar b0 l0 e0 x1 x2 a0 m0 a0'' b1 b2
 have hC:=hI.2 W (fun _=>True) [v0,.int .i64 x1,.int .i64 x2] (amb_of hL) (fun _ _=>trivial) (.cons t0 (.cons .int (.cons .int (.nil))))
 refine hC.mono fun e W' hh=>?_
 obtain⟨v,rfl,hv,hb⟩:=hh
 have hv:=hv.bool_inv
 subst hv
 exact⟨_,rfl,post_of_below (pa:=(p0 ++ ([] ++ ([] ++ [])))) (pv:=[]) hW' (fun _ _ _=>trodAll_cons_mk (shut_bool Tryz.underlying4 _) trodAll_mk0) (fun sp hsp=>(trodAll_cons_mk (WideElems.Trod_stays laidOut (by kernel_rfl) (of_decide_eq_true (by kernel_rfl)) h0 (fun x hx=>hb.same (hlt x (by simp [hx]))) (fun x hx=>hsp x (by simp [hx]))) (trodAll_cons_mk (shut_int Tryz.underlying3 w1) (trodAll_cons_mk (shut_int Tryz.underlying3 w2) trodAll_mk0)))) (fun _ _=>rfl) rfl
  hb (ok_one (by kernel_rfl) rfl (okWide_bool_mk Tryz.underlying4 _))⟩
theorem laid_met (os:Os):laidMet Tryz.prog Rows.arctangentFarRow.laid ((laidWorld os).forCall (fun _ _=>0) ⟨#[],#[.agg #[.bool false,.slice none 0 0,.int .i64 0],.int .i64 0,.int .i64 0],[]⟩).memory :=
 laidMet_of_run' 64 (by kernel_rfl) (by kernel_rfl)
theorem reads (os:Os){H:Type}(enc:TypeId × Value→H):∃ places,DataW.whole enc Tryz.prog ((laidWorld os).forCall (fun _ _=>0) ⟨#[],#[.agg #[.bool false,.slice none 0 0,.int .i64 0],.int .i64 0,.int .i64 0],[]⟩).memory Tryz.f4.params.toList Rows.arctangentFarSpec.vars false #[Value.agg #[.bool false,.slice none 0 0,.int .i64 0],Value.int .i64 0,Value.int .i64 0].toList 64=some ([.agg [.agg [.lit (.bool false),.nil],.lit (.int .i64 0)],.lit (.int .i64 0),.lit (.int .i64 0)],[],places) :=
 ⟨[],by kernel_rfl⟩
set_option maxRecDepth 100000 in
theorem lifted (os:Os)(started:os.Started)(H:Type)(enc:TypeId × Value→H)(F:Stop.Interp) :
  ReturnsInHanded {} Tryz.checked os 4 .any ((OpenSpec.ofChange Rows.arctangentFarSpec).preRow enc Tryz.prog Tryz.f4 Rows.arctangentFarRow.domain false Rows.arctangentFarRow.laid) (((OpenSpec.ofChange Rows.arctangentFarSpec).at F).post enc Tryz.prog Tryz.f4 false true false false):=by
 obtain⟨places,hx⟩:=reads os enc
 refine returnsInHanded_of_row (C:=Tryz.checked) (s:=OpenSpec.ofChange Rows.arctangentFarSpec) ownNone started (by kernel_rfl) Tryz.func4
  (witness_row_at (enc:=enc) (C:=Tryz.checked) false (laidWorld os) #[.agg #[.bool false,.slice none 0 0,.int .i64 0],.int .i64 0,.int .i64 0] rfl (by kernel_rfl) (by kernel_rfl) (by kernel_rfl)
   (OpenSpec.preRow_of_cond 64 hx (by kernel_rfl) (fun k hk=>by cases hk) (by kernel_rfl) (laid_met os))) ?_
 intro W base args ds gs before hval hW _ _ _ hL _ _
 exact contract H enc W base args ds gs before hval hW hL
end Go.Proofs.YtkkbddkpggjgpaaGreatDoor.arctangentFar
