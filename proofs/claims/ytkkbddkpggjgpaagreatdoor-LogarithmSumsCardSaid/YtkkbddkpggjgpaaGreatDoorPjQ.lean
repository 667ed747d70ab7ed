/-
  Lower layers: what functions of the program compute, and plain facts. Conditions: as the theorems say.
-/
import Derived.Test.YtkkbddkpggjgpaaGreatDoorPjP
set_option linter.unusedVariables false
set_option linter.unusedSimpArgs false
namespace Go.Proofs.YtkkbddkpggjgpaaGreatDoor
open Go.RowKit
set_option maxRecDepth 100000
def ar_mul_mk (m ee n f p g q h:Int)(x:(Int × Int × Int × Int × Int)⊕((Int × Int × Int × Int × Int)⊕((Int × Int × Int × Int × Int)⊕(Int × Int × Int × Int × Int)))):St:=Sum.elim (fun (x:Int × Int × Int × Int × Int)=>⟨mkS 69 [(2,(.own 0 0)),(3,(.own 1 0)),(5,(.own 2 0)),(6,(.val (.int .i64 x.2.2.2.2))),(7,(.own 3 0)),(36,(.val (.agg [(.bool (decide (m<0))),(N m.natAbs),(.int .i64 ee),(.bool (decide (q<0))),(N q.natAbs),(.int .i64 h),(.bool (decide (n<0))),(N n.natAbs),(.int .i64 f),(.bool (decide (p<0))),(N p.natAbs),(.int .i64 g),(.bool (decide (n<0))),(N n.natAbs),(.int .i64 f),(.bool (decide (q<0))),(N q.natAbs),(.int .i64 h)]))),(37,(.val (.int .i64 0)))],[⟨true,false,[(V.bool false),V.nil,(V.int .i64 0)]⟩,⟨true,false,[(V.bool false),V.nil,(V.int .i64 0)]⟩,⟨true,false,[(V.bool (decide (x.1<0))),(N x.1.natAbs),(V.int .i64 x.2.1)]⟩,⟨true,false,[(V.bool (decide (x.2.2.1<0))),(N x.2.2.1.natAbs),(V.int .i64 x.2.2.2.1)]⟩]⟩) (fun (x:(Int × Int × Int × Int × Int)⊕((Int × Int × Int × Int × Int)⊕(Int × Int × Int × Int × Int)))=>Sum.elim (fun (x:Int × Int × Int × Int × Int)=>⟨mkS 69 [(2,(.own 0 0)),(3,(.own 1 0)),(5,(.own 2 0)),(6,(.val (.int .i64 x.2.2.2.2))),(7,(.own 3 0)),(36,(.val (.agg [(.bool (decide (m<0))),(N m.natAbs),(.int .i64 ee),(.bool (decide (q<0))),(N q.natAbs),(.int .i64 h),(.bool (decide (n<0))),(N n.natAbs),(.int .i64 f),(.bool (decide (p<0))),(N p.natAbs),(.int .i64 g),(.bool (decide (n<0))),(N n.natAbs),(.int .i64 f),(.bool (decide (q<0))),(N q.natAbs),(.int .i64 h)]))),(37,(.val (.int .i64 1)))],[⟨true,false,[(V.bool false),V.nil,(V.int .i64 0)]⟩,⟨true,false,[(V.bool false),V.nil,(V.int .i64 0)]⟩,⟨true,false,[(V.bool (decide (x.1<0))),(N x.1.natAbs),(V.int .i64 x.2.1)]⟩,⟨true,false,[(V.bool (decide (x.2.2.1<0))),(N x.2.2.1.natAbs),(V.int .i64 x.2.2.2.1)]⟩]⟩) (fun (x:(Int × Int × Int × Int × Int)⊕(Int × Int × Int × Int × Int))=>Sum.elim (fun (x:Int × Int × Int × Int × Int)=>⟨mkS 69 [(2,(.own 0 0)),(3,(.own 1 0)),(5,(.own 2 0)),(6,(.val (.int .i64 x.2.2.2.2))),(7,(.own 3 0)),(36,(.val (.agg [(.bool (decide (m<0))),(N m.natAbs),(.int .i64 ee),(.bool (decide (q<0))),(N q.natAbs),(.int .i64 h),(.bool (decide (n<0))),(N n.natAbs),(.int .i64 f),(.bool (decide (p<0))),(N p.natAbs),(.int .i64 g),(.bool (decide (n<0))),(N n.natAbs),(.int .i64 f),(.bool (decide (q<0))),(N q.natAbs),(.int .i64 h)]))),(37,(.val (.int .i64 2)))],[⟨true,false,[(V.bool false),V.nil,(V.int .i64 0)]⟩,⟨true,false,[(V.bool false),V.nil,(V.int .i64 0)]⟩,⟨true,false,[(V.bool (decide (x.1<0))),(N x.1.natAbs),(V.int .i64 x.2.1)]⟩,⟨true,false,[(V.bool (decide (x.2.2.1<0))),(N x.2.2.1.natAbs),(V.int .i64 x.2.2.2.1)]⟩]⟩) (fun (x:Int × Int × Int × Int × Int)=>⟨mkS 69 [(2,(.own 0 0)),(3,(.own 1 0)),(5,(.own 2 0)),(6,(.val (.int .i64 x.2.2.2.2))),(7,(.own 3 0)),(36,(.val (.agg [(.bool (decide (m<0))),(N m.natAbs),(.int .i64 ee),(.bool (decide (q<0))),(N q.natAbs),(.int .i64 h),(.bool (decide (n<0))),(N n.natAbs),(.int .i64 f),(.bool (decide (p<0))),(N p.natAbs),(.int .i64 g),(.bool (decide (n<0))),(N n.natAbs),(.int .i64 f),(.bool (decide (q<0))),(N q.natAbs),(.int .i64 h)]))),(37,(.val (.int .i64 3)))],[⟨true,false,[(V.bool false),V.nil,(V.int .i64 0)]⟩,⟨true,false,[(V.bool false),V.nil,(V.int .i64 0)]⟩,⟨true,false,[(V.bool (decide (x.1<0))),(N x.1.natAbs),(V.int .i64 x.2.1)]⟩,⟨true,false,[(V.bool (decide (x.2.2.1<0))),(N x.2.2.1.natAbs),(V.int .i64 x.2.2.2.1)]⟩]⟩) x) x) x
def ar_mul_I (m ee n f p g q h:Int)(x:(Int × Int × Int × Int × Int)⊕((Int × Int × Int × Int × Int)⊕((Int × Int × Int × Int × Int)⊕(Int × Int × Int × Int × Int)))):Prop:=Sum.elim (fun (x:Int × Int × Int × Int × Int)=>(x.1=(pdt m ee p g).1∧x.2.1=(pdt m ee p g).2)∧(x.2.2.1=(pdt m ee p g).1∧x.2.2.2.1=(pdt m ee p g).2)∧x.2.2.2.2=0∧SzP 1200 (x.1,x.2.1)∧SzP 1200 (x.2.2.1,x.2.2.2.1)) (fun (x:(Int × Int × Int × Int × Int)⊕((Int × Int × Int × Int × Int)⊕(Int × Int × Int × Int × Int)))=>Sum.elim (fun (x:Int × Int × Int × Int × Int)=>(x.1=(pmn (pdt m ee p g) (pdt m ee q h)).1∧x.2.1=(pmn (pdt m ee p g) (pdt m ee q h)).2)∧(x.2.2.1=(pmx (pdt m ee p g) (pdt m ee q h)).1∧x.2.2.2.1=(pmx (pdt m ee p g) (pdt m ee q h)).2)∧x.2.2.2.2=0∧SzP 1200 (x.1,x.2.1)∧SzP 1200 (x.2.2.1,x.2.2.2.1)) (fun (x:(Int × Int × Int × Int × Int)⊕(Int × Int × Int × Int × Int))=>Sum.elim (fun (x:Int × Int × Int × Int × Int)=>(x.1=(pmn (pmn (pdt m ee p g) (pdt m ee q h)) (pdt n f p g)).1∧x.2.1=(pmn (pmn (pdt m ee p g) (pdt m ee q h)) (pdt n f p g)).2)∧(x.2.2.1=(pmx (pmx (pdt m ee p g) (pdt m ee q h)) (pdt n f p g)).1∧x.2.2.2.1=(pmx (pmx (pdt m ee p g) (pdt m ee q h)) (pdt n f p g)).2)∧x.2.2.2.2=0∧SzP 1200 (x.1,x.2.1)∧SzP 1200 (x.2.2.1,x.2.2.2.1)) (fun (x:Int × Int × Int × Int × Int)=>(x.1=(pmn (pmn (pmn (pdt m ee p g) (pdt m ee q h)) (pdt n f p g)) (pdt n f q h)).1∧x.2.1=(pmn (pmn (pmn (pdt m ee p g) (pdt m ee q h)) (pdt n f p g)) (pdt n f q h)).2)∧(x.2.2.1=(pmx (pmx (pmx (pdt m ee p g) (pdt m ee q h)) (pdt n f p g)) (pdt n f q h)).1∧x.2.2.2.1=(pmx (pmx (pmx (pdt m ee p g) (pdt m ee q h)) (pdt n f p g)) (pdt n f q h)).2)∧x.2.2.2.2=0∧SzP 1200 (x.1,x.2.1)∧SzP 1200 (x.2.2.1,x.2.2.2.1)) x) x) x
def ar_mul_mu (_ _ _ _ _ _ _ _:Int)(x:(Int × Int × Int × Int × Int)⊕((Int × Int × Int × Int × Int)⊕((Int × Int × Int × Int × Int)⊕(Int × Int × Int × Int × Int)))):Nat:=Sum.elim (fun (x:Int × Int × Int × Int × Int)=>9-0) (fun (x:(Int × Int × Int × Int × Int)⊕((Int × Int × Int × Int × Int)⊕(Int × Int × Int × Int × Int)))=>Sum.elim (fun (x:Int × Int × Int × Int × Int)=>9-1) (fun (x:(Int × Int × Int × Int × Int)⊕(Int × Int × Int × Int × Int))=>Sum.elim (fun (x:Int × Int × Int × Int × Int)=>9-2) (fun (x:Int × Int × Int × Int × Int)=>9-3) x) x) x
def ar_mul_ex (_ _ _ _ _ _ _ _:Int)(y:Int × Int × Int × Int × Int):Ex × St:=(.exit 0,⟨mkS 69 [(2,(.own 0 0)),(3,(.own 1 0)),(5,(.own 2 0)),(6,(.val (.int .i64 y.2.2.2.2))),(7,(.own 3 0))],[⟨true,false,[(V.bool false),V.nil,(V.int .i64 0)]⟩,⟨true,false,[(V.bool false),V.nil,(V.int .i64 0)]⟩,⟨true,false,[(V.bool (decide (y.1<0))),(N y.1.natAbs),(V.int .i64 y.2.1)]⟩,⟨true,false,[(V.bool (decide (y.2.2.1<0))),(N y.2.2.1.natAbs),(V.int .i64 y.2.2.2.1)]⟩]⟩)
def ar_mul_J (m ee n f p g q h:Int)(y:Int × Int × Int × Int × Int):Prop:=(y.1=(pmn (pmn (pmn (pdt m ee p g) (pdt m ee q h)) (pdt n f p g)) (pdt n f q h)).1∧y.2.1=(pmn (pmn (pmn (pdt m ee p g) (pdt m ee q h)) (pdt n f p g)) (pdt n f q h)).2)∧(y.2.2.1=(pmx (pmx (pmx (pdt m ee p g) (pdt m ee q h)) (pdt n f p g)) (pdt n f q h)).1∧y.2.2.2.1=(pmx (pmx (pmx (pdt m ee p g) (pdt m ee q h)) (pdt n f p g)) (pdt n f q h)).2)∧y.2.2.2.2=0∧SzP 1200 (y.1,y.2.1)∧SzP 1200 (y.2.2.1,y.2.2.2.1)
abbrev ar_mul_N (m ee n f p g q h:Int):=NX (ar_mul_mk m ee n f p g q h) (ar_mul_I m ee n f p g q h) (ar_mul_mu m ee n f p g q h) (ar_mul_ex m ee n f p g q h) (ar_mul_J m ee n f p g q h)
theorem ar_mul (m ee n f p g q h:Int)(c0:L (m).natAbs≤600)(c1:(-20000:Int)≤ee∧ee≤20000)(c2:L (n).natAbs≤600)(c3:(-20000:Int)≤f∧f≤20000)(c4:L (p).natAbs≤600)(c5:(-20000:Int)≤g∧g≤20000)(c6:L (q).natAbs≤600)(c7:(-20000:Int)≤h∧h≤20000)(c8:mkE (m*p) (ee+g)=0)(c9:mkE (m*q) (ee+h)=0)(c10:mkE (n*p) (f+g)=0)(c11:mkE (n*q) (f+h)=0)(x0:(Int × Int × Int × Int × Int)⊕((Int × Int × Int × Int × Int)⊕((Int × Int × Int × Int × Int)⊕(Int × Int × Int × Int × Int))))(hI:ar_mul_I m ee n f p g q h x0):LoopOk Tryz.prog Amb (loopN Tryz.f94 0) (ar_mul_mk m ee n f p g q h x0) (fun e st_=>∃ y,ar_mul_J m ee n f p g q h y∧ar_mul_ex m ee n f p g q h y=(e,st_)) :=
 loop_ob hP hAmb ⟨[2,3,5,6,7,36,37],4,[]⟩ (ar_mul_mk m ee n f p g q h) (ar_mul_I m ee n f p g q h) (ar_mul_mu m ee n f p g q h) (ar_mul_ex m ee n f p g q h) (ar_mul_J m ee n f p g q h) x0 hI (Sum.elim (fun (M,X,N_,F,er)=>.lits 2<|.yes<|.lits 7<|.call (exT (m*q) (ee+h))<|.lits 5<|.call (.int .i64 (cmpD (mkM (m*q) (ee+h)) (mkX (m*q) (ee+h)) M X))<|.lit<|.both (.lits 5<|.call (.int .i64 (cmpD (mkM (m*q) (ee+h)) (mkX (m*q) (ee+h)) N_ F))<|.lit<|.both (.lits 3<|.yes<|.fin3 ⟨[2,3,5,6,7,36,37],[0,1,2,3]⟩) (.lit<|.yes<|.fin3 ⟨[2,3,5,6,7,36,37],[0,1,2,3]⟩)) (.lits 3<|.call (.int .i64 (cmpD (mkM (m*q) (ee+h)) (mkX (m*q) (ee+h)) N_ F))<|.lit<|.both (.lits 3<|.yes<|.fin3 ⟨[2,3,5,6,7,36,37],[0,1,2,3]⟩) (.lit<|.yes<|.fin3 ⟨[2,3,5,6,7,36,37],[0,1,2,3]⟩))) (Sum.elim (fun (M,X,N_,F,er)=>.lits 2<|.yes<|.lits 7<|.call (exT (n*p) (f+g))<|.lits 5<|.call (.int .i64 (cmpD (mkM (n*p) (f+g)) (mkX (n*p) (f+g)) M X))<|.lit<|.both (.lits 5<|.call (.int .i64 (cmpD (mkM (n*p) (f+g)) (mkX (n*p) (f+g)) N_ F))<|.lit<|.both (.lits 3<|.yes<|.fin3 ⟨[2,3,5,6,7,36,37],[0,1,2,3]⟩) (.lit<|.yes<|.fin3 ⟨[2,3,5,6,7,36,37],[0,1,2,3]⟩)) (.lits 3<|.call (.int .i64 (cmpD (mkM (n*p) (f+g)) (mkX (n*p) (f+g)) N_ F))<|.lit<|.both (.lits 3<|.yes<|.fin3 ⟨[2,3,5,6,7,36,37],[0,1,2,3]⟩) (.lit<|.yes<|.fin3 ⟨[2,3,5,6,7,36,37],[0,1,2,3]⟩))) (Sum.elim (fun (M,X,N_,F,er)=>.lits 2<|.yes<|.lits 7<|.call (exT (n*q) (f+h))<|.lits 5<|.call (.int .i64 (cmpD (mkM (n*q) (f+h)) (mkX (n*q) (f+h)) M X))<|.lit<|.both (.lits 5<|.call (.int .i64 (cmpD (mkM (n*q) (f+h)) (mkX (n*q) (f+h)) N_ F))<|.lit<|.both (.lits 3<|.yes<|.fin3 ⟨[2,3,5,6,7,36,37],[0,1,2,3]⟩) (.lit<|.yes<|.fin3 ⟨[2,3,5,6,7,36,37],[0,1,2,3]⟩)) (.lits 3<|.call (.int .i64 (cmpD (mkM (n*q) (f+h)) (mkX (n*q) (f+h)) N_ F))<|.lit<|.both (.lits 3<|.yes<|.fin3 ⟨[2,3,5,6,7,36,37],[0,1,2,3]⟩) (.lit<|.yes<|.fin3 ⟨[2,3,5,6,7,36,37],[0,1,2,3]⟩))) (fun (M,X,N_,F,er)=>.lits 2<|.fin2 ⟨[2,3,5,6,7],4,[]⟩)))) (by
  rintro (⟨M,X,N_,F,er⟩ | ⟨M,X,N_,F,er⟩ | ⟨M,X,N_,F,er⟩ | ⟨M,X,N_,F,er⟩) hI
  ·skip
   have hI:(M=(pdt m ee p g).1∧X=(pdt m ee p g).2)∧(N_=(pdt m ee p g).1∧F=(pdt m ee p g).2)∧er=0∧SzP 1200 (M,X)∧SzP 1200 (N_,F):=hI
   obtain⟨⟨hM,hX⟩,⟨hN,hF⟩,h0,s1,s2⟩:=hI
   have ⟨s3,s4,s5⟩:=s1
   have ⟨s6,s7,s8⟩:=s2
   have s9:=SzP_mk s1
   simp only at s3 s4 s5 s6 s7 s8
   exact cast_ob (aI True.intro (aI tT (aI (dy_Mul m ee q h oO oO oO oO) (have f112:=ex_range (m*q) (ee+h);have f111:=mk_facts (m*q) (ee+h);have f110:=L_abs_mul m q;aI (dy_Cmp (mkM (m*q) (ee+h)) (mkX (m*q) (ee+h)) M X oO oO oO oO) (have f109:=cmpD_range (mkM (m*q) (ee+h)) (mkX (m*q) (ee+h)) M X;aI (fun (h101:(iLt (cmpD (mkM (m*q) (ee+h)) (mkX (m*q) (ee+h)) M X) 0)=true)=>have _gh101:=iLt_t h101;aI (dy_Cmp (mkM (m*q) (ee+h)) (mkX (m*q) (ee+h)) N_ F oO oO oO oO) (have f104:=cmpD_range (mkM (m*q) (ee+h)) (mkX (m*q) (ee+h)) N_ F;aI (fun (h102:(iGt (cmpD (mkM (m*q) (ee+h)) (mkX (m*q) (ee+h)) N_ F) 0)=true)=>have _gh102:=iGt_t h102;aI tT (aI tT ((nx_next (Sum.inr (Sum.inl ((mkM (m*q) (ee+h)),(mkX (m*q) (ee+h)),(mkM (m*q) (ee+h)),(mkX (m*q) (ee+h)),(iMax er (exE (m*q) (ee+h)))))) (show ((mkM (m*q) (ee+h))=(pmn (pdt m ee p g) (pdt m ee q h)).1∧(mkX (m*q) (ee+h))=(pmn (pdt m ee p g) (pdt m ee q h)).2)∧((mkM (m*q) (ee+h))=(pmx (pdt m ee p g) (pdt m ee q h)).1∧(mkX (m*q) (ee+h))=(pmx (pdt m ee p g) (pdt m ee q h)).2)∧(iMax er (exE (m*q) (ee+h)))=0∧SzP 1200 ((mkM (m*q) (ee+h)),(mkX (m*q) (ee+h)))∧SzP 1200 ((mkM (m*q) (ee+h)),(mkX (m*q) (ee+h))) from ⟨mn_yes hM hX (b:=(pdt m ee q h)) (show cmpD (mkM (m*q) (ee+h)) (mkX (m*q) (ee+h)) M X<0 by omega),mx_yes hN hF (b:=(pdt m ee q h)) (show 0<cmpD (mkM (m*q) (ee+h)) (mkX (m*q) (ee+h)) N_ F by omega),by unfold iMax;split<;>omega,(pdt_sz (m:=m) (e:=ee) (n:=q) (f:=h) (k:=1200) oO),(pdt_sz (m:=m) (e:=ee) (n:=q) (f:=h) (k:=1200) oO)⟩) (show 9-1<9-0 by omega):ar_mul_N m ee n f p g q h (Sum.inl (M,X,N_,F,er)) .normal (ar_mul_mk m ee n f p g q h (Sum.inr (Sum.inl ((mkM (m*q) (ee+h)),(mkX (m*q) (ee+h)),(mkM (m*q) (ee+h)),(mkX (m*q) (ee+h)),(iMax er (exE (m*q) (ee+h))))))))))) (fun (h103:(iGt (cmpD (mkM (m*q) (ee+h)) (mkX (m*q) (ee+h)) N_ F) 0)=false)=>have _gh103:=iGt_f h103;aI tT (aI tT ((nx_next (Sum.inr (Sum.inl ((mkM (m*q) (ee+h)),(mkX (m*q) (ee+h)),N_,F,(iMax er (exE (m*q) (ee+h)))))) (show ((mkM (m*q) (ee+h))=(pmn (pdt m ee p g) (pdt m ee q h)).1∧(mkX (m*q) (ee+h))=(pmn (pdt m ee p g) (pdt m ee q h)).2)∧(N_=(pmx (pdt m ee p g) (pdt m ee q h)).1∧F=(pmx (pdt m ee p g) (pdt m ee q h)).2)∧(iMax er (exE (m*q) (ee+h)))=0∧SzP 1200 ((mkM (m*q) (ee+h)),(mkX (m*q) (ee+h)))∧SzP 1200 (N_,F) from ⟨mn_yes hM hX (b:=(pdt m ee q h)) (show cmpD (mkM (m*q) (ee+h)) (mkX (m*q) (ee+h)) M X<0 by omega),mx_no hN hF (b:=(pdt m ee q h)) (show cmpD (mkM (m*q) (ee+h)) (mkX (m*q) (ee+h)) N_ F≤0 by omega),by unfold iMax;split<;>omega,(pdt_sz (m:=m) (e:=ee) (n:=q) (f:=h) (k:=1200) oO),s2⟩) (show 9-1<9-0 by omega):ar_mul_N m ee n f p g q h (Sum.inl (M,X,N_,F,er)) .normal (ar_mul_mk m ee n f p g q h (Sum.inr (Sum.inl ((mkM (m*q) (ee+h)),(mkX (m*q) (ee+h)),N_,F,(iMax er (exE (m*q) (ee+h))))))))))))) (fun (h105:(iLt (cmpD (mkM (m*q) (ee+h)) (mkX (m*q) (ee+h)) M X) 0)=false)=>have _gh105:=iLt_f h105;aI (dy_Cmp (mkM (m*q) (ee+h)) (mkX (m*q) (ee+h)) N_ F oO oO oO oO) (have f108:=cmpD_range (mkM (m*q) (ee+h)) (mkX (m*q) (ee+h)) N_ F;aI (fun (h106:(iGt (cmpD (mkM (m*q) (ee+h)) (mkX (m*q) (ee+h)) N_ F) 0)=true)=>have _gh106:=iGt_t h106;aI tT (aI tT ((nx_next (Sum.inr (Sum.inl (M,X,(mkM (m*q) (ee+h)),(mkX (m*q) (ee+h)),(iMax er (exE (m*q) (ee+h)))))) (show (M=(pmn (pdt m ee p g) (pdt m ee q h)).1∧X=(pmn (pdt m ee p g) (pdt m ee q h)).2)∧((mkM (m*q) (ee+h))=(pmx (pdt m ee p g) (pdt m ee q h)).1∧(mkX (m*q) (ee+h))=(pmx (pdt m ee p g) (pdt m ee q h)).2)∧(iMax er (exE (m*q) (ee+h)))=0∧SzP 1200 (M,X)∧SzP 1200 ((mkM (m*q) (ee+h)),(mkX (m*q) (ee+h))) from ⟨mn_no hM hX (b:=(pdt m ee q h)) (show 0≤cmpD (mkM (m*q) (ee+h)) (mkX (m*q) (ee+h)) M X by omega),mx_yes hN hF (b:=(pdt m ee q h)) (show 0<cmpD (mkM (m*q) (ee+h)) (mkX (m*q) (ee+h)) N_ F by omega),by unfold iMax;split<;>omega,s1,(pdt_sz (m:=m) (e:=ee) (n:=q) (f:=h) (k:=1200) oO)⟩) (show 9-1<9-0 by omega):ar_mul_N m ee n f p g q h (Sum.inl (M,X,N_,F,er)) .normal (ar_mul_mk m ee n f p g q h (Sum.inr (Sum.inl (M,X,(mkM (m*q) (ee+h)),(mkX (m*q) (ee+h)),(iMax er (exE (m*q) (ee+h))))))))))) (fun (h107:(iGt (cmpD (mkM (m*q) (ee+h)) (mkX (m*q) (ee+h)) N_ F) 0)=false)=>have _gh107:=iGt_f h107;aI tT (aI tT ((nx_next (Sum.inr (Sum.inl (M,X,N_,F,(iMax er (exE (m*q) (ee+h)))))) (show (M=(pmn (pdt m ee p g) (pdt m ee q h)).1∧X=(pmn (pdt m ee p g) (pdt m ee q h)).2)∧(N_=(pmx (pdt m ee p g) (pdt m ee q h)).1∧F=(pmx (pdt m ee p g) (pdt m ee q h)).2)∧(iMax er (exE (m*q) (ee+h)))=0∧SzP 1200 (M,X)∧SzP 1200 (N_,F) from ⟨mn_no hM hX (b:=(pdt m ee q h)) (show 0≤cmpD (mkM (m*q) (ee+h)) (mkX (m*q) (ee+h)) M X by omega),mx_no hN hF (b:=(pdt m ee q h)) (show cmpD (mkM (m*q) (ee+h)) (mkX (m*q) (ee+h)) N_ F≤0 by omega),by unfold iMax;split<;>omega,s1,s2⟩) (show 9-1<9-0 by omega):ar_mul_N m ee n f p g q h (Sum.inl (M,X,N_,F,er)) .normal (ar_mul_mk m ee n f p g q h (Sum.inr (Sum.inl (M,X,N_,F,(iMax er (exE (m*q) (ee+h)))))))))))))))))) (by kernel_rfl)
  ·skip
   have hI:(M=(pmn (pdt m ee p g) (pdt m ee q h)).1∧X=(pmn (pdt m ee p g) (pdt m ee q h)).2)∧(N_=(pmx (pdt m ee p g) (pdt m ee q h)).1∧F=(pmx (pdt m ee p g) (pdt m ee q h)).2)∧er=0∧SzP 1200 (M,X)∧SzP 1200 (N_,F):=hI
   obtain⟨⟨hM,hX⟩,⟨hN,hF⟩,h0,s1,s2⟩:=hI
   have ⟨s3,s4,s5⟩:=s1
   have ⟨s6,s7,s8⟩:=s2
   have s9:=SzP_mk s1
   simp only at s3 s4 s5 s6 s7 s8
   exact cast_ob (aI True.intro (aI tT (aI (dy_Mul n f p g oO oO oO oO) (have f112:=ex_range (n*p) (f+g);have f111:=mk_facts (n*p) (f+g);have f110:=L_abs_mul n p;aI (dy_Cmp (mkM (n*p) (f+g)) (mkX (n*p) (f+g)) M X oO oO oO oO) (have f109:=cmpD_range (mkM (n*p) (f+g)) (mkX (n*p) (f+g)) M X;aI (fun (h101:(iLt (cmpD (mkM (n*p) (f+g)) (mkX (n*p) (f+g)) M X) 0)=true)=>have _gh101:=iLt_t h101;aI (dy_Cmp (mkM (n*p) (f+g)) (mkX (n*p) (f+g)) N_ F oO oO oO oO) (have f104:=cmpD_range (mkM (n*p) (f+g)) (mkX (n*p) (f+g)) N_ F;aI (fun (h102:(iGt (cmpD (mkM (n*p) (f+g)) (mkX (n*p) (f+g)) N_ F) 0)=true)=>have _gh102:=iGt_t h102;aI tT (aI tT ((nx_next (Sum.inr (Sum.inr (Sum.inl ((mkM (n*p) (f+g)),(mkX (n*p) (f+g)),(mkM (n*p) (f+g)),(mkX (n*p) (f+g)),(iMax er (exE (n*p) (f+g))))))) (show ((mkM (n*p) (f+g))=(pmn (pmn (pdt m ee p g) (pdt m ee q h)) (pdt n f p g)).1∧(mkX (n*p) (f+g))=(pmn (pmn (pdt m ee p g) (pdt m ee q h)) (pdt n f p g)).2)∧((mkM (n*p) (f+g))=(pmx (pmx (pdt m ee p g) (pdt m ee q h)) (pdt n f p g)).1∧(mkX (n*p) (f+g))=(pmx (pmx (pdt m ee p g) (pdt m ee q h)) (pdt n f p g)).2)∧(iMax er (exE (n*p) (f+g)))=0∧SzP 1200 ((mkM (n*p) (f+g)),(mkX (n*p) (f+g)))∧SzP 1200 ((mkM (n*p) (f+g)),(mkX (n*p) (f+g))) from ⟨mn_yes hM hX (b:=(pdt n f p g)) (show cmpD (mkM (n*p) (f+g)) (mkX (n*p) (f+g)) M X<0 by omega),mx_yes hN hF (b:=(pdt n f p g)) (show 0<cmpD (mkM (n*p) (f+g)) (mkX (n*p) (f+g)) N_ F by omega),by unfold iMax;split<;>omega,(pdt_sz (m:=n) (e:=f) (n:=p) (f:=g) (k:=1200) oO),(pdt_sz (m:=n) (e:=f) (n:=p) (f:=g) (k:=1200) oO)⟩) (show 9-2<9-1 by omega):ar_mul_N m ee n f p g q h (Sum.inr (Sum.inl (M,X,N_,F,er))) .normal (ar_mul_mk m ee n f p g q h (Sum.inr (Sum.inr (Sum.inl ((mkM (n*p) (f+g)),(mkX (n*p) (f+g)),(mkM (n*p) (f+g)),(mkX (n*p) (f+g)),(iMax er (exE (n*p) (f+g)))))))))))) (fun (h103:(iGt (cmpD (mkM (n*p) (f+g)) (mkX (n*p) (f+g)) N_ F) 0)=false)=>have _gh103:=iGt_f h103;aI tT (aI tT ((nx_next (Sum.inr (Sum.inr (Sum.inl ((mkM (n*p) (f+g)),(mkX (n*p) (f+g)),N_,F,(iMax er (exE (n*p) (f+g))))))) (show ((mkM (n*p) (f+g))=(pmn (pmn (pdt m ee p g) (pdt m ee q h)) (pdt n f p g)).1∧(mkX (n*p) (f+g))=(pmn (pmn (pdt m ee p g) (pdt m ee q h)) (pdt n f p g)).2)∧(N_=(pmx (pmx (pdt m ee p g) (pdt m ee q h)) (pdt n f p g)).1∧F=(pmx (pmx (pdt m ee p g) (pdt m ee q h)) (pdt n f p g)).2)∧(iMax er (exE (n*p) (f+g)))=0∧SzP 1200 ((mkM (n*p) (f+g)),(mkX (n*p) (f+g)))∧SzP 1200 (N_,F) from ⟨mn_yes hM hX (b:=(pdt n f p g)) (show cmpD (mkM (n*p) (f+g)) (mkX (n*p) (f+g)) M X<0 by omega),mx_no hN hF (b:=(pdt n f p g)) (show cmpD (mkM (n*p) (f+g)) (mkX (n*p) (f+g)) N_ F≤0 by omega),by unfold iMax;split<;>omega,(pdt_sz (m:=n) (e:=f) (n:=p) (f:=g) (k:=1200) oO),s2⟩) (show 9-2<9-1 by omega):ar_mul_N m ee n f p g q h (Sum.inr (Sum.inl (M,X,N_,F,er))) .normal (ar_mul_mk m ee n f p g q h (Sum.inr (Sum.inr (Sum.inl ((mkM (n*p) (f+g)),(mkX (n*p) (f+g)),N_,F,(iMax er (exE (n*p) (f+g)))))))))))))) (fun (h105:(iLt (cmpD (mkM (n*p) (f+g)) (mkX (n*p) (f+g)) M X) 0)=false)=>have _gh105:=iLt_f h105;aI (dy_Cmp (mkM (n*p) (f+g)) (mkX (n*p) (f+g)) N_ F oO oO oO oO) (have f108:=cmpD_range (mkM (n*p) (f+g)) (mkX (n*p) (f+g)) N_ F;aI (fun (h106:(iGt (cmpD (mkM (n*p) (f+g)) (mkX (n*p) (f+g)) N_ F) 0)=true)=>have _gh106:=iGt_t h106;aI tT (aI tT ((nx_next (Sum.inr (Sum.inr (Sum.inl (M,X,(mkM (n*p) (f+g)),(mkX (n*p) (f+g)),(iMax er (exE (n*p) (f+g))))))) (show (M=(pmn (pmn (pdt m ee p g) (pdt m ee q h)) (pdt n f p g)).1∧X=(pmn (pmn (pdt m ee p g) (pdt m ee q h)) (pdt n f p g)).2)∧((mkM (n*p) (f+g))=(pmx (pmx (pdt m ee p g) (pdt m ee q h)) (pdt n f p g)).1∧(mkX (n*p) (f+g))=(pmx (pmx (pdt m ee p g) (pdt m ee q h)) (pdt n f p g)).2)∧(iMax er (exE (n*p) (f+g)))=0∧SzP 1200 (M,X)∧SzP 1200 ((mkM (n*p) (f+g)),(mkX (n*p) (f+g))) from ⟨mn_no hM hX (b:=(pdt n f p g)) (show 0≤cmpD (mkM (n*p) (f+g)) (mkX (n*p) (f+g)) M X by omega),mx_yes hN hF (b:=(pdt n f p g)) (show 0<cmpD (mkM (n*p) (f+g)) (mkX (n*p) (f+g)) N_ F by omega),by unfold iMax;split<;>omega,s1,(pdt_sz (m:=n) (e:=f) (n:=p) (f:=g) (k:=1200) oO)⟩) (show 9-2<9-1 by omega):ar_mul_N m ee n f p g q h (Sum.inr (Sum.inl (M,X,N_,F,er))) .normal (ar_mul_mk m ee n f p g q h (Sum.inr (Sum.inr (Sum.inl (M,X,(mkM (n*p) (f+g)),(mkX (n*p) (f+g)),(iMax er (exE (n*p) (f+g)))))))))))) (fun (h107:(iGt (cmpD (mkM (n*p) (f+g)) (mkX (n*p) (f+g)) N_ F) 0)=false)=>have _gh107:=iGt_f h107;aI tT (aI tT ((nx_next (Sum.inr (Sum.inr (Sum.inl (M,X,N_,F,(iMax er (exE (n*p) (f+g))))))) (show (M=(pmn (pmn (pdt m ee p g) (pdt m ee q h)) (pdt n f p g)).1∧X=(pmn (pmn (pdt m ee p g) (pdt m ee q h)) (pdt n f p g)).2)∧(N_=(pmx (pmx (pdt m ee p g) (pdt m ee q h)) (pdt n f p g)).1∧F=(pmx (pmx (pdt m ee p g) (pdt m ee q h)) (pdt n f p g)).2)∧(iMax er (exE (n*p) (f+g)))=0∧SzP 1200 (M,X)∧SzP 1200 (N_,F) from ⟨mn_no hM hX (b:=(pdt n f p g)) (show 0≤cmpD (mkM (n*p) (f+g)) (mkX (n*p) (f+g)) M X by omega),mx_no hN hF (b:=(pdt n f p g)) (show cmpD (mkM (n*p) (f+g)) (mkX (n*p) (f+g)) N_ F≤0 by omega),by unfold iMax;split<;>omega,s1,s2⟩) (show 9-2<9-1 by omega):ar_mul_N m ee n f p g q h (Sum.inr (Sum.inl (M,X,N_,F,er))) .normal (ar_mul_mk m ee n f p g q h (Sum.inr (Sum.inr (Sum.inl (M,X,N_,F,(iMax er (exE (n*p) (f+g))))))))))))))))))) (by kernel_rfl)
  ·skip
   have hI:(M=(pmn (pmn (pdt m ee p g) (pdt m ee q h)) (pdt n f p g)).1∧X=(pmn (pmn (pdt m ee p g) (pdt m ee q h)) (pdt n f p g)).2)∧(N_=(pmx (pmx (pdt m ee p g) (pdt m ee q h)) (pdt n f p g)).1∧F=(pmx (pmx (pdt m ee p g) (pdt m ee q h)) (pdt n f p g)).2)∧er=0∧SzP 1200 (M,X)∧SzP 1200 (N_,F):=hI
   obtain⟨⟨hM,hX⟩,⟨hN,hF⟩,h0,s1,s2⟩:=hI
   have ⟨s3,s4,s5⟩:=s1
   have ⟨s6,s7,s8⟩:=s2
   have s9:=SzP_mk s1
   simp only at s3 s4 s5 s6 s7 s8
   exact cast_ob (aI True.intro (aI tT (aI (dy_Mul n f q h oO oO oO oO) (have f112:=ex_range (n*q) (f+h);have f111:=mk_facts (n*q) (f+h);have f110:=L_abs_mul n q;aI (dy_Cmp (mkM (n*q) (f+h)) (mkX (n*q) (f+h)) M X oO oO oO oO) (have f109:=cmpD_range (mkM (n*q) (f+h)) (mkX (n*q) (f+h)) M X;aI (fun (h101:(iLt (cmpD (mkM (n*q) (f+h)) (mkX (n*q) (f+h)) M X) 0)=true)=>have _gh101:=iLt_t h101;aI (dy_Cmp (mkM (n*q) (f+h)) (mkX (n*q) (f+h)) N_ F oO oO oO oO) (have f104:=cmpD_range (mkM (n*q) (f+h)) (mkX (n*q) (f+h)) N_ F;aI (fun (h102:(iGt (cmpD (mkM (n*q) (f+h)) (mkX (n*q) (f+h)) N_ F) 0)=true)=>have _gh102:=iGt_t h102;aI tT (aI tT ((nx_next (Sum.inr (Sum.inr (Sum.inr ((mkM (n*q) (f+h)),(mkX (n*q) (f+h)),(mkM (n*q) (f+h)),(mkX (n*q) (f+h)),(iMax er (exE (n*q) (f+h))))))) (show ((mkM (n*q) (f+h))=(pmn (pmn (pmn (pdt m ee p g) (pdt m ee q h)) (pdt n f p g)) (pdt n f q h)).1∧(mkX (n*q) (f+h))=(pmn (pmn (pmn (pdt m ee p g) (pdt m ee q h)) (pdt n f p g)) (pdt n f q h)).2)∧((mkM (n*q) (f+h))=(pmx (pmx (pmx (pdt m ee p g) (pdt m ee q h)) (pdt n f p g)) (pdt n f q h)).1∧(mkX (n*q) (f+h))=(pmx (pmx (pmx (pdt m ee p g) (pdt m ee q h)) (pdt n f p g)) (pdt n f q h)).2)∧(iMax er (exE (n*q) (f+h)))=0∧SzP 1200 ((mkM (n*q) (f+h)),(mkX (n*q) (f+h)))∧SzP 1200 ((mkM (n*q) (f+h)),(mkX (n*q) (f+h))) from ⟨mn_yes hM hX (b:=(pdt n f q h)) (show cmpD (mkM (n*q) (f+h)) (mkX (n*q) (f+h)) M X<0 by omega),mx_yes hN hF (b:=(pdt n f q h)) (show 0<cmpD (mkM (n*q) (f+h)) (mkX (n*q) (f+h)) N_ F by omega),by unfold iMax;split<;>omega,(pdt_sz (m:=n) (e:=f) (n:=q) (f:=h) (k:=1200) oO),(pdt_sz (m:=n) (e:=f) (n:=q) (f:=h) (k:=1200) oO)⟩) (show 9-3<9-2 by omega):ar_mul_N m ee n f p g q h (Sum.inr (Sum.inr (Sum.inl (M,X,N_,F,er)))) .normal (ar_mul_mk m ee n f p g q h (Sum.inr (Sum.inr (Sum.inr ((mkM (n*q) (f+h)),(mkX (n*q) (f+h)),(mkM (n*q) (f+h)),(mkX (n*q) (f+h)),(iMax er (exE (n*q) (f+h)))))))))))) (fun (h103:(iGt (cmpD (mkM (n*q) (f+h)) (mkX (n*q) (f+h)) N_ F) 0)=false)=>have _gh103:=iGt_f h103;aI tT (aI tT ((nx_next (Sum.inr (Sum.inr (Sum.inr ((mkM (n*q) (f+h)),(mkX (n*q) (f+h)),N_,F,(iMax er (exE (n*q) (f+h))))))) (show ((mkM (n*q) (f+h))=(pmn (pmn (pmn (pdt m ee p g) (pdt m ee q h)) (pdt n f p g)) (pdt n f q h)).1∧(mkX (n*q) (f+h))=(pmn (pmn (pmn (pdt m ee p g) (pdt m ee q h)) (pdt n f p g)) (pdt n f q h)).2)∧(N_=(pmx (pmx (pmx (pdt m ee p g) (pdt m ee q h)) (pdt n f p g)) (pdt n f q h)).1∧F=(pmx (pmx (pmx (pdt m ee p g) (pdt m ee q h)) (pdt n f p g)) (pdt n f q h)).2)∧(iMax er (exE (n*q) (f+h)))=0∧SzP 1200 ((mkM (n*q) (f+h)),(mkX (n*q) (f+h)))∧SzP 1200 (N_,F) from ⟨mn_yes hM hX (b:=(pdt n f q h)) (show cmpD (mkM (n*q) (f+h)) (mkX (n*q) (f+h)) M X<0 by omega),mx_no hN hF (b:=(pdt n f q h)) (show cmpD (mkM (n*q) (f+h)) (mkX (n*q) (f+h)) N_ F≤0 by omega),by unfold iMax;split<;>omega,(pdt_sz (m:=n) (e:=f) (n:=q) (f:=h) (k:=1200) oO),s2⟩) (show 9-3<9-2 by omega):ar_mul_N m ee n f p g q h (Sum.inr (Sum.inr (Sum.inl (M,X,N_,F,er)))) .normal (ar_mul_mk m ee n f p g q h (Sum.inr (Sum.inr (Sum.inr ((mkM (n*q) (f+h)),(mkX (n*q) (f+h)),N_,F,(iMax er (exE (n*q) (f+h)))))))))))))) (fun (h105:(iLt (cmpD (mkM (n*q) (f+h)) (mkX (n*q) (f+h)) M X) 0)=false)=>have _gh105:=iLt_f h105;aI (dy_Cmp (mkM (n*q) (f+h)) (mkX (n*q) (f+h)) N_ F oO oO oO oO) (have f108:=cmpD_range (mkM (n*q) (f+h)) (mkX (n*q) (f+h)) N_ F;aI (fun (h106:(iGt (cmpD (mkM (n*q) (f+h)) (mkX (n*q) (f+h)) N_ F) 0)=true)=>have _gh106:=iGt_t h106;aI tT (aI tT ((nx_next (Sum.inr (Sum.inr (Sum.inr (M,X,(mkM (n*q) (f+h)),(mkX (n*q) (f+h)),(iMax er (exE (n*q) (f+h))))))) (show (M=(pmn (pmn (pmn (pdt m ee p g) (pdt m ee q h)) (pdt n f p g)) (pdt n f q h)).1∧X=(pmn (pmn (pmn (pdt m ee p g) (pdt m ee q h)) (pdt n f p g)) (pdt n f q h)).2)∧((mkM (n*q) (f+h))=(pmx (pmx (pmx (pdt m ee p g) (pdt m ee q h)) (pdt n f p g)) (pdt n f q h)).1∧(mkX (n*q) (f+h))=(pmx (pmx (pmx (pdt m ee p g) (pdt m ee q h)) (pdt n f p g)) (pdt n f q h)).2)∧(iMax er (exE (n*q) (f+h)))=0∧SzP 1200 (M,X)∧SzP 1200 ((mkM (n*q) (f+h)),(mkX (n*q) (f+h))) from ⟨mn_no hM hX (b:=(pdt n f q h)) (show 0≤cmpD (mkM (n*q) (f+h)) (mkX (n*q) (f+h)) M X by omega),mx_yes hN hF (b:=(pdt n f q h)) (show 0<cmpD (mkM (n*q) (f+h)) (mkX (n*q) (f+h)) N_ F by omega),by unfold iMax;split<;>omega,s1,(pdt_sz (m:=n) (e:=f) (n:=q) (f:=h) (k:=1200) oO)⟩) (show 9-3<9-2 by omega):ar_mul_N m ee n f p g q h (Sum.inr (Sum.inr (Sum.inl (M,X,N_,F,er)))) .normal (ar_mul_mk m ee n f p g q h (Sum.inr (Sum.inr (Sum.inr (M,X,(mkM (n*q) (f+h)),(mkX (n*q) (f+h)),(iMax er (exE (n*q) (f+h)))))))))))) (fun (h107:(iGt (cmpD (mkM (n*q) (f+h)) (mkX (n*q) (f+h)) N_ F) 0)=false)=>have _gh107:=iGt_f h107;aI tT (aI tT ((nx_next (Sum.inr (Sum.inr (Sum.inr (M,X,N_,F,(iMax er (exE (n*q) (f+h))))))) (show (M=(pmn (pmn (pmn (pdt m ee p g) (pdt m ee q h)) (pdt n f p g)) (pdt n f q h)).1∧X=(pmn (pmn (pmn (pdt m ee p g) (pdt m ee q h)) (pdt n f p g)) (pdt n f q h)).2)∧(N_=(pmx (pmx (pmx (pdt m ee p g) (pdt m ee q h)) (pdt n f p g)) (pdt n f q h)).1∧F=(pmx (pmx (pmx (pdt m ee p g) (pdt m ee q h)) (pdt n f p g)) (pdt n f q h)).2)∧(iMax er (exE (n*q) (f+h)))=0∧SzP 1200 (M,X)∧SzP 1200 (N_,F) from ⟨mn_no hM hX (b:=(pdt n f q h)) (show 0≤cmpD (mkM (n*q) (f+h)) (mkX (n*q) (f+h)) M X by omega),mx_no hN hF (b:=(pdt n f q h)) (show cmpD (mkM (n*q) (f+h)) (mkX (n*q) (f+h)) N_ F≤0 by omega),by unfold iMax;split<;>omega,s1,s2⟩) (show 9-3<9-2 by omega):ar_mul_N m ee n f p g q h (Sum.inr (Sum.inr (Sum.inl (M,X,N_,F,er)))) .normal (ar_mul_mk m ee n f p g q h (Sum.inr (Sum.inr (Sum.inr (M,X,N_,F,(iMax er (exE (n*q) (f+h))))))))))))))))))) (by kernel_rfl)
  ·skip
   have hI:(M=(pmn (pmn (pmn (pdt m ee p g) (pdt m ee q h)) (pdt n f p g)) (pdt n f q h)).1∧X=(pmn (pmn (pmn (pdt m ee p g) (pdt m ee q h)) (pdt n f p g)) (pdt n f q h)).2)∧(N_=(pmx (pmx (pmx (pdt m ee p g) (pdt m ee q h)) (pdt n f p g)) (pdt n f q h)).1∧F=(pmx (pmx (pmx (pdt m ee p g) (pdt m ee q h)) (pdt n f p g)) (pdt n f q h)).2)∧er=0∧SzP 1200 (M,X)∧SzP 1200 (N_,F):=hI
   obtain⟨⟨hM,hX⟩,⟨hN,hF⟩,h0,s1,s2⟩:=hI
   have ⟨s3,s4,s5⟩:=s1
   have ⟨s6,s7,s8⟩:=s2
   have s9:=SzP_mk s1
   simp only at s3 s4 s5 s6 s7 s8
   exact cast_ob (aI True.intro (aI tT ((nx_exit 0 ((ar_mul_ex m ee n f p g q h (M,X,N_,F,er)).2) (M,X,N_,F,er) (show (M=(pmn (pmn (pmn (pdt m ee p g) (pdt m ee q h)) (pdt n f p g)) (pdt n f q h)).1∧X=(pmn (pmn (pmn (pdt m ee p g) (pdt m ee q h)) (pdt n f p g)) (pdt n f q h)).2)∧(N_=(pmx (pmx (pmx (pdt m ee p g) (pdt m ee q h)) (pdt n f p g)) (pdt n f q h)).1∧F=(pmx (pmx (pmx (pdt m ee p g) (pdt m ee q h)) (pdt n f p g)) (pdt n f q h)).2)∧er=0∧SzP 1200 (M,X)∧SzP 1200 (N_,F) from ⟨⟨hM,hX⟩,⟨hN,hF⟩,h0,s1,s2⟩) rfl:ar_mul_N m ee n f p g q h (Sum.inr (Sum.inr (Sum.inr (M,X,N_,F,er)))) (.exit 0) ((ar_mul_ex m ee n f p g q h (M,X,N_,F,er)).2))))) (by kernel_rfl))
theorem ar_Mul_1 (m ee n f p g q h:Int)(c0:L (m).natAbs≤600)(c1:(-20000:Int)≤ee∧ee≤20000)(c2:L (n).natAbs≤600)(c3:(-20000:Int)≤f∧f≤20000)(c4:L (p).natAbs≤600)(c5:(-20000:Int)≤g∧g≤20000)(c6:L (q).natAbs≤600)(c7:(-20000:Int)≤h∧h≤20000)(c8:mkE (m*p) (ee+g)=0)(c9:mkE (m*q) (ee+h)=0)(c10:mkE (n*p) (f+g)=0)(c11:mkE (n*q) (f+h)=0):Impl Tryz.prog Amb 94 [(.pt [(V.bool (decide (m<0))),(N m.natAbs),(V.int .i64 ee),(V.bool (decide (n<0))),(N n.natAbs),(V.int .i64 f)] 0),(.pt [(V.bool (decide (p<0))),(N p.natAbs),(V.int .i64 g),(V.bool (decide (q<0))),(N q.natAbs),(V.int .i64 h)] 0)] (.tup [(.agg [(.bool (decide ((mlLoP m ee n f p g q h).1<0))),(N (((mlLoP m ee n f p g q h).1).natAbs)),(.int .i64 ((mlLoP m ee n f p g q h).2))]),(.agg [(.bool (decide ((mlHiP m ee n f p g q h).1<0))),(N (((mlHiP m ee n f p g q h).1).natAbs)),(.int .i64 ((mlHiP m ee n f p g q h).2))]),(.int .i64 0)]):=by
 exact impl_ob hP hAmb Tryz.func94 (by kernel_rfl) (.lits 3<|.call (exT (m*p) (ee+g))<|.lits 13<|.loop ⟨[2,3,5,6,7,36,37],4,[]⟩ ((ar_mul_mk m ee n f p g q h (Sum.inl ((mkM (m*p) (ee+g)),(mkX (m*p) (ee+g)),(mkM (m*p) (ee+g)),(mkX (m*p) (ee+g)),(exE (m*p) (ee+g)))))) (Int × Int × Int × Int × Int) (ar_mul_ex m ee n f p g q h) (ar_mul_J m ee n f p g q h) (fun y=>.lits 3<|.call (.tup [(yV y.1 y.2.1),(yV y.2.2.1 y.2.2.2.1),(.int .i64 (iMax y.2.2.2.2 (0:Int)))])<|.lits 3<|.ret))
  (cast_ob (aI True.intro (aI (dy_Mul m ee p g oA oA oA oA) (have f3:=ex_range (m*p) (ee+g);have f2:=mk_facts (m*p) (ee+g);have f1:=L_abs_mul m p;aI tT (aI (rfl:(ar_mul_mk m ee n f p g q h (Sum.inl ((mkM (m*p) (ee+g)),(mkX (m*p) (ee+g)),(mkM (m*p) (ee+g)),(mkX (m*p) (ee+g)),(exE (m*p) (ee+g)))))=(ar_mul_mk m ee n f p g q h (Sum.inl ((mkM (m*p) (ee+g)),(mkX (m*p) (ee+g)),(mkM (m*p) (ee+g)),(mkX (m*p) (ee+g)),(exE (m*p) (ee+g)))))) (aI (ar_mul m ee n f p g q h c0 c1 c2 c3 c4 c5 c6 c7 c8 c9 c10 c11 (Sum.inl ((mkM (m*p) (ee+g)),(mkX (m*p) (ee+g)),(mkM (m*p) (ee+g)),(mkX (m*p) (ee+g)),(exE (m*p) (ee+g)))) (show ((mkM (m*p) (ee+g))=(pdt m ee p g).1∧(mkX (m*p) (ee+g))=(pdt m ee p g).2)∧((mkM (m*p) (ee+g))=(pdt m ee p g).1∧(mkX (m*p) (ee+g))=(pdt m ee p g).2)∧(exE (m*p) (ee+g))=0∧SzP 1200 ((mkM (m*p) (ee+g)),(mkX (m*p) (ee+g)))∧SzP 1200 ((mkM (m*p) (ee+g)),(mkX (m*p) (ee+g))) from ⟨⟨rfl,rfl⟩,⟨rfl,rfl⟩,by omega,pdt_sz (m:=m) (n:=p) oO,pdt_sz (m:=m) (n:=p) oO⟩)) (fun y (hJ:ar_mul_J m ee n f p g q h y)=>have hJ:(y.1=(pmn (pmn (pmn (pdt m ee p g) (pdt m ee q h)) (pdt n f p g)) (pdt n f q h)).1∧y.2.1=(pmn (pmn (pmn (pdt m ee p g) (pdt m ee q h)) (pdt n f p g)) (pdt n f q h)).2)∧(y.2.2.1=(pmx (pmx (pmx (pdt m ee p g) (pdt m ee q h)) (pdt n f p g)) (pdt n f q h)).1∧y.2.2.2.1=(pmx (pmx (pmx (pdt m ee p g) (pdt m ee q h)) (pdt n f p g)) (pdt n f q h)).2)∧y.2.2.2.2=0∧SzP 1200 (y.1,y.2.1)∧SzP 1200 (y.2.2.1,y.2.2.2.1):=hJ;aI (ar_pair y.1 y.2.1 y.2.2.1 y.2.2.2.1 y.2.2.2.2 0 ) ((by obtain⟨⟨j1,j2⟩,⟨j3,j4⟩,j5,_⟩:=hJ;rw[j1,j2,j3,j4,j5];exact vsub_refl _:vsub (.tup [(yV y.1 y.2.1),(yV y.2.2.1 y.2.2.2.1),(.int .i64 (iMax y.2.2.2.2 (0:Int)))]) (.tup [(.agg [(.bool (decide ((mlLoP m ee n f p g q h).1<0))),(N (((mlLoP m ee n f p g q h).1).natAbs)),(.int .i64 ((mlLoP m ee n f p g q h).2))]),(.agg [(.bool (decide ((mlHiP m ee n f p g q h).1<0))),(N (((mlHiP m ee n f p g q h).1).natAbs)),(.int .i64 ((mlHiP m ee n f p g q h).2))]),(.int .i64 0)]))))))))) (by kernel_rfl))
theorem ar_out_M (m e n f p g q h w:Int)(c0:L (m).natAbs≤600)(c1:(-20000:Int)≤e∧e≤20000)(c2:L (n).natAbs≤600)(c3:(-20000:Int)≤f∧f≤20000)(c4:L (p).natAbs≤600)(c5:(-20000:Int)≤g∧g≤20000)(c6:L (q).natAbs≤600)(c7:(-20000:Int)≤h∧h≤20000)(c8:mkE (m*p) (e+g)=0)(c9:mkE (m*q) (e+h)=0)(c10:mkE (n*p) (f+g)=0)(c11:mkE (n*q) (f+h)=0)(c12:(-9223372036854775808:Int)≤w∧w≤9223372036854775807):Impl Tryz.prog Amb 91 [(.int .i64 w),(.clos 94 [(.pt [(V.bool (decide (m<0))),(N m.natAbs),(V.int .i64 e),(V.bool (decide (n<0))),(N n.natAbs),(V.int .i64 f)] 0),(.pt [(V.bool (decide (p<0))),(N p.natAbs),(V.int .i64 g),(V.bool (decide (q<0))),(N q.natAbs),(V.int .i64 h)] 0)])] (enV (mlLo m e n f p g q h) (mlHi m e n f p g q h) w):=by
 have ⟨⟨y1,y2,y3⟩,⟨y4,y5,y6⟩⟩:=mlP_sz (m:=m) (e:=e) (n:=n) (f:=f) (p:=p) (g:=g) (q:=q) (h:=h) (k:=1200) oO
 exact impl_ob hP hAmb Tryz.func91 (by kernel_rfl) (.lit<|.call (.bool (decide (0≤w∧w≤4096)))<|.lit<|.both (.lits 3<|.ret) (.lit<|.call (.tup [(.agg [(.bool (decide ((mlLoP m e n f p g q h).1<0))),(N (((mlLoP m e n f p g q h).1).natAbs)),(.int .i64 ((mlLoP m e n f p g q h).2))]),(.agg [(.bool (decide ((mlHiP m e n f p g q h).1<0))),(N (((mlHiP m e n f p g q h).1).natAbs)),(.int .i64 ((mlHiP m e n f p g q h).2))]),(.int .i64 0)])<|.lits 6<|.call (mkT (flr (dv ((mlLoP m e n f p g q h).1) ((mlLoP m e n f p g q h).2)) w) (-w))<|.lits 3<|.call (mkT (cei (dv ((mlHiP m e n f p g q h).1) ((mlHiP m e n f p g q h).2)) w) (-w))<|.lits 4<|.call (ecT (mkM (flr (dv ((mlLoP m e n f p g q h).1) ((mlLoP m e n f p g q h).2)) w) (-w)) (mkX (flr (dv ((mlLoP m e n f p g q h).1) ((mlLoP m e n f p g q h).2)) w) (-w)) (mkM (cei (dv ((mlHiP m e n f p g q h).1) ((mlHiP m e n f p g q h).2)) w) (-w)) (mkX (cei (dv ((mlHiP m e n f p g q h).1) ((mlHiP m e n f p g q h).2)) w) (-w)) (mkE (flr (dv ((mlLoP m e n f p g q h).1) ((mlLoP m e n f p g q h).2)) w) (-w)) (mkE (cei (dv ((mlHiP m e n f p g q h).1) ((mlHiP m e n f p g q h).2)) w) (-w)))<|.lits 2<|.ret))
  (cast_ob (aI True.intro (aI (ar_works w oA) (aI (fun (h1:(!(decide (0≤w∧w≤4096)))=true)=>have _gh1:=of_decide_eq_false (notb_t h1);(en_vbad oO:vsub (e0T 1) (enV (mlLo m e n f p g q h) (mlHi m e n f p g q h) w))) (fun (h2:(!(decide (0≤w∧w≤4096)))=false)=>have _gh2:=of_decide_eq_true (notb_f h2);aI (ar_Mul_1 m e n f p g q h oA oA oA oA oA oA oA oA oA oA oA oA) (have f9:=mlP_sz (m:=m) (e:=e) (n:=n) (f:=f) (p:=p) (g:=g) (q:=q) (h:=h) (k:=1200) oA;aI (gr_Floor ((mlLoP m e n f p g q h).1) ((mlLoP m e n f p g q h).2) w oA oA oA) (have f8:=mk_facts (cei (dv ((mlLoP m e n f p g q h).1) ((mlLoP m e n f p g q h).2)) w) (-w);have f7:=mk_facts (flr (dv ((mlLoP m e n f p g q h).1) ((mlLoP m e n f p g q h).2)) w) (-w);have f6:=flr_LD ((mlLoP m e n f p g q h).1) ((mlLoP m e n f p g q h).2) w;aI (gr_Ceil ((mlHiP m e n f p g q h).1) ((mlHiP m e n f p g q h).2) w oA oA oA) (have f5:=mk_facts (cei (dv ((mlHiP m e n f p g q h).1) ((mlHiP m e n f p g q h).2)) w) (-w);have f4:=mk_facts (flr (dv ((mlHiP m e n f p g q h).1) ((mlHiP m e n f p g q h).2)) w) (-w);have f3:=flr_LD ((mlHiP m e n f p g q h).1) ((mlHiP m e n f p g q h).2) w;aI (ar_enclose (mkM (flr (dv ((mlLoP m e n f p g q h).1) ((mlLoP m e n f p g q h).2)) w) (-w)) (mkX (flr (dv ((mlLoP m e n f p g q h).1) ((mlLoP m e n f p g q h).2)) w) (-w)) (mkM (cei (dv ((mlHiP m e n f p g q h).1) ((mlHiP m e n f p g q h).2)) w) (-w)) (mkX (cei (dv ((mlHiP m e n f p g q h).1) ((mlHiP m e n f p g q h).2)) w) (-w)) (mkE (flr (dv ((mlLoP m e n f p g q h).1) ((mlLoP m e n f p g q h).2)) w) (-w)) (mkE (cei (dv ((mlHiP m e n f p g q h).1) ((mlHiP m e n f p g q h).2)) w) (-w)) oA oA oA oA) ((en_vec (mlLoP_dv c8 c9 c10 c11) (mlHiP_dv c8 c9 c10 c11) oO:vsub (ecT (mkM (flr (dv ((mlLoP m e n f p g q h).1) ((mlLoP m e n f p g q h).2)) w) (-w)) (mkX (flr (dv ((mlLoP m e n f p g q h).1) ((mlLoP m e n f p g q h).2)) w) (-w)) (mkM (cei (dv ((mlHiP m e n f p g q h).1) ((mlHiP m e n f p g q h).2)) w) (-w)) (mkX (cei (dv ((mlHiP m e n f p g q h).1) ((mlHiP m e n f p g q h).2)) w) (-w)) (mkE (flr (dv ((mlLoP m e n f p g q h).1) ((mlLoP m e n f p g q h).2)) w) (-w)) (mkE (cei (dv ((mlHiP m e n f p g q h).1) ((mlHiP m e n f p g q h).2)) w) (-w))) (enV (mlLo m e n f p g q h) (mlHi m e n f p g q h) w)))))))))) (by kernel_rfl))
theorem ar_Mul (m e n f p g q h w:Int)(c0:L (m).natAbs≤600)(c1:(-20000:Int)≤e∧e≤20000)(c2:L (n).natAbs≤600)(c3:(-20000:Int)≤f∧f≤20000)(c4:L (p).natAbs≤600)(c5:(-20000:Int)≤g∧g≤20000)(c6:L (q).natAbs≤600)(c7:(-20000:Int)≤h∧h≤20000)(c8:mkE (m*p) (e+g)=0)(c9:mkE (m*q) (e+h)=0)(c10:mkE (n*p) (f+g)=0)(c11:mkE (n*q) (f+h)=0)(c12:(-9223372036854775808:Int)≤w∧w≤9223372036854775807):Impl Tryz.prog Amb 37 [(wV m e n f),(wV p g q h),(.int .i64 w)] (enV (mlLo m e n f p g q h) (mlHi m e n f p g q h) w):=by
 exact impl_ob hP hAmb Tryz.func37 (by kernel_rfl) (.lit<|.call (enV (mlLo m e n f p g q h) (mlHi m e n f p g q h) w)<|.lits 2<|.ret)
  (cast_ob (aI True.intro (aI (ar_out_M m e n f p g q h w oA oA oA oA oA oA oA oA oA oA oA oA oA) (have f1:=en_facts (mlLo m e n f p g q h) (mlHi m e n f p g q h) w;(vsub_refl (enV (mlLo m e n f p g q h) (mlHi m e n f p g q h) w))))) (by kernel_rfl))
end Go.Proofs.YtkkbddkpggjgpaaGreatDoor


namespace Go.Proofs.YtkkbddkpggjgpaaGreatDoor
open Go.RowKit
set_option maxRecDepth 100000
theorem mill_Mod (v n:Int)(c0:(0:Int)<n∧n≤1000000000)(c1:(-9223372036854775808:Int)≤v∧v≤9223372036854775807):Impl Tryz.prog Amb 14 [(.int .i64 v),(.int .i64 n)] (.int .i64 (v%n)):=by
 have r0:=wRem_abs (v:=v) (n:=n) oO
 exact impl_ob hP hAmb Tryz.func14 (by kernel_rfl) (.yes<|.lit<|.both (.lit<|.yes<|.lit<|.ret) (.lit<|.ret))
  (cast_ob (aI True.intro (aI (iNe_mk oA:(iNe n 0)=true) (aI (fun (h1:(iLt (wRem v n) 0)=true)=>have _gh1:=iLt_t h1;aI (fits_i64 oA:(fits .i64 ((wRem v n)+n))=true) ((vsub_of (congrArg (V.int .i64) (mod_neg oO oO)):vsub (.int .i64 ((wRem v n)+n)) (.int .i64 (v%n))))) (fun (h2:(iLt (wRem v n) 0)=false)=>have _gh2:=iLt_f h2;(vsub_of (congrArg (V.int .i64) (mod_pos oO oO)):vsub (.int .i64 (wRem v n)) (.int .i64 (v%n))))))) (by kernel_rfl))
theorem mill_Int (b:Bool)(l:List Nat)(n:Int)(c0:Dig l)(c1:l.length≤9223372036854775807)(c2:(0:Int)≤n∧n≤1000):Impl Tryz.prog Amb 66 [(.agg [(.bool b),(.sl 1 (U l))]),(.int .i64 n)] (.tup [(zV (rawI b l n)),(.bool (decide ((l.length:Int)≤n)))]):=by
 have e0:=U_len l
 exact impl_ob hP hAmb Tryz.func66 (by kernel_rfl) (.lits 2<|.both (.lits 3<|.ret) (.lits 3<|.call (zV (sgn b (val l)))<|.lits 2<|.ret))
  (cast_ob (aI True.intro (aI (fun (h1:(iGt ((U l).length:Int) n)=true)=>have _gh1:=iGt_t h1;(raw_ret1 oO:vsub (.tup [(.agg [(.bool false),.nil]),(.bool false)]) (.tup [(zV (rawI b l n)),(.bool (decide ((l.length:Int)≤n)))]))) (fun (h2:(iGt ((U l).length:Int) n)=false)=>have _gh2:=iGt_f h2;aI (r05_NatC b (U l) l rfl c0 oO) (have f4:=L_val ‹Dig l›;have f3:=L_sgn b (val l);(raw_ret2 oO:vsub (.tup [(zV (sgn b (val l))),(.bool true)]) (.tup [(zV (rawI b l n)),(.bool (decide ((l.length:Int)≤n)))])))))) (by kernel_rfl))
theorem mill_Dyadic (b:Bool)(l:List Nat)(e n k:Int)(c0:Dig l)(c1:l.length≤9223372036854775807)(c2:(-9223372036854775808:Int)≤e∧e≤9223372036854775807)(c3:(0:Int)≤n∧n≤800)(c4:(0:Int)≤k∧k≤20000):Impl Tryz.prog Amb 18 [(.agg [(.bool b),(.sl 1 (U l)),(.int .i64 e)]),(.int .i64 n),(.int .i64 k)] (.tup [(yV (mkM (rawI b l n) (e%(2*k+1)-k)) (mkX (rawI b l n) (e%(2*k+1)-k))),(.bool (decide ((l.length:Int)≤n)))]):=by
 have ej:=Int.emod_nonneg e (show (2*k+1:Int)≠0 by omega)
 have ek:=Int.emod_lt_of_pos e (show (0:Int)<2*k+1 by omega)
 exact impl_ob hP hAmb Tryz.func18 (by kernel_rfl) (.lits 2<|.call (.tup [(zV (rawI b l n)),(.bool (decide ((l.length:Int)≤n)))])<|.lits 2<|.both (.lits 3<|.ret) (.lits 3<|.yes<|.lit<|.yes<|.lit<|.call (.int .i64 (e%(((2:Int)*k)+1)))<|.lit<|.yes<|.lit<|.call (mkT (rawI b l n) ((e%(((2:Int)*k)+1))-k))<|.lits 4<|.ret))
  (cast_ob (aI True.intro (aI (mill_Int b l n oA oA oA) (have f6:=(rawI_L (b:=b) ‹Dig l› (show (0:Int)≤n by first | omega | (simp<;>omega)));aI (fun (h1:(!(decide ((l.length:Int)≤n)))=true)=>have _gh1:=of_decide_eq_false (notb_t h1);(rawd_ret1 oO:vsub (.tup [(.agg [(.bool false),.nil,(.int .i64 0)]),(.bool false)]) (.tup [(yV (mkM (rawI b l n) (e%(2*k+1)-k)) (mkX (rawI b l n) (e%(2*k+1)-k))),(.bool (decide ((l.length:Int)≤n)))]))) (fun (h2:(!(decide ((l.length:Int)≤n)))=false)=>have _gh2:=of_decide_eq_true (notb_f h2);aI (fits_i64 oA:(fits .i64 ((2:Int)*k))=true) (aI (fits_i64 oA:(fits .i64 (((2:Int)*k)+1))=true) (aI (mill_Mod e (((2:Int)*k)+1) oA oA) (have f5:=Int.emod_lt_of_pos e (show (0:Int)<(((2:Int)*k)+1) by first | omega | (simp<;>omega));have f4:=Int.emod_nonneg e (show ((((2:Int)*k)+1):Int)≠0 by first | omega | (simp<;>omega));aI (fits_i64 oA:(fits .i64 ((e%(((2:Int)*k)+1))-k))=true) (aI (r08_Make (rawI b l n) ((e%(((2:Int)*k)+1))-k) oA oA) (have f3:=mk_facts (rawI b l n) ((e%(((2:Int)*k)+1))-k);(vsub_tup2 (vsub_refl _) (vsub_of (congrArg V.bool (rawd_ok (mk_fine2 oO oO) oO))):vsub (.tup [(yV (mkM (rawI b l n) ((e%(((2:Int)*k)+1))-k)) (mkX (rawI b l n) ((e%(((2:Int)*k)+1))-k))),(.bool (iEq (mkE (rawI b l n) ((e%(((2:Int)*k)+1))-k)) 0))]) (.tup [(yV (mkM (rawI b l n) (e%(2*k+1)-k)) (mkX (rawI b l n) (e%(2*k+1)-k))),(.bool (decide ((l.length:Int)≤n)))]))))))))))) (by kernel_rfl))
theorem mill_Interval (b:Bool)(l:List Nat)(e:Int)(c:Bool)(r:List Nat)(f n k:Int)(c0:Dig l)(c1:l.length≤9223372036854775807)(c2:Dig r)(c3:r.length≤9223372036854775807)(c4:(-9223372036854775808:Int)≤e∧e≤9223372036854775807)(c5:(-9223372036854775808:Int)≤f∧f≤9223372036854775807)(c6:(0:Int)≤n∧n≤800)(c7:(0:Int)≤k∧k≤20000):Impl Tryz.prog Amb 12 [(.agg [(.bool b),(.sl 1 (U l)),(.int .i64 e),(.bool c),(.sl 1 (U r)),(.int .i64 f)]),(.int .i64 n),(.int .i64 k)] (.tup [(wV (swM (mkM (rawI b l n) (e%(2*k+1)-k)) (mkX (rawI b l n) (e%(2*k+1)-k)) (mkM (rawI c r n) (f%(2*k+1)-k)) (mkX (rawI c r n) (f%(2*k+1)-k))) (swX (mkM (rawI b l n) (e%(2*k+1)-k)) (mkX (rawI b l n) (e%(2*k+1)-k)) (mkM (rawI c r n) (f%(2*k+1)-k)) (mkX (rawI c r n) (f%(2*k+1)-k))) (swN (mkM (rawI b l n) (e%(2*k+1)-k)) (mkX (rawI b l n) (e%(2*k+1)-k)) (mkM (rawI c r n) (f%(2*k+1)-k)) (mkX (rawI c r n) (f%(2*k+1)-k))) (swF (mkM (rawI b l n) (e%(2*k+1)-k)) (mkX (rawI b l n) (e%(2*k+1)-k)) (mkM (rawI c r n) (f%(2*k+1)-k)) (mkX (rawI c r n) (f%(2*k+1)-k)))),(.bool (decide ((l.length:Int)≤n∧(r.length:Int)≤n)))]):=by
 exact impl_ob hP hAmb Tryz.func12 (by kernel_rfl) (.lits 2<|.call (.tup [(yV (mkM (rawI b l n) (e%(2*k+1)-k)) (mkX (rawI b l n) (e%(2*k+1)-k))),(.bool (decide ((l.length:Int)≤n)))])<|.lits 3<|.call (.tup [(yV (mkM (rawI c r n) (f%(2*k+1)-k)) (mkX (rawI c r n) (f%(2*k+1)-k))),(.bool (decide ((r.length:Int)≤n)))])<|.lits 4<|.call (.int .i64 (cmpD (mkM (rawI b l n) (e%(2*k+1)-k)) (mkX (rawI b l n) (e%(2*k+1)-k)) (mkM (rawI c r n) (f%(2*k+1)-k)) (mkX (rawI c r n) (f%(2*k+1)-k))))<|.lit<|.both (.lits 7<|.both (.lits 3<|.ret) (.lits 3<|.ret)) (.lits 3<|.both (.lits 3<|.ret) (.lits 3<|.ret)))
  (cast_ob (aI True.intro (aI (mill_Dyadic b l e n k oA oA oA oA oA) (have f11:=(rawI_L (b:=b) ‹Dig l› (show (0:Int)≤n by first | omega | (simp<;>omega)));have f10:=mk_facts (rawI b l n) (e%(2*k+1)-k);aI (mill_Dyadic c r f n k oA oA oA oA oA) (have f9:=(rawI_L (b:=c) ‹Dig r› (show (0:Int)≤n by first | omega | (simp<;>omega)));have f8:=mk_facts (rawI c r n) (f%(2*k+1)-k);aI (r08_Cmp (mkM (rawI b l n) (e%(2*k+1)-k)) (mkX (rawI b l n) (e%(2*k+1)-k)) (mkM (rawI c r n) (f%(2*k+1)-k)) (mkX (rawI c r n) (f%(2*k+1)-k)) oA oA oA oA) (have f7:=cmpD_range (mkM (rawI b l n) (e%(2*k+1)-k)) (mkX (rawI b l n) (e%(2*k+1)-k)) (mkM (rawI c r n) (f%(2*k+1)-k)) (mkX (rawI c r n) (f%(2*k+1)-k));aI (fun (h1:(iGt (cmpD (mkM (rawI b l n) (e%(2*k+1)-k)) (mkX (rawI b l n) (e%(2*k+1)-k)) (mkM (rawI c r n) (f%(2*k+1)-k)) (mkX (rawI c r n) (f%(2*k+1)-k))) 0)=true)=>have _gh1:=iGt_t h1;aI (fun (h2:(decide ((l.length:Int)≤n))=true)=>have _gh2:=of_decide_eq_true h2;(W_of (sw_yes oO) (decide_eq_decide.2 oO):vsub (.tup [(wV (mkM (rawI c r n) (f%(2*k+1)-k)) (mkX (rawI c r n) (f%(2*k+1)-k)) (mkM (rawI b l n) (e%(2*k+1)-k)) (mkX (rawI b l n) (e%(2*k+1)-k))),(.bool (decide ((r.length:Int)≤n)))]) (.tup [(wV (swM (mkM (rawI b l n) (e%(2*k+1)-k)) (mkX (rawI b l n) (e%(2*k+1)-k)) (mkM (rawI c r n) (f%(2*k+1)-k)) (mkX (rawI c r n) (f%(2*k+1)-k))) (swX (mkM (rawI b l n) (e%(2*k+1)-k)) (mkX (rawI b l n) (e%(2*k+1)-k)) (mkM (rawI c r n) (f%(2*k+1)-k)) (mkX (rawI c r n) (f%(2*k+1)-k))) (swN (mkM (rawI b l n) (e%(2*k+1)-k)) (mkX (rawI b l n) (e%(2*k+1)-k)) (mkM (rawI c r n) (f%(2*k+1)-k)) (mkX (rawI c r n) (f%(2*k+1)-k))) (swF (mkM (rawI b l n) (e%(2*k+1)-k)) (mkX (rawI b l n) (e%(2*k+1)-k)) (mkM (rawI c r n) (f%(2*k+1)-k)) (mkX (rawI c r n) (f%(2*k+1)-k)))),(.bool (decide ((l.length:Int)≤n∧(r.length:Int)≤n)))]))) (fun (h3:(decide ((l.length:Int)≤n))=false)=>have _gh3:=of_decide_eq_false h3;(W_of (sw_yes oO) (decide_eq_false oO).symm:vsub (.tup [(wV (mkM (rawI c r n) (f%(2*k+1)-k)) (mkX (rawI c r n) (f%(2*k+1)-k)) (mkM (rawI b l n) (e%(2*k+1)-k)) (mkX (rawI b l n) (e%(2*k+1)-k))),(.bool false)]) (.tup [(wV (swM (mkM (rawI b l n) (e%(2*k+1)-k)) (mkX (rawI b l n) (e%(2*k+1)-k)) (mkM (rawI c r n) (f%(2*k+1)-k)) (mkX (rawI c r n) (f%(2*k+1)-k))) (swX (mkM (rawI b l n) (e%(2*k+1)-k)) (mkX (rawI b l n) (e%(2*k+1)-k)) (mkM (rawI c r n) (f%(2*k+1)-k)) (mkX (rawI c r n) (f%(2*k+1)-k))) (swN (mkM (rawI b l n) (e%(2*k+1)-k)) (mkX (rawI b l n) (e%(2*k+1)-k)) (mkM (rawI c r n) (f%(2*k+1)-k)) (mkX (rawI c r n) (f%(2*k+1)-k))) (swF (mkM (rawI b l n) (e%(2*k+1)-k)) (mkX (rawI b l n) (e%(2*k+1)-k)) (mkM (rawI c r n) (f%(2*k+1)-k)) (mkX (rawI c r n) (f%(2*k+1)-k)))),(.bool (decide ((l.length:Int)≤n∧(r.length:Int)≤n)))])))) (fun (h4:(iGt (cmpD (mkM (rawI b l n) (e%(2*k+1)-k)) (mkX (rawI b l n) (e%(2*k+1)-k)) (mkM (rawI c r n) (f%(2*k+1)-k)) (mkX (rawI c r n) (f%(2*k+1)-k))) 0)=false)=>have _gh4:=iGt_f h4;aI (fun (h5:(decide ((l.length:Int)≤n))=true)=>have _gh5:=of_decide_eq_true h5;(W_of (sw_no oO) (decide_eq_decide.2 oO):vsub (.tup [(wV (mkM (rawI b l n) (e%(2*k+1)-k)) (mkX (rawI b l n) (e%(2*k+1)-k)) (mkM (rawI c r n) (f%(2*k+1)-k)) (mkX (rawI c r n) (f%(2*k+1)-k))),(.bool (decide ((r.length:Int)≤n)))]) (.tup [(wV (swM (mkM (rawI b l n) (e%(2*k+1)-k)) (mkX (rawI b l n) (e%(2*k+1)-k)) (mkM (rawI c r n) (f%(2*k+1)-k)) (mkX (rawI c r n) (f%(2*k+1)-k))) (swX (mkM (rawI b l n) (e%(2*k+1)-k)) (mkX (rawI b l n) (e%(2*k+1)-k)) (mkM (rawI c r n) (f%(2*k+1)-k)) (mkX (rawI c r n) (f%(2*k+1)-k))) (swN (mkM (rawI b l n) (e%(2*k+1)-k)) (mkX (rawI b l n) (e%(2*k+1)-k)) (mkM (rawI c r n) (f%(2*k+1)-k)) (mkX (rawI c r n) (f%(2*k+1)-k))) (swF (mkM (rawI b l n) (e%(2*k+1)-k)) (mkX (rawI b l n) (e%(2*k+1)-k)) (mkM (rawI c r n) (f%(2*k+1)-k)) (mkX (rawI c r n) (f%(2*k+1)-k)))),(.bool (decide ((l.length:Int)≤n∧(r.length:Int)≤n)))]))) (fun (h6:(decide ((l.length:Int)≤n))=false)=>have _gh6:=of_decide_eq_false h6;(W_of (sw_no oO) (decide_eq_false oO).symm:vsub (.tup [(wV (mkM (rawI b l n) (e%(2*k+1)-k)) (mkX (rawI b l n) (e%(2*k+1)-k)) (mkM (rawI c r n) (f%(2*k+1)-k)) (mkX (rawI c r n) (f%(2*k+1)-k))),(.bool false)]) (.tup [(wV (swM (mkM (rawI b l n) (e%(2*k+1)-k)) (mkX (rawI b l n) (e%(2*k+1)-k)) (mkM (rawI c r n) (f%(2*k+1)-k)) (mkX (rawI c r n) (f%(2*k+1)-k))) (swX (mkM (rawI b l n) (e%(2*k+1)-k)) (mkX (rawI b l n) (e%(2*k+1)-k)) (mkM (rawI c r n) (f%(2*k+1)-k)) (mkX (rawI c r n) (f%(2*k+1)-k))) (swN (mkM (rawI b l n) (e%(2*k+1)-k)) (mkX (rawI b l n) (e%(2*k+1)-k)) (mkM (rawI c r n) (f%(2*k+1)-k)) (mkX (rawI c r n) (f%(2*k+1)-k))) (swF (mkM (rawI b l n) (e%(2*k+1)-k)) (mkX (rawI b l n) (e%(2*k+1)-k)) (mkM (rawI c r n) (f%(2*k+1)-k)) (mkX (rawI c r n) (f%(2*k+1)-k)))),(.bool (decide ((l.length:Int)≤n∧(r.length:Int)≤n)))]))))))))) (by kernel_rfl))
end Go.Proofs.YtkkbddkpggjgpaaGreatDoor

namespace Go.Proofs.YtkkbddkpggjgpaaGreatDoor
theorem mkX_b {m e:Int}(hE:mkE m e=0):(m=0∧mkX m e=0)∨(m≠0∧e≤mkX m e∧mkX m e≤e+32*(L m.natAbs:Int)):=by
 rcases mk_cases hE with ⟨h,_,k⟩ | ⟨h,_,k,_⟩
 ·exact .inl ⟨h,k⟩
 ·have:=tz_L m.natAbs
  refine .inr ⟨h,?_,?_⟩<;>rw[k]<;>unfold de<;>omega
theorem mk_fit {m e:Int}(h:L m.natAbs≤900)(he:-60000≤e∧e≤30000):mkE m e=0∧L (mkM m e).natAbs≤L m.natAbs∧iMin e 0≤mkX m e∧mkX m e≤iMax e 0+32*(L m.natAbs:Int)∧vdb (mkM m e) (mkX m e)=true∧dv (mkM m e) (mkX m e)=dv m e:=by
 have hE:=mk_fine2 h he
 have h1:=mk_facts m e
 have h2:=iMin_range e 0
 have h3:e≤iMax e 0∧0≤iMax e 0:=by unfold iMax;split<;>omega
 refine⟨hE,h1.1,?_,?_,vdb_mk,dv_mk hE⟩<;>rcases mkX_b hE with ⟨_,k⟩ | ⟨_,k,l⟩<;>omega
theorem of_fit {n:Int}(h:-9223372036854775808≤n∧n≤9223372036854775807):mkE n 0=0∧L (mkM n 0).natAbs≤2∧0≤mkX n 0∧mkX n 0≤64∧vdb (mkM n 0) (mkX n 0)=true∧dv (mkM n 0) (mkX n 0)=(n:Rat):=by
 have hl:=L_i64 h
 have h1:=mk_fit (m:=n) (e:=0) (by omega) (by omega)
 have h2:iMin 0 0=0:=rfl
 have h3:iMax 0 0=0:=rfl
 rw[h2,h3,dv_int] at h1
 exact⟨h1.1,by omega,h1.2.2.1,by omega,h1.2.2.2.2.1,h1.2.2.2.2.2⟩
theorem rawD_fit {b:Bool}{l:List Nat}{n e k:Int}(hl:Dig l)(hn:0≤n∧n≤800)(hk:0≤k∧k≤20000) :
  L (mkM (rawI b l n) (e%(2*k+1)-k)).natAbs≤n∧-k≤mkX (rawI b l n) (e%(2*k+1)-k)∧mkX (rawI b l n) (e%(2*k+1)-k)≤k+32*n ∧
  vdb (mkM (rawI b l n) (e%(2*k+1)-k)) (mkX (rawI b l n) (e%(2*k+1)-k))=true:=by
 have h1:=rawI_L (b:=b) hl hn.1
 have h2:=Int.emod_nonneg e (show (2*k+1:Int)≠0 by omega)
 have h3:=Int.emod_lt_of_pos e (show (0:Int)<2*k+1 by omega)
 generalize hd:e%(2*k+1)-k=d
 have h4:=mk_fit (m:=rawI b l n) (e:=d) (by omega) (by omega)
 have h5:=iMin_range d 0
 have h6:iMax d 0=d∨iMax d 0=0:=by unfold iMax;split<;>simp
 refine⟨by omega,by omega,by omega,h4.2.2.2.2.1⟩
theorem sw_fit {m e n f:Int}(h1:vdb m e=true)(h2:vdb n f=true):vdb (swM m e n f) (swX m e n f)=true∧vdb (swN m e n f) (swF m e n f)=true∧dv (swM m e n f) (swX m e n f)≤dv (swN m e n f) (swF m e n f):=by
 rcases sw_facts m e n f with ⟨h,a,b,c,d,_⟩ | ⟨h,a,b,c,d,_⟩
 ·rw[a,b,c,d]
  exact⟨h2,h1,Rat.le_of_lt (cmpD_pos.1 h)⟩
 ·rw[a,b,c,d]
  refine⟨h1,h2,Rat.not_lt.1 fun q=>?_⟩
  have:=cmpD_pos.2 q
  omega
theorem rawI_fit {b c:Bool}{l r:List Nat}{n e f k:Int}(hl:Dig l)(hr:Dig r)(hn:0≤n∧n≤800)(hk:0≤k∧k≤20000){m1 x1 m2 x2:Int}(e1:m1=mkM (rawI b l n) (e%(2*k+1)-k))(e2:x1=mkX (rawI b l n) (e%(2*k+1)-k))
  (e3:m2=mkM (rawI c r n) (f%(2*k+1)-k)) (e4:x2=mkX (rawI c r n) (f%(2*k+1)-k)) :
  (L (swM m1 x1 m2 x2).natAbs≤n∧-k≤swX m1 x1 m2 x2∧swX m1 x1 m2 x2≤k+32*n)∧(L (swN m1 x1 m2 x2).natAbs≤n∧-k≤swF m1 x1 m2 x2∧swF m1 x1 m2 x2≤k+32*n) ∧
  vdb (swM m1 x1 m2 x2) (swX m1 x1 m2 x2)=true∧vdb (swN m1 x1 m2 x2) (swF m1 x1 m2 x2)=true∧dv (swM m1 x1 m2 x2) (swX m1 x1 m2 x2)≤dv (swN m1 x1 m2 x2) (swF m1 x1 m2 x2):=by
 have h1:=rawD_fit (b:=b) (e:=e) hl hn hk
 have h2:=rawD_fit (b:=c) (e:=f) hr hn hk
 rw[← e1,← e2] at h1
 rw[← e3,← e4] at h2
 obtain⟨a1,a2,a3,a4⟩:=h1
 obtain⟨b1,b2,b3,b4⟩:=h2
 have h3:=sw_fit a4 b4
 rcases sw_facts m1 x1 m2 x2 with ⟨_,a,b,c,d,g,i⟩ | ⟨_,a,b,c,d,g,i⟩
 ·exact⟨⟨by omega,by omega,by omega⟩,⟨by omega,by omega,by omega⟩,h3⟩
 ·exact⟨⟨by omega,by omega,by omega⟩,⟨by omega,by omega,by omega⟩,h3⟩
theorem ad_fine {m e n f:Int}(hm:L m.natAbs≤300)(hn:L n.natAbs≤300)(he:-4000≤e∧e≤4000)(hf:-4000≤f∧f≤4000):mkE (adS m e n f) (iMin e f)=0:=by
 have h0:=iMin_range e f
 have h1:=L_abs_shl m (e-iMin e f).toNat
 have h2:=L_abs_shl n (f-iMin e f).toNat
 have h3:=L_abs_add (m*2^(e-iMin e f).toNat) (n*2^(f-iMin e f).toNat)
 exact mk_fine2 (by unfold adS;omega) (by omega)
theorem ml_fine {m e n f:Int}(hm:L m.natAbs≤400)(hn:L n.natAbs≤400)(he:-20000≤e∧e≤14000)(hf:-20000≤f∧f≤14000):mkE (m*n) (e+f)=0:=by
 have h1:=L_abs_mul m n
 exact mk_fine2 (by omega) (by omega)
theorem cmpQ_le {x y:Rat}:cmpQ x y≤0↔x≤y:=by
 rcases cmpQ_range x y with ⟨q,k⟩ | ⟨q,k⟩ | ⟨q,k⟩
 ·exact⟨fun _=>Rat.le_of_lt k,fun _=>by omega⟩
 ·exact⟨fun h=>by omega,fun h=>absurd h (Rat.not_le.2 k)⟩
 ·exact⟨fun _=>by rw[k];exact Rat.le_refl,fun _=>by omega⟩
end Go.Proofs.YtkkbddkpggjgpaaGreatDoor

namespace Go.Proofs.YtkkbddkpggjgpaaGreatDoor
theorem has_1 {a b:Int}(h:a≤0):iLe b 0=decide (a≤0∧b≤0):=by unfold iLe;by_cases q:b≤0<;>simp [q,h]
end Go.Proofs.YtkkbddkpggjgpaaGreatDoor

namespace Go.Proofs.YtkkbddkpggjgpaaGreatDoor
theorem oM {p:Prop}(h:p:=by first | omega | exact ml_fine (by omega) (by omega) (by omega) (by omega) | exact ad_fine (by omega) (by omega) (by omega) (by omega) | exact (en_vdb _ _ _).1 | exact (en_vdb _ _ _).2):p:=h
theorem oD {p:Prop}(h:p:=by first | omega | exact ml_fine (by omega) (by omega) (by omega) (by omega) | exact ad_fine (by omega) (by omega) (by omega) (by omega) | exact (en_vdb _ _ _).1 | exact (en_vdb _ _ _).2 | decide):p:=h
theorem oN {p:Prop}(h:p:=by first | omega | exact ml_fine (by omega) (by omega) (by omega) (by omega) | exact ad_fine (by omega) (by omega) (by omega) (by omega) | exact (en_vdb _ _ _).1 | exact (en_vdb _ _ _).2 | assumption):p:=h
theorem oN2 {p:Prop}(h:p:=by first | omega | exact ml_fine (by omega) (by omega) (by omega) (by omega) | exact ad_fine (by omega) (by omega) (by omega) (by omega) | exact (en_vdb _ _ _).1 | exact (en_vdb _ _ _).2 | assumption | exact ad_fine (by omega) (by omega) (by omega) (by omega)):p:=h
theorem oP {p:Prop}(h:p:=by first | assumption | omega | exact o1.2.2.2.2.1):p:=h
theorem oW {p:Prop}(h:p:=by first | assumption | exact pw_or (by omega) | (simp;done) | omega):p:=h
theorem oS {p:Prop}(h:p:=by first | omega | assumption):p:=h
theorem oR {p:Prop}(h:p:=by first | omega | assumption | exact Rat.le_refl):p:=h
theorem oT {p:Prop}(h:p:=by first | assumption | omega | exact Rat.le_refl | exact of0.2.2.2.2.1):p:=h
theorem oU {p:Prop}(h:p:=by first | assumption | omega):p:=h
end Go.Proofs.YtkkbddkpggjgpaaGreatDoor


namespace Go.Proofs.YtkkbddkpggjgpaaGreatDoor
theorem bil_ge1 {x1 x2 a c l:Rat}(h1:x1≤a)(h2:a≤x2)(k1:l≤x1*c)(k2:l≤x2*c):l≤a*c:=by
 rcases (Rat.le_total:0≤c∨c≤0) with h | h
 ·exact Rat.le_trans k1 (Rat.mul_le_mul_of_nonneg_right h1 h)
 ·have e:(-x2)*(-c)≤(-a)*(-c):=Rat.le_trans (Rat.le_refl) (by
   have hc:0≤-c:=by grind
   have:=Rat.mul_le_mul_of_nonneg_right h2 hc
   grind)
  have e':x2*c≤a*c:=by grind
  exact Rat.le_trans k2 e'
theorem bil_ge {x1 x2 y1 y2 a b l:Rat}(h1:x1≤a)(h2:a≤x2)(g1:y1≤b)(g2:b≤y2)(k1:l≤x1*y1)(k2:l≤x1*y2)(k3:l≤x2*y1)(k4:l≤x2*y2):l≤a*b:=by
 refine bil_ge1 h1 h2 ?_ ?_
 ·rw[Rat.mul_comm];exact bil_ge1 g1 g2 (by rw[Rat.mul_comm];exact k1) (by rw[Rat.mul_comm];exact k2)
 ·rw[Rat.mul_comm];exact bil_ge1 g1 g2 (by rw[Rat.mul_comm];exact k3) (by rw[Rat.mul_comm];exact k4)
theorem bil_le {x1 x2 y1 y2 a b l:Rat}(h1:x1≤a)(h2:a≤x2)(g1:y1≤b)(g2:b≤y2)(k1:x1*y1≤l)(k2:x1*y2≤l)(k3:x2*y1≤l)(k4:x2*y2≤l):a*b≤l:=by
 have h:=bil_ge (x1:=-x2) (x2:=-x1) (y1:=y1) (y2:=y2) (a:=-a) (b:=b) (l:=-l) (by grind) (by grind) g1 g2 (by grind) (by grind) (by grind) (by grind)
 grind
theorem qmin_both (a b:Rat):qmin a b≤a∧qmin a b≤b:=by
 rcases qmin_or a b with ⟨h,k⟩ | ⟨h,k⟩<;>rw[h]
 ·exact⟨Rat.le_of_lt k,Rat.le_refl⟩
 ·exact⟨Rat.le_refl,k⟩
theorem qmax_both (a b:Rat):a≤qmax a b∧b≤qmax a b:=by
 rcases qmax_or a b with ⟨h,k⟩ | ⟨h,k⟩<;>rw[h]
 ·exact⟨Rat.le_of_lt k,Rat.le_refl⟩
 ·exact⟨Rat.le_refl,k⟩
theorem le_qmin {a b l:Rat}(h:l≤a)(k:l≤b):l≤qmin a b:=by rcases qmin_or a b with ⟨e,_⟩ | ⟨e,_⟩<;>rw[e]<;>assumption
theorem qmin4 (a b c d:Rat):qmin (qmin (qmin a b) c) d≤a∧qmin (qmin (qmin a b) c) d≤b∧qmin (qmin (qmin a b) c) d≤c∧qmin (qmin (qmin a b) c) d≤d:=by
 have h1:=qmin_both a b
 have h2:=qmin_both (qmin a b) c
 have h3:=qmin_both (qmin (qmin a b) c) d
 exact⟨Rat.le_trans h3.1 (Rat.le_trans h2.1 h1.1),Rat.le_trans h3.1 (Rat.le_trans h2.1 h1.2),Rat.le_trans h3.1 h2.2,h3.2⟩
theorem qmax4 (a b c d:Rat):a≤qmax (qmax (qmax a b) c) d∧b≤qmax (qmax (qmax a b) c) d∧c≤qmax (qmax (qmax a b) c) d∧d≤qmax (qmax (qmax a b) c) d:=by
 have h1:=qmax_both a b
 have h2:=qmax_both (qmax a b) c
 have h3:=qmax_both (qmax (qmax a b) c) d
 exact⟨Rat.le_trans h1.1 (Rat.le_trans h2.1 h3.1),Rat.le_trans h1.2 (Rat.le_trans h2.1 h3.1),Rat.le_trans h2.2 h3.1,h3.2⟩
theorem ml_in {m e n f p g q h:Int}{a b:Rat}(h1:dv m e≤a)(h2:a≤dv n f)(h3:dv p g≤b)(h4:b≤dv q h):mlLo m e n f p g q h≤a*b∧a*b≤mlHi m e n f p g q h:=by
 have l:=qmin4 (dv m e*dv p g) (dv m e*dv q h) (dv n f*dv p g) (dv n f*dv q h)
 have r:=qmax4 (dv m e*dv p g) (dv m e*dv q h) (dv n f*dv p g) (dv n f*dv q h)
 exact⟨bil_ge h1 h2 h3 h4 l.1 l.2.1 l.2.2.1 l.2.2.2,bil_le h1 h2 h3 h4 r.1 r.2.1 r.2.2.1 r.2.2.2⟩
theorem nbits_L2 (a:Nat):nbits a≤32*L a:=by
 have:=nbits_L a;omega
theorem dm_nbits {m:Int}(h:m≠0):(nbits (dm m).natAbs:Int)+tz m.natAbs≤nbits m.natAbs:=by
 have h1:=dm_mul m
 have h2:m.natAbs=(dm m).natAbs*2^tz m.natAbs:=by
  have:=congrArg Int.natAbs h1
  rw[abs_shl] at this;exact this.symm
 have h3:=dm_ne h
 have h4:=nbits_le (show (dm m).natAbs≠0 by omega)
 have h5:=nbits_pos (show (dm m).natAbs≠0 by omega)
 have h6:=nbits_lt m.natAbs
 have h7:2^(nbits (dm m).natAbs-1+tz m.natAbs)≤m.natAbs:=by
  rw[Nat.pow_add]
  exact Nat.le_trans (Nat.mul_le_mul_right _ h4) (Nat.le_of_eq h2.symm)
 have h8:=(Nat.pow_lt_pow_iff_right (a:=2) (by omega)).1 (Nat.lt_of_le_of_lt h7 h6)
 omega
theorem end_ok {x w:Int}(h:L x.natAbs≤60)(hw:0≤w∧w≤400):endB (mkM x (-w)) (mkX x (-w))=true:=by
 have hf:=mk_fit (m:=x) (e:=-w) (by omega) (by omega)
 have hi:=iMin_range (-w) 0
 unfold endB onB topD
 simp only [Bool.and_eq_true,decide_eq_true_eq]
 by_cases hx:x=0
 ·subst hx
  rw[(mk_zero _).1,if_pos rfl]
  exact⟨by omega,by omega,.inl rfl⟩
 ·have e1:mkM x (-w)=dm x:=by unfold mkM;rw[if_pos hf.1]
  have e2:mkX x (-w)=-w+(tz x.natAbs:Int):=by unfold mkX;rw[if_pos ⟨hf.1,hx⟩];rfl
  have h1:=dm_nbits hx
  have h2:=nbits_L2 x.natAbs
  rw[e1,if_neg (dm_ne hx),e2]
  exact⟨by omega,by omega,.inr (by omega)⟩
theorem en_ok {lo hi:Rat}{w:Int}(hw:0≤w∧w≤400)(h:lo≤hi)(h1:L (flr lo w).natAbs≤60)(h2:L (cei hi w).natAbs≤60):enE lo hi w=0:=by
 have a:=mk_fit (m:=flr lo w) (e:=-w) (by omega) (by omega)
 have b:=mk_fit (m:=cei hi w) (e:=-w) (by omega) (by omega)
 unfold enE
 rw[if_pos (by omega)]
 unfold ecE
 rw[if_pos]
 refine⟨a.1,b.1,?_⟩
 unfold smB ivB
 rw[end_ok h1 hw,end_ok h2 hw,a.2.2.2.2.1,b.2.2.2.2.1]
 simp only [Bool.and_true,Bool.true_and,decide_eq_true_eq]
 rw[cmpD_dv,a.2.2.2.2.2,b.2.2.2.2.2]
 exact cmpQ_le.2 (Rat.le_trans (flr_le lo w) (Rat.le_trans h (cei_ge hi w)))
theorem adS_L {m e n f:Int}{a c:Nat}(hm:L m.natAbs≤a)(hn:L n.natAbs≤a)(h:e-f≤32*c)(k:f-e≤32*c):L (adS m e n f).natAbs≤a+c+2:=by
 have h0:=iMin_range e f
 have h1:=L_abs_shl m (e-iMin e f).toNat
 have h2:=L_abs_shl n (f-iMin e f).toNat
 have h3:=L_abs_add (m*2^(e-iMin e f).toNat) (n*2^(f-iMin e f).toNat)
 unfold adS
 omega
theorem add_L {m e n f w:Int}(hm:L m.natAbs≤30)(hn:L n.natAbs≤30)(he:-300≤e∧e≤400)(hf:-300≤f∧f≤400)(hw:0≤w∧w≤200)(sh:L m.natAbs≤8∧L n.natAbs≤8:=by omega):L (flr (dv m e+dv n f) w).natAbs≤60∧L (cei (dv m e+dv n f) w).natAbs≤60:=by
 have h0:=iMin_range e f
 have h1:=adS_L (a:=8) (c:=22) sh.1 sh.2 (show e-f≤32*(22:Nat) by omega) (by omega)
 have h2:=flr_LD (adS m e n f) (iMin e f) w
 rw[dv_ad] at h2
 omega
theorem flr_qmin_L {a b:Rat}{w:Int}{k:Nat}(h:L (flr a w).natAbs≤k)(h':L (flr b w).natAbs≤k):L (flr (qmin a b) w).natAbs≤k:=by
 rcases qmin_or a b with ⟨e,_⟩ | ⟨e,_⟩<;>rw[e]<;>assumption
theorem cei_qmax_L {a b:Rat}{w:Int}{k:Nat}(h:L (cei a w).natAbs≤k)(h':L (cei b w).natAbs≤k):L (cei (qmax a b) w).natAbs≤k:=by
 rcases qmax_or a b with ⟨e,_⟩ | ⟨e,_⟩<;>rw[e]<;>assumption
def FitI (m e n f:Int):Prop:=(L m.natAbs≤8∧-300≤e∧e≤400)∧(L n.natAbs≤8∧-300≤f∧f≤400)∧dv m e≤dv n f
theorem ml_le {m e n f p g q h:Int}(h1:dv m e≤dv n f)(h2:dv p g≤dv q h):mlLo m e n f p g q h≤mlHi m e n f p g q h :=
 have k:=ml_in (a:=dv m e) (b:=dv p g) Rat.le_refl h1 Rat.le_refl h2
 Rat.le_trans k.1 k.2
theorem ad_ok {m e n f p g q h w:Int}(h1:FitI m e n f)(h2:FitI p g q h)(hw:0≤w∧w≤200):enE (dv m e+dv p g) (dv n f+dv q h) w=0:=by
 obtain⟨a,b,o⟩:=h1
 obtain⟨c,d,o'⟩:=h2
 exact en_ok (by omega) (q_add_le o o') (add_L (by omega) (by omega) a.2 c.2 hw).1 (add_L (by omega) (by omega) b.2 d.2 hw).2
end Go.Proofs.YtkkbddkpggjgpaaGreatDoor


namespace Go.Proofs.YtkkbddkpggjgpaaGreatDoor
theorem mul_pw (a b:Rat)(k:Nat):(a*b)^k=a^k*b^k:=by
 induction k with
 | zero=>rw[Rat.pow_zero,Rat.pow_zero,Rat.pow_zero,Rat.mul_one]
 | succ k ih=>rw[Rat.pow_succ,Rat.pow_succ,Rat.pow_succ,ih];grind
theorem pw_add (a:Rat)(j k:Nat):a^(j+k)=a^j*a^k:=by
 induction k with
 | zero=>rw[Rat.pow_zero,Rat.mul_one];rfl
 | succ k ih=>rw[← Nat.add_assoc,Rat.pow_succ,Rat.pow_succ,ih,Rat.mul_assoc]
theorem pw_nonneg {a:Rat}(h:0≤a)(k:Nat):0≤a^k:=by
 induction k with
 | zero=>rw[Rat.pow_zero];decide
 | succ k ih=>rw[Rat.pow_succ];exact Rat.mul_nonneg ih h
theorem pw_mono {a b:Rat}(h:0≤a)(hab:a≤b)(k:Nat):a^k≤b^k:=by
 induction k with
 | zero=>rw[Rat.pow_zero,Rat.pow_zero];exact Rat.le_refl
 | succ k ih =>
  rw[Rat.pow_succ,Rat.pow_succ]
  have h1:=Rat.mul_le_mul_of_nonneg_right ih h
  have h2:=Rat.mul_le_mul_of_nonneg_left hab (pw_nonneg (Rat.le_trans h hab) k)
  exact Rat.le_trans h1 h2
theorem sq_pw (a:Rat)(k:Nat):a^(2*k)=(a*a)^k:=by
 rw[mul_pw,← pw_add];congr 1;omega
theorem neg_odd (a:Rat){k:Nat}(h:k%2=1):(-a)^k=-(a^k):=by
 obtain⟨j,rfl⟩:∃ j,k=2*j+1:=⟨k / 2,by omega⟩
 rw[Rat.pow_succ,Rat.pow_succ,sq_pw,sq_pw,show (-a)*(-a)=a*a by grind];grind
theorem odd_mono {a b:Rat}(hab:a≤b){k:Nat}(h:k%2=1):a^k≤b^k:=by
 rcases (Rat.le_total:0≤a∨a≤0) with q | q
 ·exact pw_mono q hab k
 ·rcases (Rat.le_total:0≤b∨b≤0) with q2 | q2
  ·have h1:a^k≤0:=by have:=pw_nonneg (show 0≤-a by grind) k;rw[neg_odd a h] at this;grind
   exact Rat.le_trans h1 (pw_nonneg q2 k)
  ·have:=pw_mono (show 0≤-b by grind) (show -b≤-a by grind) k
   rw[neg_odd a h,neg_odd b h] at this;grind
end Go.Proofs.YtkkbddkpggjgpaaGreatDoor

namespace Go.Proofs.YtkkbddkpggjgpaaGreatDoor
theorem fl_R {a T:Int}(hT:0<T):((a / T:Int):Rat)*(T:Rat)≤(a:Rat)∧(a:Rat)<((a / T:Int):Rat)*(T:Rat)+(T:Rat):=by
 have h1:=Int.ediv_mul_le a (show T≠0 by omega)
 have h2:=Int.lt_ediv_add_one_mul_self a hT
 rw[Int.add_mul,Int.one_mul] at h2
 rw[← Rat.intCast_mul,← Rat.intCast_add,Rat.intCast_le_intCast,Rat.intCast_lt_intCast]
 exact⟨h1,h2⟩
theorem ce_R {a T:Int}(hT:0<T):(a:Rat)≤((-(-a / T):Int):Rat)*(T:Rat)∧((-(-a / T):Int):Rat)*(T:Rat)<(a:Rat)+(T:Rat):=by
 have h:=fl_R (a:=-a) hT
 rw[Rat.intCast_neg] at h ⊢
 constructor<;>grind
theorem pf_lo {a c T:Int}{y z:Rat}(hT:0<T)(ha:0≤a)(hc:0≤c)(h1:(a:Rat)≤y*T)(h2:(c:Rat)≤z*T):((a*c / T:Int):Rat)≤y*z*T:=by
 have T0:(0:Rat)<T:=Rat.intCast_pos.2 hT
 have a0:(0:Rat)≤a:=Rat.intCast_nonneg.2 ha
 have c0:(0:Rat)≤c:=Rat.intCast_nonneg.2 hc
 have f:=(fl_R (a:=a*c) hT).1
 rw[Rat.intCast_mul a c] at f
 have m1:=Rat.mul_le_mul_of_nonneg_right h1 c0
 have m2:=Rat.mul_le_mul_of_nonneg_left h2 (Rat.le_trans a0 h1)
 exact Rat.le_of_mul_le_mul_right (c:=(T:Rat)) (by grind) T0
theorem pf_hi {b d T:Int}{y z:Rat}(hT:0<T)(hy:0≤y)(hz:0≤z)(h1:y*T≤(b:Rat))(h2:z*T≤(d:Rat)):y*z*T≤((-(-(b*d) / T):Int):Rat):=by
 have T0:(0:Rat)<T:=Rat.intCast_pos.2 hT
 have y0:(0:Rat)≤y*T:=Rat.mul_nonneg hy (Rat.le_of_lt T0)
 have z0:(0:Rat)≤z*T:=Rat.mul_nonneg hz (Rat.le_of_lt T0)
 have f:=(ce_R (a:=b*d) hT).1
 rw[Rat.intCast_mul b d] at f
 have m1:=Rat.mul_le_mul_of_nonneg_right h1 z0
 have m2:=Rat.mul_le_mul_of_nonneg_left h2 (Rat.le_trans y0 h1)
 exact Rat.le_of_mul_le_mul_right (c:=(T:Rat)) (by grind) T0
theorem df_lo {a n:Int}{y:Rat}(hn:0<n)(h:(a:Rat)≤y):((a / n:Int):Rat)≤y / (n:Rat):=by
 have n0:(0:Rat)<n:=Rat.intCast_pos.2 hn
 have f:=(fl_R (a:=a) hn).1
 have e:=Rat.div_mul_cancel (a:=y) (b:=(n:Rat)) (by grind)
 exact Rat.le_of_mul_le_mul_right (c:=(n:Rat)) (by rw[e];exact Rat.le_trans f h) n0
theorem df_hi {b n:Int}{y:Rat}(hn:0<n)(h:y≤(b:Rat)):y / (n:Rat)≤((-(-b / n):Int):Rat):=by
 have n0:(0:Rat)<n:=Rat.intCast_pos.2 hn
 have f:=(ce_R (a:=b) hn).1
 have e:=Rat.div_mul_cancel (a:=y) (b:=(n:Rat)) (by grind)
 exact Rat.le_of_mul_le_mul_right (c:=(n:Rat)) (by rw[e];exact Rat.le_trans h f) n0
def odn (j:Nat):Int:=2*(j:Int)+1
theorem odn_pos (j:Nat):0<odn j:=by unfold odn;omega
def PL (z:Rat):Nat→Rat
 | 0=>0
 | k+1=>PL z k+z^(2*k+1) / (odn k:Rat)
theorem odd_succ (z:Rat)(k:Nat):z^(2*(k+1)+1)=z^(2*k+1)*(z*z):=by
 rw[show 2*(k+1)+1=2*k+1+1+1 by omega,Rat.pow_succ,Rat.pow_succ,Rat.mul_assoc]
theorem div_nn {y:Rat}{j:Nat}(h:0≤y):0≤y / (odn j:Rat)∧y / (odn j:Rat)≤y:=by
 have n0:(1:Rat)≤(odn j:Rat):=by rw[show (1:Rat)=((1:Int):Rat) from rfl,Rat.intCast_le_intCast];unfold odn;omega
 have e:=Rat.div_mul_cancel (a:=y) (b:=(odn j:Rat)) (by grind)
 have h0:0≤y / (odn j:Rat):=by
  rw[Rat.div_def]
  exact Rat.mul_nonneg h (Rat.le_of_lt (Rat.inv_pos.2 (by grind)))
 refine⟨h0,?_⟩
 have m:=Rat.mul_le_mul_of_nonneg_left n0 h0
 grind
theorem PL_neg (z:Rat):∀ k,PL (-z) k=-PL z k
 | 0=>by show (0:Rat)=-0;grind
 | k+1=>by
  show PL (-z) k+(-z)^(2*k+1) / (odn k:Rat)=-(PL z k+z^(2*k+1) / (odn k:Rat))
  rw[PL_neg z k,neg_odd z (by omega),Rat.div_def,Rat.div_def];grind
theorem PL_mono {z:Rat}(hz:0≤z){j:Nat}:∀ k,PL z j≤PL z (j+k)
 | 0=>Rat.le_refl
 | k+1=>by
  have h:=PL_mono hz (j:=j) k
  have d:=(div_nn (j:=j+k) (Rat.pow_nonneg (n:=2*(j+k)+1) hz)).1
  show PL z j≤PL z (j+k)+z^(2*(j+k)+1) / (odn (j+k):Rat)
  grind
theorem PL_tail {z:Rat}(hz:0≤z)(h2:2*z≤1){j:Nat}:∀ k,PL z (j+1+k)+z^(2*(j+k)+1)≤PL z (j+1)+z^(2*j+1)
 | 0=>Rat.le_refl
 | k+1=>by
  have h:=PL_tail hz h2 (j:=j) k
  have p0:=Rat.pow_nonneg (n:=2*(j+k)+1) hz
  have p1:=Rat.pow_nonneg (n:=2*(j+k+1)+1) hz
  have d:=(div_nn (j:=j+1+k) (Rat.pow_nonneg (n:=2*(j+1+k)+1) hz)).2
  have e:=odd_succ z (j+k)
  show PL z (j+1+k)+z^(2*(j+1+k)+1) / (odn (j+1+k):Rat)+z^(2*(j+(k+1))+1)≤_
  rw[show j+1+k=j+k+1 by omega] at d ⊢
  rw[show j+(k+1)=j+k+1 by omega]
  rw[show j+1+k=j+k+1 by omega] at h
  have zz:z*z*4≤1:=by
   have a:=Rat.mul_le_mul_of_nonneg_left h2 hz
   grind
  have m:=Rat.mul_le_mul_of_nonneg_left zz p0
  grind
theorem PL_hi {z:Rat}(hz:0≤z)(h2:2*z≤1){j K:Nat}(h:j+1≤K):PL z (j+1)≤PL z K∧PL z K≤PL z (j+1)+z^(2*j+1):=by
 obtain⟨k,rfl⟩:∃ k,K=j+1+k:=⟨K-(j+1),by omega⟩
 refine⟨PL_mono hz k,?_⟩
 have t:=PL_tail hz h2 (j:=j) k
 have p0:=Rat.pow_nonneg (n:=2*(j+k)+1) hz
 grind
theorem least {P:Nat→Prop}[DecidablePred P]:∀ {n:Nat},P n→∃ N,N≤n∧P N∧∀ j,j<N→¬ P j
 | 0,h=>⟨0,Nat.le_refl _,h,fun j hj=>by omega⟩
 | n+1,h=>by
  by_cases q:∃ m,m≤n∧P m
  ·obtain⟨m,hm,pm⟩:=q
   obtain⟨N,hN,pN,hj⟩:=least pm
   exact⟨N,by omega,pN,hj⟩
  ·exact⟨n+1,Nat.le_refl _,h,fun j hj pj=>q ⟨j,by omega,pj⟩⟩
def ptLo (a d:Int):Int:=((a.natAbs / d.toNat:Nat):Int)
def ptHi (b d:Int):Int:=((b.natAbs / d.toNat+(if b.natAbs%d.toNat=0 then 0 else 1):Nat):Int)
theorem ptLo_eq {a d:Int}(ha:0≤a)(hd:0<d):ptLo a d=a / d:=by
 unfold ptLo
 obtain⟨x,rfl⟩:=Int.eq_ofNat_of_zero_le ha
 obtain⟨y,rfl⟩:=Int.eq_ofNat_of_zero_le (show 0≤d by omega)
 simp
theorem ptHi_eq {b d : Int} (hb : 0 ≤ b) (hd : 0 < d) : ptHi b d = -(-b / d) := by
  unfold ptHi
  obtain ⟨x, rfl⟩ := Int.eq_ofNat_of_zero_le hb
  obtain ⟨y, rfl⟩ := Int.eq_ofNat_of_zero_le (show 0 ≤ d by omega)
  simp only [Int.natAbs_natCast, Int.toNat_natCast]
  have e := Nat.div_add_mod x y
  have l := Nat.mod_lt x (show 0 < y by omega)
  have key : ∀ q : Int, q * (y : Int) ≤ -(x : Int) → -(x : Int) < (q + 1) * (y : Int) → -(x : Int) / (y : Int) = q := by
    intro q h1 h2
    have a1 := Int.le_ediv_of_mul_le hd h1
    have a2 := Int.ediv_lt_of_lt_mul hd h2
    omega
  have ei : ((y : Int)) * ((x / y : Nat) : Int) + ((x % y : Nat) : Int) = (x : Int) := by
    have := congrArg (Nat.cast : Nat → Int) e
    push_cast at this ⊢
    exact this
  split
  · rename_i h0
    rw [key (-((x / y : Nat) : Int)) (by rw [h0] at ei; grind) (by rw [h0] at ei; grind)]
    omega
  · rename_i h0
    rw [key (-((x / y : Nat) : Int) - 1) (by have : ((x % y : Nat) : Int) ≤ y := by omega
                                             grind) (by have : (0 : Int) < ((x % y : Nat) : Int) := by omega
                                                        grind)]
    omega
def arP (T q1 q2 x1 x2:Int):Nat→Int × Int
 | 0=>(x1,x2)
 | j+1=>((arP T q1 q2 x1 x2 j).1*q1 / T,-(-((arP T q1 q2 x1 x2 j).2*q2) / T))
def arA (T q1 q2 x1 x2:Int):Nat→Int × Int
 | 0=>(x1,x2)
 | j+1=>((arA T q1 q2 x1 x2 j).1+ptLo (arP T q1 q2 x1 x2 (j+1)).1 (odn (j+1)),(arA T q1 q2 x1 x2 j).2+ptHi (arP T q1 q2 x1 x2 (j+1)).2 (odn (j+1)))
theorem ar_w {T p1 p2 q1 q2 D:Int}(hT:0<T)(h1:0≤p2)(h2:2*p2≤T)(h3:q2-q1≤D+2)(hD:0≤D)(h4:0≤q1)(h5:4*q1≤T)(h6:p2-p1≤D+6):-(-(p2*q2) / T)-p1*q1 / T≤D+6:=by
 have f1:=Int.lt_ediv_add_one_mul_self (p1*q1) hT
 have f2:=Int.lt_ediv_add_one_mul_self (-(p2*q2)) hT
 generalize p1*q1 / T=u at *
 generalize -(p2*q2) / T=v at *
 have m1:=Int.mul_le_mul_of_nonneg_left h3 h1
 have m2:=Int.mul_le_mul_of_nonneg_right h2 (show 0≤D+2 by omega)
 have m3:=Int.mul_le_mul_of_nonneg_right h6 h4
 have m4:=Int.mul_le_mul_of_nonneg_left h5 (show 0≤D+6 by omega)
 have m6:=Int.mul_nonneg hD (show 0≤T by omega)
 refine Decidable.byContradiction fun hn=>?_
 have m5:=Int.mul_le_mul_of_nonneg_right (show D+7≤-v-u by omega) (show 0≤T by omega)
 grind
theorem ar_q {T x1 x2:Int}(hT:0<T)(h1:0≤x1)(h2:x1≤x2)(h3:2*x2≤T) :
  0≤x1*x1 / T∧4*(x1*x1 / T)≤T∧-(-(x2*x2) / T)-x1*x1 / T≤(x2-x1)+2∧0≤-(-(x2*x2) / T)∧4*-(-(x2*x2) / T)≤T+3:=by
 have f0:=Int.ediv_mul_le (x1*x1) (show T≠0 by omega)
 have f1:=Int.lt_ediv_add_one_mul_self (x1*x1) hT
 have f2:=Int.lt_ediv_add_one_mul_self (-(x2*x2)) hT
 have f3:=Int.ediv_mul_le (-(x2*x2)) (show T≠0 by omega)
 have n1:=Int.ediv_nonneg (Int.mul_nonneg h1 h1) (show 0≤T by omega)
 have n2:=Int.mul_nonneg (show 0≤x2 by omega) (show 0≤x2 by omega)
 generalize x1*x1 / T=u at *
 generalize -(x2*x2) / T=v at *
 have s1:=Int.mul_le_mul_of_nonneg_left (show x1≤x2 by omega) h1
 have s2:=Int.mul_le_mul_of_nonneg_right (show x1≤x2 by omega) (show 0≤x2 by omega)
 have s3:=Int.mul_le_mul_of_nonneg_left h3 (show 0≤x2 by omega)
 have s4:=Int.mul_le_mul_of_nonneg_right h3 (show 0≤T by omega)
 refine⟨n1,?_,?_,?_,?_⟩
 ·refine Decidable.byContradiction fun hn=>?_
  have m:=Int.mul_le_mul_of_nonneg_right (show T+1≤4*u by omega) (show 0≤T by omega)
  grind
 ·refine Decidable.byContradiction fun hn=>?_
  have m:=Int.mul_le_mul_of_nonneg_right (show (x2-x1)+3≤-v-u by omega) (show 0≤T by omega)
  have k:=Int.mul_le_mul_of_nonneg_left (show x1+x2≤T by omega) (show 0≤x2-x1 by omega)
  grind
 ·refine Decidable.byContradiction fun hn=>?_
  have m:=Int.mul_le_mul_of_nonneg_right (show 1≤v by omega) (show 0≤T by omega)
  grind
 ·refine Decidable.byContradiction fun hn=>?_
  have m:=Int.mul_le_mul_of_nonneg_right (show T+4≤4*-v by omega) (show 0≤T by omega)
  grind
theorem ar_p {T p2 q2:Int}(hT:0<T)(h1:0≤p2)(h2:2*p2≤T)(h4:0≤q2)(h5:4*q2≤T+3):0≤-(-(p2*q2) / T)∧4*-(-(p2*q2) / T)≤p2+5:=by
 have f2:=Int.lt_ediv_add_one_mul_self (-(p2*q2)) hT
 have f3:=Int.ediv_mul_le (-(p2*q2)) (show T≠0 by omega)
 have n2:=Int.mul_nonneg h1 h4
 generalize -(p2*q2) / T=v at *
 have m1:=Int.mul_le_mul_of_nonneg_left h5 h1
 refine⟨?_,?_⟩
 ·refine Decidable.byContradiction fun hn=>?_
  have m:=Int.mul_le_mul_of_nonneg_right (show 1≤v by omega) (show 0≤T by omega)
  grind
 ·refine Decidable.byContradiction fun hn=>?_
  have m:=Int.mul_le_mul_of_nonneg_right (show p2+6≤4*-v by omega) (show 0≤T by omega)
  grind
structure ArH (T x1 x2:Int):Prop where
 hT:8≤T
 h1:0≤x1
 h2:x1≤x2
 h3:2*x2≤T
def arQ1 (T x1:Int):Int:=x1*x1 / T
def arQ2 (T x2:Int):Int:=-(-(x2*x2) / T)
abbrev aP (T x1 x2:Int)(j:Nat):Int × Int:=arP T (arQ1 T x1) (arQ2 T x2) x1 x2 j
abbrev aA (T x1 x2:Int)(j:Nat):Int × Int:=arA T (arQ1 T x1) (arQ2 T x2) x1 x2 j
theorem aP_facts {T x1 x2:Int}(h:ArH T x1 x2):∀ j,0≤(aP T x1 x2 j).1∧0≤(aP T x1 x2 j).2∧2*(aP T x1 x2 j).2≤T∧(aP T x1 x2 j).2-(aP T x1 x2 j).1≤(x2-x1)+6
 | 0=>⟨h.h1,by have:=h.h1;have:=h.h2;show 0≤x2;omega,h.h3,by show x2-x1≤_;omega⟩
 | j+1=>by
  obtain⟨a1,a2,a3,a4⟩:=aP_facts h j
  have hT:=h.hT
  obtain⟨q1,q2,q3,q4,q5⟩:=ar_q (T:=T) (by omega) h.h1 h.h2 h.h3
  have p:=ar_p (T:=T) (by omega) a2 a3 q4 q5
  have w:=ar_w (T:=T) (D:=x2-x1) (by omega) a2 a3 q3 (by have:=h.h2;omega) q1 q2 a4
  have n:=Int.ediv_nonneg (Int.mul_nonneg a1 q1) (show 0≤T by omega)
  exact⟨n,p.1,by have:=p.2;show 2*(-(-((aP T x1 x2 j).2*-(-(x2*x2) / T)) / T))≤T;omega,w⟩
theorem aP_step {T x1 x2:Int}(h:ArH T x1 x2)(j:Nat):4*(aP T x1 x2 (j+1)).2≤(aP T x1 x2 j).2+5:=by
 obtain⟨a1,a2,a3,a4⟩:=aP_facts h j
 have hT:=h.hT
 obtain⟨q1,q2,q3,q4,q5⟩:=ar_q (T:=T) (by omega) h.h1 h.h2 h.h3
 exact (ar_p (T:=T) (by omega) a2 a3 q4 q5).2
theorem aP_small {t:Nat}{x1 x2:Int}(h:ArH (2^t) x1 x2):∃ N,N≤t∧(aP (2^t) x1 x2 N).2<8∧∀ j,j<N→¬ (aP (2^t) x1 x2 j).2<8:=by
 by_cases q:∃ m,m≤t∧(aP (2^t) x1 x2 m).2<8
 ·obtain⟨m,hm,pm⟩:=q
  obtain⟨N,hN,r⟩:=least (P:=fun m=>(aP (2^t) x1 x2 m).2<8) pm
  exact⟨N,by omega,r⟩
 ·have key:∀ j,j≤t→(aP (2^t) x1 x2 j).2*2^j≤2^t:=by
   intro j
   induction j with
   | zero=>intro _;have:=h.h3;have:=h.h1;have:=h.h2;show x2*1≤_;omega
   | succ j ih =>
    intro hj
    have i:=ih (by omega)
    have s:=aP_step h j
    have b:¬ (aP (2^t) x1 x2 j).2<8:=fun hb=>q ⟨j,by omega,hb⟩
    have m:=Int.mul_le_mul_of_nonneg_right (show 2*(aP (2^t) x1 x2 (j+1)).2≤(aP (2^t) x1 x2 j).2 by omega) (show (0:Int)≤2^j from Int.le_of_lt (two_pos j))
    rw[Int.pow_succ]
    grind
  have k:=key t (Nat.le_refl _)
  have b:¬ (aP (2^t) x1 x2 t).2<8:=fun hb=>q ⟨t,Nat.le_refl _,hb⟩
  have m:=Int.mul_le_mul_of_nonneg_right (show 8≤(aP (2^t) x1 x2 t).2 by omega) (show (0:Int)≤2^t from Int.le_of_lt (two_pos t))
  have:=two_pos t
  omega
theorem aP_enc {T x1 x2:Int}{X:Rat}(h:ArH T x1 x2)(e1:(x1:Rat)≤X*T)(e2:X*T≤(x2:Rat)):∀ j,((aP T x1 x2 j).1:Rat)≤X^(2*j+1)*T∧X^(2*j+1)*T≤((aP T x1 x2 j).2:Rat)
 | 0=>by
  rw[show X^(2*0+1)=X by rw[Rat.pow_succ,Rat.pow_zero,Rat.one_mul]]
  exact⟨e1,e2⟩
 | j+1=>by
  have hT:=h.hT
  have T0:(0:Rat)<T:=Rat.intCast_pos.2 (by omega)
  have X0:0≤X:=by
   have:(0:Rat)*T≤X*T:=by rw[Rat.zero_mul];exact Rat.le_trans (Rat.intCast_nonneg.2 h.h1) e1
   exact Rat.le_of_mul_le_mul_right this T0
  have i:=aP_enc h e1 e2 j
  obtain⟨a1,a2,a3,a4⟩:=aP_facts h j
  obtain⟨q1,q2,q3,q4,q5⟩:=ar_q (T:=T) (by omega) h.h1 h.h2 h.h3
  have s1:=pf_lo (T:=T) (by omega) h.h1 h.h1 e1 e1
  have s2:=pf_hi (T:=T) (by omega) X0 X0 e2 e2
  rw[odd_succ]
  exact⟨pf_lo (by omega) a1 q1 i.1 s1,pf_hi (by omega) (Rat.pow_nonneg X0) (Rat.mul_nonneg X0 X0) i.2 s2⟩
theorem aA_enc {T x1 x2:Int}{X:Rat}(h:ArH T x1 x2)(e1:(x1:Rat)≤X*T)(e2:X*T≤(x2:Rat)):∀ j,((aA T x1 x2 j).1:Rat)≤PL X (j+1)*T∧PL X (j+1)*T≤((aA T x1 x2 j).2:Rat)
 | 0=>by
  have e:PL X (0+1)=X:=by
   show (0:Rat)+X^(2*0+1) / (odn 0:Rat)=X
   rw[show X^(2*0+1)=X by rw[Rat.pow_succ,Rat.pow_zero,Rat.one_mul],show (odn 0:Rat)=1 from rfl]
   grind
  rw[e]
  exact⟨e1,e2⟩
 | j+1=>by
  have i:=aA_enc h e1 e2 j
  have p:=aP_enc h e1 e2 (j+1)
  obtain⟨a1,a2,_⟩:=aP_facts h (j+1)
  have d1:=df_lo (odn_pos (j+1)) p.1
  have d2:=df_hi (odn_pos (j+1)) p.2
  rw[← ptLo_eq a1 (odn_pos _)] at d1
  rw[← ptHi_eq a2 (odn_pos _)] at d2
  have e:PL X (j+1+1)*T=PL X (j+1)*T+X^(2*(j+1)+1)*T / (odn (j+1):Rat):=by
   show (PL X (j+1)+X^(2*(j+1)+1) / (odn (j+1):Rat))*T=_
   rw[Rat.div_def,Rat.div_def];grind
  rw[e]
  constructor
  ·show (((aA T x1 x2 j).1+ptLo (aP T x1 x2 (j+1)).1 (odn (j+1)):Int):Rat)≤_
   rw[Rat.intCast_add];grind
  ·show _≤(((aA T x1 x2 j).2+ptHi (aP T x1 x2 (j+1)).2 (odn (j+1)):Int):Rat)
   rw[Rat.intCast_add];grind
theorem aA_facts {T x1 x2:Int}(h:ArH T x1 x2):∀ j,0≤(aA T x1 x2 j).1∧(aA T x1 x2 j).2≤((j:Int)+1)*T∧(aA T x1 x2 j).2-(aA T x1 x2 j).1≤(x2-x1)+(j:Int)*((x2-x1)+8)∧0≤(aA T x1 x2 j).2
 | 0=>⟨h.h1,by have:=h.h1;have:=h.h2;have:=h.h3;show x2≤((0:Nat)+1:Int)*T;omega,by show x2-x1≤_;omega,by have:=h.h1;have:=h.h2;show 0≤x2;omega⟩
 | j+1=>by
  obtain⟨a1,a2,a3,a4⟩:=aA_facts h j
  obtain⟨b1,b2,b3,b4⟩:=aP_facts h (j+1)
  have hn:=odn_pos (j+1)
  have hT:=h.hT
  have l1:ptLo (aP T x1 x2 (j+1)).1 (odn (j+1))=_:=ptLo_eq b1 hn
  have l2:ptHi (aP T x1 x2 (j+1)).2 (odn (j+1))=_:=ptHi_eq b2 hn
  have f1:=Int.lt_ediv_add_one_mul_self (aP T x1 x2 (j+1)).1 hn
  have f2:=Int.lt_ediv_add_one_mul_self (-(aP T x1 x2 (j+1)).2) hn
  have n1:=Int.ediv_nonneg b1 (show 0≤odn (j+1) by omega)
  have n3:3≤odn (j+1):=by unfold odn;omega
  have g1:ptLo (aP T x1 x2 (j+1)).1 (odn (j+1))=(aP T x1 x2 (j+1)).1 / odn (j+1):=l1
  show 0≤(aA T x1 x2 j).1+ptLo (aP T x1 x2 (j+1)).1 (odn (j+1))∧(aA T x1 x2 j).2+ptHi (aP T x1 x2 (j+1)).2 (odn (j+1))≤(((j+1:Nat):Int)+1)*T ∧
   ((aA T x1 x2 j).2+ptHi (aP T x1 x2 (j+1)).2 (odn (j+1)))-((aA T x1 x2 j).1+ptLo (aP T x1 x2 (j+1)).1 (odn (j+1)))≤(x2-x1)+((j+1:Nat):Int)*((x2-x1)+8)∧0≤(aA T x1 x2 j).2+ptHi (aP T x1 x2 (j+1)).2 (odn (j+1))
  have p0:(0:Int)≤ptHi (aP T x1 x2 (j+1)).2 (odn (j+1)):=by unfold ptHi;exact Int.natCast_nonneg _
  rw[l1,l2] at *
  generalize (aP T x1 x2 (j+1)).1 / odn (j+1)=u at *
  generalize -(aP T x1 x2 (j+1)).2 / odn (j+1)=v at *
  have hx:=h.h2
  have kv:-v≤T:=by
   refine Decidable.byContradiction fun hq=>?_
   have m:=Int.mul_le_mul_of_nonneg_right (show T+1≤-v by omega) (show 0≤odn (j+1) by omega)
   have m2:=Int.mul_le_mul_of_nonneg_left n3 (show 0≤T by omega)
   grind
  have kw:-v-u≤(x2-x1)+8:=by
   refine Decidable.byContradiction fun hq=>?_
   have m:=Int.mul_le_mul_of_nonneg_right (show (x2-x1)+9≤-v-u by omega) (show 0≤odn (j+1) by omega)
   have m2:=Int.mul_le_mul_of_nonneg_left n3 (show 0≤(x2-x1)+7 by omega)
   grind
  refine⟨by omega,?_,?_,by omega⟩
  ·rw[Int.natCast_add,Int.natCast_one];grind
  ·rw[Int.natCast_add,Int.natCast_one];grind
theorem area_enc {T x1 x2:Int}{X:Rat}(h:ArH T x1 x2)(e1:(x1:Rat)≤X*T)(e2:X*T≤(x2:Rat))(N:Nat){K:Nat}(hK:N+1≤K) :
  ((aA T x1 x2 N).1:Rat)≤PL X K*T∧PL X K*T≤(((aA T x1 x2 N).2+(aP T x1 x2 N).2:Int):Rat):=by
 have hT:=h.hT
 have T0:(0:Rat)<T:=Rat.intCast_pos.2 (by omega)
 have X0:0≤X:=by
  have:(0:Rat)*T≤X*T:=by rw[Rat.zero_mul];exact Rat.le_trans (Rat.intCast_nonneg.2 h.h1) e1
  exact Rat.le_of_mul_le_mul_right this T0
 have X2:2*X≤1:=by
  refine Rat.le_of_mul_le_mul_right (c:=(T:Rat)) ?_ T0
  have:((2*x2:Int):Rat)≤(T:Rat):=Rat.intCast_le_intCast.2 h.h3
  rw[Rat.intCast_mul] at this
  rw[show ((2:Int):Rat)=2 from rfl] at this
  grind
 have p:=PL_hi X0 X2 hK
 have a:=aA_enc h e1 e2 N
 have q:=aP_enc h e1 e2 N
 have m1:=Rat.mul_le_mul_of_nonneg_right p.1 (Rat.le_of_lt T0)
 have m2:=Rat.mul_le_mul_of_nonneg_right p.2 (Rat.le_of_lt T0)
 refine⟨Rat.le_trans a.1 m1,?_⟩
 rw[Rat.intCast_add]
 grind
end Go.Proofs.YtkkbddkpggjgpaaGreatDoor

namespace Go.Proofs.YtkkbddkpggjgpaaGreatDoor
theorem dv_sc (x:Int)(t:Nat):dv x (-(t:Int))*((2^t:Int):Rat)=(x:Rat):=by
 have e:((2^t:Int):Rat)=(2:Rat)^(t:Int):=(zp_nat t).symm
 unfold dv
 rw[e,Rat.mul_assoc,Rat.mul_comm ((2:Rat)^(-(t:Int))),zp_cancel,Rat.mul_one]
theorem flr_sc (r:Rat)(t:Nat):((flr r t:Int):Rat)≤r*((2^t:Int):Rat)∧r*((2^t:Int):Rat)<((flr r t:Int):Rat)+1:=by
 have T0:(0:Rat)<((2^t:Int):Rat):=Rat.intCast_pos.2 (two_pos t)
 have a:=Rat.mul_le_mul_of_nonneg_right (flr_le r t) (Rat.le_of_lt T0)
 have b:=Rat.mul_lt_mul_of_pos_right (flr_lt r t) T0
 rw[dv_sc] at a b
 rw[Rat.intCast_add] at b
 exact⟨a,b⟩
theorem cei_sc (r:Rat)(t:Nat):r*((2^t:Int):Rat)≤((cei r t:Int):Rat)∧((cei r t:Int):Rat)<r*((2^t:Int):Rat)+1:=by
 have h:=flr_sc (-r) t
 unfold cei
 rw[Rat.intCast_neg]
 constructor<;>grind
theorem flr_cei1 (r:Rat)(t:Nat):cei r t≤flr r t+1∧flr r t≤cei r t:=by
 have a:=flr_sc r t
 have b:=cei_sc r t
 constructor
 ·refine Decidable.byContradiction fun hn=>?_
  have:((flr r t+2:Int):Rat)≤((cei r t:Int):Rat):=Rat.intCast_le_intCast.2 (by omega)
  rw[Rat.intCast_add,show ((2:Int):Rat)=2 from rfl] at this
  grind
 ·refine Rat.intCast_le_intCast.1 ?_
  grind
structure LnH (T:Int) (M Z:Rat) (d1 d2 xa xb:Int):Prop where
 hT:256≤T
 m1:3≤4*M
 m2:2*M≤3
 xa1:(xa:Rat)≤M*(T:Rat)
 xb1:M*(T:Rat)≤(xb:Rat)
 x2:xb≤xa+1
 d0:0≤d1
 d3:d2≤d1+1
 z0:0≤Z
 z2:2*(Z*(M+1))≤1
 dz1:(d1:Rat)≤Z*(M+1)*(T:Rat)
 dz2:Z*(M+1)*(T:Rat)≤(d2:Rat)
theorem two_R:((2:Int):Rat)=2:=rfl
theorem ln_quo {T d1 d2 xa xb z1 z2:Int}{M Z:Rat}(h:LnH T M Z d1 d2 xa xb)(e1:z1=d1*T / (xb+T))(e2:z2=-(-(d2*T) / (xa+T))) :
  ArH T z1 z2∧(z1:Rat)≤Z*T∧Z*T≤(z2:Rat)∧z2-z1≤4:=by
 obtain⟨hT,m1,m2,xa1,xb1,x2,d0,d3,z0,zz,dz1,dz2⟩:=h
 have T0:(0:Rat)<T:=Rat.intCast_pos.2 (by omega)
 have A:3*T≤4*xb:=by
  refine Rat.intCast_le_intCast.1 ?_
  rw[Rat.intCast_mul,Rat.intCast_mul,show ((3:Int):Rat)=3 from rfl,show ((4:Int):Rat)=4 from rfl]
  have m:=Rat.mul_le_mul_of_nonneg_right m1 (Rat.le_of_lt T0)
  grind
 have C:2*d1≤T:=by
  refine Rat.intCast_le_intCast.1 ?_
  rw[Rat.intCast_mul,two_R]
  have m:=Rat.mul_le_mul_of_nonneg_right zz (Rat.le_of_lt T0)
  grind
 have B:2*xa≤3*T:=by
  refine Rat.intCast_le_intCast.1 ?_
  rw[Rat.intCast_mul,Rat.intCast_mul,show ((3:Int):Rat)=3 from rfl,two_R]
  have m:=Rat.mul_le_mul_of_nonneg_right m2 (Rat.le_of_lt T0)
  grind
 have hb:0<xb+T:=by omega
 have ha:0<xa+T:=by omega
 have f1:=Int.ediv_mul_le (d1*T) (show xb+T≠0 by omega)
 have f2:=Int.lt_ediv_add_one_mul_self (d1*T) hb
 have f3:=Int.ediv_mul_le (-(d2*T)) (show xa+T≠0 by omega)
 have f4:=Int.lt_ediv_add_one_mul_self (-(d2*T)) ha
 have n1:=Int.ediv_nonneg (Int.mul_nonneg d0 (show 0≤T by omega)) (show 0≤xb+T by omega)
 rw[← e1] at f1 f2 n1
 have e3:-(d2*T) / (xa+T)=-z2:=by omega
 rw[e3] at f3 f4
 clear e1 e2 e3
 have E1:(z1:Rat)≤Z*T:=by
  have c:((z1*(xb+T):Int):Rat)≤((d1*T:Int):Rat):=Rat.intCast_le_intCast.2 f1
  rw[Rat.intCast_mul,Rat.intCast_mul,Rat.intCast_add] at c
  have z0':(0:Rat)≤z1:=Rat.intCast_nonneg.2 n1
  have p1:=Rat.mul_le_mul_of_nonneg_left (show (M+1)*(T:Rat)≤(xb:Rat)+T by grind) z0'
  have p2:=Rat.mul_le_mul_of_nonneg_right dz1 (Rat.le_of_lt T0)
  have q:(0:Rat)<(M+1)*T:=Rat.mul_pos (by grind) T0
  refine Rat.le_of_mul_le_mul_right (c:=(M+1)*(T:Rat)) ?_ q
  grind
 have N2:0≤d2:=by
  refine Rat.intCast_le_intCast.1 (Rat.le_trans ?_ dz2)
  exact Rat.mul_nonneg (Rat.mul_nonneg z0 (by grind)) (Rat.le_of_lt T0)
 have Z2:0≤z2:=by
  refine Decidable.byContradiction fun hn=>?_
  have m:=Int.mul_le_mul_of_nonneg_right (show z2≤-1 by omega) (show 0≤xa+T by omega)
  have m2:=Int.mul_nonneg N2 (show 0≤T by omega)
  grind
 have E2:Z*T≤(z2:Rat):=by
  have c:((d2*T:Int):Rat)≤((z2*(xa+T):Int):Rat):=Rat.intCast_le_intCast.2 (by grind)
  rw[Rat.intCast_mul,Rat.intCast_mul,Rat.intCast_add] at c
  have z0':(0:Rat)≤z2:=Rat.intCast_nonneg.2 Z2
  have p1:=Rat.mul_le_mul_of_nonneg_left (show (xa:Rat)+T≤(M+1)*(T:Rat) by grind) z0'
  have p2:=Rat.mul_le_mul_of_nonneg_right dz2 (Rat.le_of_lt T0)
  have q:(0:Rat)<(M+1)*T:=Rat.mul_pos (by grind) T0
  refine Rat.le_of_mul_le_mul_right (c:=(M+1)*(T:Rat)) ?_ q
  grind
 have O:z1≤z2:=Rat.intCast_le_intCast.1 (Rat.le_trans E1 E2)
 refine⟨⟨by omega,n1,O,?_⟩,E1,E2,?_⟩
 ·refine Decidable.byContradiction fun hn=>?_
  have m:=Int.mul_le_mul_of_nonneg_right (show T+1≤2*z2 by omega) (show 0≤xa+T by omega)
  have m2:=Int.mul_le_mul_of_nonneg_right (show d2≤d1+1 by omega) (show 0≤T by omega)
  have m3:=Int.mul_le_mul_of_nonneg_right C (show 0≤T by omega)
  have m4:=Int.mul_nonneg (show 0≤4*xa-3*T+4 by omega) (show 0≤T by omega)
  have m5:=Int.mul_le_mul_of_nonneg_right hT (show 0≤T by omega)
  grind
 ·refine Decidable.byContradiction fun hn=>?_
  have m:=Int.mul_le_mul_of_nonneg_right (show 5≤z2-z1 by omega) (show 0≤xa+T by omega)
  have m2:=Int.mul_le_mul_of_nonneg_right (show d2≤d1+1 by omega) (show 0≤T by omega)
  have m3:=Int.mul_le_mul_of_nonneg_left (show xb-xa≤1 by omega) n1
  have m4:z1≤T:=by
   refine Decidable.byContradiction fun hq=>?_
   have m5:=Int.mul_le_mul_of_nonneg_right (show T+1≤z1 by omega) (show 0≤xb+T by omega)
   have m6:=Int.mul_le_mul_of_nonneg_right (show d1≤xb+T by omega) (show 0≤T by omega)
   grind
  grind
end Go.Proofs.YtkkbddkpggjgpaaGreatDoor

namespace Go.Proofs.YtkkbddkpggjgpaaGreatDoor
def mn4 (a b c d:Int):Int:=min (min (min (a*c) (a*d)) (b*c)) (b*d)
def mx4 (a b c d:Int):Int:=max (max (max (a*c) (a*d)) (b*c)) (b*d)
def rm1 (a b c d T:Int):Int:=mn4 a b c d / T
def rm2 (a b c d T:Int):Int:=-(-(mx4 a b c d) / T)
def rP (T q1 q2 x1 x2:Int):Nat→Int × Int
 | 0=>(x1,x2)
 | j+1=>(rm1 (rP T q1 q2 x1 x2 j).1 (rP T q1 q2 x1 x2 j).2 q1 q2 T,rm2 (rP T q1 q2 x1 x2 j).1 (rP T q1 q2 x1 x2 j).2 q1 q2 T)
def ovLo (a b n:Int):Int:=Int.fdiv (min a b) n
def ovHi (a b n:Int):Int:=-(Int.fdiv (-(max a b)) n)
def rA (T q1 q2 x1 x2:Int):Nat→Int × Int
 | 0=>(0,0)
 | j+1=>((rA T q1 q2 x1 x2 j).1+ovLo (rP T q1 q2 x1 x2 j).1 (rP T q1 q2 x1 x2 j).2 (odn j),(rA T q1 q2 x1 x2 j).2+ovHi (rP T q1 q2 x1 x2 j).1 (rP T q1 q2 x1 x2 j).2 (odn j))
structure RrH (v:Nat) (x1 x2:Int):Prop where
 hv:8≤v
 h1:x1.natAbs≤2^(v-1)
 h2:x2.natAbs≤2^(v-1)
def rq1 (T x1 x2:Int):Int:=rm1 x1 x2 x1 x2 T
def rq2 (T x1 x2:Int):Int:=rm2 x1 x2 x1 x2 T
abbrev sA (v:Nat)(x1 x2:Int)(j:Nat):Int × Int:=rA (2^v) (rq1 (2^v) x1 x2) (rq2 (2^v) x1 x2) x1 x2 j
end Go.Proofs.YtkkbddkpggjgpaaGreatDoor

namespace Go.Proofs.YtkkbddkpggjgpaaGreatDoor
theorem of_ge {m e s:Int}(h:0≤e+s):m*2^(e+s).toNat=flr (dv m e) s∧m*2^(e+s).toNat=cei (dv m e) s:=by
 have a:flr (dv m e) s=m*2^(e+s).toNat:=by rw[flr_dv,if_pos h]
 have b:flr (dv (-m) e) s=-m*2^(e+s).toNat:=by rw[flr_dv,if_pos h]
 refine⟨a.symm,?_⟩
 unfold cei
 rw[← dv_neg,b,Int.neg_mul,Int.neg_neg]
theorem of_lt {m e s:Int}(h:e+s<0):m / 2^(0-(e+s)).toNat=flr (dv m e) s∧-(-m / 2^(0-(e+s)).toNat)=cei (dv m e) s:=by
 have a:flr (dv m e) s=m / 2^(-(e+s)).toNat:=by rw[flr_dv,if_neg (by omega)]
 have b:flr (dv (-m) e) s=-m / 2^(-(e+s)).toNat:=by rw[flr_dv,if_neg (by omega)]
 rw[show (0:Int)-(e+s)=-(e+s) by omega]
 refine⟨a.symm,?_⟩
 unfold cei
 rw[← dv_neg,b]
theorem half_enc {a b:Int}{X:Rat}{t s n:Nat}(h:t=s+n)(h1:(a:Rat)≤X*((2^t:Int):Rat))(h2:X*((2^t:Int):Rat)≤(b:Rat)) :
  ((a / 2^n:Int):Rat)≤X*((2^s:Int):Rat)∧X*((2^s:Int):Rat)≤((-(-b / 2^n):Int):Rat):=by
 have n0:(0:Rat)<((2^n:Int):Rat):=Rat.intCast_pos.2 (two_pos n)
 have e:((2^t:Int):Rat)=((2^s:Int):Rat)*((2^n:Int):Rat):=by rw[h,Int.pow_add,Rat.intCast_mul]
 rw[e,← Rat.mul_assoc] at h1 h2
 have f:=(fl_R (a:=a) (two_pos n)).1
 have g:=(ce_R (a:=b) (two_pos n)).1
 exact⟨Rat.le_of_mul_le_mul_right (Rat.le_trans f h1) n0,Rat.le_of_mul_le_mul_right (Rat.le_trans h2 g) n0⟩
theorem half_w {a b W:Int}{n:Nat}(h:b-a≤W*2^n):-(-b / 2^n)-a / 2^n≤W+1:=by
 have n0:=two_pos n
 have f1:=Int.lt_ediv_add_one_mul_self a n0
 have f2:=Int.lt_ediv_add_one_mul_self (-b) n0
 generalize a / 2^n=u at *
 generalize -b / 2^n=v at *
 generalize (2:Int)^n=T at *
 refine Decidable.byContradiction fun hn=>?_
 have m:=Int.mul_le_mul_of_nonneg_right (show W+2≤-v-u by omega) (show 0≤T by omega)
 grind
def tmLo (a b k:Int):Int:=if k<0 then b*k else a*k
def tmHi (a b k:Int):Int:=if k<0 then a*k else b*k
theorem tm_enc {a b k:Int}{y:Rat}(h1:(a:Rat)≤y)(h2:y≤(b:Rat)):((tmLo a b k:Int):Rat)≤y*k∧y*k≤((tmHi a b k:Int):Rat):=by
 unfold tmLo tmHi
 split
 ·rename_i h
  have k0:(0:Rat)≤-(k:Rat):=by rw[← Rat.intCast_neg];exact Rat.intCast_nonneg.2 (by omega)
  have m1:=Rat.mul_le_mul_of_nonneg_right h1 k0
  have m2:=Rat.mul_le_mul_of_nonneg_right h2 k0
  rw[Rat.intCast_mul,Rat.intCast_mul]
  constructor<;>grind
 ·rename_i h
  have k0:(0:Rat)≤(k:Rat):=Rat.intCast_nonneg.2 (by omega)
  have m1:=Rat.mul_le_mul_of_nonneg_right h1 k0
  have m2:=Rat.mul_le_mul_of_nonneg_right h2 k0
  rw[Rat.intCast_mul,Rat.intCast_mul]
  exact⟨m1,m2⟩
theorem tm_w {a b k W:Int}(hab:a≤b)(hk:-W≤k∧k≤W)(h:b-a<16777216):tmHi a b k-tmLo a b k≤16777216*W:=by
 unfold tmLo tmHi
 have key:∀ {x y:Int},0≤x→x≤16777216→0≤y→y≤W→x*y≤16777216*W:=fun h1 h2 h3 h4 =>
  Int.le_trans (Int.mul_le_mul_of_nonneg_right h2 h3) (Int.mul_le_mul_of_nonneg_left h4 (by omega))
 split
 ·have:=key (x:=b-a) (y:=-k) (by omega) (by omega) (by omega) (by omega)
  rw[Int.mul_neg,Int.sub_mul] at this
  omega
 ·have:=key (x:=b-a) (y:=k) (by omega) (by omega) (by omega) (by omega)
  rw[Int.sub_mul] at this
  omega
def ptLn:Int:=1921868181103848789005135799070027024580345152612047297481125309024332866685277824573051215291055110282969622901371337173642342478
def cLn:Rat:=dv ptLn (-430)
theorem cl_sc {x:Int}{t:Nat}{P:Int}(ht:t≤430):(x*2^(430-t)≤P→(x:Rat)≤dv P (-430)*((2^t:Int):Rat))∧(P≤x*2^(430-t)→dv P (-430)*((2^t:Int):Rat)≤(x:Rat)):=by
 have T0:(0:Rat)<((2^t:Int):Rat):=Rat.intCast_pos.2 (two_pos t)
 have e:dv (x*2^(430-t)) (-430)*((2^t:Int):Rat)=(x:Rat):=by
  rw[dv_shl,show (-430:Int)+((430-t:Nat):Int)=-(t:Int) by omega,dv_sc]
 constructor
 ·intro h
  have a:=Rat.mul_le_mul_of_nonneg_right ((dv_le (c:=-430)).2 h) (Rat.le_of_lt T0)
  rwa [e] at a
 ·intro h
  have a:=Rat.mul_le_mul_of_nonneg_right ((dv_le (c:=-430)).2 h) (Rat.le_of_lt T0)
  rwa [e] at a
def LnF (M:Rat)(k:Int)(K:Nat):Rat:=2*PL ((M-1) / (M+1)) K+(k:Rat)*cLn
def Encl (f:Nat→Rat)(s:Nat)(lo hi:Int):Prop:=∃ N,∀ K,N≤K→(lo:Rat)≤f K*((2^s:Int):Rat)∧f K*((2^s:Int):Rat)≤(hi:Rat)
theorem Encl.half {f:Nat→Rat}{t s n:Nat}{a b:Int}(h:Encl f t a b)(e:t=s+n):Encl f s (a / 2^n) (-(-b / 2^n)):=by
 obtain⟨N,h⟩:=h
 exact⟨N,fun K hK=>half_enc e (h K hK).1 (h K hK).2⟩
theorem Encl.le {f:Nat→Rat}{s:Nat}{a b:Int}(h:Encl f s a b):a≤b:=by
 obtain⟨N,h⟩:=h
 exact Rat.intCast_le_intCast.1 (Rat.le_trans (h N (Nat.le_refl _)).1 (h N (Nat.le_refl _)).2)
theorem Encl.meet {f:Nat→Rat}{s n:Nat}{a b c d:Int}(h:Encl f s a b)(k:Encl f (s+n) c d):a*2^n≤d∧c≤b*2^n:=by
 obtain⟨N,h⟩:=h
 obtain⟨N',k⟩:=k
 have x:=h (N+N') (by omega)
 have y:=k (N+N') (by omega)
 have n0:(0:Rat)<((2^n:Int):Rat):=Rat.intCast_pos.2 (two_pos n)
 rw[Int.pow_add,Rat.intCast_mul,← Rat.mul_assoc] at y
 have m1:=Rat.mul_le_mul_of_nonneg_right x.1 (Rat.le_of_lt n0)
 have m2:=Rat.mul_le_mul_of_nonneg_right x.2 (Rat.le_of_lt n0)
 rw[← Rat.intCast_mul] at m1 m2
 exact⟨Rat.intCast_le_intCast.1 (Rat.le_trans m1 y.2),Rat.intCast_le_intCast.1 (Rat.le_trans y.1 m2)⟩
theorem ln_add {M:Rat}{t:Nat}{k u1 u2 v1 v2:Int}{g:Bool}{Z:Rat}(hz:(M-1) / (M+1)=if g then -Z else Z){N:Nat}
  (h:∀ K,N≤K→(u1:Rat)≤PL Z K*((2^t:Int):Rat)∧PL Z K*((2^t:Int):Rat)≤(u2:Rat)) (h1:(v1:Rat)≤cLn*((2^t:Int):Rat)) (h2:cLn*((2^t:Int):Rat)≤(v2:Rat)) :
  Encl (LnF M k) t ((if g then -(u2*2) else u1*2)+tmLo v1 v2 k) ((if g then -(u1*2) else u2*2)+tmHi v1 v2 k):=by
 have m:=tm_enc (k:=k) h1 h2
 refine⟨N,fun K hK=>?_⟩
 have q:=h K hK
 unfold LnF
 rw[hz]
 cases g with
 | false =>
  simp only [Bool.false_eq_true,if_false]
  rw[Rat.intCast_add,Rat.intCast_add,Rat.intCast_mul,Rat.intCast_mul,two_R]
  constructor<;>grind
 | true =>
  simp only [if_true]
  rw[PL_neg,Rat.intCast_add,Rat.intCast_add,Rat.intCast_neg,Rat.intCast_neg,Rat.intCast_mul,Rat.intCast_mul,two_R]
  constructor<;>grind
theorem cmpI_le (x y:Int):cmpI x y≤0↔x≤y:=by unfold cmpI;split<;>(try split)<;>omega
theorem Sp_of {a b c d:Int}(h1:a=c)(h2:b=d):vsub (.agg [.bool (decide (a<0)),N a.natAbs,.bool (decide (b<0)),N b.natAbs]) (.agg [.bool (decide (c<0)),N c.natAbs,.bool (decide (d<0)),N d.natAbs]):=by
 subst h1;subst h2;exact vsub_refl _
theorem pt_hi1 {b d:Int}(h:((b.natAbs%d.toNat:Nat):Int)≠0):sgn false (b.natAbs / d.toNat+(1:Int).toNat)=ptHi b d:=by
 unfold ptHi
 rw[if_neg (by omega)];rfl
theorem pt_hi2 {b d:Int}(h:((b.natAbs%d.toNat:Nat):Int)=0):sgn false (b.natAbs / d.toNat)=ptHi b d:=by
 unfold ptHi
 rw[if_pos (by omega)];rfl
theorem tiny_8 {b:Int}:iLe (nbits b.natAbs:Int) 3=decide (b.natAbs<8):=by
 unfold iLe
 have h:(nbits b.natAbs:Int)≤3↔b.natAbs<8:=by
  constructor
  ·intro h
   have l:=nbits_lt b.natAbs
   have:=Nat.pow_le_pow_right (n:=2) (by omega) (show nbits b.natAbs≤3 by omega)
   omega
  ·intro h
   have:=nbits_of_lt (x:=b.natAbs) (k:=3) (by omega)
   omega
 exact decide_eq_decide.2 h
theorem arcT_pos (n:Int)(g:Bool)(s:Int):0≤(arcT n g s).1:=by
 have key:∀ (f:Nat) (n:Nat) (k:Int) (p:Nat) (a:Int),0≤k→0≤(arcG n g f k p a).1:=by
  intro f
  induction f with
  | zero=>intro n k p a h;exact h
  | succ f ih =>
   intro n k p a h
   rw[arcG]
   split
   ·exact h
   ·exact ih _ _ _ _ (by omega)
 exact key _ _ _ _ _ (Int.le_refl _)
end Go.Proofs.YtkkbddkpggjgpaaGreatDoor
