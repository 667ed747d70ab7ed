/-
  Lower layers: what functions of the program compute, and plain facts. Conditions: as the theorems say.
-/
import Derived.Test.YtcbihoojfakhdaaGreatDoorPgP
set_option linter.unusedVariables false
set_option linter.unusedSimpArgs false
namespace Go.Proofs.YtcbihoojfakhdaaGreatDoor
open Go.RowKit
set_option maxRecDepth 100000
def ar_mul_mk (m ee n f p g q h:Int)(x:(Int × Int × Int × Int × Int)⊕((Int × Int × Int × Int × Int)⊕((Int × Int × Int × Int × Int)⊕(Int × Int × Int × Int × Int)))):St:=Sum.elim (fun (x:Int × Int × Int × Int × Int)=>⟨mkS 69 [(2,(.own 0 0)),(3,(.own 1 0)),(5,(.own 2 0)),(6,(.val (.int .i64 x.2.2.2.2))),(7,(.own 3 0)),(36,(.val (.agg [(.bool (decide (m<0))),(N m.natAbs),(.int .i64 ee),(.bool (decide (q<0))),(N q.natAbs),(.int .i64 h),(.bool (decide (n<0))),(N n.natAbs),(.int .i64 f),(.bool (decide (p<0))),(N p.natAbs),(.int .i64 g),(.bool (decide (n<0))),(N n.natAbs),(.int .i64 f),(.bool (decide (q<0))),(N q.natAbs),(.int .i64 h)]))),(37,(.val (.int .i64 0)))],[⟨true,false,[(V.bool false),V.nil,(V.int .i64 0)]⟩,⟨true,false,[(V.bool false),V.nil,(V.int .i64 0)]⟩,⟨true,false,[(V.bool (decide (x.1<0))),(N x.1.natAbs),(V.int .i64 x.2.1)]⟩,⟨true,false,[(V.bool (decide (x.2.2.1<0))),(N x.2.2.1.natAbs),(V.int .i64 x.2.2.2.1)]⟩]⟩) (fun (x:(Int × Int × Int × Int × Int)⊕((Int × Int × Int × Int × Int)⊕(Int × Int × Int × Int × Int)))=>Sum.elim (fun (x:Int × Int × Int × Int × Int)=>⟨mkS 69 [(2,(.own 0 0)),(3,(.own 1 0)),(5,(.own 2 0)),(6,(.val (.int .i64 x.2.2.2.2))),(7,(.own 3 0)),(36,(.val (.agg [(.bool (decide (m<0))),(N m.natAbs),(.int .i64 ee),(.bool (decide (q<0))),(N q.natAbs),(.int .i64 h),(.bool (decide (n<0))),(N n.natAbs),(.int .i64 f),(.bool (decide (p<0))),(N p.natAbs),(.int .i64 g),(.bool (decide (n<0))),(N n.natAbs),(.int .i64 f),(.bool (decide (q<0))),(N q.natAbs),(.int .i64 h)]))),(37,(.val (.int .i64 1)))],[⟨true,false,[(V.bool false),V.nil,(V.int .i64 0)]⟩,⟨true,false,[(V.bool false),V.nil,(V.int .i64 0)]⟩,⟨true,false,[(V.bool (decide (x.1<0))),(N x.1.natAbs),(V.int .i64 x.2.1)]⟩,⟨true,false,[(V.bool (decide (x.2.2.1<0))),(N x.2.2.1.natAbs),(V.int .i64 x.2.2.2.1)]⟩]⟩) (fun (x:(Int × Int × Int × Int × Int)⊕(Int × Int × Int × Int × Int))=>Sum.elim (fun (x:Int × Int × Int × Int × Int)=>⟨mkS 69 [(2,(.own 0 0)),(3,(.own 1 0)),(5,(.own 2 0)),(6,(.val (.int .i64 x.2.2.2.2))),(7,(.own 3 0)),(36,(.val (.agg [(.bool (decide (m<0))),(N m.natAbs),(.int .i64 ee),(.bool (decide (q<0))),(N q.natAbs),(.int .i64 h),(.bool (decide (n<0))),(N n.natAbs),(.int .i64 f),(.bool (decide (p<0))),(N p.natAbs),(.int .i64 g),(.bool (decide (n<0))),(N n.natAbs),(.int .i64 f),(.bool (decide (q<0))),(N q.natAbs),(.int .i64 h)]))),(37,(.val (.int .i64 2)))],[⟨true,false,[(V.bool false),V.nil,(V.int .i64 0)]⟩,⟨true,false,[(V.bool false),V.nil,(V.int .i64 0)]⟩,⟨true,false,[(V.bool (decide (x.1<0))),(N x.1.natAbs),(V.int .i64 x.2.1)]⟩,⟨true,false,[(V.bool (decide (x.2.2.1<0))),(N x.2.2.1.natAbs),(V.int .i64 x.2.2.2.1)]⟩]⟩) (fun (x:Int × Int × Int × Int × Int)=>⟨mkS 69 [(2,(.own 0 0)),(3,(.own 1 0)),(5,(.own 2 0)),(6,(.val (.int .i64 x.2.2.2.2))),(7,(.own 3 0)),(36,(.val (.agg [(.bool (decide (m<0))),(N m.natAbs),(.int .i64 ee),(.bool (decide (q<0))),(N q.natAbs),(.int .i64 h),(.bool (decide (n<0))),(N n.natAbs),(.int .i64 f),(.bool (decide (p<0))),(N p.natAbs),(.int .i64 g),(.bool (decide (n<0))),(N n.natAbs),(.int .i64 f),(.bool (decide (q<0))),(N q.natAbs),(.int .i64 h)]))),(37,(.val (.int .i64 3)))],[⟨true,false,[(V.bool false),V.nil,(V.int .i64 0)]⟩,⟨true,false,[(V.bool false),V.nil,(V.int .i64 0)]⟩,⟨true,false,[(V.bool (decide (x.1<0))),(N x.1.natAbs),(V.int .i64 x.2.1)]⟩,⟨true,false,[(V.bool (decide (x.2.2.1<0))),(N x.2.2.1.natAbs),(V.int .i64 x.2.2.2.1)]⟩]⟩) x) x) x
def ar_mul_I (m ee n f p g q h:Int)(x:(Int × Int × Int × Int × Int)⊕((Int × Int × Int × Int × Int)⊕((Int × Int × Int × Int × Int)⊕(Int × Int × Int × Int × Int)))):Prop:=Sum.elim (fun (x:Int × Int × Int × Int × Int)=>(x.1=(pdt m ee p g).1∧x.2.1=(pdt m ee p g).2)∧(x.2.2.1=(pdt m ee p g).1∧x.2.2.2.1=(pdt m ee p g).2)∧x.2.2.2.2=0∧SzP 1200 (x.1,x.2.1)∧SzP 1200 (x.2.2.1,x.2.2.2.1)) (fun (x:(Int × Int × Int × Int × Int)⊕((Int × Int × Int × Int × Int)⊕(Int × Int × Int × Int × Int)))=>Sum.elim (fun (x:Int × Int × Int × Int × Int)=>(x.1=(pmn (pdt m ee p g) (pdt m ee q h)).1∧x.2.1=(pmn (pdt m ee p g) (pdt m ee q h)).2)∧(x.2.2.1=(pmx (pdt m ee p g) (pdt m ee q h)).1∧x.2.2.2.1=(pmx (pdt m ee p g) (pdt m ee q h)).2)∧x.2.2.2.2=0∧SzP 1200 (x.1,x.2.1)∧SzP 1200 (x.2.2.1,x.2.2.2.1)) (fun (x:(Int × Int × Int × Int × Int)⊕(Int × Int × Int × Int × Int))=>Sum.elim (fun (x:Int × Int × Int × Int × Int)=>(x.1=(pmn (pmn (pdt m ee p g) (pdt m ee q h)) (pdt n f p g)).1∧x.2.1=(pmn (pmn (pdt m ee p g) (pdt m ee q h)) (pdt n f p g)).2)∧(x.2.2.1=(pmx (pmx (pdt m ee p g) (pdt m ee q h)) (pdt n f p g)).1∧x.2.2.2.1=(pmx (pmx (pdt m ee p g) (pdt m ee q h)) (pdt n f p g)).2)∧x.2.2.2.2=0∧SzP 1200 (x.1,x.2.1)∧SzP 1200 (x.2.2.1,x.2.2.2.1)) (fun (x:Int × Int × Int × Int × Int)=>(x.1=(pmn (pmn (pmn (pdt m ee p g) (pdt m ee q h)) (pdt n f p g)) (pdt n f q h)).1∧x.2.1=(pmn (pmn (pmn (pdt m ee p g) (pdt m ee q h)) (pdt n f p g)) (pdt n f q h)).2)∧(x.2.2.1=(pmx (pmx (pmx (pdt m ee p g) (pdt m ee q h)) (pdt n f p g)) (pdt n f q h)).1∧x.2.2.2.1=(pmx (pmx (pmx (pdt m ee p g) (pdt m ee q h)) (pdt n f p g)) (pdt n f q h)).2)∧x.2.2.2.2=0∧SzP 1200 (x.1,x.2.1)∧SzP 1200 (x.2.2.1,x.2.2.2.1)) x) x) x
def ar_mul_mu (_ _ _ _ _ _ _ _:Int)(x:(Int × Int × Int × Int × Int)⊕((Int × Int × Int × Int × Int)⊕((Int × Int × Int × Int × Int)⊕(Int × Int × Int × Int × Int)))):Nat:=Sum.elim (fun (x:Int × Int × Int × Int × Int)=>9-0) (fun (x:(Int × Int × Int × Int × Int)⊕((Int × Int × Int × Int × Int)⊕(Int × Int × Int × Int × Int)))=>Sum.elim (fun (x:Int × Int × Int × Int × Int)=>9-1) (fun (x:(Int × Int × Int × Int × Int)⊕(Int × Int × Int × Int × Int))=>Sum.elim (fun (x:Int × Int × Int × Int × Int)=>9-2) (fun (x:Int × Int × Int × Int × Int)=>9-3) x) x) x
def ar_mul_ex (_ _ _ _ _ _ _ _:Int)(y:Int × Int × Int × Int × Int):Ex × St:=(.exit 0,⟨mkS 69 [(2,(.own 0 0)),(3,(.own 1 0)),(5,(.own 2 0)),(6,(.val (.int .i64 y.2.2.2.2))),(7,(.own 3 0))],[⟨true,false,[(V.bool false),V.nil,(V.int .i64 0)]⟩,⟨true,false,[(V.bool false),V.nil,(V.int .i64 0)]⟩,⟨true,false,[(V.bool (decide (y.1<0))),(N y.1.natAbs),(V.int .i64 y.2.1)]⟩,⟨true,false,[(V.bool (decide (y.2.2.1<0))),(N y.2.2.1.natAbs),(V.int .i64 y.2.2.2.1)]⟩]⟩)
def ar_mul_J (m ee n f p g q h:Int)(y:Int × Int × Int × Int × Int):Prop:=(y.1=(pmn (pmn (pmn (pdt m ee p g) (pdt m ee q h)) (pdt n f p g)) (pdt n f q h)).1∧y.2.1=(pmn (pmn (pmn (pdt m ee p g) (pdt m ee q h)) (pdt n f p g)) (pdt n f q h)).2)∧(y.2.2.1=(pmx (pmx (pmx (pdt m ee p g) (pdt m ee q h)) (pdt n f p g)) (pdt n f q h)).1∧y.2.2.2.1=(pmx (pmx (pmx (pdt m ee p g) (pdt m ee q h)) (pdt n f p g)) (pdt n f q h)).2)∧y.2.2.2.2=0∧SzP 1200 (y.1,y.2.1)∧SzP 1200 (y.2.2.1,y.2.2.2.1)
abbrev ar_mul_N (m ee n f p g q h:Int):=NX (ar_mul_mk m ee n f p g q h) (ar_mul_I m ee n f p g q h) (ar_mul_mu m ee n f p g q h) (ar_mul_ex m ee n f p g q h) (ar_mul_J m ee n f p g q h)
theorem ar_mul (m ee n f p g q h:Int)(c0:L (m).natAbs≤600)(c1:(-20000:Int)≤ee∧ee≤20000)(c2:L (n).natAbs≤600)(c3:(-20000:Int)≤f∧f≤20000)(c4:L (p).natAbs≤600)(c5:(-20000:Int)≤g∧g≤20000)(c6:L (q).natAbs≤600)(c7:(-20000:Int)≤h∧h≤20000)(c8:mkE (m*p) (ee+g)=0)(c9:mkE (m*q) (ee+h)=0)(c10:mkE (n*p) (f+g)=0)(c11:mkE (n*q) (f+h)=0)(x0:(Int × Int × Int × Int × Int)⊕((Int × Int × Int × Int × Int)⊕((Int × Int × Int × Int × Int)⊕(Int × Int × Int × Int × Int))))(hI:ar_mul_I m ee n f p g q h x0):LoopOk Tryz.prog Amb (loopN Tryz.f105 0) (ar_mul_mk m ee n f p g q h x0) (fun e st_=>∃ y,ar_mul_J m ee n f p g q h y∧ar_mul_ex m ee n f p g q h y=(e,st_)) :=
 loop_ob hP hAmb ⟨[2,3,5,6,7,36,37],4,[]⟩ (ar_mul_mk m ee n f p g q h) (ar_mul_I m ee n f p g q h) (ar_mul_mu m ee n f p g q h) (ar_mul_ex m ee n f p g q h) (ar_mul_J m ee n f p g q h) x0 hI (Sum.elim (fun (M,X,N_,F,er)=>.lits 2<|.yes<|.lits 7<|.call (exT (m*q) (ee+h))<|.lits 5<|.call (.int .i64 (cmpD (mkM (m*q) (ee+h)) (mkX (m*q) (ee+h)) M X))<|.lit<|.both (.lits 5<|.call (.int .i64 (cmpD (mkM (m*q) (ee+h)) (mkX (m*q) (ee+h)) N_ F))<|.lit<|.both (.lits 3<|.yes<|.fin3 ⟨[2,3,5,6,7,36,37],[0,1,2,3]⟩) (.lit<|.yes<|.fin3 ⟨[2,3,5,6,7,36,37],[0,1,2,3]⟩)) (.lits 3<|.call (.int .i64 (cmpD (mkM (m*q) (ee+h)) (mkX (m*q) (ee+h)) N_ F))<|.lit<|.both (.lits 3<|.yes<|.fin3 ⟨[2,3,5,6,7,36,37],[0,1,2,3]⟩) (.lit<|.yes<|.fin3 ⟨[2,3,5,6,7,36,37],[0,1,2,3]⟩))) (Sum.elim (fun (M,X,N_,F,er)=>.lits 2<|.yes<|.lits 7<|.call (exT (n*p) (f+g))<|.lits 5<|.call (.int .i64 (cmpD (mkM (n*p) (f+g)) (mkX (n*p) (f+g)) M X))<|.lit<|.both (.lits 5<|.call (.int .i64 (cmpD (mkM (n*p) (f+g)) (mkX (n*p) (f+g)) N_ F))<|.lit<|.both (.lits 3<|.yes<|.fin3 ⟨[2,3,5,6,7,36,37],[0,1,2,3]⟩) (.lit<|.yes<|.fin3 ⟨[2,3,5,6,7,36,37],[0,1,2,3]⟩)) (.lits 3<|.call (.int .i64 (cmpD (mkM (n*p) (f+g)) (mkX (n*p) (f+g)) N_ F))<|.lit<|.both (.lits 3<|.yes<|.fin3 ⟨[2,3,5,6,7,36,37],[0,1,2,3]⟩) (.lit<|.yes<|.fin3 ⟨[2,3,5,6,7,36,37],[0,1,2,3]⟩))) (Sum.elim (fun (M,X,N_,F,er)=>.lits 2<|.yes<|.lits 7<|.call (exT (n*q) (f+h))<|.lits 5<|.call (.int .i64 (cmpD (mkM (n*q) (f+h)) (mkX (n*q) (f+h)) M X))<|.lit<|.both (.lits 5<|.call (.int .i64 (cmpD (mkM (n*q) (f+h)) (mkX (n*q) (f+h)) N_ F))<|.lit<|.both (.lits 3<|.yes<|.fin3 ⟨[2,3,5,6,7,36,37],[0,1,2,3]⟩) (.lit<|.yes<|.fin3 ⟨[2,3,5,6,7,36,37],[0,1,2,3]⟩)) (.lits 3<|.call (.int .i64 (cmpD (mkM (n*q) (f+h)) (mkX (n*q) (f+h)) N_ F))<|.lit<|.both (.lits 3<|.yes<|.fin3 ⟨[2,3,5,6,7,36,37],[0,1,2,3]⟩) (.lit<|.yes<|.fin3 ⟨[2,3,5,6,7,36,37],[0,1,2,3]⟩))) (fun (M,X,N_,F,er)=>.lits 2<|.fin2 ⟨[2,3,5,6,7],4,[]⟩)))) (by
  rintro (⟨M,X,N_,F,er⟩ | ⟨M,X,N_,F,er⟩ | ⟨M,X,N_,F,er⟩ | ⟨M,X,N_,F,er⟩) hI
  ·skip
   have hI:(M=(pdt m ee p g).1∧X=(pdt m ee p g).2)∧(N_=(pdt m ee p g).1∧F=(pdt m ee p g).2)∧er=0∧SzP 1200 (M,X)∧SzP 1200 (N_,F):=hI
   obtain ⟨⟨hM,hX⟩,⟨hN,hF⟩,h0,s1,s2⟩:=hI
   have ⟨s3,s4,s5⟩:=s1
   have ⟨s6,s7,s8⟩:=s2
   have s9:=SzP_mk s1
   simp only at s3 s4 s5 s6 s7 s8
   exact cast_ob (aI True.intro (aI tT (aI (dy_Mul m ee q h oO oO oO oO) (have f112:=ex_range (m*q) (ee+h); have f111:=mk_facts (m*q) (ee+h); have f110:=L_abs_mul m q; aI (dy_Cmp (mkM (m*q) (ee+h)) (mkX (m*q) (ee+h)) M X oO oO oO oO) (have f109:=cmpD_range (mkM (m*q) (ee+h)) (mkX (m*q) (ee+h)) M X; aI (fun (h101:(iLt (cmpD (mkM (m*q) (ee+h)) (mkX (m*q) (ee+h)) M X) 0)=true)=>have _gh101:=iLt_t h101; aI (dy_Cmp (mkM (m*q) (ee+h)) (mkX (m*q) (ee+h)) N_ F oO oO oO oO) (have f104:=cmpD_range (mkM (m*q) (ee+h)) (mkX (m*q) (ee+h)) N_ F; aI (fun (h102:(iGt (cmpD (mkM (m*q) (ee+h)) (mkX (m*q) (ee+h)) N_ F) 0)=true)=>have _gh102:=iGt_t h102; aI tT (aI tT ((nx_next (Sum.inr (Sum.inl ((mkM (m*q) (ee+h)),(mkX (m*q) (ee+h)),(mkM (m*q) (ee+h)),(mkX (m*q) (ee+h)),(iMax er (exE (m*q) (ee+h)))))) (show ((mkM (m*q) (ee+h))=(pmn (pdt m ee p g) (pdt m ee q h)).1∧(mkX (m*q) (ee+h))=(pmn (pdt m ee p g) (pdt m ee q h)).2)∧((mkM (m*q) (ee+h))=(pmx (pdt m ee p g) (pdt m ee q h)).1∧(mkX (m*q) (ee+h))=(pmx (pdt m ee p g) (pdt m ee q h)).2)∧(iMax er (exE (m*q) (ee+h)))=0∧SzP 1200 ((mkM (m*q) (ee+h)),(mkX (m*q) (ee+h)))∧SzP 1200 ((mkM (m*q) (ee+h)),(mkX (m*q) (ee+h))) from ⟨mn_yes hM hX (b:=(pdt m ee q h)) (show cmpD (mkM (m*q) (ee+h)) (mkX (m*q) (ee+h)) M X<0 by omega),mx_yes hN hF (b:=(pdt m ee q h)) (show 0<cmpD (mkM (m*q) (ee+h)) (mkX (m*q) (ee+h)) N_ F by omega),by unfold iMax; split<;>omega,(pdt_sz (m:=m) (e:=ee) (n:=q) (f:=h) (k:=1200) oO),(pdt_sz (m:=m) (e:=ee) (n:=q) (f:=h) (k:=1200) oO)⟩) (show 9-1<9-0 by omega):ar_mul_N m ee n f p g q h (Sum.inl (M,X,N_,F,er)) .normal (ar_mul_mk m ee n f p g q h (Sum.inr (Sum.inl ((mkM (m*q) (ee+h)),(mkX (m*q) (ee+h)),(mkM (m*q) (ee+h)),(mkX (m*q) (ee+h)),(iMax er (exE (m*q) (ee+h))))))))))) (fun (h103:(iGt (cmpD (mkM (m*q) (ee+h)) (mkX (m*q) (ee+h)) N_ F) 0)=false)=>have _gh103:=iGt_f h103; aI tT (aI tT ((nx_next (Sum.inr (Sum.inl ((mkM (m*q) (ee+h)),(mkX (m*q) (ee+h)),N_,F,(iMax er (exE (m*q) (ee+h)))))) (show ((mkM (m*q) (ee+h))=(pmn (pdt m ee p g) (pdt m ee q h)).1∧(mkX (m*q) (ee+h))=(pmn (pdt m ee p g) (pdt m ee q h)).2)∧(N_=(pmx (pdt m ee p g) (pdt m ee q h)).1∧F=(pmx (pdt m ee p g) (pdt m ee q h)).2)∧(iMax er (exE (m*q) (ee+h)))=0∧SzP 1200 ((mkM (m*q) (ee+h)),(mkX (m*q) (ee+h)))∧SzP 1200 (N_,F) from ⟨mn_yes hM hX (b:=(pdt m ee q h)) (show cmpD (mkM (m*q) (ee+h)) (mkX (m*q) (ee+h)) M X<0 by omega),mx_no hN hF (b:=(pdt m ee q h)) (show cmpD (mkM (m*q) (ee+h)) (mkX (m*q) (ee+h)) N_ F≤0 by omega),by unfold iMax; split<;>omega,(pdt_sz (m:=m) (e:=ee) (n:=q) (f:=h) (k:=1200) oO),s2⟩) (show 9-1<9-0 by omega):ar_mul_N m ee n f p g q h (Sum.inl (M,X,N_,F,er)) .normal (ar_mul_mk m ee n f p g q h (Sum.inr (Sum.inl ((mkM (m*q) (ee+h)),(mkX (m*q) (ee+h)),N_,F,(iMax er (exE (m*q) (ee+h))))))))))))) (fun (h105:(iLt (cmpD (mkM (m*q) (ee+h)) (mkX (m*q) (ee+h)) M X) 0)=false)=>have _gh105:=iLt_f h105; aI (dy_Cmp (mkM (m*q) (ee+h)) (mkX (m*q) (ee+h)) N_ F oO oO oO oO) (have f108:=cmpD_range (mkM (m*q) (ee+h)) (mkX (m*q) (ee+h)) N_ F; aI (fun (h106:(iGt (cmpD (mkM (m*q) (ee+h)) (mkX (m*q) (ee+h)) N_ F) 0)=true)=>have _gh106:=iGt_t h106; aI tT (aI tT ((nx_next (Sum.inr (Sum.inl (M,X,(mkM (m*q) (ee+h)),(mkX (m*q) (ee+h)),(iMax er (exE (m*q) (ee+h)))))) (show (M=(pmn (pdt m ee p g) (pdt m ee q h)).1∧X=(pmn (pdt m ee p g) (pdt m ee q h)).2)∧((mkM (m*q) (ee+h))=(pmx (pdt m ee p g) (pdt m ee q h)).1∧(mkX (m*q) (ee+h))=(pmx (pdt m ee p g) (pdt m ee q h)).2)∧(iMax er (exE (m*q) (ee+h)))=0∧SzP 1200 (M,X)∧SzP 1200 ((mkM (m*q) (ee+h)),(mkX (m*q) (ee+h))) from ⟨mn_no hM hX (b:=(pdt m ee q h)) (show 0≤cmpD (mkM (m*q) (ee+h)) (mkX (m*q) (ee+h)) M X by omega),mx_yes hN hF (b:=(pdt m ee q h)) (show 0<cmpD (mkM (m*q) (ee+h)) (mkX (m*q) (ee+h)) N_ F by omega),by unfold iMax; split<;>omega,s1,(pdt_sz (m:=m) (e:=ee) (n:=q) (f:=h) (k:=1200) oO)⟩) (show 9-1<9-0 by omega):ar_mul_N m ee n f p g q h (Sum.inl (M,X,N_,F,er)) .normal (ar_mul_mk m ee n f p g q h (Sum.inr (Sum.inl (M,X,(mkM (m*q) (ee+h)),(mkX (m*q) (ee+h)),(iMax er (exE (m*q) (ee+h))))))))))) (fun (h107:(iGt (cmpD (mkM (m*q) (ee+h)) (mkX (m*q) (ee+h)) N_ F) 0)=false)=>have _gh107:=iGt_f h107; aI tT (aI tT ((nx_next (Sum.inr (Sum.inl (M,X,N_,F,(iMax er (exE (m*q) (ee+h)))))) (show (M=(pmn (pdt m ee p g) (pdt m ee q h)).1∧X=(pmn (pdt m ee p g) (pdt m ee q h)).2)∧(N_=(pmx (pdt m ee p g) (pdt m ee q h)).1∧F=(pmx (pdt m ee p g) (pdt m ee q h)).2)∧(iMax er (exE (m*q) (ee+h)))=0∧SzP 1200 (M,X)∧SzP 1200 (N_,F) from ⟨mn_no hM hX (b:=(pdt m ee q h)) (show 0≤cmpD (mkM (m*q) (ee+h)) (mkX (m*q) (ee+h)) M X by omega),mx_no hN hF (b:=(pdt m ee q h)) (show cmpD (mkM (m*q) (ee+h)) (mkX (m*q) (ee+h)) N_ F≤0 by omega),by unfold iMax; split<;>omega,s1,s2⟩) (show 9-1<9-0 by omega):ar_mul_N m ee n f p g q h (Sum.inl (M,X,N_,F,er)) .normal (ar_mul_mk m ee n f p g q h (Sum.inr (Sum.inl (M,X,N_,F,(iMax er (exE (m*q) (ee+h)))))))))))))))))) (by kernel_rfl)
  ·skip
   have hI:(M=(pmn (pdt m ee p g) (pdt m ee q h)).1∧X=(pmn (pdt m ee p g) (pdt m ee q h)).2)∧(N_=(pmx (pdt m ee p g) (pdt m ee q h)).1∧F=(pmx (pdt m ee p g) (pdt m ee q h)).2)∧er=0∧SzP 1200 (M,X)∧SzP 1200 (N_,F):=hI
   obtain ⟨⟨hM,hX⟩,⟨hN,hF⟩,h0,s1,s2⟩:=hI
   have ⟨s3,s4,s5⟩:=s1
   have ⟨s6,s7,s8⟩:=s2
   have s9:=SzP_mk s1
   simp only at s3 s4 s5 s6 s7 s8
   exact cast_ob (aI True.intro (aI tT (aI (dy_Mul n f p g oO oO oO oO) (have f112:=ex_range (n*p) (f+g); have f111:=mk_facts (n*p) (f+g); have f110:=L_abs_mul n p; aI (dy_Cmp (mkM (n*p) (f+g)) (mkX (n*p) (f+g)) M X oO oO oO oO) (have f109:=cmpD_range (mkM (n*p) (f+g)) (mkX (n*p) (f+g)) M X; aI (fun (h101:(iLt (cmpD (mkM (n*p) (f+g)) (mkX (n*p) (f+g)) M X) 0)=true)=>have _gh101:=iLt_t h101; aI (dy_Cmp (mkM (n*p) (f+g)) (mkX (n*p) (f+g)) N_ F oO oO oO oO) (have f104:=cmpD_range (mkM (n*p) (f+g)) (mkX (n*p) (f+g)) N_ F; aI (fun (h102:(iGt (cmpD (mkM (n*p) (f+g)) (mkX (n*p) (f+g)) N_ F) 0)=true)=>have _gh102:=iGt_t h102; aI tT (aI tT ((nx_next (Sum.inr (Sum.inr (Sum.inl ((mkM (n*p) (f+g)),(mkX (n*p) (f+g)),(mkM (n*p) (f+g)),(mkX (n*p) (f+g)),(iMax er (exE (n*p) (f+g))))))) (show ((mkM (n*p) (f+g))=(pmn (pmn (pdt m ee p g) (pdt m ee q h)) (pdt n f p g)).1∧(mkX (n*p) (f+g))=(pmn (pmn (pdt m ee p g) (pdt m ee q h)) (pdt n f p g)).2)∧((mkM (n*p) (f+g))=(pmx (pmx (pdt m ee p g) (pdt m ee q h)) (pdt n f p g)).1∧(mkX (n*p) (f+g))=(pmx (pmx (pdt m ee p g) (pdt m ee q h)) (pdt n f p g)).2)∧(iMax er (exE (n*p) (f+g)))=0∧SzP 1200 ((mkM (n*p) (f+g)),(mkX (n*p) (f+g)))∧SzP 1200 ((mkM (n*p) (f+g)),(mkX (n*p) (f+g))) from ⟨mn_yes hM hX (b:=(pdt n f p g)) (show cmpD (mkM (n*p) (f+g)) (mkX (n*p) (f+g)) M X<0 by omega),mx_yes hN hF (b:=(pdt n f p g)) (show 0<cmpD (mkM (n*p) (f+g)) (mkX (n*p) (f+g)) N_ F by omega),by unfold iMax; split<;>omega,(pdt_sz (m:=n) (e:=f) (n:=p) (f:=g) (k:=1200) oO),(pdt_sz (m:=n) (e:=f) (n:=p) (f:=g) (k:=1200) oO)⟩) (show 9-2<9-1 by omega):ar_mul_N m ee n f p g q h (Sum.inr (Sum.inl (M,X,N_,F,er))) .normal (ar_mul_mk m ee n f p g q h (Sum.inr (Sum.inr (Sum.inl ((mkM (n*p) (f+g)),(mkX (n*p) (f+g)),(mkM (n*p) (f+g)),(mkX (n*p) (f+g)),(iMax er (exE (n*p) (f+g)))))))))))) (fun (h103:(iGt (cmpD (mkM (n*p) (f+g)) (mkX (n*p) (f+g)) N_ F) 0)=false)=>have _gh103:=iGt_f h103; aI tT (aI tT ((nx_next (Sum.inr (Sum.inr (Sum.inl ((mkM (n*p) (f+g)),(mkX (n*p) (f+g)),N_,F,(iMax er (exE (n*p) (f+g))))))) (show ((mkM (n*p) (f+g))=(pmn (pmn (pdt m ee p g) (pdt m ee q h)) (pdt n f p g)).1∧(mkX (n*p) (f+g))=(pmn (pmn (pdt m ee p g) (pdt m ee q h)) (pdt n f p g)).2)∧(N_=(pmx (pmx (pdt m ee p g) (pdt m ee q h)) (pdt n f p g)).1∧F=(pmx (pmx (pdt m ee p g) (pdt m ee q h)) (pdt n f p g)).2)∧(iMax er (exE (n*p) (f+g)))=0∧SzP 1200 ((mkM (n*p) (f+g)),(mkX (n*p) (f+g)))∧SzP 1200 (N_,F) from ⟨mn_yes hM hX (b:=(pdt n f p g)) (show cmpD (mkM (n*p) (f+g)) (mkX (n*p) (f+g)) M X<0 by omega),mx_no hN hF (b:=(pdt n f p g)) (show cmpD (mkM (n*p) (f+g)) (mkX (n*p) (f+g)) N_ F≤0 by omega),by unfold iMax; split<;>omega,(pdt_sz (m:=n) (e:=f) (n:=p) (f:=g) (k:=1200) oO),s2⟩) (show 9-2<9-1 by omega):ar_mul_N m ee n f p g q h (Sum.inr (Sum.inl (M,X,N_,F,er))) .normal (ar_mul_mk m ee n f p g q h (Sum.inr (Sum.inr (Sum.inl ((mkM (n*p) (f+g)),(mkX (n*p) (f+g)),N_,F,(iMax er (exE (n*p) (f+g)))))))))))))) (fun (h105:(iLt (cmpD (mkM (n*p) (f+g)) (mkX (n*p) (f+g)) M X) 0)=false)=>have _gh105:=iLt_f h105; aI (dy_Cmp (mkM (n*p) (f+g)) (mkX (n*p) (f+g)) N_ F oO oO oO oO) (have f108:=cmpD_range (mkM (n*p) (f+g)) (mkX (n*p) (f+g)) N_ F; aI (fun (h106:(iGt (cmpD (mkM (n*p) (f+g)) (mkX (n*p) (f+g)) N_ F) 0)=true)=>have _gh106:=iGt_t h106; aI tT (aI tT ((nx_next (Sum.inr (Sum.inr (Sum.inl (M,X,(mkM (n*p) (f+g)),(mkX (n*p) (f+g)),(iMax er (exE (n*p) (f+g))))))) (show (M=(pmn (pmn (pdt m ee p g) (pdt m ee q h)) (pdt n f p g)).1∧X=(pmn (pmn (pdt m ee p g) (pdt m ee q h)) (pdt n f p g)).2)∧((mkM (n*p) (f+g))=(pmx (pmx (pdt m ee p g) (pdt m ee q h)) (pdt n f p g)).1∧(mkX (n*p) (f+g))=(pmx (pmx (pdt m ee p g) (pdt m ee q h)) (pdt n f p g)).2)∧(iMax er (exE (n*p) (f+g)))=0∧SzP 1200 (M,X)∧SzP 1200 ((mkM (n*p) (f+g)),(mkX (n*p) (f+g))) from ⟨mn_no hM hX (b:=(pdt n f p g)) (show 0≤cmpD (mkM (n*p) (f+g)) (mkX (n*p) (f+g)) M X by omega),mx_yes hN hF (b:=(pdt n f p g)) (show 0<cmpD (mkM (n*p) (f+g)) (mkX (n*p) (f+g)) N_ F by omega),by unfold iMax; split<;>omega,s1,(pdt_sz (m:=n) (e:=f) (n:=p) (f:=g) (k:=1200) oO)⟩) (show 9-2<9-1 by omega):ar_mul_N m ee n f p g q h (Sum.inr (Sum.inl (M,X,N_,F,er))) .normal (ar_mul_mk m ee n f p g q h (Sum.inr (Sum.inr (Sum.inl (M,X,(mkM (n*p) (f+g)),(mkX (n*p) (f+g)),(iMax er (exE (n*p) (f+g)))))))))))) (fun (h107:(iGt (cmpD (mkM (n*p) (f+g)) (mkX (n*p) (f+g)) N_ F) 0)=false)=>have _gh107:=iGt_f h107; aI tT (aI tT ((nx_next (Sum.inr (Sum.inr (Sum.inl (M,X,N_,F,(iMax er (exE (n*p) (f+g))))))) (show (M=(pmn (pmn (pdt m ee p g) (pdt m ee q h)) (pdt n f p g)).1∧X=(pmn (pmn (pdt m ee p g) (pdt m ee q h)) (pdt n f p g)).2)∧(N_=(pmx (pmx (pdt m ee p g) (pdt m ee q h)) (pdt n f p g)).1∧F=(pmx (pmx (pdt m ee p g) (pdt m ee q h)) (pdt n f p g)).2)∧(iMax er (exE (n*p) (f+g)))=0∧SzP 1200 (M,X)∧SzP 1200 (N_,F) from ⟨mn_no hM hX (b:=(pdt n f p g)) (show 0≤cmpD (mkM (n*p) (f+g)) (mkX (n*p) (f+g)) M X by omega),mx_no hN hF (b:=(pdt n f p g)) (show cmpD (mkM (n*p) (f+g)) (mkX (n*p) (f+g)) N_ F≤0 by omega),by unfold iMax; split<;>omega,s1,s2⟩) (show 9-2<9-1 by omega):ar_mul_N m ee n f p g q h (Sum.inr (Sum.inl (M,X,N_,F,er))) .normal (ar_mul_mk m ee n f p g q h (Sum.inr (Sum.inr (Sum.inl (M,X,N_,F,(iMax er (exE (n*p) (f+g))))))))))))))))))) (by kernel_rfl)
  ·skip
   have hI:(M=(pmn (pmn (pdt m ee p g) (pdt m ee q h)) (pdt n f p g)).1∧X=(pmn (pmn (pdt m ee p g) (pdt m ee q h)) (pdt n f p g)).2)∧(N_=(pmx (pmx (pdt m ee p g) (pdt m ee q h)) (pdt n f p g)).1∧F=(pmx (pmx (pdt m ee p g) (pdt m ee q h)) (pdt n f p g)).2)∧er=0∧SzP 1200 (M,X)∧SzP 1200 (N_,F):=hI
   obtain ⟨⟨hM,hX⟩,⟨hN,hF⟩,h0,s1,s2⟩:=hI
   have ⟨s3,s4,s5⟩:=s1
   have ⟨s6,s7,s8⟩:=s2
   have s9:=SzP_mk s1
   simp only at s3 s4 s5 s6 s7 s8
   exact cast_ob (aI True.intro (aI tT (aI (dy_Mul n f q h oO oO oO oO) (have f112:=ex_range (n*q) (f+h); have f111:=mk_facts (n*q) (f+h); have f110:=L_abs_mul n q; aI (dy_Cmp (mkM (n*q) (f+h)) (mkX (n*q) (f+h)) M X oO oO oO oO) (have f109:=cmpD_range (mkM (n*q) (f+h)) (mkX (n*q) (f+h)) M X; aI (fun (h101:(iLt (cmpD (mkM (n*q) (f+h)) (mkX (n*q) (f+h)) M X) 0)=true)=>have _gh101:=iLt_t h101; aI (dy_Cmp (mkM (n*q) (f+h)) (mkX (n*q) (f+h)) N_ F oO oO oO oO) (have f104:=cmpD_range (mkM (n*q) (f+h)) (mkX (n*q) (f+h)) N_ F; aI (fun (h102:(iGt (cmpD (mkM (n*q) (f+h)) (mkX (n*q) (f+h)) N_ F) 0)=true)=>have _gh102:=iGt_t h102; aI tT (aI tT ((nx_next (Sum.inr (Sum.inr (Sum.inr ((mkM (n*q) (f+h)),(mkX (n*q) (f+h)),(mkM (n*q) (f+h)),(mkX (n*q) (f+h)),(iMax er (exE (n*q) (f+h))))))) (show ((mkM (n*q) (f+h))=(pmn (pmn (pmn (pdt m ee p g) (pdt m ee q h)) (pdt n f p g)) (pdt n f q h)).1∧(mkX (n*q) (f+h))=(pmn (pmn (pmn (pdt m ee p g) (pdt m ee q h)) (pdt n f p g)) (pdt n f q h)).2)∧((mkM (n*q) (f+h))=(pmx (pmx (pmx (pdt m ee p g) (pdt m ee q h)) (pdt n f p g)) (pdt n f q h)).1∧(mkX (n*q) (f+h))=(pmx (pmx (pmx (pdt m ee p g) (pdt m ee q h)) (pdt n f p g)) (pdt n f q h)).2)∧(iMax er (exE (n*q) (f+h)))=0∧SzP 1200 ((mkM (n*q) (f+h)),(mkX (n*q) (f+h)))∧SzP 1200 ((mkM (n*q) (f+h)),(mkX (n*q) (f+h))) from ⟨mn_yes hM hX (b:=(pdt n f q h)) (show cmpD (mkM (n*q) (f+h)) (mkX (n*q) (f+h)) M X<0 by omega),mx_yes hN hF (b:=(pdt n f q h)) (show 0<cmpD (mkM (n*q) (f+h)) (mkX (n*q) (f+h)) N_ F by omega),by unfold iMax; split<;>omega,(pdt_sz (m:=n) (e:=f) (n:=q) (f:=h) (k:=1200) oO),(pdt_sz (m:=n) (e:=f) (n:=q) (f:=h) (k:=1200) oO)⟩) (show 9-3<9-2 by omega):ar_mul_N m ee n f p g q h (Sum.inr (Sum.inr (Sum.inl (M,X,N_,F,er)))) .normal (ar_mul_mk m ee n f p g q h (Sum.inr (Sum.inr (Sum.inr ((mkM (n*q) (f+h)),(mkX (n*q) (f+h)),(mkM (n*q) (f+h)),(mkX (n*q) (f+h)),(iMax er (exE (n*q) (f+h)))))))))))) (fun (h103:(iGt (cmpD (mkM (n*q) (f+h)) (mkX (n*q) (f+h)) N_ F) 0)=false)=>have _gh103:=iGt_f h103; aI tT (aI tT ((nx_next (Sum.inr (Sum.inr (Sum.inr ((mkM (n*q) (f+h)),(mkX (n*q) (f+h)),N_,F,(iMax er (exE (n*q) (f+h))))))) (show ((mkM (n*q) (f+h))=(pmn (pmn (pmn (pdt m ee p g) (pdt m ee q h)) (pdt n f p g)) (pdt n f q h)).1∧(mkX (n*q) (f+h))=(pmn (pmn (pmn (pdt m ee p g) (pdt m ee q h)) (pdt n f p g)) (pdt n f q h)).2)∧(N_=(pmx (pmx (pmx (pdt m ee p g) (pdt m ee q h)) (pdt n f p g)) (pdt n f q h)).1∧F=(pmx (pmx (pmx (pdt m ee p g) (pdt m ee q h)) (pdt n f p g)) (pdt n f q h)).2)∧(iMax er (exE (n*q) (f+h)))=0∧SzP 1200 ((mkM (n*q) (f+h)),(mkX (n*q) (f+h)))∧SzP 1200 (N_,F) from ⟨mn_yes hM hX (b:=(pdt n f q h)) (show cmpD (mkM (n*q) (f+h)) (mkX (n*q) (f+h)) M X<0 by omega),mx_no hN hF (b:=(pdt n f q h)) (show cmpD (mkM (n*q) (f+h)) (mkX (n*q) (f+h)) N_ F≤0 by omega),by unfold iMax; split<;>omega,(pdt_sz (m:=n) (e:=f) (n:=q) (f:=h) (k:=1200) oO),s2⟩) (show 9-3<9-2 by omega):ar_mul_N m ee n f p g q h (Sum.inr (Sum.inr (Sum.inl (M,X,N_,F,er)))) .normal (ar_mul_mk m ee n f p g q h (Sum.inr (Sum.inr (Sum.inr ((mkM (n*q) (f+h)),(mkX (n*q) (f+h)),N_,F,(iMax er (exE (n*q) (f+h)))))))))))))) (fun (h105:(iLt (cmpD (mkM (n*q) (f+h)) (mkX (n*q) (f+h)) M X) 0)=false)=>have _gh105:=iLt_f h105; aI (dy_Cmp (mkM (n*q) (f+h)) (mkX (n*q) (f+h)) N_ F oO oO oO oO) (have f108:=cmpD_range (mkM (n*q) (f+h)) (mkX (n*q) (f+h)) N_ F; aI (fun (h106:(iGt (cmpD (mkM (n*q) (f+h)) (mkX (n*q) (f+h)) N_ F) 0)=true)=>have _gh106:=iGt_t h106; aI tT (aI tT ((nx_next (Sum.inr (Sum.inr (Sum.inr (M,X,(mkM (n*q) (f+h)),(mkX (n*q) (f+h)),(iMax er (exE (n*q) (f+h))))))) (show (M=(pmn (pmn (pmn (pdt m ee p g) (pdt m ee q h)) (pdt n f p g)) (pdt n f q h)).1∧X=(pmn (pmn (pmn (pdt m ee p g) (pdt m ee q h)) (pdt n f p g)) (pdt n f q h)).2)∧((mkM (n*q) (f+h))=(pmx (pmx (pmx (pdt m ee p g) (pdt m ee q h)) (pdt n f p g)) (pdt n f q h)).1∧(mkX (n*q) (f+h))=(pmx (pmx (pmx (pdt m ee p g) (pdt m ee q h)) (pdt n f p g)) (pdt n f q h)).2)∧(iMax er (exE (n*q) (f+h)))=0∧SzP 1200 (M,X)∧SzP 1200 ((mkM (n*q) (f+h)),(mkX (n*q) (f+h))) from ⟨mn_no hM hX (b:=(pdt n f q h)) (show 0≤cmpD (mkM (n*q) (f+h)) (mkX (n*q) (f+h)) M X by omega),mx_yes hN hF (b:=(pdt n f q h)) (show 0<cmpD (mkM (n*q) (f+h)) (mkX (n*q) (f+h)) N_ F by omega),by unfold iMax; split<;>omega,s1,(pdt_sz (m:=n) (e:=f) (n:=q) (f:=h) (k:=1200) oO)⟩) (show 9-3<9-2 by omega):ar_mul_N m ee n f p g q h (Sum.inr (Sum.inr (Sum.inl (M,X,N_,F,er)))) .normal (ar_mul_mk m ee n f p g q h (Sum.inr (Sum.inr (Sum.inr (M,X,(mkM (n*q) (f+h)),(mkX (n*q) (f+h)),(iMax er (exE (n*q) (f+h)))))))))))) (fun (h107:(iGt (cmpD (mkM (n*q) (f+h)) (mkX (n*q) (f+h)) N_ F) 0)=false)=>have _gh107:=iGt_f h107; aI tT (aI tT ((nx_next (Sum.inr (Sum.inr (Sum.inr (M,X,N_,F,(iMax er (exE (n*q) (f+h))))))) (show (M=(pmn (pmn (pmn (pdt m ee p g) (pdt m ee q h)) (pdt n f p g)) (pdt n f q h)).1∧X=(pmn (pmn (pmn (pdt m ee p g) (pdt m ee q h)) (pdt n f p g)) (pdt n f q h)).2)∧(N_=(pmx (pmx (pmx (pdt m ee p g) (pdt m ee q h)) (pdt n f p g)) (pdt n f q h)).1∧F=(pmx (pmx (pmx (pdt m ee p g) (pdt m ee q h)) (pdt n f p g)) (pdt n f q h)).2)∧(iMax er (exE (n*q) (f+h)))=0∧SzP 1200 (M,X)∧SzP 1200 (N_,F) from ⟨mn_no hM hX (b:=(pdt n f q h)) (show 0≤cmpD (mkM (n*q) (f+h)) (mkX (n*q) (f+h)) M X by omega),mx_no hN hF (b:=(pdt n f q h)) (show cmpD (mkM (n*q) (f+h)) (mkX (n*q) (f+h)) N_ F≤0 by omega),by unfold iMax; split<;>omega,s1,s2⟩) (show 9-3<9-2 by omega):ar_mul_N m ee n f p g q h (Sum.inr (Sum.inr (Sum.inl (M,X,N_,F,er)))) .normal (ar_mul_mk m ee n f p g q h (Sum.inr (Sum.inr (Sum.inr (M,X,N_,F,(iMax er (exE (n*q) (f+h))))))))))))))))))) (by kernel_rfl)
  ·skip
   have hI:(M=(pmn (pmn (pmn (pdt m ee p g) (pdt m ee q h)) (pdt n f p g)) (pdt n f q h)).1∧X=(pmn (pmn (pmn (pdt m ee p g) (pdt m ee q h)) (pdt n f p g)) (pdt n f q h)).2)∧(N_=(pmx (pmx (pmx (pdt m ee p g) (pdt m ee q h)) (pdt n f p g)) (pdt n f q h)).1∧F=(pmx (pmx (pmx (pdt m ee p g) (pdt m ee q h)) (pdt n f p g)) (pdt n f q h)).2)∧er=0∧SzP 1200 (M,X)∧SzP 1200 (N_,F):=hI
   obtain ⟨⟨hM,hX⟩,⟨hN,hF⟩,h0,s1,s2⟩:=hI
   have ⟨s3,s4,s5⟩:=s1
   have ⟨s6,s7,s8⟩:=s2
   have s9:=SzP_mk s1
   simp only at s3 s4 s5 s6 s7 s8
   exact cast_ob (aI True.intro (aI tT ((nx_exit 0 ((ar_mul_ex m ee n f p g q h (M,X,N_,F,er)).2) (M,X,N_,F,er) (show (M=(pmn (pmn (pmn (pdt m ee p g) (pdt m ee q h)) (pdt n f p g)) (pdt n f q h)).1∧X=(pmn (pmn (pmn (pdt m ee p g) (pdt m ee q h)) (pdt n f p g)) (pdt n f q h)).2)∧(N_=(pmx (pmx (pmx (pdt m ee p g) (pdt m ee q h)) (pdt n f p g)) (pdt n f q h)).1∧F=(pmx (pmx (pmx (pdt m ee p g) (pdt m ee q h)) (pdt n f p g)) (pdt n f q h)).2)∧er=0∧SzP 1200 (M,X)∧SzP 1200 (N_,F) from ⟨⟨hM,hX⟩,⟨hN,hF⟩,h0,s1,s2⟩) rfl:ar_mul_N m ee n f p g q h (Sum.inr (Sum.inr (Sum.inr (M,X,N_,F,er)))) (.exit 0) ((ar_mul_ex m ee n f p g q h (M,X,N_,F,er)).2))))) (by kernel_rfl))
theorem ar_Mul_1 (m ee n f p g q h:Int)(c0:L (m).natAbs≤600)(c1:(-20000:Int)≤ee∧ee≤20000)(c2:L (n).natAbs≤600)(c3:(-20000:Int)≤f∧f≤20000)(c4:L (p).natAbs≤600)(c5:(-20000:Int)≤g∧g≤20000)(c6:L (q).natAbs≤600)(c7:(-20000:Int)≤h∧h≤20000)(c8:mkE (m*p) (ee+g)=0)(c9:mkE (m*q) (ee+h)=0)(c10:mkE (n*p) (f+g)=0)(c11:mkE (n*q) (f+h)=0):Impl Tryz.prog Amb 105 [(.pt [(V.bool (decide (m<0))),(N m.natAbs),(V.int .i64 ee),(V.bool (decide (n<0))),(N n.natAbs),(V.int .i64 f)] 0),(.pt [(V.bool (decide (p<0))),(N p.natAbs),(V.int .i64 g),(V.bool (decide (q<0))),(N q.natAbs),(V.int .i64 h)] 0)] (.tup [(.agg [(.bool (decide ((mlLoP m ee n f p g q h).1<0))),(N (((mlLoP m ee n f p g q h).1).natAbs)),(.int .i64 ((mlLoP m ee n f p g q h).2))]),(.agg [(.bool (decide ((mlHiP m ee n f p g q h).1<0))),(N (((mlHiP m ee n f p g q h).1).natAbs)),(.int .i64 ((mlHiP m ee n f p g q h).2))]),(.int .i64 0)]):=by
 exact impl_ob hP hAmb Tryz.func105 (by kernel_rfl) (.lits 3<|.call (exT (m*p) (ee+g))<|.lits 13<|.loop ⟨[2,3,5,6,7,36,37],4,[]⟩ ((ar_mul_mk m ee n f p g q h (Sum.inl ((mkM (m*p) (ee+g)),(mkX (m*p) (ee+g)),(mkM (m*p) (ee+g)),(mkX (m*p) (ee+g)),(exE (m*p) (ee+g)))))) (Int × Int × Int × Int × Int) (ar_mul_ex m ee n f p g q h) (ar_mul_J m ee n f p g q h) (fun y=>.lits 3<|.call (.tup [(yV y.1 y.2.1),(yV y.2.2.1 y.2.2.2.1),(.int .i64 (iMax y.2.2.2.2 (0:Int)))])<|.lits 3<|.ret))
  (cast_ob (aI True.intro (aI (dy_Mul m ee p g oA oA oA oA) (have f3:=ex_range (m*p) (ee+g); have f2:=mk_facts (m*p) (ee+g); have f1:=L_abs_mul m p; aI tT (aI (rfl:(ar_mul_mk m ee n f p g q h (Sum.inl ((mkM (m*p) (ee+g)),(mkX (m*p) (ee+g)),(mkM (m*p) (ee+g)),(mkX (m*p) (ee+g)),(exE (m*p) (ee+g)))))=(ar_mul_mk m ee n f p g q h (Sum.inl ((mkM (m*p) (ee+g)),(mkX (m*p) (ee+g)),(mkM (m*p) (ee+g)),(mkX (m*p) (ee+g)),(exE (m*p) (ee+g)))))) (aI (ar_mul m ee n f p g q h c0 c1 c2 c3 c4 c5 c6 c7 c8 c9 c10 c11 (Sum.inl ((mkM (m*p) (ee+g)),(mkX (m*p) (ee+g)),(mkM (m*p) (ee+g)),(mkX (m*p) (ee+g)),(exE (m*p) (ee+g)))) (show ((mkM (m*p) (ee+g))=(pdt m ee p g).1∧(mkX (m*p) (ee+g))=(pdt m ee p g).2)∧((mkM (m*p) (ee+g))=(pdt m ee p g).1∧(mkX (m*p) (ee+g))=(pdt m ee p g).2)∧(exE (m*p) (ee+g))=0∧SzP 1200 ((mkM (m*p) (ee+g)),(mkX (m*p) (ee+g)))∧SzP 1200 ((mkM (m*p) (ee+g)),(mkX (m*p) (ee+g))) from ⟨⟨rfl,rfl⟩,⟨rfl,rfl⟩,by omega,pdt_sz (m:=m) (n:=p) oO,pdt_sz (m:=m) (n:=p) oO⟩)) (fun y (hJ:ar_mul_J m ee n f p g q h y)=>have hJ:(y.1=(pmn (pmn (pmn (pdt m ee p g) (pdt m ee q h)) (pdt n f p g)) (pdt n f q h)).1∧y.2.1=(pmn (pmn (pmn (pdt m ee p g) (pdt m ee q h)) (pdt n f p g)) (pdt n f q h)).2)∧(y.2.2.1=(pmx (pmx (pmx (pdt m ee p g) (pdt m ee q h)) (pdt n f p g)) (pdt n f q h)).1∧y.2.2.2.1=(pmx (pmx (pmx (pdt m ee p g) (pdt m ee q h)) (pdt n f p g)) (pdt n f q h)).2)∧y.2.2.2.2=0∧SzP 1200 (y.1,y.2.1)∧SzP 1200 (y.2.2.1,y.2.2.2.1):=hJ; aI (ar_pair y.1 y.2.1 y.2.2.1 y.2.2.2.1 y.2.2.2.2 0 ) ((by obtain ⟨⟨j1,j2⟩,⟨j3,j4⟩,j5,_⟩:=hJ; rw [j1,j2,j3,j4,j5]; exact vsub_refl _:vsub (.tup [(yV y.1 y.2.1),(yV y.2.2.1 y.2.2.2.1),(.int .i64 (iMax y.2.2.2.2 (0:Int)))]) (.tup [(.agg [(.bool (decide ((mlLoP m ee n f p g q h).1<0))),(N (((mlLoP m ee n f p g q h).1).natAbs)),(.int .i64 ((mlLoP m ee n f p g q h).2))]),(.agg [(.bool (decide ((mlHiP m ee n f p g q h).1<0))),(N (((mlHiP m ee n f p g q h).1).natAbs)),(.int .i64 ((mlHiP m ee n f p g q h).2))]),(.int .i64 0)]))))))))) (by kernel_rfl))
theorem ar_out_M (m e n f p g q h w:Int)(c0:L (m).natAbs≤600)(c1:(-20000:Int)≤e∧e≤20000)(c2:L (n).natAbs≤600)(c3:(-20000:Int)≤f∧f≤20000)(c4:L (p).natAbs≤600)(c5:(-20000:Int)≤g∧g≤20000)(c6:L (q).natAbs≤600)(c7:(-20000:Int)≤h∧h≤20000)(c8:mkE (m*p) (e+g)=0)(c9:mkE (m*q) (e+h)=0)(c10:mkE (n*p) (f+g)=0)(c11:mkE (n*q) (f+h)=0)(c12:(-9223372036854775808:Int)≤w∧w≤9223372036854775807):Impl Tryz.prog Amb 104 [(.int .i64 w),(.clos 105 [(.pt [(V.bool (decide (m<0))),(N m.natAbs),(V.int .i64 e),(V.bool (decide (n<0))),(N n.natAbs),(V.int .i64 f)] 0),(.pt [(V.bool (decide (p<0))),(N p.natAbs),(V.int .i64 g),(V.bool (decide (q<0))),(N q.natAbs),(V.int .i64 h)] 0)])] (enV (mlLo m e n f p g q h) (mlHi m e n f p g q h) w):=by
 have ⟨⟨y1,y2,y3⟩,⟨y4,y5,y6⟩⟩:=mlP_sz (m:=m) (e:=e) (n:=n) (f:=f) (p:=p) (g:=g) (q:=q) (h:=h) (k:=1200) oO
 exact impl_ob hP hAmb Tryz.func104 (by kernel_rfl) (.lit<|.call (.bool (decide (0≤w∧w≤4096)))<|.lit<|.both (.lits 3<|.ret) (.lit<|.call (.tup [(.agg [(.bool (decide ((mlLoP m e n f p g q h).1<0))),(N (((mlLoP m e n f p g q h).1).natAbs)),(.int .i64 ((mlLoP m e n f p g q h).2))]),(.agg [(.bool (decide ((mlHiP m e n f p g q h).1<0))),(N (((mlHiP m e n f p g q h).1).natAbs)),(.int .i64 ((mlHiP m e n f p g q h).2))]),(.int .i64 0)])<|.lits 6<|.call (mkT (flr (dv ((mlLoP m e n f p g q h).1) ((mlLoP m e n f p g q h).2)) w) (-w))<|.lits 3<|.call (mkT (cei (dv ((mlHiP m e n f p g q h).1) ((mlHiP m e n f p g q h).2)) w) (-w))<|.lits 4<|.call (ecT (mkM (flr (dv ((mlLoP m e n f p g q h).1) ((mlLoP m e n f p g q h).2)) w) (-w)) (mkX (flr (dv ((mlLoP m e n f p g q h).1) ((mlLoP m e n f p g q h).2)) w) (-w)) (mkM (cei (dv ((mlHiP m e n f p g q h).1) ((mlHiP m e n f p g q h).2)) w) (-w)) (mkX (cei (dv ((mlHiP m e n f p g q h).1) ((mlHiP m e n f p g q h).2)) w) (-w)) (mkE (flr (dv ((mlLoP m e n f p g q h).1) ((mlLoP m e n f p g q h).2)) w) (-w)) (mkE (cei (dv ((mlHiP m e n f p g q h).1) ((mlHiP m e n f p g q h).2)) w) (-w)))<|.lits 2<|.ret))
  (cast_ob (aI True.intro (aI (ar_works w oA) (aI (fun (h1:(!(decide (0≤w∧w≤4096)))=true)=>have _gh1:=of_decide_eq_false (notb_t h1); (en_vbad oO:vsub (e0T 1) (enV (mlLo m e n f p g q h) (mlHi m e n f p g q h) w))) (fun (h2:(!(decide (0≤w∧w≤4096)))=false)=>have _gh2:=of_decide_eq_true (notb_f h2); aI (ar_Mul_1 m e n f p g q h oA oA oA oA oA oA oA oA oA oA oA oA) (have f9:=mlP_sz (m:=m) (e:=e) (n:=n) (f:=f) (p:=p) (g:=g) (q:=q) (h:=h) (k:=1200) oA; aI (gr_Floor ((mlLoP m e n f p g q h).1) ((mlLoP m e n f p g q h).2) w oA oA oA) (have f8:=mk_facts (cei (dv ((mlLoP m e n f p g q h).1) ((mlLoP m e n f p g q h).2)) w) (-w); have f7:=mk_facts (flr (dv ((mlLoP m e n f p g q h).1) ((mlLoP m e n f p g q h).2)) w) (-w); have f6:=flr_LD ((mlLoP m e n f p g q h).1) ((mlLoP m e n f p g q h).2) w; aI (gr_Ceil ((mlHiP m e n f p g q h).1) ((mlHiP m e n f p g q h).2) w oA oA oA) (have f5:=mk_facts (cei (dv ((mlHiP m e n f p g q h).1) ((mlHiP m e n f p g q h).2)) w) (-w); have f4:=mk_facts (flr (dv ((mlHiP m e n f p g q h).1) ((mlHiP m e n f p g q h).2)) w) (-w); have f3:=flr_LD ((mlHiP m e n f p g q h).1) ((mlHiP m e n f p g q h).2) w; aI (ar_enclose (mkM (flr (dv ((mlLoP m e n f p g q h).1) ((mlLoP m e n f p g q h).2)) w) (-w)) (mkX (flr (dv ((mlLoP m e n f p g q h).1) ((mlLoP m e n f p g q h).2)) w) (-w)) (mkM (cei (dv ((mlHiP m e n f p g q h).1) ((mlHiP m e n f p g q h).2)) w) (-w)) (mkX (cei (dv ((mlHiP m e n f p g q h).1) ((mlHiP m e n f p g q h).2)) w) (-w)) (mkE (flr (dv ((mlLoP m e n f p g q h).1) ((mlLoP m e n f p g q h).2)) w) (-w)) (mkE (cei (dv ((mlHiP m e n f p g q h).1) ((mlHiP m e n f p g q h).2)) w) (-w)) oA oA oA oA) ((en_vec (mlLoP_dv c8 c9 c10 c11) (mlHiP_dv c8 c9 c10 c11) oO:vsub (ecT (mkM (flr (dv ((mlLoP m e n f p g q h).1) ((mlLoP m e n f p g q h).2)) w) (-w)) (mkX (flr (dv ((mlLoP m e n f p g q h).1) ((mlLoP m e n f p g q h).2)) w) (-w)) (mkM (cei (dv ((mlHiP m e n f p g q h).1) ((mlHiP m e n f p g q h).2)) w) (-w)) (mkX (cei (dv ((mlHiP m e n f p g q h).1) ((mlHiP m e n f p g q h).2)) w) (-w)) (mkE (flr (dv ((mlLoP m e n f p g q h).1) ((mlLoP m e n f p g q h).2)) w) (-w)) (mkE (cei (dv ((mlHiP m e n f p g q h).1) ((mlHiP m e n f p g q h).2)) w) (-w))) (enV (mlLo m e n f p g q h) (mlHi m e n f p g q h) w)))))))))) (by kernel_rfl))
theorem ar_Mul (m e n f p g q h w:Int)(c0:L (m).natAbs≤600)(c1:(-20000:Int)≤e∧e≤20000)(c2:L (n).natAbs≤600)(c3:(-20000:Int)≤f∧f≤20000)(c4:L (p).natAbs≤600)(c5:(-20000:Int)≤g∧g≤20000)(c6:L (q).natAbs≤600)(c7:(-20000:Int)≤h∧h≤20000)(c8:mkE (m*p) (e+g)=0)(c9:mkE (m*q) (e+h)=0)(c10:mkE (n*p) (f+g)=0)(c11:mkE (n*q) (f+h)=0)(c12:(-9223372036854775808:Int)≤w∧w≤9223372036854775807):Impl Tryz.prog Amb 53 [(wV m e n f),(wV p g q h),(.int .i64 w)] (enV (mlLo m e n f p g q h) (mlHi m e n f p g q h) w):=by
 exact impl_ob hP hAmb Tryz.func53 (by kernel_rfl) (.lit<|.call (enV (mlLo m e n f p g q h) (mlHi m e n f p g q h) w)<|.lits 2<|.ret)
  (cast_ob (aI True.intro (aI (ar_out_M m e n f p g q h w oA oA oA oA oA oA oA oA oA oA oA oA oA) (have f1:=en_facts (mlLo m e n f p g q h) (mlHi m e n f p g q h) w; (vsub_refl (enV (mlLo m e n f p g q h) (mlHi m e n f p g q h) w))))) (by kernel_rfl))
end Go.Proofs.YtcbihoojfakhdaaGreatDoor


namespace Go.Proofs.YtcbihoojfakhdaaGreatDoor
open Go.RowKit
set_option maxRecDepth 100000
theorem mill_Mod (v n:Int)(c0:(0:Int)<n∧n≤1000000000)(c1:(-9223372036854775808:Int)≤v∧v≤9223372036854775807):Impl Tryz.prog Amb 16 [(.int .i64 v),(.int .i64 n)] (.int .i64 (v%n)):=by
 have r0:=wRem_abs (v:=v) (n:=n) oO
 exact impl_ob hP hAmb Tryz.func16 (by kernel_rfl) (.yes<|.lit<|.both (.lit<|.yes<|.lit<|.ret) (.lit<|.ret))
  (cast_ob (aI True.intro (aI (iNe_mk oA:(iNe n 0)=true) (aI (fun (h1:(iLt (wRem v n) 0)=true)=>have _gh1:=iLt_t h1; aI (fits_i64 oA:(fits .i64 ((wRem v n)+n))=true) ((vsub_of (congrArg (V.int .i64) (mod_neg oO oO)):vsub (.int .i64 ((wRem v n)+n)) (.int .i64 (v%n))))) (fun (h2:(iLt (wRem v n) 0)=false)=>have _gh2:=iLt_f h2; (vsub_of (congrArg (V.int .i64) (mod_pos oO oO)):vsub (.int .i64 (wRem v n)) (.int .i64 (v%n))))))) (by kernel_rfl))
theorem mill_Int (b:Bool)(l:List Nat)(n:Int)(c0:Dig l)(c1:l.length≤9223372036854775807)(c2:(0:Int)≤n∧n≤1000):Impl Tryz.prog Amb 66 [(.agg [(.bool b),(.sl 1 (U l))]),(.int .i64 n)] (.tup [(zV (rawI b l n)),(.bool (decide ((l.length:Int)≤n)))]):=by
 have e0:=U_len l
 exact impl_ob hP hAmb Tryz.func66 (by kernel_rfl) (.lits 2<|.both (.lits 3<|.ret) (.lits 3<|.call (zV (sgn b (val l)))<|.lits 2<|.ret))
  (cast_ob (aI True.intro (aI (fun (h1:(iGt ((U l).length:Int) n)=true)=>have _gh1:=iGt_t h1; (raw_ret1 oO:vsub (.tup [(.agg [(.bool false),.nil]),(.bool false)]) (.tup [(zV (rawI b l n)),(.bool (decide ((l.length:Int)≤n)))]))) (fun (h2:(iGt ((U l).length:Int) n)=false)=>have _gh2:=iGt_f h2; aI (r05_NatC b (U l) l rfl c0 oO) (have f4:=L_val ‹Dig l›; have f3:=L_sgn b (val l); (raw_ret2 oO:vsub (.tup [(zV (sgn b (val l))),(.bool true)]) (.tup [(zV (rawI b l n)),(.bool (decide ((l.length:Int)≤n)))])))))) (by kernel_rfl))
theorem mill_Dyadic (b:Bool)(l:List Nat)(e n k:Int)(c0:Dig l)(c1:l.length≤9223372036854775807)(c2:(-9223372036854775808:Int)≤e∧e≤9223372036854775807)(c3:(0:Int)≤n∧n≤800)(c4:(0:Int)≤k∧k≤20000):Impl Tryz.prog Amb 15 [(.agg [(.bool b),(.sl 1 (U l)),(.int .i64 e)]),(.int .i64 n),(.int .i64 k)] (.tup [(yV (mkM (rawI b l n) (e%(2*k+1)-k)) (mkX (rawI b l n) (e%(2*k+1)-k))),(.bool (decide ((l.length:Int)≤n)))]):=by
 have ej:=Int.emod_nonneg e (show (2*k+1:Int)≠0 by omega)
 have ek:=Int.emod_lt_of_pos e (show (0:Int)<2*k+1 by omega)
 exact impl_ob hP hAmb Tryz.func15 (by kernel_rfl) (.lits 2<|.call (.tup [(zV (rawI b l n)),(.bool (decide ((l.length:Int)≤n)))])<|.lits 2<|.both (.lits 3<|.ret) (.lits 3<|.yes<|.lit<|.yes<|.lit<|.call (.int .i64 (e%(((2:Int)*k)+1)))<|.lit<|.yes<|.lit<|.call (mkT (rawI b l n) ((e%(((2:Int)*k)+1))-k))<|.lits 4<|.ret))
  (cast_ob (aI True.intro (aI (mill_Int b l n oA oA oA) (have f6:=(rawI_L (b:=b) ‹Dig l› (show (0:Int)≤n by first | omega | (simp<;>omega))); aI (fun (h1:(!(decide ((l.length:Int)≤n)))=true)=>have _gh1:=of_decide_eq_false (notb_t h1); (rawd_ret1 oO:vsub (.tup [(.agg [(.bool false),.nil,(.int .i64 0)]),(.bool false)]) (.tup [(yV (mkM (rawI b l n) (e%(2*k+1)-k)) (mkX (rawI b l n) (e%(2*k+1)-k))),(.bool (decide ((l.length:Int)≤n)))]))) (fun (h2:(!(decide ((l.length:Int)≤n)))=false)=>have _gh2:=of_decide_eq_true (notb_f h2); aI (fits_i64 oA:(fits .i64 ((2:Int)*k))=true) (aI (fits_i64 oA:(fits .i64 (((2:Int)*k)+1))=true) (aI (mill_Mod e (((2:Int)*k)+1) oA oA) (have f5:=Int.emod_lt_of_pos e (show (0:Int)<(((2:Int)*k)+1) by first | omega | (simp<;>omega)); have f4:=Int.emod_nonneg e (show ((((2:Int)*k)+1):Int)≠0 by first | omega | (simp<;>omega)); aI (fits_i64 oA:(fits .i64 ((e%(((2:Int)*k)+1))-k))=true) (aI (r08_Make (rawI b l n) ((e%(((2:Int)*k)+1))-k) oA oA) (have f3:=mk_facts (rawI b l n) ((e%(((2:Int)*k)+1))-k); (vsub_tup2 (vsub_refl _) (vsub_of (congrArg V.bool (rawd_ok (mk_fine2 oO oO) oO))):vsub (.tup [(yV (mkM (rawI b l n) ((e%(((2:Int)*k)+1))-k)) (mkX (rawI b l n) ((e%(((2:Int)*k)+1))-k))),(.bool (iEq (mkE (rawI b l n) ((e%(((2:Int)*k)+1))-k)) 0))]) (.tup [(yV (mkM (rawI b l n) (e%(2*k+1)-k)) (mkX (rawI b l n) (e%(2*k+1)-k))),(.bool (decide ((l.length:Int)≤n)))]))))))))))) (by kernel_rfl))
theorem mill_Interval (b:Bool)(l:List Nat)(e:Int)(c:Bool)(r:List Nat)(f n k:Int)(c0:Dig l)(c1:l.length≤9223372036854775807)(c2:Dig r)(c3:r.length≤9223372036854775807)(c4:(-9223372036854775808:Int)≤e∧e≤9223372036854775807)(c5:(-9223372036854775808:Int)≤f∧f≤9223372036854775807)(c6:(0:Int)≤n∧n≤800)(c7:(0:Int)≤k∧k≤20000):Impl Tryz.prog Amb 78 [(.agg [(.bool b),(.sl 1 (U l)),(.int .i64 e),(.bool c),(.sl 1 (U r)),(.int .i64 f)]),(.int .i64 n),(.int .i64 k)] (.tup [(wV (swM (mkM (rawI b l n) (e%(2*k+1)-k)) (mkX (rawI b l n) (e%(2*k+1)-k)) (mkM (rawI c r n) (f%(2*k+1)-k)) (mkX (rawI c r n) (f%(2*k+1)-k))) (swX (mkM (rawI b l n) (e%(2*k+1)-k)) (mkX (rawI b l n) (e%(2*k+1)-k)) (mkM (rawI c r n) (f%(2*k+1)-k)) (mkX (rawI c r n) (f%(2*k+1)-k))) (swN (mkM (rawI b l n) (e%(2*k+1)-k)) (mkX (rawI b l n) (e%(2*k+1)-k)) (mkM (rawI c r n) (f%(2*k+1)-k)) (mkX (rawI c r n) (f%(2*k+1)-k))) (swF (mkM (rawI b l n) (e%(2*k+1)-k)) (mkX (rawI b l n) (e%(2*k+1)-k)) (mkM (rawI c r n) (f%(2*k+1)-k)) (mkX (rawI c r n) (f%(2*k+1)-k)))),(.bool (decide ((l.length:Int)≤n∧(r.length:Int)≤n)))]):=by
 exact impl_ob hP hAmb Tryz.func78 (by kernel_rfl) (.lits 2<|.call (.tup [(yV (mkM (rawI b l n) (e%(2*k+1)-k)) (mkX (rawI b l n) (e%(2*k+1)-k))),(.bool (decide ((l.length:Int)≤n)))])<|.lits 3<|.call (.tup [(yV (mkM (rawI c r n) (f%(2*k+1)-k)) (mkX (rawI c r n) (f%(2*k+1)-k))),(.bool (decide ((r.length:Int)≤n)))])<|.lits 4<|.call (.int .i64 (cmpD (mkM (rawI b l n) (e%(2*k+1)-k)) (mkX (rawI b l n) (e%(2*k+1)-k)) (mkM (rawI c r n) (f%(2*k+1)-k)) (mkX (rawI c r n) (f%(2*k+1)-k))))<|.lit<|.both (.lits 7<|.both (.lits 3<|.ret) (.lits 3<|.ret)) (.lits 3<|.both (.lits 3<|.ret) (.lits 3<|.ret)))
  (cast_ob (aI True.intro (aI (mill_Dyadic b l e n k oA oA oA oA oA) (have f11:=(rawI_L (b:=b) ‹Dig l› (show (0:Int)≤n by first | omega | (simp<;>omega))); have f10:=mk_facts (rawI b l n) (e%(2*k+1)-k); aI (mill_Dyadic c r f n k oA oA oA oA oA) (have f9:=(rawI_L (b:=c) ‹Dig r› (show (0:Int)≤n by first | omega | (simp<;>omega))); have f8:=mk_facts (rawI c r n) (f%(2*k+1)-k); aI (r08_Cmp (mkM (rawI b l n) (e%(2*k+1)-k)) (mkX (rawI b l n) (e%(2*k+1)-k)) (mkM (rawI c r n) (f%(2*k+1)-k)) (mkX (rawI c r n) (f%(2*k+1)-k)) oA oA oA oA) (have f7:=cmpD_range (mkM (rawI b l n) (e%(2*k+1)-k)) (mkX (rawI b l n) (e%(2*k+1)-k)) (mkM (rawI c r n) (f%(2*k+1)-k)) (mkX (rawI c r n) (f%(2*k+1)-k)); aI (fun (h1:(iGt (cmpD (mkM (rawI b l n) (e%(2*k+1)-k)) (mkX (rawI b l n) (e%(2*k+1)-k)) (mkM (rawI c r n) (f%(2*k+1)-k)) (mkX (rawI c r n) (f%(2*k+1)-k))) 0)=true)=>have _gh1:=iGt_t h1; aI (fun (h2:(decide ((l.length:Int)≤n))=true)=>have _gh2:=of_decide_eq_true h2; (W_of (sw_yes oO) (decide_eq_decide.2 oO):vsub (.tup [(wV (mkM (rawI c r n) (f%(2*k+1)-k)) (mkX (rawI c r n) (f%(2*k+1)-k)) (mkM (rawI b l n) (e%(2*k+1)-k)) (mkX (rawI b l n) (e%(2*k+1)-k))),(.bool (decide ((r.length:Int)≤n)))]) (.tup [(wV (swM (mkM (rawI b l n) (e%(2*k+1)-k)) (mkX (rawI b l n) (e%(2*k+1)-k)) (mkM (rawI c r n) (f%(2*k+1)-k)) (mkX (rawI c r n) (f%(2*k+1)-k))) (swX (mkM (rawI b l n) (e%(2*k+1)-k)) (mkX (rawI b l n) (e%(2*k+1)-k)) (mkM (rawI c r n) (f%(2*k+1)-k)) (mkX (rawI c r n) (f%(2*k+1)-k))) (swN (mkM (rawI b l n) (e%(2*k+1)-k)) (mkX (rawI b l n) (e%(2*k+1)-k)) (mkM (rawI c r n) (f%(2*k+1)-k)) (mkX (rawI c r n) (f%(2*k+1)-k))) (swF (mkM (rawI b l n) (e%(2*k+1)-k)) (mkX (rawI b l n) (e%(2*k+1)-k)) (mkM (rawI c r n) (f%(2*k+1)-k)) (mkX (rawI c r n) (f%(2*k+1)-k)))),(.bool (decide ((l.length:Int)≤n∧(r.length:Int)≤n)))]))) (fun (h3:(decide ((l.length:Int)≤n))=false)=>have _gh3:=of_decide_eq_false h3; (W_of (sw_yes oO) (decide_eq_false oO).symm:vsub (.tup [(wV (mkM (rawI c r n) (f%(2*k+1)-k)) (mkX (rawI c r n) (f%(2*k+1)-k)) (mkM (rawI b l n) (e%(2*k+1)-k)) (mkX (rawI b l n) (e%(2*k+1)-k))),(.bool false)]) (.tup [(wV (swM (mkM (rawI b l n) (e%(2*k+1)-k)) (mkX (rawI b l n) (e%(2*k+1)-k)) (mkM (rawI c r n) (f%(2*k+1)-k)) (mkX (rawI c r n) (f%(2*k+1)-k))) (swX (mkM (rawI b l n) (e%(2*k+1)-k)) (mkX (rawI b l n) (e%(2*k+1)-k)) (mkM (rawI c r n) (f%(2*k+1)-k)) (mkX (rawI c r n) (f%(2*k+1)-k))) (swN (mkM (rawI b l n) (e%(2*k+1)-k)) (mkX (rawI b l n) (e%(2*k+1)-k)) (mkM (rawI c r n) (f%(2*k+1)-k)) (mkX (rawI c r n) (f%(2*k+1)-k))) (swF (mkM (rawI b l n) (e%(2*k+1)-k)) (mkX (rawI b l n) (e%(2*k+1)-k)) (mkM (rawI c r n) (f%(2*k+1)-k)) (mkX (rawI c r n) (f%(2*k+1)-k)))),(.bool (decide ((l.length:Int)≤n∧(r.length:Int)≤n)))])))) (fun (h4:(iGt (cmpD (mkM (rawI b l n) (e%(2*k+1)-k)) (mkX (rawI b l n) (e%(2*k+1)-k)) (mkM (rawI c r n) (f%(2*k+1)-k)) (mkX (rawI c r n) (f%(2*k+1)-k))) 0)=false)=>have _gh4:=iGt_f h4; aI (fun (h5:(decide ((l.length:Int)≤n))=true)=>have _gh5:=of_decide_eq_true h5; (W_of (sw_no oO) (decide_eq_decide.2 oO):vsub (.tup [(wV (mkM (rawI b l n) (e%(2*k+1)-k)) (mkX (rawI b l n) (e%(2*k+1)-k)) (mkM (rawI c r n) (f%(2*k+1)-k)) (mkX (rawI c r n) (f%(2*k+1)-k))),(.bool (decide ((r.length:Int)≤n)))]) (.tup [(wV (swM (mkM (rawI b l n) (e%(2*k+1)-k)) (mkX (rawI b l n) (e%(2*k+1)-k)) (mkM (rawI c r n) (f%(2*k+1)-k)) (mkX (rawI c r n) (f%(2*k+1)-k))) (swX (mkM (rawI b l n) (e%(2*k+1)-k)) (mkX (rawI b l n) (e%(2*k+1)-k)) (mkM (rawI c r n) (f%(2*k+1)-k)) (mkX (rawI c r n) (f%(2*k+1)-k))) (swN (mkM (rawI b l n) (e%(2*k+1)-k)) (mkX (rawI b l n) (e%(2*k+1)-k)) (mkM (rawI c r n) (f%(2*k+1)-k)) (mkX (rawI c r n) (f%(2*k+1)-k))) (swF (mkM (rawI b l n) (e%(2*k+1)-k)) (mkX (rawI b l n) (e%(2*k+1)-k)) (mkM (rawI c r n) (f%(2*k+1)-k)) (mkX (rawI c r n) (f%(2*k+1)-k)))),(.bool (decide ((l.length:Int)≤n∧(r.length:Int)≤n)))]))) (fun (h6:(decide ((l.length:Int)≤n))=false)=>have _gh6:=of_decide_eq_false h6; (W_of (sw_no oO) (decide_eq_false oO).symm:vsub (.tup [(wV (mkM (rawI b l n) (e%(2*k+1)-k)) (mkX (rawI b l n) (e%(2*k+1)-k)) (mkM (rawI c r n) (f%(2*k+1)-k)) (mkX (rawI c r n) (f%(2*k+1)-k))),(.bool false)]) (.tup [(wV (swM (mkM (rawI b l n) (e%(2*k+1)-k)) (mkX (rawI b l n) (e%(2*k+1)-k)) (mkM (rawI c r n) (f%(2*k+1)-k)) (mkX (rawI c r n) (f%(2*k+1)-k))) (swX (mkM (rawI b l n) (e%(2*k+1)-k)) (mkX (rawI b l n) (e%(2*k+1)-k)) (mkM (rawI c r n) (f%(2*k+1)-k)) (mkX (rawI c r n) (f%(2*k+1)-k))) (swN (mkM (rawI b l n) (e%(2*k+1)-k)) (mkX (rawI b l n) (e%(2*k+1)-k)) (mkM (rawI c r n) (f%(2*k+1)-k)) (mkX (rawI c r n) (f%(2*k+1)-k))) (swF (mkM (rawI b l n) (e%(2*k+1)-k)) (mkX (rawI b l n) (e%(2*k+1)-k)) (mkM (rawI c r n) (f%(2*k+1)-k)) (mkX (rawI c r n) (f%(2*k+1)-k)))),(.bool (decide ((l.length:Int)≤n∧(r.length:Int)≤n)))]))))))))) (by kernel_rfl))
end Go.Proofs.YtcbihoojfakhdaaGreatDoor

namespace Go.Proofs.YtcbihoojfakhdaaGreatDoor
theorem mkX_b {m e:Int}(hE:mkE m e=0):(m=0∧mkX m e=0)∨(m≠0∧e≤mkX m e∧mkX m e≤e+32*(L m.natAbs:Int)):=by
 rcases mk_cases hE with ⟨h,_,k⟩ | ⟨h,_,k,_⟩
 ·exact .inl ⟨h,k⟩
 ·have:=tz_L m.natAbs
  refine .inr ⟨h,?_,?_⟩<;>rw [k]<;>unfold de<;>omega
theorem mk_fit {m e:Int}(h:L m.natAbs≤900)(he:-60000≤e∧e≤30000):mkE m e=0∧L (mkM m e).natAbs≤L m.natAbs∧iMin e 0≤mkX m e∧mkX m e≤iMax e 0+32*(L m.natAbs:Int)∧vdb (mkM m e) (mkX m e)=true∧dv (mkM m e) (mkX m e)=dv m e:=by
 have hE:=mk_fine2 h he
 have h1:=mk_facts m e
 have h2:=iMin_range e 0
 have h3:e≤iMax e 0∧0≤iMax e 0:=by unfold iMax; split<;>omega
 refine ⟨hE,h1.1,?_,?_,vdb_mk,dv_mk hE⟩<;>rcases mkX_b hE with ⟨_,k⟩ | ⟨_,k,l⟩<;>omega
theorem of_fit {n:Int}(h:-9223372036854775808≤n∧n≤9223372036854775807):mkE n 0=0∧L (mkM n 0).natAbs≤2∧0≤mkX n 0∧mkX n 0≤64∧vdb (mkM n 0) (mkX n 0)=true∧dv (mkM n 0) (mkX n 0)=(n:Rat):=by
 have hl:=L_i64 h
 have h1:=mk_fit (m:=n) (e:=0) (by omega) (by omega)
 have h2:iMin 0 0=0:=rfl
 have h3:iMax 0 0=0:=rfl
 rw [h2,h3,dv_int] at h1
 exact ⟨h1.1,by omega,h1.2.2.1,by omega,h1.2.2.2.2.1,h1.2.2.2.2.2⟩
theorem rawD_fit {b:Bool}{l:List Nat}{n e k:Int}(hl:Dig l)(hn:0≤n∧n≤800)(hk:0≤k∧k≤20000) :
  L (mkM (rawI b l n) (e%(2*k+1)-k)).natAbs≤n∧-k≤mkX (rawI b l n) (e%(2*k+1)-k)∧mkX (rawI b l n) (e%(2*k+1)-k)≤k+32*n ∧
  vdb (mkM (rawI b l n) (e%(2*k+1)-k)) (mkX (rawI b l n) (e%(2*k+1)-k))=true:=by
 have h1:=rawI_L (b:=b) hl hn.1
 have h2:=Int.emod_nonneg e (show (2*k+1:Int)≠0 by omega)
 have h3:=Int.emod_lt_of_pos e (show (0:Int)<2*k+1 by omega)
 generalize hd:e%(2*k+1)-k=d
 have h4:=mk_fit (m:=rawI b l n) (e:=d) (by omega) (by omega)
 have h5:=iMin_range d 0
 have h6:iMax d 0=d∨iMax d 0=0:=by unfold iMax; split<;>simp
 refine ⟨by omega,by omega,by omega,h4.2.2.2.2.1⟩
theorem sw_fit {m e n f:Int}(h1:vdb m e=true)(h2:vdb n f=true):vdb (swM m e n f) (swX m e n f)=true∧vdb (swN m e n f) (swF m e n f)=true∧dv (swM m e n f) (swX m e n f)≤dv (swN m e n f) (swF m e n f):=by
 rcases sw_facts m e n f with ⟨h,a,b,c,d,_⟩ | ⟨h,a,b,c,d,_⟩
 ·rw [a,b,c,d]
  exact ⟨h2,h1,Rat.le_of_lt (cmpD_pos.1 h)⟩
 ·rw [a,b,c,d]
  refine ⟨h1,h2,Rat.not_lt.1 fun q=>?_⟩
  have:=cmpD_pos.2 q
  omega
theorem rawI_fit {b c:Bool}{l r:List Nat}{n e f k:Int}(hl:Dig l)(hr:Dig r)(hn:0≤n∧n≤800)(hk:0≤k∧k≤20000){m1 x1 m2 x2:Int}(e1:m1=mkM (rawI b l n) (e%(2*k+1)-k))(e2:x1=mkX (rawI b l n) (e%(2*k+1)-k))
  (e3:m2=mkM (rawI c r n) (f%(2*k+1)-k)) (e4:x2=mkX (rawI c r n) (f%(2*k+1)-k)) :
  (L (swM m1 x1 m2 x2).natAbs≤n∧-k≤swX m1 x1 m2 x2∧swX m1 x1 m2 x2≤k+32*n)∧(L (swN m1 x1 m2 x2).natAbs≤n∧-k≤swF m1 x1 m2 x2∧swF m1 x1 m2 x2≤k+32*n) ∧
  vdb (swM m1 x1 m2 x2) (swX m1 x1 m2 x2)=true∧vdb (swN m1 x1 m2 x2) (swF m1 x1 m2 x2)=true∧dv (swM m1 x1 m2 x2) (swX m1 x1 m2 x2)≤dv (swN m1 x1 m2 x2) (swF m1 x1 m2 x2):=by
 have h1:=rawD_fit (b:=b) (e:=e) hl hn hk
 have h2:=rawD_fit (b:=c) (e:=f) hr hn hk
 rw [← e1,← e2] at h1
 rw [← e3,← e4] at h2
 obtain ⟨a1,a2,a3,a4⟩:=h1
 obtain ⟨b1,b2,b3,b4⟩:=h2
 have h3:=sw_fit a4 b4
 rcases sw_facts m1 x1 m2 x2 with ⟨_,a,b,c,d,g,i⟩ | ⟨_,a,b,c,d,g,i⟩
 ·exact ⟨⟨by omega,by omega,by omega⟩,⟨by omega,by omega,by omega⟩,h3⟩
 ·exact ⟨⟨by omega,by omega,by omega⟩,⟨by omega,by omega,by omega⟩,h3⟩
theorem ad_fine {m e n f:Int}(hm:L m.natAbs≤300)(hn:L n.natAbs≤300)(he:-4000≤e∧e≤4000)(hf:-4000≤f∧f≤4000):mkE (adS m e n f) (iMin e f)=0:=by
 have h0:=iMin_range e f
 have h1:=L_abs_shl m (e-iMin e f).toNat
 have h2:=L_abs_shl n (f-iMin e f).toNat
 have h3:=L_abs_add (m*2^(e-iMin e f).toNat) (n*2^(f-iMin e f).toNat)
 exact mk_fine2 (by unfold adS; omega) (by omega)
theorem ml_fine {m e n f:Int}(hm:L m.natAbs≤400)(hn:L n.natAbs≤400)(he:-20000≤e∧e≤14000)(hf:-20000≤f∧f≤14000):mkE (m*n) (e+f)=0:=by
 have h1:=L_abs_mul m n
 exact mk_fine2 (by omega) (by omega)
theorem cmpQ_le {x y:Rat}:cmpQ x y≤0↔x≤y:=by
 rcases cmpQ_range x y with ⟨q,k⟩ | ⟨q,k⟩ | ⟨q,k⟩
 ·exact ⟨fun _=>Rat.le_of_lt k,fun _=>by omega⟩
 ·exact ⟨fun h=>by omega,fun h=>absurd h (Rat.not_le.2 k)⟩
 ·exact ⟨fun _=>by rw [k]; exact Rat.le_refl,fun _=>by omega⟩
end Go.Proofs.YtcbihoojfakhdaaGreatDoor

namespace Go.Proofs.YtcbihoojfakhdaaGreatDoor
theorem has_1 {a b:Int}(h:a≤0):iLe b 0=decide (a≤0∧b≤0):=by unfold iLe; by_cases q:b≤0<;>simp [q,h]
end Go.Proofs.YtcbihoojfakhdaaGreatDoor

namespace Go.Proofs.YtcbihoojfakhdaaGreatDoor
theorem oM {p:Prop}(h:p:=by first | omega | exact ml_fine (by omega) (by omega) (by omega) (by omega) | exact ad_fine (by omega) (by omega) (by omega) (by omega) | exact (en_vdb _ _ _).1 | exact (en_vdb _ _ _).2):p:=h
theorem oD {p:Prop}(h:p:=by first | omega | exact ml_fine (by omega) (by omega) (by omega) (by omega) | exact ad_fine (by omega) (by omega) (by omega) (by omega) | exact (en_vdb _ _ _).1 | exact (en_vdb _ _ _).2 | decide):p:=h
theorem oN {p:Prop}(h:p:=by first | omega | exact ml_fine (by omega) (by omega) (by omega) (by omega) | exact ad_fine (by omega) (by omega) (by omega) (by omega) | exact (en_vdb _ _ _).1 | exact (en_vdb _ _ _).2 | assumption):p:=h
theorem oN2 {p:Prop}(h:p:=by first | omega | exact ml_fine (by omega) (by omega) (by omega) (by omega) | exact ad_fine (by omega) (by omega) (by omega) (by omega) | exact (en_vdb _ _ _).1 | exact (en_vdb _ _ _).2 | assumption | exact ad_fine (by omega) (by omega) (by omega) (by omega)):p:=h
theorem oP {p:Prop}(h:p:=by first | assumption | omega | exact o1.2.2.2.2.1):p:=h
theorem oW {p:Prop}(h:p:=by first | assumption | exact pw_or (by omega) | (simp; done) | omega):p:=h
theorem oS {p:Prop}(h:p:=by first | omega | assumption):p:=h
theorem oR {p:Prop}(h:p:=by first | omega | assumption | exact Rat.le_refl):p:=h
theorem oT {p:Prop}(h:p:=by first | assumption | omega | exact Rat.le_refl | exact of0.2.2.2.2.1):p:=h
theorem oU {p:Prop}(h:p:=by first | assumption | omega):p:=h
end Go.Proofs.YtcbihoojfakhdaaGreatDoor


namespace Go.Proofs.YtcbihoojfakhdaaGreatDoor
theorem bil_ge1 {x1 x2 a c l:Rat}(h1:x1≤a)(h2:a≤x2)(k1:l≤x1*c)(k2:l≤x2*c):l≤a*c:=by
 rcases (Rat.le_total:0≤c∨c≤0) with h | h
 ·exact Rat.le_trans k1 (Rat.mul_le_mul_of_nonneg_right h1 h)
 ·have e:(-x2)*(-c)≤(-a)*(-c):=Rat.le_trans (Rat.le_refl) (by
   have hc:0≤-c:=by grind
   have:=Rat.mul_le_mul_of_nonneg_right h2 hc
   grind)
  have e':x2*c≤a*c:=by grind
  exact Rat.le_trans k2 e'
theorem bil_ge {x1 x2 y1 y2 a b l:Rat}(h1:x1≤a)(h2:a≤x2)(g1:y1≤b)(g2:b≤y2)(k1:l≤x1*y1)(k2:l≤x1*y2)(k3:l≤x2*y1)(k4:l≤x2*y2):l≤a*b:=by
 refine bil_ge1 h1 h2 ?_ ?_
 ·rw [Rat.mul_comm]; exact bil_ge1 g1 g2 (by rw [Rat.mul_comm]; exact k1) (by rw [Rat.mul_comm]; exact k2)
 ·rw [Rat.mul_comm]; exact bil_ge1 g1 g2 (by rw [Rat.mul_comm]; exact k3) (by rw [Rat.mul_comm]; exact k4)
theorem bil_le {x1 x2 y1 y2 a b l:Rat}(h1:x1≤a)(h2:a≤x2)(g1:y1≤b)(g2:b≤y2)(k1:x1*y1≤l)(k2:x1*y2≤l)(k3:x2*y1≤l)(k4:x2*y2≤l):a*b≤l:=by
 have h:=bil_ge (x1:=-x2) (x2:=-x1) (y1:=y1) (y2:=y2) (a:=-a) (b:=b) (l:=-l) (by grind) (by grind) g1 g2 (by grind) (by grind) (by grind) (by grind)
 grind
theorem qmin_both (a b:Rat):qmin a b≤a∧qmin a b≤b:=by
 rcases qmin_or a b with ⟨h,k⟩ | ⟨h,k⟩<;>rw [h]
 ·exact ⟨Rat.le_of_lt k,Rat.le_refl⟩
 ·exact ⟨Rat.le_refl,k⟩
theorem qmax_both (a b:Rat):a≤qmax a b∧b≤qmax a b:=by
 rcases qmax_or a b with ⟨h,k⟩ | ⟨h,k⟩<;>rw [h]
 ·exact ⟨Rat.le_of_lt k,Rat.le_refl⟩
 ·exact ⟨Rat.le_refl,k⟩
theorem le_qmin {a b l:Rat}(h:l≤a)(k:l≤b):l≤qmin a b:=by rcases qmin_or a b with ⟨e,_⟩ | ⟨e,_⟩<;>rw [e]<;>assumption
theorem qmax_le2 {a b l:Rat}(h:a≤l)(k:b≤l):qmax a b≤l:=by rcases qmax_or a b with ⟨e,_⟩ | ⟨e,_⟩<;>rw [e]<;>assumption
theorem qmin4 (a b c d:Rat):qmin (qmin (qmin a b) c) d≤a∧qmin (qmin (qmin a b) c) d≤b∧qmin (qmin (qmin a b) c) d≤c∧qmin (qmin (qmin a b) c) d≤d:=by
 have h1:=qmin_both a b
 have h2:=qmin_both (qmin a b) c
 have h3:=qmin_both (qmin (qmin a b) c) d
 exact ⟨Rat.le_trans h3.1 (Rat.le_trans h2.1 h1.1),Rat.le_trans h3.1 (Rat.le_trans h2.1 h1.2),Rat.le_trans h3.1 h2.2,h3.2⟩
theorem qmax4 (a b c d:Rat):a≤qmax (qmax (qmax a b) c) d∧b≤qmax (qmax (qmax a b) c) d∧c≤qmax (qmax (qmax a b) c) d∧d≤qmax (qmax (qmax a b) c) d:=by
 have h1:=qmax_both a b
 have h2:=qmax_both (qmax a b) c
 have h3:=qmax_both (qmax (qmax a b) c) d
 exact ⟨Rat.le_trans h1.1 (Rat.le_trans h2.1 h3.1),Rat.le_trans h1.2 (Rat.le_trans h2.1 h3.1),Rat.le_trans h2.2 h3.1,h3.2⟩
theorem ml_in {m e n f p g q h:Int}{a b:Rat}(h1:dv m e≤a)(h2:a≤dv n f)(h3:dv p g≤b)(h4:b≤dv q h):mlLo m e n f p g q h≤a*b∧a*b≤mlHi m e n f p g q h:=by
 have l:=qmin4 (dv m e*dv p g) (dv m e*dv q h) (dv n f*dv p g) (dv n f*dv q h)
 have r:=qmax4 (dv m e*dv p g) (dv m e*dv q h) (dv n f*dv p g) (dv n f*dv q h)
 exact ⟨bil_ge h1 h2 h3 h4 l.1 l.2.1 l.2.2.1 l.2.2.2,bil_le h1 h2 h3 h4 r.1 r.2.1 r.2.2.1 r.2.2.2⟩
theorem nbits_L2 (a:Nat):nbits a≤32*L a:=by
 have:=nbits_L a; omega
theorem dm_nbits {m:Int}(h:m≠0):(nbits (dm m).natAbs:Int)+tz m.natAbs≤nbits m.natAbs:=by
 have h1:=dm_mul m
 have h2:m.natAbs=(dm m).natAbs*2^tz m.natAbs:=by
  have:=congrArg Int.natAbs h1
  rw [abs_shl] at this; exact this.symm
 have h3:=dm_ne h
 have h4:=nbits_le (show (dm m).natAbs≠0 by omega)
 have h5:=nbits_pos (show (dm m).natAbs≠0 by omega)
 have h6:=nbits_lt m.natAbs
 have h7:2^(nbits (dm m).natAbs-1+tz m.natAbs)≤m.natAbs:=by
  rw [Nat.pow_add]
  exact Nat.le_trans (Nat.mul_le_mul_right _ h4) (Nat.le_of_eq h2.symm)
 have h8:=(Nat.pow_lt_pow_iff_right (a:=2) (by omega)).1 (Nat.lt_of_le_of_lt h7 h6)
 omega
theorem end_ok {x w:Int}(h:L x.natAbs≤60)(hw:0≤w∧w≤300):endB (mkM x (-w)) (mkX x (-w))=true:=by
 have hf:=mk_fit (m:=x) (e:=-w) (by omega) (by omega)
 have hi:=iMin_range (-w) 0
 unfold endB onB topD
 simp only [Bool.and_eq_true,decide_eq_true_eq]
 by_cases hx:x=0
 ·subst hx
  rw [(mk_zero _).1,if_pos rfl]
  exact ⟨by omega,by omega,.inl rfl⟩
 ·have e1:mkM x (-w)=dm x:=by unfold mkM; rw [if_pos hf.1]
  have e2:mkX x (-w)=-w+(tz x.natAbs:Int):=by unfold mkX; rw [if_pos ⟨hf.1,hx⟩]; rfl
  have h1:=dm_nbits hx
  have h2:=nbits_L2 x.natAbs
  rw [e1,if_neg (dm_ne hx),e2]
  exact ⟨by omega,by omega,.inr (by omega)⟩
theorem en_ok {lo hi:Rat}{w:Int}(hw:0≤w∧w≤300)(h:lo≤hi)(h1:L (flr lo w).natAbs≤60)(h2:L (cei hi w).natAbs≤60):enE lo hi w=0:=by
 have a:=mk_fit (m:=flr lo w) (e:=-w) (by omega) (by omega)
 have b:=mk_fit (m:=cei hi w) (e:=-w) (by omega) (by omega)
 unfold enE
 rw [if_pos (by omega)]
 unfold ecE
 rw [if_pos]
 refine ⟨a.1,b.1,?_⟩
 unfold smB ivB
 rw [end_ok h1 hw,end_ok h2 hw,a.2.2.2.2.1,b.2.2.2.2.1]
 simp only [Bool.and_true,Bool.true_and,decide_eq_true_eq]
 rw [cmpD_dv,a.2.2.2.2.2,b.2.2.2.2.2]
 exact cmpQ_le.2 (Rat.le_trans (flr_le lo w) (Rat.le_trans h (cei_ge hi w)))
theorem flr_cei {lo hi:Rat}(h:lo≤hi)(w:Int):flr lo w≤cei hi w:=(dv_le (c:=-w)).1 (Rat.le_trans (flr_le lo w) (Rat.le_trans h (cei_ge hi w)))
theorem adS_L {m e n f:Int}{a c:Nat}(hm:L m.natAbs≤a)(hn:L n.natAbs≤a)(h:e-f≤32*c)(k:f-e≤32*c):L (adS m e n f).natAbs≤a+c+2:=by
 have h0:=iMin_range e f
 have h1:=L_abs_shl m (e-iMin e f).toNat
 have h2:=L_abs_shl n (f-iMin e f).toNat
 have h3:=L_abs_add (m*2^(e-iMin e f).toNat) (n*2^(f-iMin e f).toNat)
 unfold adS
 omega
theorem add_L {m e n f w:Int}(hm:L m.natAbs≤30)(hn:L n.natAbs≤30)(he:-300≤e∧e≤400)(hf:-300≤f∧f≤400)(hw:0≤w∧w≤200)(sh:L m.natAbs≤8∧L n.natAbs≤8:=by omega):L (flr (dv m e+dv n f) w).natAbs≤60∧L (cei (dv m e+dv n f) w).natAbs≤60:=by
 have h0:=iMin_range e f
 have h1:=adS_L (a:=8) (c:=22) sh.1 sh.2 (show e-f≤32*(22:Nat) by omega) (by omega)
 have h2:=flr_LD (adS m e n f) (iMin e f) w
 rw [dv_ad] at h2
 omega
theorem mul_L {m e n f w:Int}(hm:L m.natAbs≤8)(hn:L n.natAbs≤8)(he:-300≤e∧e≤400)(hf:-300≤f∧f≤400)(hw:0≤w∧w≤200):L (flr (dv m e*dv n f) w).natAbs≤60∧L (cei (dv m e*dv n f) w).natAbs≤60:=by
 have h1:=L_abs_mul m n
 have h2:=flr_LD (m*n) (e+f) w
 rw [dv_mul] at h2
 omega
theorem flr_qmin_L {a b:Rat}{w:Int}{k:Nat}(h:L (flr a w).natAbs≤k)(h':L (flr b w).natAbs≤k):L (flr (qmin a b) w).natAbs≤k:=by
 rcases qmin_or a b with ⟨e,_⟩ | ⟨e,_⟩<;>rw [e]<;>assumption
theorem cei_qmax_L {a b:Rat}{w:Int}{k:Nat}(h:L (cei a w).natAbs≤k)(h':L (cei b w).natAbs≤k):L (cei (qmax a b) w).natAbs≤k:=by
 rcases qmax_or a b with ⟨e,_⟩ | ⟨e,_⟩<;>rw [e]<;>assumption
def FitI (m e n f:Int):Prop:=(L m.natAbs≤8∧-300≤e∧e≤400)∧(L n.natAbs≤8∧-300≤f∧f≤400)∧dv m e≤dv n f
theorem ml_L {m e n f p g q h w:Int}(h1:FitI m e n f)(h2:FitI p g q h)(hw:0≤w∧w≤200):L (flr (mlLo m e n f p g q h) w).natAbs≤60∧L (cei (mlHi m e n f p g q h) w).natAbs≤60:=by
 obtain ⟨a,b,_⟩:=h1
 obtain ⟨c,d,_⟩:=h2
 have k1:=mul_L a.1 c.1 a.2 c.2 hw
 have k2:=mul_L a.1 d.1 a.2 d.2 hw
 have k3:=mul_L b.1 c.1 b.2 c.2 hw
 have k4:=mul_L b.1 d.1 b.2 d.2 hw
 exact ⟨flr_qmin_L (flr_qmin_L (flr_qmin_L k1.1 k2.1) k3.1) k4.1,cei_qmax_L (cei_qmax_L (cei_qmax_L k1.2 k2.2) k3.2) k4.2⟩
theorem ml_le {m e n f p g q h:Int}(h1:dv m e≤dv n f)(h2:dv p g≤dv q h):mlLo m e n f p g q h≤mlHi m e n f p g q h :=
 have k:=ml_in (a:=dv m e) (b:=dv p g) Rat.le_refl h1 Rat.le_refl h2
 Rat.le_trans k.1 k.2
theorem ml_ok {m e n f p g q h w:Int}(h1:FitI m e n f)(h2:FitI p g q h)(hw:0≤w∧w≤200):enE (mlLo m e n f p g q h) (mlHi m e n f p g q h) w=0:=by
 have k:=ml_L h1 h2 hw
 exact en_ok (by omega) (ml_le h1.2.2 h2.2.2) k.1 k.2
theorem ad_ok {m e n f p g q h w:Int}(h1:FitI m e n f)(h2:FitI p g q h)(hw:0≤w∧w≤200):enE (dv m e+dv p g) (dv n f+dv q h) w=0:=by
 obtain ⟨a,b,o⟩:=h1
 obtain ⟨c,d,o'⟩:=h2
 exact en_ok (by omega) (q_add_le o o') (add_L (by omega) (by omega) a.2 c.2 hw).1 (add_L (by omega) (by omega) b.2 d.2 hw).2
end Go.Proofs.YtcbihoojfakhdaaGreatDoor



namespace Go.Proofs.YtcbihoojfakhdaaGreatDoor
theorem fl_R {a T:Int}(hT:0<T):((a / T:Int):Rat)*(T:Rat)≤(a:Rat)∧(a:Rat)<((a / T:Int):Rat)*(T:Rat)+(T:Rat):=by
 have h1:=Int.ediv_mul_le a (show T≠0 by omega)
 have h2:=Int.lt_ediv_add_one_mul_self a hT
 rw [Int.add_mul,Int.one_mul] at h2
 rw [← Rat.intCast_mul,← Rat.intCast_add,Rat.intCast_le_intCast,Rat.intCast_lt_intCast]
 exact ⟨h1,h2⟩
theorem ce_R {a T:Int}(hT:0<T):(a:Rat)≤((-(-a / T):Int):Rat)*(T:Rat)∧((-(-a / T):Int):Rat)*(T:Rat)<(a:Rat)+(T:Rat):=by
 have h:=fl_R (a:=-a) hT
 rw [Rat.intCast_neg] at h ⊢
 constructor<;>grind
theorem least {P:Nat→Prop}[DecidablePred P]:∀ {n:Nat},P n→∃ N,N≤n∧P N∧∀ j,j<N→¬ P j
 | 0,h=>⟨0,Nat.le_refl _,h,fun j hj=>by omega⟩
 | n+1,h=>by
  by_cases q:∃ m,m≤n∧P m
  ·obtain ⟨m,hm,pm⟩:=q
   obtain ⟨N,hN,pN,hj⟩:=least pm
   exact ⟨N,by omega,pN,hj⟩
  ·exact ⟨n+1,Nat.le_refl _,h,fun j hj pj=>q ⟨j,by omega,pj⟩⟩
def ptLo (a d:Int):Int:=((a.natAbs / d.toNat:Nat):Int)
def ptHi (b d:Int):Int:=((b.natAbs / d.toNat+(if b.natAbs%d.toNat=0 then 0 else 1):Nat):Int)
theorem ptLo_eq {a d:Int}(ha:0≤a)(hd:0<d):ptLo a d=a / d:=by
 unfold ptLo
 obtain ⟨x,rfl⟩:=Int.eq_ofNat_of_zero_le ha
 obtain ⟨y,rfl⟩:=Int.eq_ofNat_of_zero_le (show 0≤d by omega)
 simp
theorem ptHi_eq {b d : Int} (hb : 0 ≤ b) (hd : 0 < d) : ptHi b d = -(-b / d) := by
  unfold ptHi
  obtain ⟨x, rfl⟩ := Int.eq_ofNat_of_zero_le hb
  obtain ⟨y, rfl⟩ := Int.eq_ofNat_of_zero_le (show 0 ≤ d by omega)
  simp only [Int.natAbs_natCast, Int.toNat_natCast]
  have e := Nat.div_add_mod x y
  have l := Nat.mod_lt x (show 0 < y by omega)
  have key : ∀ q : Int, q * (y : Int) ≤ -(x : Int) → -(x : Int) < (q + 1) * (y : Int) → -(x : Int) / (y : Int) = q := by
    intro q h1 h2
    have a1 := Int.le_ediv_of_mul_le hd h1
    have a2 := Int.ediv_lt_of_lt_mul hd h2
    omega
  have ei : ((y : Int)) * ((x / y : Nat) : Int) + ((x % y : Nat) : Int) = (x : Int) := by
    have := congrArg (Nat.cast : Nat → Int) e
    push_cast at this ⊢
    exact this
  split
  · rename_i h0
    rw [key (-((x / y : Nat) : Int)) (by rw [h0] at ei; grind) (by rw [h0] at ei; grind)]
    omega
  · rename_i h0
    rw [key (-((x / y : Nat) : Int) - 1) (by have : ((x % y : Nat) : Int) ≤ y := by omega
                                             grind) (by have : (0 : Int) < ((x % y : Nat) : Int) := by omega
                                                        grind)]
    omega
structure ArH (T x1 x2:Int):Prop where
 hT:8≤T
 h1:0≤x1
 h2:x1≤x2
 h3:2*x2≤T
end Go.Proofs.YtcbihoojfakhdaaGreatDoor

namespace Go.Proofs.YtcbihoojfakhdaaGreatDoor
theorem dv_sc (x:Int)(t:Nat):dv x (-(t:Int))*((2^t:Int):Rat)=(x:Rat):=by
 have e:((2^t:Int):Rat)=(2:Rat)^(t:Int):=(zp_nat t).symm
 unfold dv
 rw [e,Rat.mul_assoc,Rat.mul_comm ((2:Rat)^(-(t:Int))),zp_cancel,Rat.mul_one]
theorem flr_sc (r:Rat)(t:Nat):((flr r t:Int):Rat)≤r*((2^t:Int):Rat)∧r*((2^t:Int):Rat)<((flr r t:Int):Rat)+1:=by
 have T0:(0:Rat)<((2^t:Int):Rat):=Rat.intCast_pos.2 (two_pos t)
 have a:=Rat.mul_le_mul_of_nonneg_right (flr_le r t) (Rat.le_of_lt T0)
 have b:=Rat.mul_lt_mul_of_pos_right (flr_lt r t) T0
 rw [dv_sc] at a b
 rw [Rat.intCast_add] at b
 exact ⟨a,b⟩
theorem cei_sc (r:Rat)(t:Nat):r*((2^t:Int):Rat)≤((cei r t:Int):Rat)∧((cei r t:Int):Rat)<r*((2^t:Int):Rat)+1:=by
 have h:=flr_sc (-r) t
 unfold cei
 rw [Rat.intCast_neg]
 constructor<;>grind
theorem flr_cei1 (r:Rat)(t:Nat):cei r t≤flr r t+1∧flr r t≤cei r t:=by
 have a:=flr_sc r t
 have b:=cei_sc r t
 constructor
 ·refine Decidable.byContradiction fun hn=>?_
  have:((flr r t+2:Int):Rat)≤((cei r t:Int):Rat):=Rat.intCast_le_intCast.2 (by omega)
  rw [Rat.intCast_add,show ((2:Int):Rat)=2 from rfl] at this
  grind
 ·refine Rat.intCast_le_intCast.1 ?_
  grind
structure LnH (T:Int) (M Z:Rat) (d1 d2 xa xb:Int):Prop where
 hT:256≤T
 m1:3≤4*M
 m2:2*M≤3
 xa1:(xa:Rat)≤M*(T:Rat)
 xb1:M*(T:Rat)≤(xb:Rat)
 x2:xb≤xa+1
 d0:0≤d1
 d3:d2≤d1+1
 z0:0≤Z
 z2:2*(Z*(M+1))≤1
 dz1:(d1:Rat)≤Z*(M+1)*(T:Rat)
 dz2:Z*(M+1)*(T:Rat)≤(d2:Rat)
end Go.Proofs.YtcbihoojfakhdaaGreatDoor

namespace Go.Proofs.YtcbihoojfakhdaaGreatDoor
structure RrH (v:Nat) (x1 x2:Int):Prop where
 hv:8≤v
 h1:x1.natAbs≤2^(v-1)
 h2:x2.natAbs≤2^(v-1)
end Go.Proofs.YtcbihoojfakhdaaGreatDoor

namespace Go.Proofs.YtcbihoojfakhdaaGreatDoor
theorem of_ge {m e s:Int}(h:0≤e+s):m*2^(e+s).toNat=flr (dv m e) s∧m*2^(e+s).toNat=cei (dv m e) s:=by
 have a:flr (dv m e) s=m*2^(e+s).toNat:=by rw [flr_dv,if_pos h]
 have b:flr (dv (-m) e) s=-m*2^(e+s).toNat:=by rw [flr_dv,if_pos h]
 refine ⟨a.symm,?_⟩
 unfold cei
 rw [← dv_neg,b,Int.neg_mul,Int.neg_neg]
theorem of_lt {m e s:Int}(h:e+s<0):m / 2^(0-(e+s)).toNat=flr (dv m e) s∧-(-m / 2^(0-(e+s)).toNat)=cei (dv m e) s:=by
 have a:flr (dv m e) s=m / 2^(-(e+s)).toNat:=by rw [flr_dv,if_neg (by omega)]
 have b:flr (dv (-m) e) s=-m / 2^(-(e+s)).toNat:=by rw [flr_dv,if_neg (by omega)]
 rw [show (0:Int)-(e+s)=-(e+s) by omega]
 refine ⟨a.symm,?_⟩
 unfold cei
 rw [← dv_neg,b]
theorem half_enc {a b:Int}{X:Rat}{t s n:Nat}(h:t=s+n)(h1:(a:Rat)≤X*((2^t:Int):Rat))(h2:X*((2^t:Int):Rat)≤(b:Rat)) :
  ((a / 2^n:Int):Rat)≤X*((2^s:Int):Rat)∧X*((2^s:Int):Rat)≤((-(-b / 2^n):Int):Rat):=by
 have n0:(0:Rat)<((2^n:Int):Rat):=Rat.intCast_pos.2 (two_pos n)
 have e:((2^t:Int):Rat)=((2^s:Int):Rat)*((2^n:Int):Rat):=by rw [h,Int.pow_add,Rat.intCast_mul]
 rw [e,← Rat.mul_assoc] at h1 h2
 have f:=(fl_R (a:=a) (two_pos n)).1
 have g:=(ce_R (a:=b) (two_pos n)).1
 exact ⟨Rat.le_of_mul_le_mul_right (Rat.le_trans f h1) n0,Rat.le_of_mul_le_mul_right (Rat.le_trans h2 g) n0⟩
theorem half_w {a b W:Int}{n:Nat}(h:b-a≤W*2^n):-(-b / 2^n)-a / 2^n≤W+1:=by
 have n0:=two_pos n
 have f1:=Int.lt_ediv_add_one_mul_self a n0
 have f2:=Int.lt_ediv_add_one_mul_self (-b) n0
 generalize a / 2^n=u at *
 generalize -b / 2^n=v at *
 generalize (2:Int)^n=T at *
 refine Decidable.byContradiction fun hn=>?_
 have m:=Int.mul_le_mul_of_nonneg_right (show W+2≤-v-u by omega) (show 0≤T by omega)
 grind
def tmLo (a b k:Int):Int:=if k<0 then b*k else a*k
def tmHi (a b k:Int):Int:=if k<0 then a*k else b*k
theorem tm_enc {a b k:Int}{y:Rat}(h1:(a:Rat)≤y)(h2:y≤(b:Rat)):((tmLo a b k:Int):Rat)≤y*k∧y*k≤((tmHi a b k:Int):Rat):=by
 unfold tmLo tmHi
 split
 ·rename_i h
  have k0:(0:Rat)≤-(k:Rat):=by rw [← Rat.intCast_neg]; exact Rat.intCast_nonneg.2 (by omega)
  have m1:=Rat.mul_le_mul_of_nonneg_right h1 k0
  have m2:=Rat.mul_le_mul_of_nonneg_right h2 k0
  rw [Rat.intCast_mul,Rat.intCast_mul]
  constructor<;>grind
 ·rename_i h
  have k0:(0:Rat)≤(k:Rat):=Rat.intCast_nonneg.2 (by omega)
  have m1:=Rat.mul_le_mul_of_nonneg_right h1 k0
  have m2:=Rat.mul_le_mul_of_nonneg_right h2 k0
  rw [Rat.intCast_mul,Rat.intCast_mul]
  exact ⟨m1,m2⟩
theorem tm_w {a b k W:Int}(hab:a≤b)(hk:-W≤k∧k≤W)(h:b-a<16777216):tmHi a b k-tmLo a b k≤16777216*W:=by
 unfold tmLo tmHi
 have key:∀ {x y:Int},0≤x→x≤16777216→0≤y→y≤W→x*y≤16777216*W:=fun h1 h2 h3 h4 =>
  Int.le_trans (Int.mul_le_mul_of_nonneg_right h2 h3) (Int.mul_le_mul_of_nonneg_left h4 (by omega))
 split
 ·have:=key (x:=b-a) (y:=-k) (by omega) (by omega) (by omega) (by omega)
  rw [Int.mul_neg,Int.sub_mul] at this
  omega
 ·have:=key (x:=b-a) (y:=k) (by omega) (by omega) (by omega) (by omega)
  rw [Int.sub_mul] at this
  omega
def ptLn:Int:=1921868181103848789005135799070027024580345152612047297481125309024332866685277824573051215291055110282969622901371337173642342478
def cLn:Rat:=dv ptLn (-430)
theorem cl_sc {x:Int}{t:Nat}{P:Int}(ht:t≤430):(x*2^(430-t)≤P→(x:Rat)≤dv P (-430)*((2^t:Int):Rat))∧(P≤x*2^(430-t)→dv P (-430)*((2^t:Int):Rat)≤(x:Rat)):=by
 have T0:(0:Rat)<((2^t:Int):Rat):=Rat.intCast_pos.2 (two_pos t)
 have e:dv (x*2^(430-t)) (-430)*((2^t:Int):Rat)=(x:Rat):=by
  rw [dv_shl,show (-430:Int)+((430-t:Nat):Int)=-(t:Int) by omega,dv_sc]
 constructor
 ·intro h
  have a:=Rat.mul_le_mul_of_nonneg_right ((dv_le (c:=-430)).2 h) (Rat.le_of_lt T0)
  rwa [e] at a
 ·intro h
  have a:=Rat.mul_le_mul_of_nonneg_right ((dv_le (c:=-430)).2 h) (Rat.le_of_lt T0)
  rwa [e] at a
def Encl (f:Nat→Rat)(s:Nat)(lo hi:Int):Prop:=∃ N,∀ K,N≤K→(lo:Rat)≤f K*((2^s:Int):Rat)∧f K*((2^s:Int):Rat)≤(hi:Rat)
theorem Encl.half {f:Nat→Rat}{t s n:Nat}{a b:Int}(h:Encl f t a b)(e:t=s+n):Encl f s (a / 2^n) (-(-b / 2^n)):=by
 obtain ⟨N,h⟩:=h
 exact ⟨N,fun K hK=>half_enc e (h K hK).1 (h K hK).2⟩
theorem Encl.le {f:Nat→Rat}{s:Nat}{a b:Int}(h:Encl f s a b):a≤b:=by
 obtain ⟨N,h⟩:=h
 exact Rat.intCast_le_intCast.1 (Rat.le_trans (h N (Nat.le_refl _)).1 (h N (Nat.le_refl _)).2)
theorem Sp_of {a b c d:Int}(h1:a=c)(h2:b=d):vsub (.agg [.bool (decide (a<0)),N a.natAbs,.bool (decide (b<0)),N b.natAbs]) (.agg [.bool (decide (c<0)),N c.natAbs,.bool (decide (d<0)),N d.natAbs]):=by
 subst h1; subst h2; exact vsub_refl _
theorem pt_hi1 {b d:Int}(h:((b.natAbs%d.toNat:Nat):Int)≠0):sgn false (b.natAbs / d.toNat+(1:Int).toNat)=ptHi b d:=by
 unfold ptHi
 rw [if_neg (by omega)]; rfl
theorem pt_hi2 {b d:Int}(h:((b.natAbs%d.toNat:Nat):Int)=0):sgn false (b.natAbs / d.toNat)=ptHi b d:=by
 unfold ptHi
 rw [if_pos (by omega)]; rfl
theorem tiny_8 {b:Int}:iLe (nbits b.natAbs:Int) 3=decide (b.natAbs<8):=by
 unfold iLe
 have h:(nbits b.natAbs:Int)≤3↔b.natAbs<8:=by
  constructor
  ·intro h
   have l:=nbits_lt b.natAbs
   have:=Nat.pow_le_pow_right (n:=2) (by omega) (show nbits b.natAbs≤3 by omega)
   omega
  ·intro h
   have:=nbits_of_lt (x:=b.natAbs) (k:=3) (by omega)
   omega
 exact decide_eq_decide.2 h
theorem arcT_pos (n:Int)(g:Bool)(s:Int):0≤(arcT n g s).1:=by
 have key:∀ (f:Nat) (n:Nat) (k:Int) (p:Nat) (a:Int),0≤k→0≤(arcG n g f k p a).1:=by
  intro f
  induction f with
  | zero=>intro n k p a h; exact h
  | succ f ih =>
   intro n k p a h
   rw [arcG]
   split
   ·exact h
   ·exact ih _ _ _ _ (by omega)
 exact key _ _ _ _ _ (Int.le_refl _)
end Go.Proofs.YtcbihoojfakhdaaGreatDoor

namespace Go.Proofs.YtcbihoojfakhdaaGreatDoor
open Go.RowKit
set_option maxRecDepth 100000
theorem fx_One (s:Int)(c0:(0:Int)≤s∧s≤20000):Impl Tryz.prog Amb 213 [(.int .i64 s)] (sV ((1:Int)*2^(s).toNat) ((1:Int)*2^(s).toNat)):=by
 exact impl_ob hP hAmb Tryz.func213 (by kernel_rfl) (.lit<|.call (zV (1:Int))<|.lit<|.call (zV ((1:Int)*2^(s).toNat))<|.lit<|.call (sV ((1:Int)*2^(s).toNat) ((1:Int)*2^(s).toNat))<|.lits 2<|.ret)
  (cast_ob (aI True.intro (aI (int_Of 1 oO) (have f2:=(L_i64 oO:L (1:Int).natAbs≤2); aI (int_Shl (1:Int) s oO oO) (have f1:=L_abs_shl (1:Int) (s).toNat; aI (fx_Exact ((1:Int)*2^(s).toNat) oO) ((vsub_refl (sV ((1:Int)*2^(s).toNat) ((1:Int)*2^(s).toNat)))))))) (by kernel_rfl))
theorem fx_Of (m e s:Int)(c0:L (m).natAbs≤8192)(c1:(-200000:Int)≤e∧e≤200000)(c2:(0:Int)≤s∧s≤20000):Impl Tryz.prog Amb 161 [(yV m e),(.int .i64 s)] (sV (flr (dv m e) s) (cei (dv m e) s)):=by
 exact impl_ob hP hAmb Tryz.func161 (by kernel_rfl) (.lits 2<|.yes<|.lit<|.both (.lits 2<|.call (zV (m*2^((e+s)).toNat))<|.lit<|.call (sV (m*2^((e+s)).toNat) (m*2^((e+s)).toNat))<|.lits 2<|.ret) (.lits 2<|.call (sV m m)<|.lit<|.yes<|.lit<|.call (sV (m / 2^(((0:Int)-(e+s))).toNat) (-(-m / 2^(((0:Int)-(e+s))).toNat)))<|.lits 2<|.ret))
  (cast_ob (aI True.intro (aI (fits_i64 oO:(fits .i64 (e+s))=true) (aI (fun (h1:(iGe (e+s) 0)=true)=>have _gh1:=iGe_t h1; aI (int_Shl m (e+s) oO oO) (have f2:=L_abs_shl m ((e+s)).toNat; aI (fx_Exact (m*2^((e+s)).toNat) oO) ((by rw [← (of_ge (m:=m) (e:=e) (s:=s) oO).1,← (of_ge (m:=m) (e:=e) (s:=s) oO).2]; exact vsub_refl _:vsub (sV (m*2^((e+s)).toNat) (m*2^((e+s)).toNat)) (sV (flr (dv m e) s) (cei (dv m e) s)))))) (fun (h3:(iGe (e+s) 0)=false)=>have _gh3:=iGe_f h3; aI (fx_Exact m oO) (aI (fits_i64 oO:(fits .i64 ((0:Int)-(e+s)))=true) (aI (fx_Half m m ((0:Int)-(e+s)) oO oO oO) (have f7:=L_abs_neg (-m / 2^(((0:Int)-(e+s))).toNat); have f6:=L_abs_shr (-m) (((0:Int)-(e+s))).toNat; have f5:=L_abs_neg m; have f4:=L_abs_shr m (((0:Int)-(e+s))).toNat; (by rw [← (of_lt (m:=m) (e:=e) (s:=s) oO).1,← (of_lt (m:=m) (e:=e) (s:=s) oO).2]; exact vsub_refl _:vsub (sV (m / 2^(((0:Int)-(e+s))).toNat) (-(-m / 2^(((0:Int)-(e+s))).toNat))) (sV (flr (dv m e) s) (cei (dv m e) s)))))))))) (by kernel_rfl))
theorem fx_Twice (a b n:Int)(c0:L (a).natAbs≤65536)(c1:L (b).natAbs≤65536)(c2:(0:Int)≤n∧n≤20000):Impl Tryz.prog Amb 216 [(sV a b),(.int .i64 n)] (sV (a*2^(n).toNat) (b*2^(n).toNat)):=by
 exact impl_ob hP hAmb Tryz.func216 (by kernel_rfl) (.lits 2<|.call (zV (a*2^(n).toNat))<|.lits 2<|.call (zV (b*2^(n).toNat))<|.lits 3<|.ret)
  (cast_ob (aI True.intro (aI (int_Shl a n oO oO) (have f2:=L_abs_shl a (n).toNat; aI (int_Shl b n oO oO) (have f1:=L_abs_shl b (n).toNat; (vsub_refl (sV (a*2^(n).toNat) (b*2^(n).toNat))))))) (by kernel_rfl))
theorem fx_Mul (a b c d s:Int)(c0:L (a).natAbs≤8192)(c1:L (b).natAbs≤8192)(c2:L (c).natAbs≤8192)(c3:L (d).natAbs≤8192)(c4:(0:Int)≤s∧s≤20000):Impl Tryz.prog Amb 236 [(sV a b),(sV c d),(.int .i64 s)] (sV (a*c / 2^(s).toNat) (-(-(b*d) / 2^(s).toNat))):=by
 exact impl_ob hP hAmb Tryz.func236 (by kernel_rfl) (.lits 3<|.call (zV (a*c))<|.lit<|.call (zV ((a*c) / 2^(s).toNat))<|.lits 3<|.call (zV (b*d))<|.lit<|.call (zV (-(-(b*d) / 2^(s).toNat)))<|.lits 3<|.ret)
  (cast_ob (aI True.intro (aI (int_Mul a c oO oO) (have f6:=L_abs_mul a c; aI (int_Shr (a*c) s oO oO) (have f5:=L_abs_shr (a*c) (s).toNat; aI (int_Mul b d oO oO) (have f4:=L_abs_mul b d; aI (fx_up (b*d) s oO oO) (have f3:=L_abs_neg (-(b*d) / 2^(s).toNat); have f2:=L_abs_shr (-(b*d)) (s).toNat; have f1:=L_abs_neg (b*d); (vsub_of (by first | rfl | simp_all):vsub (sV ((a*c) / 2^(s).toNat) (-(-(b*d) / 2^(s).toNat))) (sV (a*c / 2^(s).toNat) (-(-(b*d) / 2^(s).toNat)))))))))) (by kernel_rfl))
theorem fx_TimesN (a b n:Int)(c0:L (a).natAbs≤65536)(c1:L (b).natAbs≤65536)(c2:(-9223372036854775808:Int)≤n∧n<0):Impl Tryz.prog Amb 165 [(sV a b),(.int .i64 n)] (sV (b*n) (a*n)):=by
 exact impl_ob hP hAmb Tryz.func165 (by kernel_rfl) (.lit<|.call (zV n)<|.lits 2<|.yes<|.lits 3<|.call (zV (b*n))<|.lits 3<|.call (zV (a*n))<|.lits 3<|.ret)
  (cast_ob (aI True.intro (aI (int_Of n oO) (have f3:=(L_i64 oO:L (n:Int).natAbs≤2); aI (iLt_mk oO:(iLt n 0)=true) (aI (int_Mul b n oO oO) (have f2:=L_abs_mul b n; aI (int_Mul a n oO oO) (have f1:=L_abs_mul a n; (vsub_refl (sV (b*n) (a*n))))))))) (by kernel_rfl))
theorem fx_TimesA (a b n:Int)(c0:L (a).natAbs≤65536)(c1:L (b).natAbs≤65536)(c2:(-9223372036854775808:Int)≤n∧n≤9223372036854775807):Impl Tryz.prog Amb 165 [(sV a b),.int .i64 n] (sV (tmLo a b n) (tmHi a b n)):=by
 by_cases h:n<0
 ·unfold tmLo tmHi
  rw [if_pos h,if_pos h]
  exact fx_TimesN a b n c0 c1 ⟨by omega,h⟩
 ·unfold tmLo tmHi
  rw [if_neg h,if_neg h]
  exact fx_Times a b n c0 c1 ⟨by omega,by omega⟩
theorem fx_Part (a b d:Int)(c0:L (a).natAbs≤65536)(c1:L (b).natAbs≤65536)(c2:(0:Int)<d∧d<4294967296):Impl Tryz.prog Amb 242 [(sV a b),(.int .u32 d)] (sV (ptLo a d) (ptHi b d)):=by
 have z1:=L_lit 1 (by decide)
 exact impl_ob hP hAmb Tryz.func242 (by kernel_rfl) (.lits 2<|.call (.tup [(N (a.natAbs / (d).toNat)),(.int .u32 ((a.natAbs%(d).toNat:Nat):Int)),(.bool true)])<|.lits 2<|.call (.tup [(N (b.natAbs / (d).toNat)),(.int .u32 ((b.natAbs%(d).toNat:Nat):Int)),(.bool true)])<|.lit<|.both (.lit<|.call (N 1)<|.lit<|.call (N ((b.natAbs / (d).toNat)+1))<|.lit<|.call (zV (sgn false (a.natAbs / (d).toNat)))<|.lit<|.call (zV (sgn false ((b.natAbs / (d).toNat)+1)))<|.lits 3<|.ret) (.lit<|.call (zV (sgn false (a.natAbs / (d).toNat)))<|.lit<|.call (zV (sgn false (b.natAbs / (d).toNat)))<|.lits 3<|.ret))
  (cast_ob (aI True.intro (aI (quot_SmallI a.natAbs d oO oO) (have f9:=L_div a.natAbs (d).toNat; aI (quot_SmallI b.natAbs d oO oO) (have f8:=L_div b.natAbs (d).toNat; aI (fun (h1:(iNe ((b.natAbs%(d).toNat:Nat):Int) 0)=true)=>have _gh1:=iNe_t h1; aI (nat_Of 1 oO) (aI (nat_Add (b.natAbs / (d).toNat) 1 oO oO) (have f4:=L_add (b.natAbs / (d).toNat) 1; aI (int_Nat false (a.natAbs / (d).toNat) oO) (have f3:=L_sgn false (a.natAbs / (d).toNat); aI (int_Nat false ((b.natAbs / (d).toNat)+1) oO) (have f2:=L_sgn false ((b.natAbs / (d).toNat)+1); (Sp_of rfl (pt_hi1 oO):vsub (sV (sgn false (a.natAbs / (d).toNat)) (sgn false ((b.natAbs / (d).toNat)+1))) (sV (ptLo a d) (ptHi b d)))))))) (fun (h5:(iNe ((b.natAbs%(d).toNat:Nat):Int) 0)=false)=>have _gh5:=iNe_f h5; aI (int_Nat false (a.natAbs / (d).toNat) oO) (have f7:=L_sgn false (a.natAbs / (d).toNat); aI (int_Nat false (b.natAbs / (d).toNat) oO) (have f6:=L_sgn false (b.natAbs / (d).toNat); (Sp_of rfl (pt_hi2 oO):vsub (sV (sgn false (a.natAbs / (d).toNat)) (sgn false (b.natAbs / (d).toNat))) (sV (ptLo a d) (ptHi b d)))))))))) (by kernel_rfl))
theorem fx_tiny (b:Int)(c0:L (b).natAbs≤65536):Impl Tryz.prog Amb 249 [(zV b)] (.bool (decide ((b).natAbs<8))):=by
 exact impl_ob hP hAmb Tryz.func249 (by kernel_rfl) (.lits 2<|.call (.int .i64 (nbits b.natAbs:Int))<|.lits 2<|.ret)
  (cast_ob (aI True.intro (aI (nat_Bits b.natAbs oO) (have f1:=nbits_L b.natAbs; (vsub_of (congrArg V.bool tiny_8):vsub (.bool (iLe (nbits b.natAbs:Int) 3)) (.bool (decide ((b).natAbs<8))))))) (by kernel_rfl))
theorem fx_Tiny (a b:Int)(c0:L (b).natAbs≤65536):Impl Tryz.prog Amb 241 [(sV a b)] (.bool (decide ((b).natAbs<8))):=by
 exact impl_ob hP hAmb Tryz.func241 (by kernel_rfl) (.lits 2<|.call (.bool (decide ((b).natAbs<8)))<|.lit<|.ret)
  (cast_ob (aI True.intro (aI (fx_tiny b oO) ((vsub_refl (.bool (decide ((b).natAbs<8))))))) (by kernel_rfl))
end Go.Proofs.YtcbihoojfakhdaaGreatDoor


namespace Go.Proofs.YtcbihoojfakhdaaGreatDoor
theorem cmpD_le {m e n f:Int}:cmpD m e n f≤0↔dv m e≤dv n f:=by rw [cmpD_dv,cmpQ_le]
end Go.Proofs.YtcbihoojfakhdaaGreatDoor


namespace Go.Proofs.YtcbihoojfakhdaaGreatDoor
theorem dv_ge0 {m e:Int}:0≤dv m e↔0≤m:=by rw [← dv_zero e,dv_le]
theorem dv_top {m e:Int}(hm:m≠0):dv (m.natAbs:Int) e<dv 1 (topD m e)∧dv 1 (topD m e-1)≤dv (m.natAbs:Int) e:=by
 have h1:=nbits_lt m.natAbs
 have h2:=nbits_le (show m.natAbs≠0 by omega)
 have h3:=nbits_pos (show m.natAbs≠0 by omega)
 have ht:topD m e=(nbits m.natAbs:Int)+e:=by unfold topD; rw [if_neg hm]
 constructor
 ·rw [dv_at (m:=1) (show e≤topD m e by omega),dv_lt,Int.one_mul,pow_cast,show (topD m e-e).toNat=nbits m.natAbs by omega]; omega
 ·rw [dv_at (m:=1) (show e≤topD m e-1 by omega),dv_le,Int.one_mul,pow_cast,show (topD m e-1-e).toNat=nbits m.natAbs-1 by omega]; omega
end Go.Proofs.YtcbihoojfakhdaaGreatDoor


namespace Go.Proofs.YtcbihoojfakhdaaGreatDoor
theorem dv_exp (m e k:Int):dv m e=dv m (e-k)*2^k:=by
 unfold dv
 rw [Rat.mul_assoc,← zp_add,show e-k+k=e by omega]
end Go.Proofs.YtcbihoojfakhdaaGreatDoor

