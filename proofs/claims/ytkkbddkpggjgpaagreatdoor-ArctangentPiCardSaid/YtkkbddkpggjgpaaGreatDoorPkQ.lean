/-
  Lower layers: what functions of the program compute, and plain facts. Conditions: as the theorems say.
-/
import Derived.Test.YtkkbddkpggjgpaaGreatDoorPkP
set_option linter.unusedVariables false
set_option linter.unusedSimpArgs false
namespace Go.Proofs.YtkkbddkpggjgpaaGreatDoor
open Go.RowKit
set_option maxRecDepth 100000
theorem ar_Sub (m e n f p g q h w:Int)(c0:L (m).natAbs≤600)(c1:(-20000:Int)≤e∧e≤20000)(c2:L (n).natAbs≤600)(c3:(-20000:Int)≤f∧f≤20000)(c4:L (p).natAbs≤600)(c5:(-20000:Int)≤g∧g≤20000)(c6:L (q).natAbs≤600)(c7:(-20000:Int)≤h∧h≤20000)(c8:(mkE (adS m e (-q) h) (iMin e h))=0)(c9:(mkE (adS n f (-p) g) (iMin f g))=0)(c10:(-9223372036854775808:Int)≤w∧w≤9223372036854775807):Impl Tryz.prog Amb 43 [(wV m e n f),(wV p g q h),(.int .i64 w)] (enV ((dv m e)+(-(dv q h))) ((dv n f)+(-(dv p g))) w):=by
 exact impl_ob hP hAmb Tryz.func43 (by kernel_rfl) (.lits 3<|.call (yV (-q) h)<|.lits 2<|.call (yV (-p) g)<|.lits 2<|.call (enV ((dv m e)+(dv (-q) h)) ((dv n f)+(dv (-p) g)) w)<|.lits 2<|.ret)
  (cast_ob (aI True.intro (aI (dy_Neg q h oA) (have f3:=L_abs_neg q;aI (dy_Neg p g oA) (have f2:=L_abs_neg p;aI (ar_Add m e n f (-q) h (-p) g w oA oA oA oA oA oA oA oA oA oA oA) (have f1:=en_facts ((dv m e)+(dv (-q) h)) ((dv n f)+(dv (-p) g)) w;(by rw[dv_neg,dv_neg];exact vsub_refl _:vsub (enV ((dv m e)+(dv (-q) h)) ((dv n f)+(dv (-p) g)) w) (enV ((dv m e)+(-(dv q h))) ((dv n f)+(-(dv p g))) w))))))) (by kernel_rfl))
def ar_mul_mk (m ee n f p g q h:Int)(x:(Int × Int × Int × Int × Int)⊕((Int × Int × Int × Int × Int)⊕((Int × Int × Int × Int × Int)⊕(Int × Int × Int × Int × Int)))):St:=Sum.elim (fun (x:Int × Int × Int × Int × Int)=>⟨mkS 69 [(2,(.own 0 0)),(3,(.own 1 0)),(5,(.own 2 0)),(6,(.val (.int .i64 x.2.2.2.2))),(7,(.own 3 0)),(36,(.val (.agg [(.bool (decide (m<0))),(N m.natAbs),(.int .i64 ee),(.bool (decide (q<0))),(N q.natAbs),(.int .i64 h),(.bool (decide (n<0))),(N n.natAbs),(.int .i64 f),(.bool (decide (p<0))),(N p.natAbs),(.int .i64 g),(.bool (decide (n<0))),(N n.natAbs),(.int .i64 f),(.bool (decide (q<0))),(N q.natAbs),(.int .i64 h)]))),(37,(.val (.int .i64 0)))],[⟨true,false,[(V.bool false),V.nil,(V.int .i64 0)]⟩,⟨true,false,[(V.bool false),V.nil,(V.int .i64 0)]⟩,⟨true,false,[(V.bool (decide (x.1<0))),(N x.1.natAbs),(V.int .i64 x.2.1)]⟩,⟨true,false,[(V.bool (decide (x.2.2.1<0))),(N x.2.2.1.natAbs),(V.int .i64 x.2.2.2.1)]⟩]⟩) (fun (x:(Int × Int × Int × Int × Int)⊕((Int × Int × Int × Int × Int)⊕(Int × Int × Int × Int × Int)))=>Sum.elim (fun (x:Int × Int × Int × Int × Int)=>⟨mkS 69 [(2,(.own 0 0)),(3,(.own 1 0)),(5,(.own 2 0)),(6,(.val (.int .i64 x.2.2.2.2))),(7,(.own 3 0)),(36,(.val (.agg [(.bool (decide (m<0))),(N m.natAbs),(.int .i64 ee),(.bool (decide (q<0))),(N q.natAbs),(.int .i64 h),(.bool (decide (n<0))),(N n.natAbs),(.int .i64 f),(.bool (decide (p<0))),(N p.natAbs),(.int .i64 g),(.bool (decide (n<0))),(N n.natAbs),(.int .i64 f),(.bool (decide (q<0))),(N q.natAbs),(.int .i64 h)]))),(37,(.val (.int .i64 1)))],[⟨true,false,[(V.bool false),V.nil,(V.int .i64 0)]⟩,⟨true,false,[(V.bool false),V.nil,(V.int .i64 0)]⟩,⟨true,false,[(V.bool (decide (x.1<0))),(N x.1.natAbs),(V.int .i64 x.2.1)]⟩,⟨true,false,[(V.bool (decide (x.2.2.1<0))),(N x.2.2.1.natAbs),(V.int .i64 x.2.2.2.1)]⟩]⟩) (fun (x:(Int × Int × Int × Int × Int)⊕(Int × Int × Int × Int × Int))=>Sum.elim (fun (x:Int × Int × Int × Int × Int)=>⟨mkS 69 [(2,(.own 0 0)),(3,(.own 1 0)),(5,(.own 2 0)),(6,(.val (.int .i64 x.2.2.2.2))),(7,(.own 3 0)),(36,(.val (.agg [(.bool (decide (m<0))),(N m.natAbs),(.int .i64 ee),(.bool (decide (q<0))),(N q.natAbs),(.int .i64 h),(.bool (decide (n<0))),(N n.natAbs),(.int .i64 f),(.bool (decide (p<0))),(N p.natAbs),(.int .i64 g),(.bool (decide (n<0))),(N n.natAbs),(.int .i64 f),(.bool (decide (q<0))),(N q.natAbs),(.int .i64 h)]))),(37,(.val (.int .i64 2)))],[⟨true,false,[(V.bool false),V.nil,(V.int .i64 0)]⟩,⟨true,false,[(V.bool false),V.nil,(V.int .i64 0)]⟩,⟨true,false,[(V.bool (decide (x.1<0))),(N x.1.natAbs),(V.int .i64 x.2.1)]⟩,⟨true,false,[(V.bool (decide (x.2.2.1<0))),(N x.2.2.1.natAbs),(V.int .i64 x.2.2.2.1)]⟩]⟩) (fun (x:Int × Int × Int × Int × Int)=>⟨mkS 69 [(2,(.own 0 0)),(3,(.own 1 0)),(5,(.own 2 0)),(6,(.val (.int .i64 x.2.2.2.2))),(7,(.own 3 0)),(36,(.val (.agg [(.bool (decide (m<0))),(N m.natAbs),(.int .i64 ee),(.bool (decide (q<0))),(N q.natAbs),(.int .i64 h),(.bool (decide (n<0))),(N n.natAbs),(.int .i64 f),(.bool (decide (p<0))),(N p.natAbs),(.int .i64 g),(.bool (decide (n<0))),(N n.natAbs),(.int .i64 f),(.bool (decide (q<0))),(N q.natAbs),(.int .i64 h)]))),(37,(.val (.int .i64 3)))],[⟨true,false,[(V.bool false),V.nil,(V.int .i64 0)]⟩,⟨true,false,[(V.bool false),V.nil,(V.int .i64 0)]⟩,⟨true,false,[(V.bool (decide (x.1<0))),(N x.1.natAbs),(V.int .i64 x.2.1)]⟩,⟨true,false,[(V.bool (decide (x.2.2.1<0))),(N x.2.2.1.natAbs),(V.int .i64 x.2.2.2.1)]⟩]⟩) x) x) x
def ar_mul_I (m ee n f p g q h:Int)(x:(Int × Int × Int × Int × Int)⊕((Int × Int × Int × Int × Int)⊕((Int × Int × Int × Int × Int)⊕(Int × Int × Int × Int × Int)))):Prop:=Sum.elim (fun (x:Int × Int × Int × Int × Int)=>(x.1=(pdt m ee p g).1∧x.2.1=(pdt m ee p g).2)∧(x.2.2.1=(pdt m ee p g).1∧x.2.2.2.1=(pdt m ee p g).2)∧x.2.2.2.2=0∧SzP 1200 (x.1,x.2.1)∧SzP 1200 (x.2.2.1,x.2.2.2.1)) (fun (x:(Int × Int × Int × Int × Int)⊕((Int × Int × Int × Int × Int)⊕(Int × Int × Int × Int × Int)))=>Sum.elim (fun (x:Int × Int × Int × Int × Int)=>(x.1=(pmn (pdt m ee p g) (pdt m ee q h)).1∧x.2.1=(pmn (pdt m ee p g) (pdt m ee q h)).2)∧(x.2.2.1=(pmx (pdt m ee p g) (pdt m ee q h)).1∧x.2.2.2.1=(pmx (pdt m ee p g) (pdt m ee q h)).2)∧x.2.2.2.2=0∧SzP 1200 (x.1,x.2.1)∧SzP 1200 (x.2.2.1,x.2.2.2.1)) (fun (x:(Int × Int × Int × Int × Int)⊕(Int × Int × Int × Int × Int))=>Sum.elim (fun (x:Int × Int × Int × Int × Int)=>(x.1=(pmn (pmn (pdt m ee p g) (pdt m ee q h)) (pdt n f p g)).1∧x.2.1=(pmn (pmn (pdt m ee p g) (pdt m ee q h)) (pdt n f p g)).2)∧(x.2.2.1=(pmx (pmx (pdt m ee p g) (pdt m ee q h)) (pdt n f p g)).1∧x.2.2.2.1=(pmx (pmx (pdt m ee p g) (pdt m ee q h)) (pdt n f p g)).2)∧x.2.2.2.2=0∧SzP 1200 (x.1,x.2.1)∧SzP 1200 (x.2.2.1,x.2.2.2.1)) (fun (x:Int × Int × Int × Int × Int)=>(x.1=(pmn (pmn (pmn (pdt m ee p g) (pdt m ee q h)) (pdt n f p g)) (pdt n f q h)).1∧x.2.1=(pmn (pmn (pmn (pdt m ee p g) (pdt m ee q h)) (pdt n f p g)) (pdt n f q h)).2)∧(x.2.2.1=(pmx (pmx (pmx (pdt m ee p g) (pdt m ee q h)) (pdt n f p g)) (pdt n f q h)).1∧x.2.2.2.1=(pmx (pmx (pmx (pdt m ee p g) (pdt m ee q h)) (pdt n f p g)) (pdt n f q h)).2)∧x.2.2.2.2=0∧SzP 1200 (x.1,x.2.1)∧SzP 1200 (x.2.2.1,x.2.2.2.1)) x) x) x
def ar_mul_mu (_ _ _ _ _ _ _ _:Int)(x:(Int × Int × Int × Int × Int)⊕((Int × Int × Int × Int × Int)⊕((Int × Int × Int × Int × Int)⊕(Int × Int × Int × Int × Int)))):Nat:=Sum.elim (fun (x:Int × Int × Int × Int × Int)=>9-0) (fun (x:(Int × Int × Int × Int × Int)⊕((Int × Int × Int × Int × Int)⊕(Int × Int × Int × Int × Int)))=>Sum.elim (fun (x:Int × Int × Int × Int × Int)=>9-1) (fun (x:(Int × Int × Int × Int × Int)⊕(Int × Int × Int × Int × Int))=>Sum.elim (fun (x:Int × Int × Int × Int × Int)=>9-2) (fun (x:Int × Int × Int × Int × Int)=>9-3) x) x) x
def ar_mul_ex (_ _ _ _ _ _ _ _:Int)(y:Int × Int × Int × Int × Int):Ex × St:=(.exit 0,⟨mkS 69 [(2,(.own 0 0)),(3,(.own 1 0)),(5,(.own 2 0)),(6,(.val (.int .i64 y.2.2.2.2))),(7,(.own 3 0))],[⟨true,false,[(V.bool false),V.nil,(V.int .i64 0)]⟩,⟨true,false,[(V.bool false),V.nil,(V.int .i64 0)]⟩,⟨true,false,[(V.bool (decide (y.1<0))),(N y.1.natAbs),(V.int .i64 y.2.1)]⟩,⟨true,false,[(V.bool (decide (y.2.2.1<0))),(N y.2.2.1.natAbs),(V.int .i64 y.2.2.2.1)]⟩]⟩)
def ar_mul_J (m ee n f p g q h:Int)(y:Int × Int × Int × Int × Int):Prop:=(y.1=(pmn (pmn (pmn (pdt m ee p g) (pdt m ee q h)) (pdt n f p g)) (pdt n f q h)).1∧y.2.1=(pmn (pmn (pmn (pdt m ee p g) (pdt m ee q h)) (pdt n f p g)) (pdt n f q h)).2)∧(y.2.2.1=(pmx (pmx (pmx (pdt m ee p g) (pdt m ee q h)) (pdt n f p g)) (pdt n f q h)).1∧y.2.2.2.1=(pmx (pmx (pmx (pdt m ee p g) (pdt m ee q h)) (pdt n f p g)) (pdt n f q h)).2)∧y.2.2.2.2=0∧SzP 1200 (y.1,y.2.1)∧SzP 1200 (y.2.2.1,y.2.2.2.1)
abbrev ar_mul_N (m ee n f p g q h:Int):=NX (ar_mul_mk m ee n f p g q h) (ar_mul_I m ee n f p g q h) (ar_mul_mu m ee n f p g q h) (ar_mul_ex m ee n f p g q h) (ar_mul_J m ee n f p g q h)
theorem ar_mul (m ee n f p g q h:Int)(c0:L (m).natAbs≤600)(c1:(-20000:Int)≤ee∧ee≤20000)(c2:L (n).natAbs≤600)(c3:(-20000:Int)≤f∧f≤20000)(c4:L (p).natAbs≤600)(c5:(-20000:Int)≤g∧g≤20000)(c6:L (q).natAbs≤600)(c7:(-20000:Int)≤h∧h≤20000)(c8:mkE (m*p) (ee+g)=0)(c9:mkE (m*q) (ee+h)=0)(c10:mkE (n*p) (f+g)=0)(c11:mkE (n*q) (f+h)=0)(x0:(Int × Int × Int × Int × Int)⊕((Int × Int × Int × Int × Int)⊕((Int × Int × Int × Int × Int)⊕(Int × Int × Int × Int × Int))))(hI:ar_mul_I m ee n f p g q h x0):LoopOk Tryz.prog Amb (loopN Tryz.f94 0) (ar_mul_mk m ee n f p g q h x0) (fun e st_=>∃ y,ar_mul_J m ee n f p g q h y∧ar_mul_ex m ee n f p g q h y=(e,st_)) :=
 loop_ob hP hAmb ⟨[2,3,5,6,7,36,37],4,[]⟩ (ar_mul_mk m ee n f p g q h) (ar_mul_I m ee n f p g q h) (ar_mul_mu m ee n f p g q h) (ar_mul_ex m ee n f p g q h) (ar_mul_J m ee n f p g q h) x0 hI (Sum.elim (fun (M,X,N_,F,er)=>.lits 2<|.yes<|.lits 7<|.call (exT (m*q) (ee+h))<|.lits 5<|.call (.int .i64 (cmpD (mkM (m*q) (ee+h)) (mkX (m*q) (ee+h)) M X))<|.lit<|.both (.lits 5<|.call (.int .i64 (cmpD (mkM (m*q) (ee+h)) (mkX (m*q) (ee+h)) N_ F))<|.lit<|.both (.lits 3<|.yes<|.fin3 ⟨[2,3,5,6,7,36,37],[0,1,2,3]⟩) (.lit<|.yes<|.fin3 ⟨[2,3,5,6,7,36,37],[0,1,2,3]⟩)) (.lits 3<|.call (.int .i64 (cmpD (mkM (m*q) (ee+h)) (mkX (m*q) (ee+h)) N_ F))<|.lit<|.both (.lits 3<|.yes<|.fin3 ⟨[2,3,5,6,7,36,37],[0,1,2,3]⟩) (.lit<|.yes<|.fin3 ⟨[2,3,5,6,7,36,37],[0,1,2,3]⟩))) (Sum.elim (fun (M,X,N_,F,er)=>.lits 2<|.yes<|.lits 7<|.call (exT (n*p) (f+g))<|.lits 5<|.call (.int .i64 (cmpD (mkM (n*p) (f+g)) (mkX (n*p) (f+g)) M X))<|.lit<|.both (.lits 5<|.call (.int .i64 (cmpD (mkM (n*p) (f+g)) (mkX (n*p) (f+g)) N_ F))<|.lit<|.both (.lits 3<|.yes<|.fin3 ⟨[2,3,5,6,7,36,37],[0,1,2,3]⟩) (.lit<|.yes<|.fin3 ⟨[2,3,5,6,7,36,37],[0,1,2,3]⟩)) (.lits 3<|.call (.int .i64 (cmpD (mkM (n*p) (f+g)) (mkX (n*p) (f+g)) N_ F))<|.lit<|.both (.lits 3<|.yes<|.fin3 ⟨[2,3,5,6,7,36,37],[0,1,2,3]⟩) (.lit<|.yes<|.fin3 ⟨[2,3,5,6,7,36,37],[0,1,2,3]⟩))) (Sum.elim (fun (M,X,N_,F,er)=>.lits 2<|.yes<|.lits 7<|.call (exT (n*q) (f+h))<|.lits 5<|.call (.int .i64 (cmpD (mkM (n*q) (f+h)) (mkX (n*q) (f+h)) M X))<|.lit<|.both (.lits 5<|.call (.int .i64 (cmpD (mkM (n*q) (f+h)) (mkX (n*q) (f+h)) N_ F))<|.lit<|.both (.lits 3<|.yes<|.fin3 ⟨[2,3,5,6,7,36,37],[0,1,2,3]⟩) (.lit<|.yes<|.fin3 ⟨[2,3,5,6,7,36,37],[0,1,2,3]⟩)) (.lits 3<|.call (.int .i64 (cmpD (mkM (n*q) (f+h)) (mkX (n*q) (f+h)) N_ F))<|.lit<|.both (.lits 3<|.yes<|.fin3 ⟨[2,3,5,6,7,36,37],[0,1,2,3]⟩) (.lit<|.yes<|.fin3 ⟨[2,3,5,6,7,36,37],[0,1,2,3]⟩))) (fun (M,X,N_,F,er)=>.lits 2<|.fin2 ⟨[2,3,5,6,7],4,[]⟩)))) (by
  rintro (⟨M,X,N_,F,er⟩ | ⟨M,X,N_,F,er⟩ | ⟨M,X,N_,F,er⟩ | ⟨M,X,N_,F,er⟩) hI
  ·skip
   have hI:(M=(pdt m ee p g).1∧X=(pdt m ee p g).2)∧(N_=(pdt m ee p g).1∧F=(pdt m ee p g).2)∧er=0∧SzP 1200 (M,X)∧SzP 1200 (N_,F):=hI
   obtain⟨⟨hM,hX⟩,⟨hN,hF⟩,h0,s1,s2⟩:=hI
   have ⟨s3,s4,s5⟩:=s1
   have ⟨s6,s7,s8⟩:=s2
   have s9:=SzP_mk s1
   simp only at s3 s4 s5 s6 s7 s8
   exact cast_ob (aI True.intro (aI tT (aI (dy_Mul m ee q h oO oO oO oO) (have f112:=ex_range (m*q) (ee+h);have f111:=mk_facts (m*q) (ee+h);have f110:=L_abs_mul m q;aI (dy_Cmp (mkM (m*q) (ee+h)) (mkX (m*q) (ee+h)) M X oO oO oO oO) (have f109:=cmpD_range (mkM (m*q) (ee+h)) (mkX (m*q) (ee+h)) M X;aI (fun (h101:(iLt (cmpD (mkM (m*q) (ee+h)) (mkX (m*q) (ee+h)) M X) 0)=true)=>have _gh101:=iLt_t h101;aI (dy_Cmp (mkM (m*q) (ee+h)) (mkX (m*q) (ee+h)) N_ F oO oO oO oO) (have f104:=cmpD_range (mkM (m*q) (ee+h)) (mkX (m*q) (ee+h)) N_ F;aI (fun (h102:(iGt (cmpD (mkM (m*q) (ee+h)) (mkX (m*q) (ee+h)) N_ F) 0)=true)=>have _gh102:=iGt_t h102;aI tT (aI tT ((nx_next (Sum.inr (Sum.inl ((mkM (m*q) (ee+h)),(mkX (m*q) (ee+h)),(mkM (m*q) (ee+h)),(mkX (m*q) (ee+h)),(iMax er (exE (m*q) (ee+h)))))) (show ((mkM (m*q) (ee+h))=(pmn (pdt m ee p g) (pdt m ee q h)).1∧(mkX (m*q) (ee+h))=(pmn (pdt m ee p g) (pdt m ee q h)).2)∧((mkM (m*q) (ee+h))=(pmx (pdt m ee p g) (pdt m ee q h)).1∧(mkX (m*q) (ee+h))=(pmx (pdt m ee p g) (pdt m ee q h)).2)∧(iMax er (exE (m*q) (ee+h)))=0∧SzP 1200 ((mkM (m*q) (ee+h)),(mkX (m*q) (ee+h)))∧SzP 1200 ((mkM (m*q) (ee+h)),(mkX (m*q) (ee+h))) from ⟨mn_yes hM hX (b:=(pdt m ee q h)) (show cmpD (mkM (m*q) (ee+h)) (mkX (m*q) (ee+h)) M X<0 by omega),mx_yes hN hF (b:=(pdt m ee q h)) (show 0<cmpD (mkM (m*q) (ee+h)) (mkX (m*q) (ee+h)) N_ F by omega),by unfold iMax;split<;>omega,(pdt_sz (m:=m) (e:=ee) (n:=q) (f:=h) (k:=1200) oO),(pdt_sz (m:=m) (e:=ee) (n:=q) (f:=h) (k:=1200) oO)⟩) (show 9-1<9-0 by omega):ar_mul_N m ee n f p g q h (Sum.inl (M,X,N_,F,er)) .normal (ar_mul_mk m ee n f p g q h (Sum.inr (Sum.inl ((mkM (m*q) (ee+h)),(mkX (m*q) (ee+h)),(mkM (m*q) (ee+h)),(mkX (m*q) (ee+h)),(iMax er (exE (m*q) (ee+h))))))))))) (fun (h103:(iGt (cmpD (mkM (m*q) (ee+h)) (mkX (m*q) (ee+h)) N_ F) 0)=false)=>have _gh103:=iGt_f h103;aI tT (aI tT ((nx_next (Sum.inr (Sum.inl ((mkM (m*q) (ee+h)),(mkX (m*q) (ee+h)),N_,F,(iMax er (exE (m*q) (ee+h)))))) (show ((mkM (m*q) (ee+h))=(pmn (pdt m ee p g) (pdt m ee q h)).1∧(mkX (m*q) (ee+h))=(pmn (pdt m ee p g) (pdt m ee q h)).2)∧(N_=(pmx (pdt m ee p g) (pdt m ee q h)).1∧F=(pmx (pdt m ee p g) (pdt m ee q h)).2)∧(iMax er (exE (m*q) (ee+h)))=0∧SzP 1200 ((mkM (m*q) (ee+h)),(mkX (m*q) (ee+h)))∧SzP 1200 (N_,F) from ⟨mn_yes hM hX (b:=(pdt m ee q h)) (show cmpD (mkM (m*q) (ee+h)) (mkX (m*q) (ee+h)) M X<0 by omega),mx_no hN hF (b:=(pdt m ee q h)) (show cmpD (mkM (m*q) (ee+h)) (mkX (m*q) (ee+h)) N_ F≤0 by omega),by unfold iMax;split<;>omega,(pdt_sz (m:=m) (e:=ee) (n:=q) (f:=h) (k:=1200) oO),s2⟩) (show 9-1<9-0 by omega):ar_mul_N m ee n f p g q h (Sum.inl (M,X,N_,F,er)) .normal (ar_mul_mk m ee n f p g q h (Sum.inr (Sum.inl ((mkM (m*q) (ee+h)),(mkX (m*q) (ee+h)),N_,F,(iMax er (exE (m*q) (ee+h))))))))))))) (fun (h105:(iLt (cmpD (mkM (m*q) (ee+h)) (mkX (m*q) (ee+h)) M X) 0)=false)=>have _gh105:=iLt_f h105;aI (dy_Cmp (mkM (m*q) (ee+h)) (mkX (m*q) (ee+h)) N_ F oO oO oO oO) (have f108:=cmpD_range (mkM (m*q) (ee+h)) (mkX (m*q) (ee+h)) N_ F;aI (fun (h106:(iGt (cmpD (mkM (m*q) (ee+h)) (mkX (m*q) (ee+h)) N_ F) 0)=true)=>have _gh106:=iGt_t h106;aI tT (aI tT ((nx_next (Sum.inr (Sum.inl (M,X,(mkM (m*q) (ee+h)),(mkX (m*q) (ee+h)),(iMax er (exE (m*q) (ee+h)))))) (show (M=(pmn (pdt m ee p g) (pdt m ee q h)).1∧X=(pmn (pdt m ee p g) (pdt m ee q h)).2)∧((mkM (m*q) (ee+h))=(pmx (pdt m ee p g) (pdt m ee q h)).1∧(mkX (m*q) (ee+h))=(pmx (pdt m ee p g) (pdt m ee q h)).2)∧(iMax er (exE (m*q) (ee+h)))=0∧SzP 1200 (M,X)∧SzP 1200 ((mkM (m*q) (ee+h)),(mkX (m*q) (ee+h))) from ⟨mn_no hM hX (b:=(pdt m ee q h)) (show 0≤cmpD (mkM (m*q) (ee+h)) (mkX (m*q) (ee+h)) M X by omega),mx_yes hN hF (b:=(pdt m ee q h)) (show 0<cmpD (mkM (m*q) (ee+h)) (mkX (m*q) (ee+h)) N_ F by omega),by unfold iMax;split<;>omega,s1,(pdt_sz (m:=m) (e:=ee) (n:=q) (f:=h) (k:=1200) oO)⟩) (show 9-1<9-0 by omega):ar_mul_N m ee n f p g q h (Sum.inl (M,X,N_,F,er)) .normal (ar_mul_mk m ee n f p g q h (Sum.inr (Sum.inl (M,X,(mkM (m*q) (ee+h)),(mkX (m*q) (ee+h)),(iMax er (exE (m*q) (ee+h))))))))))) (fun (h107:(iGt (cmpD (mkM (m*q) (ee+h)) (mkX (m*q) (ee+h)) N_ F) 0)=false)=>have _gh107:=iGt_f h107;aI tT (aI tT ((nx_next (Sum.inr (Sum.inl (M,X,N_,F,(iMax er (exE (m*q) (ee+h)))))) (show (M=(pmn (pdt m ee p g) (pdt m ee q h)).1∧X=(pmn (pdt m ee p g) (pdt m ee q h)).2)∧(N_=(pmx (pdt m ee p g) (pdt m ee q h)).1∧F=(pmx (pdt m ee p g) (pdt m ee q h)).2)∧(iMax er (exE (m*q) (ee+h)))=0∧SzP 1200 (M,X)∧SzP 1200 (N_,F) from ⟨mn_no hM hX (b:=(pdt m ee q h)) (show 0≤cmpD (mkM (m*q) (ee+h)) (mkX (m*q) (ee+h)) M X by omega),mx_no hN hF (b:=(pdt m ee q h)) (show cmpD (mkM (m*q) (ee+h)) (mkX (m*q) (ee+h)) N_ F≤0 by omega),by unfold iMax;split<;>omega,s1,s2⟩) (show 9-1<9-0 by omega):ar_mul_N m ee n f p g q h (Sum.inl (M,X,N_,F,er)) .normal (ar_mul_mk m ee n f p g q h (Sum.inr (Sum.inl (M,X,N_,F,(iMax er (exE (m*q) (ee+h)))))))))))))))))) (by kernel_rfl)
  ·skip
   have hI:(M=(pmn (pdt m ee p g) (pdt m ee q h)).1∧X=(pmn (pdt m ee p g) (pdt m ee q h)).2)∧(N_=(pmx (pdt m ee p g) (pdt m ee q h)).1∧F=(pmx (pdt m ee p g) (pdt m ee q h)).2)∧er=0∧SzP 1200 (M,X)∧SzP 1200 (N_,F):=hI
   obtain⟨⟨hM,hX⟩,⟨hN,hF⟩,h0,s1,s2⟩:=hI
   have ⟨s3,s4,s5⟩:=s1
   have ⟨s6,s7,s8⟩:=s2
   have s9:=SzP_mk s1
   simp only at s3 s4 s5 s6 s7 s8
   exact cast_ob (aI True.intro (aI tT (aI (dy_Mul n f p g oO oO oO oO) (have f112:=ex_range (n*p) (f+g);have f111:=mk_facts (n*p) (f+g);have f110:=L_abs_mul n p;aI (dy_Cmp (mkM (n*p) (f+g)) (mkX (n*p) (f+g)) M X oO oO oO oO) (have f109:=cmpD_range (mkM (n*p) (f+g)) (mkX (n*p) (f+g)) M X;aI (fun (h101:(iLt (cmpD (mkM (n*p) (f+g)) (mkX (n*p) (f+g)) M X) 0)=true)=>have _gh101:=iLt_t h101;aI (dy_Cmp (mkM (n*p) (f+g)) (mkX (n*p) (f+g)) N_ F oO oO oO oO) (have f104:=cmpD_range (mkM (n*p) (f+g)) (mkX (n*p) (f+g)) N_ F;aI (fun (h102:(iGt (cmpD (mkM (n*p) (f+g)) (mkX (n*p) (f+g)) N_ F) 0)=true)=>have _gh102:=iGt_t h102;aI tT (aI tT ((nx_next (Sum.inr (Sum.inr (Sum.inl ((mkM (n*p) (f+g)),(mkX (n*p) (f+g)),(mkM (n*p) (f+g)),(mkX (n*p) (f+g)),(iMax er (exE (n*p) (f+g))))))) (show ((mkM (n*p) (f+g))=(pmn (pmn (pdt m ee p g) (pdt m ee q h)) (pdt n f p g)).1∧(mkX (n*p) (f+g))=(pmn (pmn (pdt m ee p g) (pdt m ee q h)) (pdt n f p g)).2)∧((mkM (n*p) (f+g))=(pmx (pmx (pdt m ee p g) (pdt m ee q h)) (pdt n f p g)).1∧(mkX (n*p) (f+g))=(pmx (pmx (pdt m ee p g) (pdt m ee q h)) (pdt n f p g)).2)∧(iMax er (exE (n*p) (f+g)))=0∧SzP 1200 ((mkM (n*p) (f+g)),(mkX (n*p) (f+g)))∧SzP 1200 ((mkM (n*p) (f+g)),(mkX (n*p) (f+g))) from ⟨mn_yes hM hX (b:=(pdt n f p g)) (show cmpD (mkM (n*p) (f+g)) (mkX (n*p) (f+g)) M X<0 by omega),mx_yes hN hF (b:=(pdt n f p g)) (show 0<cmpD (mkM (n*p) (f+g)) (mkX (n*p) (f+g)) N_ F by omega),by unfold iMax;split<;>omega,(pdt_sz (m:=n) (e:=f) (n:=p) (f:=g) (k:=1200) oO),(pdt_sz (m:=n) (e:=f) (n:=p) (f:=g) (k:=1200) oO)⟩) (show 9-2<9-1 by omega):ar_mul_N m ee n f p g q h (Sum.inr (Sum.inl (M,X,N_,F,er))) .normal (ar_mul_mk m ee n f p g q h (Sum.inr (Sum.inr (Sum.inl ((mkM (n*p) (f+g)),(mkX (n*p) (f+g)),(mkM (n*p) (f+g)),(mkX (n*p) (f+g)),(iMax er (exE (n*p) (f+g)))))))))))) (fun (h103:(iGt (cmpD (mkM (n*p) (f+g)) (mkX (n*p) (f+g)) N_ F) 0)=false)=>have _gh103:=iGt_f h103;aI tT (aI tT ((nx_next (Sum.inr (Sum.inr (Sum.inl ((mkM (n*p) (f+g)),(mkX (n*p) (f+g)),N_,F,(iMax er (exE (n*p) (f+g))))))) (show ((mkM (n*p) (f+g))=(pmn (pmn (pdt m ee p g) (pdt m ee q h)) (pdt n f p g)).1∧(mkX (n*p) (f+g))=(pmn (pmn (pdt m ee p g) (pdt m ee q h)) (pdt n f p g)).2)∧(N_=(pmx (pmx (pdt m ee p g) (pdt m ee q h)) (pdt n f p g)).1∧F=(pmx (pmx (pdt m ee p g) (pdt m ee q h)) (pdt n f p g)).2)∧(iMax er (exE (n*p) (f+g)))=0∧SzP 1200 ((mkM (n*p) (f+g)),(mkX (n*p) (f+g)))∧SzP 1200 (N_,F) from ⟨mn_yes hM hX (b:=(pdt n f p g)) (show cmpD (mkM (n*p) (f+g)) (mkX (n*p) (f+g)) M X<0 by omega),mx_no hN hF (b:=(pdt n f p g)) (show cmpD (mkM (n*p) (f+g)) (mkX (n*p) (f+g)) N_ F≤0 by omega),by unfold iMax;split<;>omega,(pdt_sz (m:=n) (e:=f) (n:=p) (f:=g) (k:=1200) oO),s2⟩) (show 9-2<9-1 by omega):ar_mul_N m ee n f p g q h (Sum.inr (Sum.inl (M,X,N_,F,er))) .normal (ar_mul_mk m ee n f p g q h (Sum.inr (Sum.inr (Sum.inl ((mkM (n*p) (f+g)),(mkX (n*p) (f+g)),N_,F,(iMax er (exE (n*p) (f+g)))))))))))))) (fun (h105:(iLt (cmpD (mkM (n*p) (f+g)) (mkX (n*p) (f+g)) M X) 0)=false)=>have _gh105:=iLt_f h105;aI (dy_Cmp (mkM (n*p) (f+g)) (mkX (n*p) (f+g)) N_ F oO oO oO oO) (have f108:=cmpD_range (mkM (n*p) (f+g)) (mkX (n*p) (f+g)) N_ F;aI (fun (h106:(iGt (cmpD (mkM (n*p) (f+g)) (mkX (n*p) (f+g)) N_ F) 0)=true)=>have _gh106:=iGt_t h106;aI tT (aI tT ((nx_next (Sum.inr (Sum.inr (Sum.inl (M,X,(mkM (n*p) (f+g)),(mkX (n*p) (f+g)),(iMax er (exE (n*p) (f+g))))))) (show (M=(pmn (pmn (pdt m ee p g) (pdt m ee q h)) (pdt n f p g)).1∧X=(pmn (pmn (pdt m ee p g) (pdt m ee q h)) (pdt n f p g)).2)∧((mkM (n*p) (f+g))=(pmx (pmx (pdt m ee p g) (pdt m ee q h)) (pdt n f p g)).1∧(mkX (n*p) (f+g))=(pmx (pmx (pdt m ee p g) (pdt m ee q h)) (pdt n f p g)).2)∧(iMax er (exE (n*p) (f+g)))=0∧SzP 1200 (M,X)∧SzP 1200 ((mkM (n*p) (f+g)),(mkX (n*p) (f+g))) from ⟨mn_no hM hX (b:=(pdt n f p g)) (show 0≤cmpD (mkM (n*p) (f+g)) (mkX (n*p) (f+g)) M X by omega),mx_yes hN hF (b:=(pdt n f p g)) (show 0<cmpD (mkM (n*p) (f+g)) (mkX (n*p) (f+g)) N_ F by omega),by unfold iMax;split<;>omega,s1,(pdt_sz (m:=n) (e:=f) (n:=p) (f:=g) (k:=1200) oO)⟩) (show 9-2<9-1 by omega):ar_mul_N m ee n f p g q h (Sum.inr (Sum.inl (M,X,N_,F,er))) .normal (ar_mul_mk m ee n f p g q h (Sum.inr (Sum.inr (Sum.inl (M,X,(mkM (n*p) (f+g)),(mkX (n*p) (f+g)),(iMax er (exE (n*p) (f+g)))))))))))) (fun (h107:(iGt (cmpD (mkM (n*p) (f+g)) (mkX (n*p) (f+g)) N_ F) 0)=false)=>have _gh107:=iGt_f h107;aI tT (aI tT ((nx_next (Sum.inr (Sum.inr (Sum.inl (M,X,N_,F,(iMax er (exE (n*p) (f+g))))))) (show (M=(pmn (pmn (pdt m ee p g) (pdt m ee q h)) (pdt n f p g)).1∧X=(pmn (pmn (pdt m ee p g) (pdt m ee q h)) (pdt n f p g)).2)∧(N_=(pmx (pmx (pdt m ee p g) (pdt m ee q h)) (pdt n f p g)).1∧F=(pmx (pmx (pdt m ee p g) (pdt m ee q h)) (pdt n f p g)).2)∧(iMax er (exE (n*p) (f+g)))=0∧SzP 1200 (M,X)∧SzP 1200 (N_,F) from ⟨mn_no hM hX (b:=(pdt n f p g)) (show 0≤cmpD (mkM (n*p) (f+g)) (mkX (n*p) (f+g)) M X by omega),mx_no hN hF (b:=(pdt n f p g)) (show cmpD (mkM (n*p) (f+g)) (mkX (n*p) (f+g)) N_ F≤0 by omega),by unfold iMax;split<;>omega,s1,s2⟩) (show 9-2<9-1 by omega):ar_mul_N m ee n f p g q h (Sum.inr (Sum.inl (M,X,N_,F,er))) .normal (ar_mul_mk m ee n f p g q h (Sum.inr (Sum.inr (Sum.inl (M,X,N_,F,(iMax er (exE (n*p) (f+g))))))))))))))))))) (by kernel_rfl)
  ·skip
   have hI:(M=(pmn (pmn (pdt m ee p g) (pdt m ee q h)) (pdt n f p g)).1∧X=(pmn (pmn (pdt m ee p g) (pdt m ee q h)) (pdt n f p g)).2)∧(N_=(pmx (pmx (pdt m ee p g) (pdt m ee q h)) (pdt n f p g)).1∧F=(pmx (pmx (pdt m ee p g) (pdt m ee q h)) (pdt n f p g)).2)∧er=0∧SzP 1200 (M,X)∧SzP 1200 (N_,F):=hI
   obtain⟨⟨hM,hX⟩,⟨hN,hF⟩,h0,s1,s2⟩:=hI
   have ⟨s3,s4,s5⟩:=s1
   have ⟨s6,s7,s8⟩:=s2
   have s9:=SzP_mk s1
   simp only at s3 s4 s5 s6 s7 s8
   exact cast_ob (aI True.intro (aI tT (aI (dy_Mul n f q h oO oO oO oO) (have f112:=ex_range (n*q) (f+h);have f111:=mk_facts (n*q) (f+h);have f110:=L_abs_mul n q;aI (dy_Cmp (mkM (n*q) (f+h)) (mkX (n*q) (f+h)) M X oO oO oO oO) (have f109:=cmpD_range (mkM (n*q) (f+h)) (mkX (n*q) (f+h)) M X;aI (fun (h101:(iLt (cmpD (mkM (n*q) (f+h)) (mkX (n*q) (f+h)) M X) 0)=true)=>have _gh101:=iLt_t h101;aI (dy_Cmp (mkM (n*q) (f+h)) (mkX (n*q) (f+h)) N_ F oO oO oO oO) (have f104:=cmpD_range (mkM (n*q) (f+h)) (mkX (n*q) (f+h)) N_ F;aI (fun (h102:(iGt (cmpD (mkM (n*q) (f+h)) (mkX (n*q) (f+h)) N_ F) 0)=true)=>have _gh102:=iGt_t h102;aI tT (aI tT ((nx_next (Sum.inr (Sum.inr (Sum.inr ((mkM (n*q) (f+h)),(mkX (n*q) (f+h)),(mkM (n*q) (f+h)),(mkX (n*q) (f+h)),(iMax er (exE (n*q) (f+h))))))) (show ((mkM (n*q) (f+h))=(pmn (pmn (pmn (pdt m ee p g) (pdt m ee q h)) (pdt n f p g)) (pdt n f q h)).1∧(mkX (n*q) (f+h))=(pmn (pmn (pmn (pdt m ee p g) (pdt m ee q h)) (pdt n f p g)) (pdt n f q h)).2)∧((mkM (n*q) (f+h))=(pmx (pmx (pmx (pdt m ee p g) (pdt m ee q h)) (pdt n f p g)) (pdt n f q h)).1∧(mkX (n*q) (f+h))=(pmx (pmx (pmx (pdt m ee p g) (pdt m ee q h)) (pdt n f p g)) (pdt n f q h)).2)∧(iMax er (exE (n*q) (f+h)))=0∧SzP 1200 ((mkM (n*q) (f+h)),(mkX (n*q) (f+h)))∧SzP 1200 ((mkM (n*q) (f+h)),(mkX (n*q) (f+h))) from ⟨mn_yes hM hX (b:=(pdt n f q h)) (show cmpD (mkM (n*q) (f+h)) (mkX (n*q) (f+h)) M X<0 by omega),mx_yes hN hF (b:=(pdt n f q h)) (show 0<cmpD (mkM (n*q) (f+h)) (mkX (n*q) (f+h)) N_ F by omega),by unfold iMax;split<;>omega,(pdt_sz (m:=n) (e:=f) (n:=q) (f:=h) (k:=1200) oO),(pdt_sz (m:=n) (e:=f) (n:=q) (f:=h) (k:=1200) oO)⟩) (show 9-3<9-2 by omega):ar_mul_N m ee n f p g q h (Sum.inr (Sum.inr (Sum.inl (M,X,N_,F,er)))) .normal (ar_mul_mk m ee n f p g q h (Sum.inr (Sum.inr (Sum.inr ((mkM (n*q) (f+h)),(mkX (n*q) (f+h)),(mkM (n*q) (f+h)),(mkX (n*q) (f+h)),(iMax er (exE (n*q) (f+h)))))))))))) (fun (h103:(iGt (cmpD (mkM (n*q) (f+h)) (mkX (n*q) (f+h)) N_ F) 0)=false)=>have _gh103:=iGt_f h103;aI tT (aI tT ((nx_next (Sum.inr (Sum.inr (Sum.inr ((mkM (n*q) (f+h)),(mkX (n*q) (f+h)),N_,F,(iMax er (exE (n*q) (f+h))))))) (show ((mkM (n*q) (f+h))=(pmn (pmn (pmn (pdt m ee p g) (pdt m ee q h)) (pdt n f p g)) (pdt n f q h)).1∧(mkX (n*q) (f+h))=(pmn (pmn (pmn (pdt m ee p g) (pdt m ee q h)) (pdt n f p g)) (pdt n f q h)).2)∧(N_=(pmx (pmx (pmx (pdt m ee p g) (pdt m ee q h)) (pdt n f p g)) (pdt n f q h)).1∧F=(pmx (pmx (pmx (pdt m ee p g) (pdt m ee q h)) (pdt n f p g)) (pdt n f q h)).2)∧(iMax er (exE (n*q) (f+h)))=0∧SzP 1200 ((mkM (n*q) (f+h)),(mkX (n*q) (f+h)))∧SzP 1200 (N_,F) from ⟨mn_yes hM hX (b:=(pdt n f q h)) (show cmpD (mkM (n*q) (f+h)) (mkX (n*q) (f+h)) M X<0 by omega),mx_no hN hF (b:=(pdt n f q h)) (show cmpD (mkM (n*q) (f+h)) (mkX (n*q) (f+h)) N_ F≤0 by omega),by unfold iMax;split<;>omega,(pdt_sz (m:=n) (e:=f) (n:=q) (f:=h) (k:=1200) oO),s2⟩) (show 9-3<9-2 by omega):ar_mul_N m ee n f p g q h (Sum.inr (Sum.inr (Sum.inl (M,X,N_,F,er)))) .normal (ar_mul_mk m ee n f p g q h (Sum.inr (Sum.inr (Sum.inr ((mkM (n*q) (f+h)),(mkX (n*q) (f+h)),N_,F,(iMax er (exE (n*q) (f+h)))))))))))))) (fun (h105:(iLt (cmpD (mkM (n*q) (f+h)) (mkX (n*q) (f+h)) M X) 0)=false)=>have _gh105:=iLt_f h105;aI (dy_Cmp (mkM (n*q) (f+h)) (mkX (n*q) (f+h)) N_ F oO oO oO oO) (have f108:=cmpD_range (mkM (n*q) (f+h)) (mkX (n*q) (f+h)) N_ F;aI (fun (h106:(iGt (cmpD (mkM (n*q) (f+h)) (mkX (n*q) (f+h)) N_ F) 0)=true)=>have _gh106:=iGt_t h106;aI tT (aI tT ((nx_next (Sum.inr (Sum.inr (Sum.inr (M,X,(mkM (n*q) (f+h)),(mkX (n*q) (f+h)),(iMax er (exE (n*q) (f+h))))))) (show (M=(pmn (pmn (pmn (pdt m ee p g) (pdt m ee q h)) (pdt n f p g)) (pdt n f q h)).1∧X=(pmn (pmn (pmn (pdt m ee p g) (pdt m ee q h)) (pdt n f p g)) (pdt n f q h)).2)∧((mkM (n*q) (f+h))=(pmx (pmx (pmx (pdt m ee p g) (pdt m ee q h)) (pdt n f p g)) (pdt n f q h)).1∧(mkX (n*q) (f+h))=(pmx (pmx (pmx (pdt m ee p g) (pdt m ee q h)) (pdt n f p g)) (pdt n f q h)).2)∧(iMax er (exE (n*q) (f+h)))=0∧SzP 1200 (M,X)∧SzP 1200 ((mkM (n*q) (f+h)),(mkX (n*q) (f+h))) from ⟨mn_no hM hX (b:=(pdt n f q h)) (show 0≤cmpD (mkM (n*q) (f+h)) (mkX (n*q) (f+h)) M X by omega),mx_yes hN hF (b:=(pdt n f q h)) (show 0<cmpD (mkM (n*q) (f+h)) (mkX (n*q) (f+h)) N_ F by omega),by unfold iMax;split<;>omega,s1,(pdt_sz (m:=n) (e:=f) (n:=q) (f:=h) (k:=1200) oO)⟩) (show 9-3<9-2 by omega):ar_mul_N m ee n f p g q h (Sum.inr (Sum.inr (Sum.inl (M,X,N_,F,er)))) .normal (ar_mul_mk m ee n f p g q h (Sum.inr (Sum.inr (Sum.inr (M,X,(mkM (n*q) (f+h)),(mkX (n*q) (f+h)),(iMax er (exE (n*q) (f+h)))))))))))) (fun (h107:(iGt (cmpD (mkM (n*q) (f+h)) (mkX (n*q) (f+h)) N_ F) 0)=false)=>have _gh107:=iGt_f h107;aI tT (aI tT ((nx_next (Sum.inr (Sum.inr (Sum.inr (M,X,N_,F,(iMax er (exE (n*q) (f+h))))))) (show (M=(pmn (pmn (pmn (pdt m ee p g) (pdt m ee q h)) (pdt n f p g)) (pdt n f q h)).1∧X=(pmn (pmn (pmn (pdt m ee p g) (pdt m ee q h)) (pdt n f p g)) (pdt n f q h)).2)∧(N_=(pmx (pmx (pmx (pdt m ee p g) (pdt m ee q h)) (pdt n f p g)) (pdt n f q h)).1∧F=(pmx (pmx (pmx (pdt m ee p g) (pdt m ee q h)) (pdt n f p g)) (pdt n f q h)).2)∧(iMax er (exE (n*q) (f+h)))=0∧SzP 1200 (M,X)∧SzP 1200 (N_,F) from ⟨mn_no hM hX (b:=(pdt n f q h)) (show 0≤cmpD (mkM (n*q) (f+h)) (mkX (n*q) (f+h)) M X by omega),mx_no hN hF (b:=(pdt n f q h)) (show cmpD (mkM (n*q) (f+h)) (mkX (n*q) (f+h)) N_ F≤0 by omega),by unfold iMax;split<;>omega,s1,s2⟩) (show 9-3<9-2 by omega):ar_mul_N m ee n f p g q h (Sum.inr (Sum.inr (Sum.inl (M,X,N_,F,er)))) .normal (ar_mul_mk m ee n f p g q h (Sum.inr (Sum.inr (Sum.inr (M,X,N_,F,(iMax er (exE (n*q) (f+h))))))))))))))))))) (by kernel_rfl)
  ·skip
   have hI:(M=(pmn (pmn (pmn (pdt m ee p g) (pdt m ee q h)) (pdt n f p g)) (pdt n f q h)).1∧X=(pmn (pmn (pmn (pdt m ee p g) (pdt m ee q h)) (pdt n f p g)) (pdt n f q h)).2)∧(N_=(pmx (pmx (pmx (pdt m ee p g) (pdt m ee q h)) (pdt n f p g)) (pdt n f q h)).1∧F=(pmx (pmx (pmx (pdt m ee p g) (pdt m ee q h)) (pdt n f p g)) (pdt n f q h)).2)∧er=0∧SzP 1200 (M,X)∧SzP 1200 (N_,F):=hI
   obtain⟨⟨hM,hX⟩,⟨hN,hF⟩,h0,s1,s2⟩:=hI
   have ⟨s3,s4,s5⟩:=s1
   have ⟨s6,s7,s8⟩:=s2
   have s9:=SzP_mk s1
   simp only at s3 s4 s5 s6 s7 s8
   exact cast_ob (aI True.intro (aI tT ((nx_exit 0 ((ar_mul_ex m ee n f p g q h (M,X,N_,F,er)).2) (M,X,N_,F,er) (show (M=(pmn (pmn (pmn (pdt m ee p g) (pdt m ee q h)) (pdt n f p g)) (pdt n f q h)).1∧X=(pmn (pmn (pmn (pdt m ee p g) (pdt m ee q h)) (pdt n f p g)) (pdt n f q h)).2)∧(N_=(pmx (pmx (pmx (pdt m ee p g) (pdt m ee q h)) (pdt n f p g)) (pdt n f q h)).1∧F=(pmx (pmx (pmx (pdt m ee p g) (pdt m ee q h)) (pdt n f p g)) (pdt n f q h)).2)∧er=0∧SzP 1200 (M,X)∧SzP 1200 (N_,F) from ⟨⟨hM,hX⟩,⟨hN,hF⟩,h0,s1,s2⟩) rfl:ar_mul_N m ee n f p g q h (Sum.inr (Sum.inr (Sum.inr (M,X,N_,F,er)))) (.exit 0) ((ar_mul_ex m ee n f p g q h (M,X,N_,F,er)).2))))) (by kernel_rfl))
theorem ar_Mul_1 (m ee n f p g q h:Int)(c0:L (m).natAbs≤600)(c1:(-20000:Int)≤ee∧ee≤20000)(c2:L (n).natAbs≤600)(c3:(-20000:Int)≤f∧f≤20000)(c4:L (p).natAbs≤600)(c5:(-20000:Int)≤g∧g≤20000)(c6:L (q).natAbs≤600)(c7:(-20000:Int)≤h∧h≤20000)(c8:mkE (m*p) (ee+g)=0)(c9:mkE (m*q) (ee+h)=0)(c10:mkE (n*p) (f+g)=0)(c11:mkE (n*q) (f+h)=0):Impl Tryz.prog Amb 94 [(.pt [(V.bool (decide (m<0))),(N m.natAbs),(V.int .i64 ee),(V.bool (decide (n<0))),(N n.natAbs),(V.int .i64 f)] 0),(.pt [(V.bool (decide (p<0))),(N p.natAbs),(V.int .i64 g),(V.bool (decide (q<0))),(N q.natAbs),(V.int .i64 h)] 0)] (.tup [(.agg [(.bool (decide ((mlLoP m ee n f p g q h).1<0))),(N (((mlLoP m ee n f p g q h).1).natAbs)),(.int .i64 ((mlLoP m ee n f p g q h).2))]),(.agg [(.bool (decide ((mlHiP m ee n f p g q h).1<0))),(N (((mlHiP m ee n f p g q h).1).natAbs)),(.int .i64 ((mlHiP m ee n f p g q h).2))]),(.int .i64 0)]):=by
 exact impl_ob hP hAmb Tryz.func94 (by kernel_rfl) (.lits 3<|.call (exT (m*p) (ee+g))<|.lits 13<|.loop ⟨[2,3,5,6,7,36,37],4,[]⟩ ((ar_mul_mk m ee n f p g q h (Sum.inl ((mkM (m*p) (ee+g)),(mkX (m*p) (ee+g)),(mkM (m*p) (ee+g)),(mkX (m*p) (ee+g)),(exE (m*p) (ee+g)))))) (Int × Int × Int × Int × Int) (ar_mul_ex m ee n f p g q h) (ar_mul_J m ee n f p g q h) (fun y=>.lits 3<|.call (.tup [(yV y.1 y.2.1),(yV y.2.2.1 y.2.2.2.1),(.int .i64 (iMax y.2.2.2.2 (0:Int)))])<|.lits 3<|.ret))
  (cast_ob (aI True.intro (aI (dy_Mul m ee p g oA oA oA oA) (have f3:=ex_range (m*p) (ee+g);have f2:=mk_facts (m*p) (ee+g);have f1:=L_abs_mul m p;aI tT (aI (rfl:(ar_mul_mk m ee n f p g q h (Sum.inl ((mkM (m*p) (ee+g)),(mkX (m*p) (ee+g)),(mkM (m*p) (ee+g)),(mkX (m*p) (ee+g)),(exE (m*p) (ee+g)))))=(ar_mul_mk m ee n f p g q h (Sum.inl ((mkM (m*p) (ee+g)),(mkX (m*p) (ee+g)),(mkM (m*p) (ee+g)),(mkX (m*p) (ee+g)),(exE (m*p) (ee+g)))))) (aI (ar_mul m ee n f p g q h c0 c1 c2 c3 c4 c5 c6 c7 c8 c9 c10 c11 (Sum.inl ((mkM (m*p) (ee+g)),(mkX (m*p) (ee+g)),(mkM (m*p) (ee+g)),(mkX (m*p) (ee+g)),(exE (m*p) (ee+g)))) (show ((mkM (m*p) (ee+g))=(pdt m ee p g).1∧(mkX (m*p) (ee+g))=(pdt m ee p g).2)∧((mkM (m*p) (ee+g))=(pdt m ee p g).1∧(mkX (m*p) (ee+g))=(pdt m ee p g).2)∧(exE (m*p) (ee+g))=0∧SzP 1200 ((mkM (m*p) (ee+g)),(mkX (m*p) (ee+g)))∧SzP 1200 ((mkM (m*p) (ee+g)),(mkX (m*p) (ee+g))) from ⟨⟨rfl,rfl⟩,⟨rfl,rfl⟩,by omega,pdt_sz (m:=m) (n:=p) oO,pdt_sz (m:=m) (n:=p) oO⟩)) (fun y (hJ:ar_mul_J m ee n f p g q h y)=>have hJ:(y.1=(pmn (pmn (pmn (pdt m ee p g) (pdt m ee q h)) (pdt n f p g)) (pdt n f q h)).1∧y.2.1=(pmn (pmn (pmn (pdt m ee p g) (pdt m ee q h)) (pdt n f p g)) (pdt n f q h)).2)∧(y.2.2.1=(pmx (pmx (pmx (pdt m ee p g) (pdt m ee q h)) (pdt n f p g)) (pdt n f q h)).1∧y.2.2.2.1=(pmx (pmx (pmx (pdt m ee p g) (pdt m ee q h)) (pdt n f p g)) (pdt n f q h)).2)∧y.2.2.2.2=0∧SzP 1200 (y.1,y.2.1)∧SzP 1200 (y.2.2.1,y.2.2.2.1):=hJ;aI (ar_pair y.1 y.2.1 y.2.2.1 y.2.2.2.1 y.2.2.2.2 0 ) ((by obtain⟨⟨j1,j2⟩,⟨j3,j4⟩,j5,_⟩:=hJ;rw[j1,j2,j3,j4,j5];exact vsub_refl _:vsub (.tup [(yV y.1 y.2.1),(yV y.2.2.1 y.2.2.2.1),(.int .i64 (iMax y.2.2.2.2 (0:Int)))]) (.tup [(.agg [(.bool (decide ((mlLoP m ee n f p g q h).1<0))),(N (((mlLoP m ee n f p g q h).1).natAbs)),(.int .i64 ((mlLoP m ee n f p g q h).2))]),(.agg [(.bool (decide ((mlHiP m ee n f p g q h).1<0))),(N (((mlHiP m ee n f p g q h).1).natAbs)),(.int .i64 ((mlHiP m ee n f p g q h).2))]),(.int .i64 0)]))))))))) (by kernel_rfl))
theorem ar_out_M (m e n f p g q h w:Int)(c0:L (m).natAbs≤600)(c1:(-20000:Int)≤e∧e≤20000)(c2:L (n).natAbs≤600)(c3:(-20000:Int)≤f∧f≤20000)(c4:L (p).natAbs≤600)(c5:(-20000:Int)≤g∧g≤20000)(c6:L (q).natAbs≤600)(c7:(-20000:Int)≤h∧h≤20000)(c8:mkE (m*p) (e+g)=0)(c9:mkE (m*q) (e+h)=0)(c10:mkE (n*p) (f+g)=0)(c11:mkE (n*q) (f+h)=0)(c12:(-9223372036854775808:Int)≤w∧w≤9223372036854775807):Impl Tryz.prog Amb 91 [(.int .i64 w),(.clos 94 [(.pt [(V.bool (decide (m<0))),(N m.natAbs),(V.int .i64 e),(V.bool (decide (n<0))),(N n.natAbs),(V.int .i64 f)] 0),(.pt [(V.bool (decide (p<0))),(N p.natAbs),(V.int .i64 g),(V.bool (decide (q<0))),(N q.natAbs),(V.int .i64 h)] 0)])] (enV (mlLo m e n f p g q h) (mlHi m e n f p g q h) w):=by
 have ⟨⟨y1,y2,y3⟩,⟨y4,y5,y6⟩⟩:=mlP_sz (m:=m) (e:=e) (n:=n) (f:=f) (p:=p) (g:=g) (q:=q) (h:=h) (k:=1200) oO
 exact impl_ob hP hAmb Tryz.func91 (by kernel_rfl) (.lit<|.call (.bool (decide (0≤w∧w≤4096)))<|.lit<|.both (.lits 3<|.ret) (.lit<|.call (.tup [(.agg [(.bool (decide ((mlLoP m e n f p g q h).1<0))),(N (((mlLoP m e n f p g q h).1).natAbs)),(.int .i64 ((mlLoP m e n f p g q h).2))]),(.agg [(.bool (decide ((mlHiP m e n f p g q h).1<0))),(N (((mlHiP m e n f p g q h).1).natAbs)),(.int .i64 ((mlHiP m e n f p g q h).2))]),(.int .i64 0)])<|.lits 6<|.call (mkT (flr (dv ((mlLoP m e n f p g q h).1) ((mlLoP m e n f p g q h).2)) w) (-w))<|.lits 3<|.call (mkT (cei (dv ((mlHiP m e n f p g q h).1) ((mlHiP m e n f p g q h).2)) w) (-w))<|.lits 4<|.call (ecT (mkM (flr (dv ((mlLoP m e n f p g q h).1) ((mlLoP m e n f p g q h).2)) w) (-w)) (mkX (flr (dv ((mlLoP m e n f p g q h).1) ((mlLoP m e n f p g q h).2)) w) (-w)) (mkM (cei (dv ((mlHiP m e n f p g q h).1) ((mlHiP m e n f p g q h).2)) w) (-w)) (mkX (cei (dv ((mlHiP m e n f p g q h).1) ((mlHiP m e n f p g q h).2)) w) (-w)) (mkE (flr (dv ((mlLoP m e n f p g q h).1) ((mlLoP m e n f p g q h).2)) w) (-w)) (mkE (cei (dv ((mlHiP m e n f p g q h).1) ((mlHiP m e n f p g q h).2)) w) (-w)))<|.lits 2<|.ret))
  (cast_ob (aI True.intro (aI (ar_works w oA) (aI (fun (h1:(!(decide (0≤w∧w≤4096)))=true)=>have _gh1:=of_decide_eq_false (notb_t h1);(en_vbad oO:vsub (e0T 1) (enV (mlLo m e n f p g q h) (mlHi m e n f p g q h) w))) (fun (h2:(!(decide (0≤w∧w≤4096)))=false)=>have _gh2:=of_decide_eq_true (notb_f h2);aI (ar_Mul_1 m e n f p g q h oA oA oA oA oA oA oA oA oA oA oA oA) (have f9:=mlP_sz (m:=m) (e:=e) (n:=n) (f:=f) (p:=p) (g:=g) (q:=q) (h:=h) (k:=1200) oA;aI (gr_Floor ((mlLoP m e n f p g q h).1) ((mlLoP m e n f p g q h).2) w oA oA oA) (have f8:=mk_facts (cei (dv ((mlLoP m e n f p g q h).1) ((mlLoP m e n f p g q h).2)) w) (-w);have f7:=mk_facts (flr (dv ((mlLoP m e n f p g q h).1) ((mlLoP m e n f p g q h).2)) w) (-w);have f6:=flr_LD ((mlLoP m e n f p g q h).1) ((mlLoP m e n f p g q h).2) w;aI (gr_Ceil ((mlHiP m e n f p g q h).1) ((mlHiP m e n f p g q h).2) w oA oA oA) (have f5:=mk_facts (cei (dv ((mlHiP m e n f p g q h).1) ((mlHiP m e n f p g q h).2)) w) (-w);have f4:=mk_facts (flr (dv ((mlHiP m e n f p g q h).1) ((mlHiP m e n f p g q h).2)) w) (-w);have f3:=flr_LD ((mlHiP m e n f p g q h).1) ((mlHiP m e n f p g q h).2) w;aI (ar_enclose (mkM (flr (dv ((mlLoP m e n f p g q h).1) ((mlLoP m e n f p g q h).2)) w) (-w)) (mkX (flr (dv ((mlLoP m e n f p g q h).1) ((mlLoP m e n f p g q h).2)) w) (-w)) (mkM (cei (dv ((mlHiP m e n f p g q h).1) ((mlHiP m e n f p g q h).2)) w) (-w)) (mkX (cei (dv ((mlHiP m e n f p g q h).1) ((mlHiP m e n f p g q h).2)) w) (-w)) (mkE (flr (dv ((mlLoP m e n f p g q h).1) ((mlLoP m e n f p g q h).2)) w) (-w)) (mkE (cei (dv ((mlHiP m e n f p g q h).1) ((mlHiP m e n f p g q h).2)) w) (-w)) oA oA oA oA) ((en_vec (mlLoP_dv c8 c9 c10 c11) (mlHiP_dv c8 c9 c10 c11) oO:vsub (ecT (mkM (flr (dv ((mlLoP m e n f p g q h).1) ((mlLoP m e n f p g q h).2)) w) (-w)) (mkX (flr (dv ((mlLoP m e n f p g q h).1) ((mlLoP m e n f p g q h).2)) w) (-w)) (mkM (cei (dv ((mlHiP m e n f p g q h).1) ((mlHiP m e n f p g q h).2)) w) (-w)) (mkX (cei (dv ((mlHiP m e n f p g q h).1) ((mlHiP m e n f p g q h).2)) w) (-w)) (mkE (flr (dv ((mlLoP m e n f p g q h).1) ((mlLoP m e n f p g q h).2)) w) (-w)) (mkE (cei (dv ((mlHiP m e n f p g q h).1) ((mlHiP m e n f p g q h).2)) w) (-w))) (enV (mlLo m e n f p g q h) (mlHi m e n f p g q h) w)))))))))) (by kernel_rfl))
theorem ar_Mul (m e n f p g q h w:Int)(c0:L (m).natAbs≤600)(c1:(-20000:Int)≤e∧e≤20000)(c2:L (n).natAbs≤600)(c3:(-20000:Int)≤f∧f≤20000)(c4:L (p).natAbs≤600)(c5:(-20000:Int)≤g∧g≤20000)(c6:L (q).natAbs≤600)(c7:(-20000:Int)≤h∧h≤20000)(c8:mkE (m*p) (e+g)=0)(c9:mkE (m*q) (e+h)=0)(c10:mkE (n*p) (f+g)=0)(c11:mkE (n*q) (f+h)=0)(c12:(-9223372036854775808:Int)≤w∧w≤9223372036854775807):Impl Tryz.prog Amb 37 [(wV m e n f),(wV p g q h),(.int .i64 w)] (enV (mlLo m e n f p g q h) (mlHi m e n f p g q h) w):=by
 exact impl_ob hP hAmb Tryz.func37 (by kernel_rfl) (.lit<|.call (enV (mlLo m e n f p g q h) (mlHi m e n f p g q h) w)<|.lits 2<|.ret)
  (cast_ob (aI True.intro (aI (ar_out_M m e n f p g q h w oA oA oA oA oA oA oA oA oA oA oA oA oA) (have f1:=en_facts (mlLo m e n f p g q h) (mlHi m e n f p g q h) w;(vsub_refl (enV (mlLo m e n f p g q h) (mlHi m e n f p g q h) w))))) (by kernel_rfl))
end Go.Proofs.YtkkbddkpggjgpaaGreatDoor


namespace Go.Proofs.YtkkbddkpggjgpaaGreatDoor
open Go.RowKit
set_option maxRecDepth 100000
theorem mill_Mod (v n:Int)(c0:(0:Int)<n∧n≤1000000000)(c1:(-9223372036854775808:Int)≤v∧v≤9223372036854775807):Impl Tryz.prog Amb 14 [(.int .i64 v),(.int .i64 n)] (.int .i64 (v%n)):=by
 have r0:=wRem_abs (v:=v) (n:=n) oO
 exact impl_ob hP hAmb Tryz.func14 (by kernel_rfl) (.yes<|.lit<|.both (.lit<|.yes<|.lit<|.ret) (.lit<|.ret))
  (cast_ob (aI True.intro (aI (iNe_mk oA:(iNe n 0)=true) (aI (fun (h1:(iLt (wRem v n) 0)=true)=>have _gh1:=iLt_t h1;aI (fits_i64 oA:(fits .i64 ((wRem v n)+n))=true) ((vsub_of (congrArg (V.int .i64) (mod_neg oO oO)):vsub (.int .i64 ((wRem v n)+n)) (.int .i64 (v%n))))) (fun (h2:(iLt (wRem v n) 0)=false)=>have _gh2:=iLt_f h2;(vsub_of (congrArg (V.int .i64) (mod_pos oO oO)):vsub (.int .i64 (wRem v n)) (.int .i64 (v%n))))))) (by kernel_rfl))
end Go.Proofs.YtkkbddkpggjgpaaGreatDoor

namespace Go.Proofs.YtkkbddkpggjgpaaGreatDoor
theorem mkX_b {m e:Int}(hE:mkE m e=0):(m=0∧mkX m e=0)∨(m≠0∧e≤mkX m e∧mkX m e≤e+32*(L m.natAbs:Int)):=by
 rcases mk_cases hE with ⟨h,_,k⟩ | ⟨h,_,k,_⟩
 ·exact .inl ⟨h,k⟩
 ·have:=tz_L m.natAbs
  refine .inr ⟨h,?_,?_⟩<;>rw[k]<;>unfold de<;>omega
theorem mk_fit {m e:Int}(h:L m.natAbs≤900)(he:-60000≤e∧e≤30000):mkE m e=0∧L (mkM m e).natAbs≤L m.natAbs∧iMin e 0≤mkX m e∧mkX m e≤iMax e 0+32*(L m.natAbs:Int)∧vdb (mkM m e) (mkX m e)=true∧dv (mkM m e) (mkX m e)=dv m e:=by
 have hE:=mk_fine2 h he
 have h1:=mk_facts m e
 have h2:=iMin_range e 0
 have h3:e≤iMax e 0∧0≤iMax e 0:=by unfold iMax;split<;>omega
 refine⟨hE,h1.1,?_,?_,vdb_mk,dv_mk hE⟩<;>rcases mkX_b hE with ⟨_,k⟩ | ⟨_,k,l⟩<;>omega
theorem of_fit {n:Int}(h:-9223372036854775808≤n∧n≤9223372036854775807):mkE n 0=0∧L (mkM n 0).natAbs≤2∧0≤mkX n 0∧mkX n 0≤64∧vdb (mkM n 0) (mkX n 0)=true∧dv (mkM n 0) (mkX n 0)=(n:Rat):=by
 have hl:=L_i64 h
 have h1:=mk_fit (m:=n) (e:=0) (by omega) (by omega)
 have h2:iMin 0 0=0:=rfl
 have h3:iMax 0 0=0:=rfl
 rw[h2,h3,dv_int] at h1
 exact⟨h1.1,by omega,h1.2.2.1,by omega,h1.2.2.2.2.1,h1.2.2.2.2.2⟩
theorem ad_fine {m e n f:Int}(hm:L m.natAbs≤300)(hn:L n.natAbs≤300)(he:-4000≤e∧e≤4000)(hf:-4000≤f∧f≤4000):mkE (adS m e n f) (iMin e f)=0:=by
 have h0:=iMin_range e f
 have h1:=L_abs_shl m (e-iMin e f).toNat
 have h2:=L_abs_shl n (f-iMin e f).toNat
 have h3:=L_abs_add (m*2^(e-iMin e f).toNat) (n*2^(f-iMin e f).toNat)
 exact mk_fine2 (by unfold adS;omega) (by omega)
theorem ml_fine {m e n f:Int}(hm:L m.natAbs≤400)(hn:L n.natAbs≤400)(he:-20000≤e∧e≤14000)(hf:-20000≤f∧f≤14000):mkE (m*n) (e+f)=0:=by
 have h1:=L_abs_mul m n
 exact mk_fine2 (by omega) (by omega)
theorem cmpQ_le {x y:Rat}:cmpQ x y≤0↔x≤y:=by
 rcases cmpQ_range x y with ⟨q,k⟩ | ⟨q,k⟩ | ⟨q,k⟩
 ·exact⟨fun _=>Rat.le_of_lt k,fun _=>by omega⟩
 ·exact⟨fun h=>by omega,fun h=>absurd h (Rat.not_le.2 k)⟩
 ·exact⟨fun _=>by rw[k];exact Rat.le_refl,fun _=>by omega⟩
end Go.Proofs.YtkkbddkpggjgpaaGreatDoor

namespace Go.Proofs.YtkkbddkpggjgpaaGreatDoor
theorem has_1 {a b:Int}(h:a≤0):iLe b 0=decide (a≤0∧b≤0):=by unfold iLe;by_cases q:b≤0<;>simp [q,h]
end Go.Proofs.YtkkbddkpggjgpaaGreatDoor

namespace Go.Proofs.YtkkbddkpggjgpaaGreatDoor
theorem oM {p:Prop}(h:p:=by first | omega | exact ml_fine (by omega) (by omega) (by omega) (by omega) | exact ad_fine (by omega) (by omega) (by omega) (by omega) | exact (en_vdb _ _ _).1 | exact (en_vdb _ _ _).2):p:=h
theorem oD {p:Prop}(h:p:=by first | omega | exact ml_fine (by omega) (by omega) (by omega) (by omega) | exact ad_fine (by omega) (by omega) (by omega) (by omega) | exact (en_vdb _ _ _).1 | exact (en_vdb _ _ _).2 | decide):p:=h
theorem oN {p:Prop}(h:p:=by first | omega | exact ml_fine (by omega) (by omega) (by omega) (by omega) | exact ad_fine (by omega) (by omega) (by omega) (by omega) | exact (en_vdb _ _ _).1 | exact (en_vdb _ _ _).2 | assumption):p:=h
theorem oN2 {p:Prop}(h:p:=by first | omega | exact ml_fine (by omega) (by omega) (by omega) (by omega) | exact ad_fine (by omega) (by omega) (by omega) (by omega) | exact (en_vdb _ _ _).1 | exact (en_vdb _ _ _).2 | assumption | exact ad_fine (by omega) (by omega) (by omega) (by omega)):p:=h
theorem oP {p:Prop}(h:p:=by first | assumption | omega | exact o1.2.2.2.2.1):p:=h
theorem oW {p:Prop}(h:p:=by first | assumption | exact pw_or (by omega) | (simp;done) | omega):p:=h
theorem oS {p:Prop}(h:p:=by first | omega | assumption):p:=h
theorem oR {p:Prop}(h:p:=by first | omega | assumption | exact Rat.le_refl):p:=h
theorem oT {p:Prop}(h:p:=by first | assumption | omega | exact Rat.le_refl | exact of0.2.2.2.2.1):p:=h
theorem oU {p:Prop}(h:p:=by first | assumption | omega):p:=h
end Go.Proofs.YtkkbddkpggjgpaaGreatDoor

namespace Go.Proofs.YtkkbddkpggjgpaaGreatDoor
def rt:Nat→Nat
 | 0=>0
 | n+1=>if (rt n+1)*(rt n+1)≤n+1 then rt n+1 else rt n
theorem sq_succ (x:Nat):(x+1)*(x+1)=x*x+2*x+1:=by rw[Nat.mul_add,Nat.add_mul];omega
theorem rt_spec:∀ n,rt n*rt n≤n∧n<(rt n+1)*(rt n+1)
 | 0=>by simp [rt]
 | n+1=>by
  have h:=rt_spec n
  unfold rt
  have e:=sq_succ (rt n+1)
  split
  ·exact⟨by assumption,by omega⟩
  ·exact⟨by omega,by omega⟩
theorem sq_lt {r s:Nat}(h:r*r<s*s):r<s:=by
 refine Decidable.byContradiction fun q=>?_
 have:=Nat.mul_le_mul (show s≤r by omega) (show s≤r by omega)
 omega
theorem rt_eq {r n:Nat}(h1:r*r≤n)(h2:n<(r+1)*(r+1)):r=rt n:=by
 have h:=rt_spec n
 have a:=sq_lt (Nat.lt_of_le_of_lt h1 h.2)
 have b:=sq_lt (Nat.lt_of_le_of_lt h.1 h2)
 omega
theorem rt_zero:rt 0=0:=rfl
theorem rt_le (n:Nat):rt n≤n:=by
 have h:=(rt_spec n).1
 rcases Nat.eq_zero_or_pos (rt n) with e | e
 ·omega
 ·have:=Nat.mul_le_mul_right (rt n) e;omega
theorem rt_L (n:Nat):L (rt n)≤L n:=L_mono (rt_le n)
theorem four_mul_le (x z:Nat):4*(x*z)≤(x+z)*(x+z):=by
 have e:(x+z)*(x+z)=x*x+2*(x*z)+z*z:=by rw[Nat.mul_add,Nat.add_mul,Nat.add_mul,Nat.mul_comm z x];omega
 have:2*(x*z)≤x*x+z*z:=by
  rcases Nat.le_total x z with h | h
  ·obtain⟨d,rfl⟩:=Nat.le.dest h
   have e1:(x+d)*(x+d)=x*x+2*(x*d)+d*d:=by rw[Nat.mul_add,Nat.add_mul,Nat.add_mul,Nat.mul_comm d x];omega
   have e2:x*(x+d)=x*x+x*d:=Nat.mul_add x x d
   omega
  ·obtain⟨d,rfl⟩:=Nat.le.dest h
   have e1:(z+d)*(z+d)=z*z+2*(z*d)+d*d:=by rw[Nat.mul_add,Nat.add_mul,Nat.add_mul,Nat.mul_comm d z];omega
   have e2:(z+d)*z=z*z+z*d:=by rw[Nat.add_mul,Nat.mul_comm d z]
   omega
 omega
theorem nw_up {a x y:Nat}(hx:0<x)(hy:y=(x+a / x) / 2):a<(y+1)*(y+1):=by
 have h1:a<x*(a / x+1):=by
  have:=Nat.div_add_mod a x
  have:=Nat.mod_lt a hx
  rw[Nat.mul_add];omega
 have h2:=four_mul_le x (a / x+1)
 have h3:x+(a / x+1)≤2*(y+1):=by omega
 have h4:=Nat.mul_le_mul h3 h3
 have h5:2*(y+1)*(2*(y+1))=4*((y+1)*(y+1)):=by rw[Nat.mul_mul_mul_comm]
 omega
theorem nw_pos {a x y:Nat}(ha:0<a)(hx:0<x)(hy:y=(x+a / x) / 2):0<y:=by
 have:=nw_up hx hy
 rcases Nat.eq_zero_or_pos y with e | e
 ·subst e
  have:x=1∨2≤x:=by omega
  rcases this with rfl | h
  ·rw[Nat.div_one] at hy;omega
  ·omega
 ·exact e
theorem nw_end {a x y:Nat}(hx:0<x)(h:a<(x+1)*(x+1))(hy:y=(x+a / x) / 2)(hle:x≤y):x=rt a:=by
 refine rt_eq ?_ h
 have h1:x≤a / x:=by omega
 exact Nat.le_trans (Nat.mul_le_mul_left x h1) (by have:=Nat.div_mul_le_self a x;rw[Nat.mul_comm];exact this)
theorem nw_init {a:Nat}{s:Nat}(hs:nbits a+1≤2*s+1):a<(1*2^s+1)*(1*2^s+1):=by
 have h1:=nbits_lt a
 have h2:2^nbits a≤2^(s+s):=Nat.pow_le_pow_right (by omega) (by omega)
 rw[Nat.pow_add] at h2
 rw[Nat.one_mul,sq_succ]
 omega
theorem L_pow (a:Nat):∀ k,L (a^k)≤k*L a+1
 | 0=>by rw[Nat.pow_zero];have:=L_le (n:=1) (k:=1) (by decide);omega
 | k+1=>by
  have h:=L_pow a k
  have h2:=L_mul (a^k) a
  rw[Nat.pow_succ,Nat.succ_mul];omega
theorem L_pow64 {a:Nat}{k:Nat}(h:k≤64):L (a^k)≤64*L a+1:=Nat.le_trans (L_pow a k) (by have:=Nat.mul_le_mul_right (L a) h;omega)
theorem bit_64:∀ x:Fin 65,wAnd .i64 (x.val:Int) 1=((x.val%2:Nat):Int):=by decide
theorem bit_n {n i:Int}(hn:0≤n∧n≤64)(hi:0≤i∧i≤6):wAnd .i64 (Int.fdiv n (2^(min i.toNat (IntKind.bits .i64)))) 1=((n.toNat / 2^i.toNat%2:Nat):Int):=by
 have e1:min i.toNat (IntKind.bits .i64)=i.toNat:=by
  rw[show IntKind.bits .i64=64 from rfl];omega
 have hp:0<2^i.toNat:=Nat.pow_pos (by omega)
 have e2:Int.fdiv n (2^i.toNat)=((n.toNat / 2^i.toNat:Nat):Int):=by
  rw[Int.fdiv_eq_ediv_of_nonneg _ (by rw[pow_cast];omega)]
  rw[Int.natCast_ediv,pow_cast,Int.toNat_of_nonneg hn.1]
 have h64:n.toNat / 2^i.toNat<65:=Nat.lt_of_le_of_lt (Nat.div_le_self _ _) (by omega)
 rw[e1,e2]
 exact bit_64 ⟨_,h64⟩
theorem pw_step {a o:Nat}{n i:Int}(h:o=a^(n.toNat / 2^(i+1).toNat))(hi:0≤i∧i≤6):a^(n.toNat / 2^(i-1+1).toNat)=o*o*a^(n.toNat / 2^i.toNat%2):=by
 rw[show (i-1+1).toNat=i.toNat by omega,h,← Nat.pow_add,← Nat.pow_add,show (i+1).toNat=i.toNat+1 by omega,Nat.pow_succ,← Nat.div_div_eq_div_mul]
 congr 1
 omega
theorem pw_y {a o:Nat}{n i:Int}(h:o=a^(n.toNat / 2^(i+1).toNat))(hn:0≤n∧n≤64)(hi:0≤i∧i≤6)(hb:wAnd .i64 (Int.fdiv n (2^(min i.toNat (IntKind.bits .i64)))) 1=1) :
  o*o*a=a^(n.toNat / 2^(i-1+1).toNat):=by
 rw[bit_n hn hi] at hb
 rw[pw_step h hi,show n.toNat / 2^i.toNat%2=1 by omega,Nat.pow_one]
theorem pw_n {a o:Nat}{n i:Int}(h:o=a^(n.toNat / 2^(i+1).toNat))(hn:0≤n∧n≤64)(hi:0≤i∧i≤6)(hb:wAnd .i64 (Int.fdiv n (2^(min i.toNat (IntKind.bits .i64)))) 1≠1) :
  o*o=a^(n.toNat / 2^(i-1+1).toNat):=by
 rw[bit_n hn hi] at hb
 rw[pw_step h hi,show n.toNat / 2^i.toNat%2=0 by omega,Nat.pow_zero,Nat.mul_one]
theorem sq_one {o:Nat}(h:L o=1)(h1:gi (limbs o) 0=1):o=o*o:=by
 have e:o=1:=by have:=gi_one h;omega
 rw[e]
theorem sq_one' {o a:Nat}(h:L o=1)(h1:gi (limbs o) 0=1):o*a=o*o*a:=by
 rw[← sq_one h h1]
def PsInv (a:Nat)(m:Int)(i c:Int)(l:List Nat):Prop :=
 0≤i∧i≤L a∧0≤c∧c<4294967296∧l.length=L a+1∧Dig l∧val (l.take i.toNat)+4294967296^i.toNat*c.toNat=val ((limbs a).take i.toNat)*m.toNat
theorem ps_init (a:Nat)(m:Int):PsInv a m 0 0 (List.replicate (L a+1) 0):=⟨by omega,by omega,by omega,by omega,by simp,dig_rep _,by simp [val]⟩
theorem ps_bound {a:Nat}{m i c:Int}{l:List Nat}(h:PsInv a m i c l)(hm:0≤m∧m<4294967296):0≤gi (limbs a) i.toNat*m∧gi (limbs a) i.toNat*m≤18446744065119617025:=by
 have hb:=mul_bound ⟨gi_nonneg (limbs a) i.toNat,gi_lt (dig_limbs a) i.toNat⟩ hm (show (0:Int)≤0∧(0:Int)<4294967296 by omega) (show (0:Int)≤0∧(0:Int)<4294967296 by omega)
 exact⟨hb.1,hb.2.1⟩
theorem ps_next {a:Nat}{m i c s:Int}{l:List Nat}(h:PsInv a m i c l)(hi:i<L a)(hm:0≤m∧m<4294967296)(hs:s=c+gi (limbs a) i.toNat*m) :
  PsInv a m (i+1) (Int.fdiv s (2^32)) (l.set i.toNat (IntKind.wrap .u32 s).toNat):=by
 have hb:=ps_bound h hm
 obtain⟨h0,h1,h2,h3,h4,h5,h6⟩:=h
 rw[fdiv_B,wrap_u32]
 refine⟨by omega,by omega,by omega,by omega,by simpa using h4,dig_set h5 (by omega) _,?_⟩
 rw[show (i+1).toNat=i.toNat+1 by omega,set_val _ _ (by omega),take_succ_val,Nat.pow_succ]
 rw[gi_eq] at hb hs
 generalize (limbs a).getD i.toNat 0=x at *
 generalize 4294967296^i.toNat=p at *
 obtain⟨m,rfl⟩:=Int.eq_ofNat_of_zero_le hm.1
 obtain⟨c,rfl⟩:=Int.eq_ofNat_of_zero_le h2
 have hsN:s=((c+x*m:Nat):Int):=by rw[hs];simp
 subst hsN
 simp only [Int.toNat_natCast] at h6 ⊢
 generalize hS:c+x*m=S at *
 rw[show (((S:Nat):Int)%4294967296).toNat=S%4294967296 by omega,show (((S:Nat):Int) / 4294967296).toNat=S / 4294967296 by omega]
 rw[Nat.mul_assoc p,Nat.add_assoc,← Nat.mul_add,Nat.mod_add_div,← hS,Nat.mul_add,← Nat.add_assoc,h6,Nat.add_mul,Nat.mul_assoc]
theorem ps_end {a:Nat}{m c:Int}{l:List Nat}(h:PsInv a m (L a:Int) c l):Dig (l.set (L a) c.toNat)∧(l.set (L a) c.toNat).length=L a+1∧val (l.set (L a) c.toNat)=a*m.toNat:=by
 obtain⟨h0,h1,h2,h3,h4,h5,h6⟩:=h
 refine⟨dig_set h5 (by omega) _,by simpa using h4,?_⟩
 rw[Int.toNat_natCast,val_lim a (Nat.le_refl _)] at h6
 rw[← h6,← val_all (l.set (L a) c.toNat) (n:=L a+1) (by simp;omega),set_val _ _ (by omega)]
end Go.Proofs.YtkkbddkpggjgpaaGreatDoor

namespace Go.Proofs.YtkkbddkpggjgpaaGreatDoor
theorem bil_ge1 {x1 x2 a c l:Rat}(h1:x1≤a)(h2:a≤x2)(k1:l≤x1*c)(k2:l≤x2*c):l≤a*c:=by
 rcases (Rat.le_total:0≤c∨c≤0) with h | h
 ·exact Rat.le_trans k1 (Rat.mul_le_mul_of_nonneg_right h1 h)
 ·have e:(-x2)*(-c)≤(-a)*(-c):=Rat.le_trans (Rat.le_refl) (by
   have hc:0≤-c:=by grind
   have:=Rat.mul_le_mul_of_nonneg_right h2 hc
   grind)
  have e':x2*c≤a*c:=by grind
  exact Rat.le_trans k2 e'
theorem bil_ge {x1 x2 y1 y2 a b l:Rat}(h1:x1≤a)(h2:a≤x2)(g1:y1≤b)(g2:b≤y2)(k1:l≤x1*y1)(k2:l≤x1*y2)(k3:l≤x2*y1)(k4:l≤x2*y2):l≤a*b:=by
 refine bil_ge1 h1 h2 ?_ ?_
 ·rw[Rat.mul_comm];exact bil_ge1 g1 g2 (by rw[Rat.mul_comm];exact k1) (by rw[Rat.mul_comm];exact k2)
 ·rw[Rat.mul_comm];exact bil_ge1 g1 g2 (by rw[Rat.mul_comm];exact k3) (by rw[Rat.mul_comm];exact k4)
theorem bil_le {x1 x2 y1 y2 a b l:Rat}(h1:x1≤a)(h2:a≤x2)(g1:y1≤b)(g2:b≤y2)(k1:x1*y1≤l)(k2:x1*y2≤l)(k3:x2*y1≤l)(k4:x2*y2≤l):a*b≤l:=by
 have h:=bil_ge (x1:=-x2) (x2:=-x1) (y1:=y1) (y2:=y2) (a:=-a) (b:=b) (l:=-l) (by grind) (by grind) g1 g2 (by grind) (by grind) (by grind) (by grind)
 grind
theorem qmin_both (a b:Rat):qmin a b≤a∧qmin a b≤b:=by
 rcases qmin_or a b with ⟨h,k⟩ | ⟨h,k⟩<;>rw[h]
 ·exact⟨Rat.le_of_lt k,Rat.le_refl⟩
 ·exact⟨Rat.le_refl,k⟩
theorem qmax_both (a b:Rat):a≤qmax a b∧b≤qmax a b:=by
 rcases qmax_or a b with ⟨h,k⟩ | ⟨h,k⟩<;>rw[h]
 ·exact⟨Rat.le_of_lt k,Rat.le_refl⟩
 ·exact⟨Rat.le_refl,k⟩
theorem qmax_le2 {a b l:Rat}(h:a≤l)(k:b≤l):qmax a b≤l:=by rcases qmax_or a b with ⟨e,_⟩ | ⟨e,_⟩<;>rw[e]<;>assumption
theorem qmin4 (a b c d:Rat):qmin (qmin (qmin a b) c) d≤a∧qmin (qmin (qmin a b) c) d≤b∧qmin (qmin (qmin a b) c) d≤c∧qmin (qmin (qmin a b) c) d≤d:=by
 have h1:=qmin_both a b
 have h2:=qmin_both (qmin a b) c
 have h3:=qmin_both (qmin (qmin a b) c) d
 exact⟨Rat.le_trans h3.1 (Rat.le_trans h2.1 h1.1),Rat.le_trans h3.1 (Rat.le_trans h2.1 h1.2),Rat.le_trans h3.1 h2.2,h3.2⟩
theorem qmax4 (a b c d:Rat):a≤qmax (qmax (qmax a b) c) d∧b≤qmax (qmax (qmax a b) c) d∧c≤qmax (qmax (qmax a b) c) d∧d≤qmax (qmax (qmax a b) c) d:=by
 have h1:=qmax_both a b
 have h2:=qmax_both (qmax a b) c
 have h3:=qmax_both (qmax (qmax a b) c) d
 exact⟨Rat.le_trans h1.1 (Rat.le_trans h2.1 h3.1),Rat.le_trans h1.2 (Rat.le_trans h2.1 h3.1),Rat.le_trans h2.2 h3.1,h3.2⟩
theorem ml_in {m e n f p g q h:Int}{a b:Rat}(h1:dv m e≤a)(h2:a≤dv n f)(h3:dv p g≤b)(h4:b≤dv q h):mlLo m e n f p g q h≤a*b∧a*b≤mlHi m e n f p g q h:=by
 have l:=qmin4 (dv m e*dv p g) (dv m e*dv q h) (dv n f*dv p g) (dv n f*dv q h)
 have r:=qmax4 (dv m e*dv p g) (dv m e*dv q h) (dv n f*dv p g) (dv n f*dv q h)
 exact⟨bil_ge h1 h2 h3 h4 l.1 l.2.1 l.2.2.1 l.2.2.2,bil_le h1 h2 h3 h4 r.1 r.2.1 r.2.2.1 r.2.2.2⟩
theorem nbits_L2 (a:Nat):nbits a≤32*L a:=by
 have:=nbits_L a;omega
theorem dm_nbits {m:Int}(h:m≠0):(nbits (dm m).natAbs:Int)+tz m.natAbs≤nbits m.natAbs:=by
 have h1:=dm_mul m
 have h2:m.natAbs=(dm m).natAbs*2^tz m.natAbs:=by
  have:=congrArg Int.natAbs h1
  rw[abs_shl] at this;exact this.symm
 have h3:=dm_ne h
 have h4:=nbits_le (show (dm m).natAbs≠0 by omega)
 have h5:=nbits_pos (show (dm m).natAbs≠0 by omega)
 have h6:=nbits_lt m.natAbs
 have h7:2^(nbits (dm m).natAbs-1+tz m.natAbs)≤m.natAbs:=by
  rw[Nat.pow_add]
  exact Nat.le_trans (Nat.mul_le_mul_right _ h4) (Nat.le_of_eq h2.symm)
 have h8:=(Nat.pow_lt_pow_iff_right (a:=2) (by omega)).1 (Nat.lt_of_le_of_lt h7 h6)
 omega
theorem end_ok {x w:Int}(h:L x.natAbs≤60)(hw:0≤w∧w≤400):endB (mkM x (-w)) (mkX x (-w))=true:=by
 have hf:=mk_fit (m:=x) (e:=-w) (by omega) (by omega)
 have hi:=iMin_range (-w) 0
 unfold endB onB topD
 simp only [Bool.and_eq_true,decide_eq_true_eq]
 by_cases hx:x=0
 ·subst hx
  rw[(mk_zero _).1,if_pos rfl]
  exact⟨by omega,by omega,.inl rfl⟩
 ·have e1:mkM x (-w)=dm x:=by unfold mkM;rw[if_pos hf.1]
  have e2:mkX x (-w)=-w+(tz x.natAbs:Int):=by unfold mkX;rw[if_pos ⟨hf.1,hx⟩];rfl
  have h1:=dm_nbits hx
  have h2:=nbits_L2 x.natAbs
  rw[e1,if_neg (dm_ne hx),e2]
  exact⟨by omega,by omega,.inr (by omega)⟩
theorem en_ok {lo hi:Rat}{w:Int}(hw:0≤w∧w≤400)(h:lo≤hi)(h1:L (flr lo w).natAbs≤60)(h2:L (cei hi w).natAbs≤60):enE lo hi w=0:=by
 have a:=mk_fit (m:=flr lo w) (e:=-w) (by omega) (by omega)
 have b:=mk_fit (m:=cei hi w) (e:=-w) (by omega) (by omega)
 unfold enE
 rw[if_pos (by omega)]
 unfold ecE
 rw[if_pos]
 refine⟨a.1,b.1,?_⟩
 unfold smB ivB
 rw[end_ok h1 hw,end_ok h2 hw,a.2.2.2.2.1,b.2.2.2.2.1]
 simp only [Bool.and_true,Bool.true_and,decide_eq_true_eq]
 rw[cmpD_dv,a.2.2.2.2.2,b.2.2.2.2.2]
 exact cmpQ_le.2 (Rat.le_trans (flr_le lo w) (Rat.le_trans h (cei_ge hi w)))
theorem mul_L {m e n f w:Int}(hm:L m.natAbs≤8)(hn:L n.natAbs≤8)(he:-300≤e∧e≤400)(hf:-300≤f∧f≤400)(hw:0≤w∧w≤200):L (flr (dv m e*dv n f) w).natAbs≤60∧L (cei (dv m e*dv n f) w).natAbs≤60:=by
 have h1:=L_abs_mul m n
 have h2:=flr_LD (m*n) (e+f) w
 rw[dv_mul] at h2
 omega
theorem flr_qmin_L {a b:Rat}{w:Int}{k:Nat}(h:L (flr a w).natAbs≤k)(h':L (flr b w).natAbs≤k):L (flr (qmin a b) w).natAbs≤k:=by
 rcases qmin_or a b with ⟨e,_⟩ | ⟨e,_⟩<;>rw[e]<;>assumption
theorem cei_qmax_L {a b:Rat}{w:Int}{k:Nat}(h:L (cei a w).natAbs≤k)(h':L (cei b w).natAbs≤k):L (cei (qmax a b) w).natAbs≤k:=by
 rcases qmax_or a b with ⟨e,_⟩ | ⟨e,_⟩<;>rw[e]<;>assumption
def FitI (m e n f:Int):Prop:=(L m.natAbs≤8∧-300≤e∧e≤400)∧(L n.natAbs≤8∧-300≤f∧f≤400)∧dv m e≤dv n f
theorem ml_L {m e n f p g q h w:Int}(h1:FitI m e n f)(h2:FitI p g q h)(hw:0≤w∧w≤200):L (flr (mlLo m e n f p g q h) w).natAbs≤60∧L (cei (mlHi m e n f p g q h) w).natAbs≤60:=by
 obtain⟨a,b,_⟩:=h1
 obtain⟨c,d,_⟩:=h2
 have k1:=mul_L a.1 c.1 a.2 c.2 hw
 have k2:=mul_L a.1 d.1 a.2 d.2 hw
 have k3:=mul_L b.1 c.1 b.2 c.2 hw
 have k4:=mul_L b.1 d.1 b.2 d.2 hw
 exact⟨flr_qmin_L (flr_qmin_L (flr_qmin_L k1.1 k2.1) k3.1) k4.1,cei_qmax_L (cei_qmax_L (cei_qmax_L k1.2 k2.2) k3.2) k4.2⟩
theorem ml_le {m e n f p g q h:Int}(h1:dv m e≤dv n f)(h2:dv p g≤dv q h):mlLo m e n f p g q h≤mlHi m e n f p g q h :=
 have k:=ml_in (a:=dv m e) (b:=dv p g) Rat.le_refl h1 Rat.le_refl h2
 Rat.le_trans k.1 k.2
theorem ml_ok {m e n f p g q h w:Int}(h1:FitI m e n f)(h2:FitI p g q h)(hw:0≤w∧w≤200):enE (mlLo m e n f p g q h) (mlHi m e n f p g q h) w=0:=by
 have k:=ml_L h1 h2 hw
 exact en_ok (by omega) (ml_le h1.2.2 h2.2.2) k.1 k.2
end Go.Proofs.YtkkbddkpggjgpaaGreatDoor



namespace Go.Proofs.YtkkbddkpggjgpaaGreatDoor
theorem fl_R {a T:Int}(hT:0<T):((a / T:Int):Rat)*(T:Rat)≤(a:Rat)∧(a:Rat)<((a / T:Int):Rat)*(T:Rat)+(T:Rat):=by
 have h1:=Int.ediv_mul_le a (show T≠0 by omega)
 have h2:=Int.lt_ediv_add_one_mul_self a hT
 rw[Int.add_mul,Int.one_mul] at h2
 rw[← Rat.intCast_mul,← Rat.intCast_add,Rat.intCast_le_intCast,Rat.intCast_lt_intCast]
 exact⟨h1,h2⟩
theorem ce_R {a T:Int}(hT:0<T):(a:Rat)≤((-(-a / T):Int):Rat)*(T:Rat)∧((-(-a / T):Int):Rat)*(T:Rat)<(a:Rat)+(T:Rat):=by
 have h:=fl_R (a:=-a) hT
 rw[Rat.intCast_neg] at h ⊢
 constructor<;>grind
theorem pf_lo {a c T:Int}{y z:Rat}(hT:0<T)(ha:0≤a)(hc:0≤c)(h1:(a:Rat)≤y*T)(h2:(c:Rat)≤z*T):((a*c / T:Int):Rat)≤y*z*T:=by
 have T0:(0:Rat)<T:=Rat.intCast_pos.2 hT
 have a0:(0:Rat)≤a:=Rat.intCast_nonneg.2 ha
 have c0:(0:Rat)≤c:=Rat.intCast_nonneg.2 hc
 have f:=(fl_R (a:=a*c) hT).1
 rw[Rat.intCast_mul a c] at f
 have m1:=Rat.mul_le_mul_of_nonneg_right h1 c0
 have m2:=Rat.mul_le_mul_of_nonneg_left h2 (Rat.le_trans a0 h1)
 exact Rat.le_of_mul_le_mul_right (c:=(T:Rat)) (by grind) T0
theorem pf_hi {b d T:Int}{y z:Rat}(hT:0<T)(hy:0≤y)(hz:0≤z)(h1:y*T≤(b:Rat))(h2:z*T≤(d:Rat)):y*z*T≤((-(-(b*d) / T):Int):Rat):=by
 have T0:(0:Rat)<T:=Rat.intCast_pos.2 hT
 have y0:(0:Rat)≤y*T:=Rat.mul_nonneg hy (Rat.le_of_lt T0)
 have z0:(0:Rat)≤z*T:=Rat.mul_nonneg hz (Rat.le_of_lt T0)
 have f:=(ce_R (a:=b*d) hT).1
 rw[Rat.intCast_mul b d] at f
 have m1:=Rat.mul_le_mul_of_nonneg_right h1 z0
 have m2:=Rat.mul_le_mul_of_nonneg_left h2 (Rat.le_trans y0 h1)
 exact Rat.le_of_mul_le_mul_right (c:=(T:Rat)) (by grind) T0
theorem df_lo {a n:Int}{y:Rat}(hn:0<n)(h:(a:Rat)≤y):((a / n:Int):Rat)≤y / (n:Rat):=by
 have n0:(0:Rat)<n:=Rat.intCast_pos.2 hn
 have f:=(fl_R (a:=a) hn).1
 have e:=Rat.div_mul_cancel (a:=y) (b:=(n:Rat)) (by grind)
 exact Rat.le_of_mul_le_mul_right (c:=(n:Rat)) (by rw[e];exact Rat.le_trans f h) n0
theorem df_hi {b n:Int}{y:Rat}(hn:0<n)(h:y≤(b:Rat)):y / (n:Rat)≤((-(-b / n):Int):Rat):=by
 have n0:(0:Rat)<n:=Rat.intCast_pos.2 hn
 have f:=(ce_R (a:=b) hn).1
 have e:=Rat.div_mul_cancel (a:=y) (b:=(n:Rat)) (by grind)
 exact Rat.le_of_mul_le_mul_right (c:=(n:Rat)) (by rw[e];exact Rat.le_trans h f) n0
def odn (j:Nat):Int:=2*(j:Int)+1
theorem odn_pos (j:Nat):0<odn j:=by unfold odn;omega
theorem odd_succ (z:Rat)(k:Nat):z^(2*(k+1)+1)=z^(2*k+1)*(z*z):=by
 rw[show 2*(k+1)+1=2*k+1+1+1 by omega,Rat.pow_succ,Rat.pow_succ,Rat.mul_assoc]
theorem div_nn {y:Rat}{j:Nat}(h:0≤y):0≤y / (odn j:Rat)∧y / (odn j:Rat)≤y:=by
 have n0:(1:Rat)≤(odn j:Rat):=by rw[show (1:Rat)=((1:Int):Rat) from rfl,Rat.intCast_le_intCast];unfold odn;omega
 have e:=Rat.div_mul_cancel (a:=y) (b:=(odn j:Rat)) (by grind)
 have h0:0≤y / (odn j:Rat):=by
  rw[Rat.div_def]
  exact Rat.mul_nonneg h (Rat.le_of_lt (Rat.inv_pos.2 (by grind)))
 refine⟨h0,?_⟩
 have m:=Rat.mul_le_mul_of_nonneg_left n0 h0
 grind
theorem least {P:Nat→Prop}[DecidablePred P]:∀ {n:Nat},P n→∃ N,N≤n∧P N∧∀ j,j<N→¬ P j
 | 0,h=>⟨0,Nat.le_refl _,h,fun j hj=>by omega⟩
 | n+1,h=>by
  by_cases q:∃ m,m≤n∧P m
  ·obtain⟨m,hm,pm⟩:=q
   obtain⟨N,hN,pN,hj⟩:=least pm
   exact⟨N,by omega,pN,hj⟩
  ·exact⟨n+1,Nat.le_refl _,h,fun j hj pj=>q ⟨j,by omega,pj⟩⟩
def ptLo (a d:Int):Int:=((a.natAbs / d.toNat:Nat):Int)
def ptHi (b d:Int):Int:=((b.natAbs / d.toNat+(if b.natAbs%d.toNat=0 then 0 else 1):Nat):Int)
theorem ptLo_eq {a d:Int}(ha:0≤a)(hd:0<d):ptLo a d=a / d:=by
 unfold ptLo
 obtain⟨x,rfl⟩:=Int.eq_ofNat_of_zero_le ha
 obtain⟨y,rfl⟩:=Int.eq_ofNat_of_zero_le (show 0≤d by omega)
 simp
theorem ptHi_eq {b d : Int} (hb : 0 ≤ b) (hd : 0 < d) : ptHi b d = -(-b / d) := by
  unfold ptHi
  obtain ⟨x, rfl⟩ := Int.eq_ofNat_of_zero_le hb
  obtain ⟨y, rfl⟩ := Int.eq_ofNat_of_zero_le (show 0 ≤ d by omega)
  simp only [Int.natAbs_natCast, Int.toNat_natCast]
  have e := Nat.div_add_mod x y
  have l := Nat.mod_lt x (show 0 < y by omega)
  have key : ∀ q : Int, q * (y : Int) ≤ -(x : Int) → -(x : Int) < (q + 1) * (y : Int) → -(x : Int) / (y : Int) = q := by
    intro q h1 h2
    have a1 := Int.le_ediv_of_mul_le hd h1
    have a2 := Int.ediv_lt_of_lt_mul hd h2
    omega
  have ei : ((y : Int)) * ((x / y : Nat) : Int) + ((x % y : Nat) : Int) = (x : Int) := by
    have := congrArg (Nat.cast : Nat → Int) e
    push_cast at this ⊢
    exact this
  split
  · rename_i h0
    rw [key (-((x / y : Nat) : Int)) (by rw [h0] at ei; grind) (by rw [h0] at ei; grind)]
    omega
  · rename_i h0
    rw [key (-((x / y : Nat) : Int) - 1) (by have : ((x % y : Nat) : Int) ≤ y := by omega
                                             grind) (by have : (0 : Int) < ((x % y : Nat) : Int) := by omega
                                                        grind)]
    omega
def arP (T q1 q2 x1 x2:Int):Nat→Int × Int
 | 0=>(x1,x2)
 | j+1=>((arP T q1 q2 x1 x2 j).1*q1 / T,-(-((arP T q1 q2 x1 x2 j).2*q2) / T))
def arA (T q1 q2 x1 x2:Int):Nat→Int × Int
 | 0=>(x1,x2)
 | j+1=>((arA T q1 q2 x1 x2 j).1+ptLo (arP T q1 q2 x1 x2 (j+1)).1 (odn (j+1)),(arA T q1 q2 x1 x2 j).2+ptHi (arP T q1 q2 x1 x2 (j+1)).2 (odn (j+1)))
theorem ar_w {T p1 p2 q1 q2 D:Int}(hT:0<T)(h1:0≤p2)(h2:2*p2≤T)(h3:q2-q1≤D+2)(hD:0≤D)(h4:0≤q1)(h5:4*q1≤T)(h6:p2-p1≤D+6):-(-(p2*q2) / T)-p1*q1 / T≤D+6:=by
 have f1:=Int.lt_ediv_add_one_mul_self (p1*q1) hT
 have f2:=Int.lt_ediv_add_one_mul_self (-(p2*q2)) hT
 generalize p1*q1 / T=u at *
 generalize -(p2*q2) / T=v at *
 have m1:=Int.mul_le_mul_of_nonneg_left h3 h1
 have m2:=Int.mul_le_mul_of_nonneg_right h2 (show 0≤D+2 by omega)
 have m3:=Int.mul_le_mul_of_nonneg_right h6 h4
 have m4:=Int.mul_le_mul_of_nonneg_left h5 (show 0≤D+6 by omega)
 have m6:=Int.mul_nonneg hD (show 0≤T by omega)
 refine Decidable.byContradiction fun hn=>?_
 have m5:=Int.mul_le_mul_of_nonneg_right (show D+7≤-v-u by omega) (show 0≤T by omega)
 grind
theorem ar_q {T x1 x2:Int}(hT:0<T)(h1:0≤x1)(h2:x1≤x2)(h3:2*x2≤T) :
  0≤x1*x1 / T∧4*(x1*x1 / T)≤T∧-(-(x2*x2) / T)-x1*x1 / T≤(x2-x1)+2∧0≤-(-(x2*x2) / T)∧4*-(-(x2*x2) / T)≤T+3:=by
 have f0:=Int.ediv_mul_le (x1*x1) (show T≠0 by omega)
 have f1:=Int.lt_ediv_add_one_mul_self (x1*x1) hT
 have f2:=Int.lt_ediv_add_one_mul_self (-(x2*x2)) hT
 have f3:=Int.ediv_mul_le (-(x2*x2)) (show T≠0 by omega)
 have n1:=Int.ediv_nonneg (Int.mul_nonneg h1 h1) (show 0≤T by omega)
 have n2:=Int.mul_nonneg (show 0≤x2 by omega) (show 0≤x2 by omega)
 generalize x1*x1 / T=u at *
 generalize -(x2*x2) / T=v at *
 have s1:=Int.mul_le_mul_of_nonneg_left (show x1≤x2 by omega) h1
 have s2:=Int.mul_le_mul_of_nonneg_right (show x1≤x2 by omega) (show 0≤x2 by omega)
 have s3:=Int.mul_le_mul_of_nonneg_left h3 (show 0≤x2 by omega)
 have s4:=Int.mul_le_mul_of_nonneg_right h3 (show 0≤T by omega)
 refine⟨n1,?_,?_,?_,?_⟩
 ·refine Decidable.byContradiction fun hn=>?_
  have m:=Int.mul_le_mul_of_nonneg_right (show T+1≤4*u by omega) (show 0≤T by omega)
  grind
 ·refine Decidable.byContradiction fun hn=>?_
  have m:=Int.mul_le_mul_of_nonneg_right (show (x2-x1)+3≤-v-u by omega) (show 0≤T by omega)
  have k:=Int.mul_le_mul_of_nonneg_left (show x1+x2≤T by omega) (show 0≤x2-x1 by omega)
  grind
 ·refine Decidable.byContradiction fun hn=>?_
  have m:=Int.mul_le_mul_of_nonneg_right (show 1≤v by omega) (show 0≤T by omega)
  grind
 ·refine Decidable.byContradiction fun hn=>?_
  have m:=Int.mul_le_mul_of_nonneg_right (show T+4≤4*-v by omega) (show 0≤T by omega)
  grind
theorem ar_p {T p2 q2:Int}(hT:0<T)(h1:0≤p2)(h2:2*p2≤T)(h4:0≤q2)(h5:4*q2≤T+3):0≤-(-(p2*q2) / T)∧4*-(-(p2*q2) / T)≤p2+5:=by
 have f2:=Int.lt_ediv_add_one_mul_self (-(p2*q2)) hT
 have f3:=Int.ediv_mul_le (-(p2*q2)) (show T≠0 by omega)
 have n2:=Int.mul_nonneg h1 h4
 generalize -(p2*q2) / T=v at *
 have m1:=Int.mul_le_mul_of_nonneg_left h5 h1
 refine⟨?_,?_⟩
 ·refine Decidable.byContradiction fun hn=>?_
  have m:=Int.mul_le_mul_of_nonneg_right (show 1≤v by omega) (show 0≤T by omega)
  grind
 ·refine Decidable.byContradiction fun hn=>?_
  have m:=Int.mul_le_mul_of_nonneg_right (show p2+6≤4*-v by omega) (show 0≤T by omega)
  grind
structure ArH (T x1 x2:Int):Prop where
 hT:8≤T
 h1:0≤x1
 h2:x1≤x2
 h3:2*x2≤T
def arQ1 (T x1:Int):Int:=x1*x1 / T
def arQ2 (T x2:Int):Int:=-(-(x2*x2) / T)
abbrev aP (T x1 x2:Int)(j:Nat):Int × Int:=arP T (arQ1 T x1) (arQ2 T x2) x1 x2 j
abbrev aA (T x1 x2:Int)(j:Nat):Int × Int:=arA T (arQ1 T x1) (arQ2 T x2) x1 x2 j
theorem aP_facts {T x1 x2:Int}(h:ArH T x1 x2):∀ j,0≤(aP T x1 x2 j).1∧0≤(aP T x1 x2 j).2∧2*(aP T x1 x2 j).2≤T∧(aP T x1 x2 j).2-(aP T x1 x2 j).1≤(x2-x1)+6
 | 0=>⟨h.h1,by have:=h.h1;have:=h.h2;show 0≤x2;omega,h.h3,by show x2-x1≤_;omega⟩
 | j+1=>by
  obtain⟨a1,a2,a3,a4⟩:=aP_facts h j
  have hT:=h.hT
  obtain⟨q1,q2,q3,q4,q5⟩:=ar_q (T:=T) (by omega) h.h1 h.h2 h.h3
  have p:=ar_p (T:=T) (by omega) a2 a3 q4 q5
  have w:=ar_w (T:=T) (D:=x2-x1) (by omega) a2 a3 q3 (by have:=h.h2;omega) q1 q2 a4
  have n:=Int.ediv_nonneg (Int.mul_nonneg a1 q1) (show 0≤T by omega)
  exact⟨n,p.1,by have:=p.2;show 2*(-(-((aP T x1 x2 j).2*-(-(x2*x2) / T)) / T))≤T;omega,w⟩
theorem aP_step {T x1 x2:Int}(h:ArH T x1 x2)(j:Nat):4*(aP T x1 x2 (j+1)).2≤(aP T x1 x2 j).2+5:=by
 obtain⟨a1,a2,a3,a4⟩:=aP_facts h j
 have hT:=h.hT
 obtain⟨q1,q2,q3,q4,q5⟩:=ar_q (T:=T) (by omega) h.h1 h.h2 h.h3
 exact (ar_p (T:=T) (by omega) a2 a3 q4 q5).2
theorem aP_small {t:Nat}{x1 x2:Int}(h:ArH (2^t) x1 x2):∃ N,N≤t∧(aP (2^t) x1 x2 N).2<8∧∀ j,j<N→¬ (aP (2^t) x1 x2 j).2<8:=by
 by_cases q:∃ m,m≤t∧(aP (2^t) x1 x2 m).2<8
 ·obtain⟨m,hm,pm⟩:=q
  obtain⟨N,hN,r⟩:=least (P:=fun m=>(aP (2^t) x1 x2 m).2<8) pm
  exact⟨N,by omega,r⟩
 ·have key:∀ j,j≤t→(aP (2^t) x1 x2 j).2*2^j≤2^t:=by
   intro j
   induction j with
   | zero=>intro _;have:=h.h3;have:=h.h1;have:=h.h2;show x2*1≤_;omega
   | succ j ih =>
    intro hj
    have i:=ih (by omega)
    have s:=aP_step h j
    have b:¬ (aP (2^t) x1 x2 j).2<8:=fun hb=>q ⟨j,by omega,hb⟩
    have m:=Int.mul_le_mul_of_nonneg_right (show 2*(aP (2^t) x1 x2 (j+1)).2≤(aP (2^t) x1 x2 j).2 by omega) (show (0:Int)≤2^j from Int.le_of_lt (two_pos j))
    rw[Int.pow_succ]
    grind
  have k:=key t (Nat.le_refl _)
  have b:¬ (aP (2^t) x1 x2 t).2<8:=fun hb=>q ⟨t,Nat.le_refl _,hb⟩
  have m:=Int.mul_le_mul_of_nonneg_right (show 8≤(aP (2^t) x1 x2 t).2 by omega) (show (0:Int)≤2^t from Int.le_of_lt (two_pos t))
  have:=two_pos t
  omega
theorem aP_enc {T x1 x2:Int}{X:Rat}(h:ArH T x1 x2)(e1:(x1:Rat)≤X*T)(e2:X*T≤(x2:Rat)):∀ j,((aP T x1 x2 j).1:Rat)≤X^(2*j+1)*T∧X^(2*j+1)*T≤((aP T x1 x2 j).2:Rat)
 | 0=>by
  rw[show X^(2*0+1)=X by rw[Rat.pow_succ,Rat.pow_zero,Rat.one_mul]]
  exact⟨e1,e2⟩
 | j+1=>by
  have hT:=h.hT
  have T0:(0:Rat)<T:=Rat.intCast_pos.2 (by omega)
  have X0:0≤X:=by
   have:(0:Rat)*T≤X*T:=by rw[Rat.zero_mul];exact Rat.le_trans (Rat.intCast_nonneg.2 h.h1) e1
   exact Rat.le_of_mul_le_mul_right this T0
  have i:=aP_enc h e1 e2 j
  obtain⟨a1,a2,a3,a4⟩:=aP_facts h j
  obtain⟨q1,q2,q3,q4,q5⟩:=ar_q (T:=T) (by omega) h.h1 h.h2 h.h3
  have s1:=pf_lo (T:=T) (by omega) h.h1 h.h1 e1 e1
  have s2:=pf_hi (T:=T) (by omega) X0 X0 e2 e2
  rw[odd_succ]
  exact⟨pf_lo (by omega) a1 q1 i.1 s1,pf_hi (by omega) (Rat.pow_nonneg X0) (Rat.mul_nonneg X0 X0) i.2 s2⟩
end Go.Proofs.YtkkbddkpggjgpaaGreatDoor

namespace Go.Proofs.YtkkbddkpggjgpaaGreatDoor
theorem dv_sc (x:Int)(t:Nat):dv x (-(t:Int))*((2^t:Int):Rat)=(x:Rat):=by
 have e:((2^t:Int):Rat)=(2:Rat)^(t:Int):=(zp_nat t).symm
 unfold dv
 rw[e,Rat.mul_assoc,Rat.mul_comm ((2:Rat)^(-(t:Int))),zp_cancel,Rat.mul_one]
theorem flr_sc (r:Rat)(t:Nat):((flr r t:Int):Rat)≤r*((2^t:Int):Rat)∧r*((2^t:Int):Rat)<((flr r t:Int):Rat)+1:=by
 have T0:(0:Rat)<((2^t:Int):Rat):=Rat.intCast_pos.2 (two_pos t)
 have a:=Rat.mul_le_mul_of_nonneg_right (flr_le r t) (Rat.le_of_lt T0)
 have b:=Rat.mul_lt_mul_of_pos_right (flr_lt r t) T0
 rw[dv_sc] at a b
 rw[Rat.intCast_add] at b
 exact⟨a,b⟩
theorem cei_sc (r:Rat)(t:Nat):r*((2^t:Int):Rat)≤((cei r t:Int):Rat)∧((cei r t:Int):Rat)<r*((2^t:Int):Rat)+1:=by
 have h:=flr_sc (-r) t
 unfold cei
 rw[Rat.intCast_neg]
 constructor<;>grind
theorem flr_cei1 (r:Rat)(t:Nat):cei r t≤flr r t+1∧flr r t≤cei r t:=by
 have a:=flr_sc r t
 have b:=cei_sc r t
 constructor
 ·refine Decidable.byContradiction fun hn=>?_
  have:((flr r t+2:Int):Rat)≤((cei r t:Int):Rat):=Rat.intCast_le_intCast.2 (by omega)
  rw[Rat.intCast_add,show ((2:Int):Rat)=2 from rfl] at this
  grind
 ·refine Rat.intCast_le_intCast.1 ?_
  grind
structure LnH (T:Int) (M Z:Rat) (d1 d2 xa xb:Int):Prop where
 hT:256≤T
 m1:3≤4*M
 m2:2*M≤3
 xa1:(xa:Rat)≤M*(T:Rat)
 xb1:M*(T:Rat)≤(xb:Rat)
 x2:xb≤xa+1
 d0:0≤d1
 d3:d2≤d1+1
 z0:0≤Z
 z2:2*(Z*(M+1))≤1
 dz1:(d1:Rat)≤Z*(M+1)*(T:Rat)
 dz2:Z*(M+1)*(T:Rat)≤(d2:Rat)
end Go.Proofs.YtkkbddkpggjgpaaGreatDoor

namespace Go.Proofs.YtkkbddkpggjgpaaGreatDoor
structure RrH (v:Nat) (x1 x2:Int):Prop where
 hv:8≤v
 h1:x1.natAbs≤2^(v-1)
 h2:x2.natAbs≤2^(v-1)
end Go.Proofs.YtkkbddkpggjgpaaGreatDoor

namespace Go.Proofs.YtkkbddkpggjgpaaGreatDoor
theorem of_ge {m e s:Int}(h:0≤e+s):m*2^(e+s).toNat=flr (dv m e) s∧m*2^(e+s).toNat=cei (dv m e) s:=by
 have a:flr (dv m e) s=m*2^(e+s).toNat:=by rw[flr_dv,if_pos h]
 have b:flr (dv (-m) e) s=-m*2^(e+s).toNat:=by rw[flr_dv,if_pos h]
 refine⟨a.symm,?_⟩
 unfold cei
 rw[← dv_neg,b,Int.neg_mul,Int.neg_neg]
theorem of_lt {m e s:Int}(h:e+s<0):m / 2^(0-(e+s)).toNat=flr (dv m e) s∧-(-m / 2^(0-(e+s)).toNat)=cei (dv m e) s:=by
 have a:flr (dv m e) s=m / 2^(-(e+s)).toNat:=by rw[flr_dv,if_neg (by omega)]
 have b:flr (dv (-m) e) s=-m / 2^(-(e+s)).toNat:=by rw[flr_dv,if_neg (by omega)]
 rw[show (0:Int)-(e+s)=-(e+s) by omega]
 refine⟨a.symm,?_⟩
 unfold cei
 rw[← dv_neg,b]
theorem half_enc {a b:Int}{X:Rat}{t s n:Nat}(h:t=s+n)(h1:(a:Rat)≤X*((2^t:Int):Rat))(h2:X*((2^t:Int):Rat)≤(b:Rat)) :
  ((a / 2^n:Int):Rat)≤X*((2^s:Int):Rat)∧X*((2^s:Int):Rat)≤((-(-b / 2^n):Int):Rat):=by
 have n0:(0:Rat)<((2^n:Int):Rat):=Rat.intCast_pos.2 (two_pos n)
 have e:((2^t:Int):Rat)=((2^s:Int):Rat)*((2^n:Int):Rat):=by rw[h,Int.pow_add,Rat.intCast_mul]
 rw[e,← Rat.mul_assoc] at h1 h2
 have f:=(fl_R (a:=a) (two_pos n)).1
 have g:=(ce_R (a:=b) (two_pos n)).1
 exact⟨Rat.le_of_mul_le_mul_right (Rat.le_trans f h1) n0,Rat.le_of_mul_le_mul_right (Rat.le_trans h2 g) n0⟩
theorem half_w {a b W:Int}{n:Nat}(h:b-a≤W*2^n):-(-b / 2^n)-a / 2^n≤W+1:=by
 have n0:=two_pos n
 have f1:=Int.lt_ediv_add_one_mul_self a n0
 have f2:=Int.lt_ediv_add_one_mul_self (-b) n0
 generalize a / 2^n=u at *
 generalize -b / 2^n=v at *
 generalize (2:Int)^n=T at *
 refine Decidable.byContradiction fun hn=>?_
 have m:=Int.mul_le_mul_of_nonneg_right (show W+2≤-v-u by omega) (show 0≤T by omega)
 grind
theorem cl_sc {x:Int}{t:Nat}{P:Int}(ht:t≤430):(x*2^(430-t)≤P→(x:Rat)≤dv P (-430)*((2^t:Int):Rat))∧(P≤x*2^(430-t)→dv P (-430)*((2^t:Int):Rat)≤(x:Rat)):=by
 have T0:(0:Rat)<((2^t:Int):Rat):=Rat.intCast_pos.2 (two_pos t)
 have e:dv (x*2^(430-t)) (-430)*((2^t:Int):Rat)=(x:Rat):=by
  rw[dv_shl,show (-430:Int)+((430-t:Nat):Int)=-(t:Int) by omega,dv_sc]
 constructor
 ·intro h
  have a:=Rat.mul_le_mul_of_nonneg_right ((dv_le (c:=-430)).2 h) (Rat.le_of_lt T0)
  rwa [e] at a
 ·intro h
  have a:=Rat.mul_le_mul_of_nonneg_right ((dv_le (c:=-430)).2 h) (Rat.le_of_lt T0)
  rwa [e] at a
def Encl (f:Nat→Rat)(s:Nat)(lo hi:Int):Prop:=∃ N,∀ K,N≤K→(lo:Rat)≤f K*((2^s:Int):Rat)∧f K*((2^s:Int):Rat)≤(hi:Rat)
theorem Encl.half {f:Nat→Rat}{t s n:Nat}{a b:Int}(h:Encl f t a b)(e:t=s+n):Encl f s (a / 2^n) (-(-b / 2^n)):=by
 obtain⟨N,h⟩:=h
 exact⟨N,fun K hK=>half_enc e (h K hK).1 (h K hK).2⟩
theorem Encl.le {f:Nat→Rat}{s:Nat}{a b:Int}(h:Encl f s a b):a≤b:=by
 obtain⟨N,h⟩:=h
 exact Rat.intCast_le_intCast.1 (Rat.le_trans (h N (Nat.le_refl _)).1 (h N (Nat.le_refl _)).2)
theorem cmpI_le (x y:Int):cmpI x y≤0↔x≤y:=by unfold cmpI;split<;>(try split)<;>omega
theorem Sp_of {a b c d:Int}(h1:a=c)(h2:b=d):vsub (.agg [.bool (decide (a<0)),N a.natAbs,.bool (decide (b<0)),N b.natAbs]) (.agg [.bool (decide (c<0)),N c.natAbs,.bool (decide (d<0)),N d.natAbs]):=by
 subst h1;subst h2;exact vsub_refl _
theorem pt_hi1 {b d:Int}(h:((b.natAbs%d.toNat:Nat):Int)≠0):sgn false (b.natAbs / d.toNat+(1:Int).toNat)=ptHi b d:=by
 unfold ptHi
 rw[if_neg (by omega)];rfl
theorem pt_hi2 {b d:Int}(h:((b.natAbs%d.toNat:Nat):Int)=0):sgn false (b.natAbs / d.toNat)=ptHi b d:=by
 unfold ptHi
 rw[if_pos (by omega)];rfl
theorem tiny_8 {b:Int}:iLe (nbits b.natAbs:Int) 3=decide (b.natAbs<8):=by
 unfold iLe
 have h:(nbits b.natAbs:Int)≤3↔b.natAbs<8:=by
  constructor
  ·intro h
   have l:=nbits_lt b.natAbs
   have:=Nat.pow_le_pow_right (n:=2) (by omega) (show nbits b.natAbs≤3 by omega)
   omega
  ·intro h
   have:=nbits_of_lt (x:=b.natAbs) (k:=3) (by omega)
   omega
 exact decide_eq_decide.2 h
end Go.Proofs.YtkkbddkpggjgpaaGreatDoor

namespace Go.Proofs.YtkkbddkpggjgpaaGreatDoor
open Go.RowKit
set_option maxRecDepth 100000
theorem fx_One (s:Int)(c0:(0:Int)≤s∧s≤20000):Impl Tryz.prog Amb 174 [(.int .i64 s)] (sV ((1:Int)*2^(s).toNat) ((1:Int)*2^(s).toNat)):=by
 exact impl_ob hP hAmb Tryz.func174 (by kernel_rfl) (.lit<|.call (zV (1:Int))<|.lit<|.call (zV ((1:Int)*2^(s).toNat))<|.lit<|.call (sV ((1:Int)*2^(s).toNat) ((1:Int)*2^(s).toNat))<|.lits 2<|.ret)
  (cast_ob (aI True.intro (aI (int_Of 1 oO) (have f2:=(L_i64 oO:L (1:Int).natAbs≤2);aI (int_Shl (1:Int) s oO oO) (have f1:=L_abs_shl (1:Int) (s).toNat;aI (fx_Exact ((1:Int)*2^(s).toNat) oO) ((vsub_refl (sV ((1:Int)*2^(s).toNat) ((1:Int)*2^(s).toNat)))))))) (by kernel_rfl))
theorem fx_Of (m e s:Int)(c0:L (m).natAbs≤8192)(c1:(-200000:Int)≤e∧e≤200000)(c2:(0:Int)≤s∧s≤20000):Impl Tryz.prog Amb 173 [(yV m e),(.int .i64 s)] (sV (flr (dv m e) s) (cei (dv m e) s)):=by
 exact impl_ob hP hAmb Tryz.func173 (by kernel_rfl) (.lits 2<|.yes<|.lit<|.both (.lits 2<|.call (zV (m*2^((e+s)).toNat))<|.lit<|.call (sV (m*2^((e+s)).toNat) (m*2^((e+s)).toNat))<|.lits 2<|.ret) (.lits 2<|.call (sV m m)<|.lit<|.yes<|.lit<|.call (sV (m / 2^(((0:Int)-(e+s))).toNat) (-(-m / 2^(((0:Int)-(e+s))).toNat)))<|.lits 2<|.ret))
  (cast_ob (aI True.intro (aI (fits_i64 oO:(fits .i64 (e+s))=true) (aI (fun (h1:(iGe (e+s) 0)=true)=>have _gh1:=iGe_t h1;aI (int_Shl m (e+s) oO oO) (have f2:=L_abs_shl m ((e+s)).toNat;aI (fx_Exact (m*2^((e+s)).toNat) oO) ((by rw[← (of_ge (m:=m) (e:=e) (s:=s) oO).1,← (of_ge (m:=m) (e:=e) (s:=s) oO).2];exact vsub_refl _:vsub (sV (m*2^((e+s)).toNat) (m*2^((e+s)).toNat)) (sV (flr (dv m e) s) (cei (dv m e) s)))))) (fun (h3:(iGe (e+s) 0)=false)=>have _gh3:=iGe_f h3;aI (fx_Exact m oO) (aI (fits_i64 oO:(fits .i64 ((0:Int)-(e+s)))=true) (aI (fx_Half m m ((0:Int)-(e+s)) oO oO oO) (have f7:=L_abs_neg (-m / 2^(((0:Int)-(e+s))).toNat);have f6:=L_abs_shr (-m) (((0:Int)-(e+s))).toNat;have f5:=L_abs_neg m;have f4:=L_abs_shr m (((0:Int)-(e+s))).toNat;(by rw[← (of_lt (m:=m) (e:=e) (s:=s) oO).1,← (of_lt (m:=m) (e:=e) (s:=s) oO).2];exact vsub_refl _:vsub (sV (m / 2^(((0:Int)-(e+s))).toNat) (-(-m / 2^(((0:Int)-(e+s))).toNat))) (sV (flr (dv m e) s) (cei (dv m e) s)))))))))) (by kernel_rfl))
theorem fx_Twice (a b n:Int)(c0:L (a).natAbs≤65536)(c1:L (b).natAbs≤65536)(c2:(0:Int)≤n∧n≤20000):Impl Tryz.prog Amb 189 [(sV a b),(.int .i64 n)] (sV (a*2^(n).toNat) (b*2^(n).toNat)):=by
 exact impl_ob hP hAmb Tryz.func189 (by kernel_rfl) (.lits 2<|.call (zV (a*2^(n).toNat))<|.lits 2<|.call (zV (b*2^(n).toNat))<|.lits 3<|.ret)
  (cast_ob (aI True.intro (aI (int_Shl a n oO oO) (have f2:=L_abs_shl a (n).toNat;aI (int_Shl b n oO oO) (have f1:=L_abs_shl b (n).toNat;(vsub_refl (sV (a*2^(n).toNat) (b*2^(n).toNat))))))) (by kernel_rfl))
theorem fx_Mul (a b c d s:Int)(c0:L (a).natAbs≤8192)(c1:L (b).natAbs≤8192)(c2:L (c).natAbs≤8192)(c3:L (d).natAbs≤8192)(c4:(0:Int)≤s∧s≤20000):Impl Tryz.prog Amb 210 [(sV a b),(sV c d),(.int .i64 s)] (sV (a*c / 2^(s).toNat) (-(-(b*d) / 2^(s).toNat))):=by
 exact impl_ob hP hAmb Tryz.func210 (by kernel_rfl) (.lits 3<|.call (zV (a*c))<|.lit<|.call (zV ((a*c) / 2^(s).toNat))<|.lits 3<|.call (zV (b*d))<|.lit<|.call (zV (-(-(b*d) / 2^(s).toNat)))<|.lits 3<|.ret)
  (cast_ob (aI True.intro (aI (int_Mul a c oO oO) (have f6:=L_abs_mul a c;aI (int_Shr (a*c) s oO oO) (have f5:=L_abs_shr (a*c) (s).toNat;aI (int_Mul b d oO oO) (have f4:=L_abs_mul b d;aI (fx_up (b*d) s oO oO) (have f3:=L_abs_neg (-(b*d) / 2^(s).toNat);have f2:=L_abs_shr (-(b*d)) (s).toNat;have f1:=L_abs_neg (b*d);(vsub_of (by first | rfl | simp_all):vsub (sV ((a*c) / 2^(s).toNat) (-(-(b*d) / 2^(s).toNat))) (sV (a*c / 2^(s).toNat) (-(-(b*d) / 2^(s).toNat)))))))))) (by kernel_rfl))
theorem fx_Part (a b d:Int)(c0:L (a).natAbs≤65536)(c1:L (b).natAbs≤65536)(c2:(0:Int)<d∧d<4294967296):Impl Tryz.prog Amb 213 [(sV a b),(.int .u32 d)] (sV (ptLo a d) (ptHi b d)):=by
 have z1:=L_lit 1 (by decide)
 exact impl_ob hP hAmb Tryz.func213 (by kernel_rfl) (.lits 2<|.call (.tup [(N (a.natAbs / (d).toNat)),(.int .u32 ((a.natAbs%(d).toNat:Nat):Int)),(.bool true)])<|.lits 2<|.call (.tup [(N (b.natAbs / (d).toNat)),(.int .u32 ((b.natAbs%(d).toNat:Nat):Int)),(.bool true)])<|.lit<|.both (.lit<|.call (N 1)<|.lit<|.call (N ((b.natAbs / (d).toNat)+1))<|.lit<|.call (zV (sgn false (a.natAbs / (d).toNat)))<|.lit<|.call (zV (sgn false ((b.natAbs / (d).toNat)+1)))<|.lits 3<|.ret) (.lit<|.call (zV (sgn false (a.natAbs / (d).toNat)))<|.lit<|.call (zV (sgn false (b.natAbs / (d).toNat)))<|.lits 3<|.ret))
  (cast_ob (aI True.intro (aI (quot_SmallI a.natAbs d oO oO) (have f9:=L_div a.natAbs (d).toNat;aI (quot_SmallI b.natAbs d oO oO) (have f8:=L_div b.natAbs (d).toNat;aI (fun (h1:(iNe ((b.natAbs%(d).toNat:Nat):Int) 0)=true)=>have _gh1:=iNe_t h1;aI (nat_Of 1 oO) (aI (nat_Add (b.natAbs / (d).toNat) 1 oO oO) (have f4:=L_add (b.natAbs / (d).toNat) 1;aI (int_Nat false (a.natAbs / (d).toNat) oO) (have f3:=L_sgn false (a.natAbs / (d).toNat);aI (int_Nat false ((b.natAbs / (d).toNat)+1) oO) (have f2:=L_sgn false ((b.natAbs / (d).toNat)+1);(Sp_of rfl (pt_hi1 oO):vsub (sV (sgn false (a.natAbs / (d).toNat)) (sgn false ((b.natAbs / (d).toNat)+1))) (sV (ptLo a d) (ptHi b d)))))))) (fun (h5:(iNe ((b.natAbs%(d).toNat:Nat):Int) 0)=false)=>have _gh5:=iNe_f h5;aI (int_Nat false (a.natAbs / (d).toNat) oO) (have f7:=L_sgn false (a.natAbs / (d).toNat);aI (int_Nat false (b.natAbs / (d).toNat) oO) (have f6:=L_sgn false (b.natAbs / (d).toNat);(Sp_of rfl (pt_hi2 oO):vsub (sV (sgn false (a.natAbs / (d).toNat)) (sgn false (b.natAbs / (d).toNat))) (sV (ptLo a d) (ptHi b d)))))))))) (by kernel_rfl))
theorem fx_Div (a b c d s:Int)(c0:L (a).natAbs≤8192)(c1:L (b).natAbs≤8192)(c2:L (c).natAbs≤8192)(c3:L (d).natAbs≤8192)(c4:(0:Int)≤s∧s≤20000)(c5:c≠0)(c6:d≠0):Impl Tryz.prog Amb 176 [(sV a b),(sV c d),(.int .i64 s)] (sV (Int.fdiv (a*2^(s).toNat) d) (-(Int.fdiv (-(b*2^(s).toNat)) c))):=by
 exact impl_ob hP hAmb Tryz.func176 (by kernel_rfl) (.lits 2<|.call (zV (a*2^(s).toNat))<|.lits 2<|.call (.tup [(zV (Int.fdiv (a*2^(s).toNat) d)),(zV ((a*2^(s).toNat)-(Int.fdiv (a*2^(s).toNat) d)*d)),(.bool true)])<|.lits 2<|.call (zV (b*2^(s).toNat))<|.lit<|.call (zV (-(b*2^(s).toNat)))<|.lits 2<|.call (.tup [(zV (Int.fdiv (-(b*2^(s).toNat)) c)),(zV ((-(b*2^(s).toNat))-(Int.fdiv (-(b*2^(s).toNat)) c)*c)),(.bool true)])<|.lits 3<|.call (zV (-(Int.fdiv (-(b*2^(s).toNat)) c)))<|.lits 3<|.ret)
  (cast_ob (aI True.intro (aI (int_Shl a s oO oO) (have f8:=L_abs_shl a (s).toNat;aI (int_DivMod (a*2^(s).toNat) d oO oO oO) (have f7:=L_rm (a*2^(s).toNat) d;have f6:=L_fdiv (a*2^(s).toNat) d;aI (int_Shl b s oO oO) (have f5:=L_abs_shl b (s).toNat;aI (int_Neg (b*2^(s).toNat) oO) (have f4:=L_abs_neg (b*2^(s).toNat);aI (int_DivMod (-(b*2^(s).toNat)) c oO oO oO) (have f3:=L_rm (-(b*2^(s).toNat)) c;have f2:=L_fdiv (-(b*2^(s).toNat)) c;aI (int_Neg (Int.fdiv (-(b*2^(s).toNat)) c) oO) (have f1:=L_abs_neg (Int.fdiv (-(b*2^(s).toNat)) c);(vsub_refl (sV (Int.fdiv (a*2^(s).toNat) d) (-(Int.fdiv (-(b*2^(s).toNat)) c)))))))))))) (by kernel_rfl))
theorem fx_tiny (b:Int)(c0:L (b).natAbs≤65536):Impl Tryz.prog Amb 225 [(zV b)] (.bool (decide ((b).natAbs<8))):=by
 exact impl_ob hP hAmb Tryz.func225 (by kernel_rfl) (.lits 2<|.call (.int .i64 (nbits b.natAbs:Int))<|.lits 2<|.ret)
  (cast_ob (aI True.intro (aI (nat_Bits b.natAbs oO) (have f1:=nbits_L b.natAbs;(vsub_of (congrArg V.bool tiny_8):vsub (.bool (iLe (nbits b.natAbs:Int) 3)) (.bool (decide ((b).natAbs<8))))))) (by kernel_rfl))
theorem fx_Tiny (a b:Int)(c0:L (b).natAbs≤65536):Impl Tryz.prog Amb 212 [(sV a b)] (.bool (decide ((b).natAbs<8))):=by
 exact impl_ob hP hAmb Tryz.func212 (by kernel_rfl) (.lits 2<|.call (.bool (decide ((b).natAbs<8)))<|.lit<|.ret)
  (cast_ob (aI True.intro (aI (fx_tiny b oO) ((vsub_refl (.bool (decide ((b).natAbs<8))))))) (by kernel_rfl))
end Go.Proofs.YtkkbddkpggjgpaaGreatDoor

namespace Go.Proofs.YtkkbddkpggjgpaaGreatDoor
open Go.RowKit
set_option maxRecDepth 100000
def aa1 (x1 x2 s:Int)(j:Nat):Int:=(aA (2^s.toNat) x1 x2 j).1
def aa2 (x1 x2 s:Int)(j:Nat):Int:=(aA (2^s.toNat) x1 x2 j).2
theorem L_T {x:Int}{t:Nat}(h0:0≤x)(h:x≤8192*2^t)(ht:t≤6000):L x.natAbs≤200:=by
 refine L_pow2 (n:=t+14) ?_ oO
 have e:(2:Nat)^(t+14)=16384*2^t:=by rw[Nat.pow_add,Nat.mul_comm]
 have p:((2^t:Nat):Int)=(2:Int)^t:=(pow_cast t).symm
 have:=two_pos t
 rw[e];omega
end Go.Proofs.YtkkbddkpggjgpaaGreatDoor

namespace Go.Proofs.YtkkbddkpggjgpaaGreatDoor
theorem cmpD_le {m e n f:Int}:cmpD m e n f≤0↔dv m e≤dv n f:=by rw[cmpD_dv,cmpQ_le]
end Go.Proofs.YtkkbddkpggjgpaaGreatDoor


namespace Go.Proofs.YtkkbddkpggjgpaaGreatDoor
theorem dv_ge0 {m e:Int}:0≤dv m e↔0≤m:=by rw[← dv_zero e,dv_le]
end Go.Proofs.YtkkbddkpggjgpaaGreatDoor



namespace Go.Proofs.YtkkbddkpggjgpaaGreatDoor
open Go.RowKit
set_option maxRecDepth 100000
def fx_Settle1_0_mk (fk:Nat)(u1:V)(_ _ w:Int)(x:Int):St:=⟨mkS 27 [(0,(.val (.int .i64 w))),(1,(.val (.clos fk [u1]))),(4,(.own 0 0)),(5,(.val (.int .i64 24)))],[⟨true,false,[(V.bool false),V.nil,(V.bool false),V.nil]⟩]⟩
def fx_Settle1_0_I (_:Nat)(_:V)(_ _ _:Int)(x:Int):Prop:=x=x
def fx_Settle1_0_mu (_:Nat)(_:V)(_ _ _:Int)(x:Int):Nat:=0
def fx_Settle1_0_ex (_:Nat)(_:V)(ka kb _:Int)(y:Int):Ex × St:=(.ret,⟨mkS 27 [(4,(.own 0 0))],[⟨true,false,[(V.bool (decide ((ka / 2^24)<0))),(N ((ka / 2^24).natAbs)),(V.bool (decide ((-(-kb / 2^24))<0))),(N ((-(-kb / 2^24)).natAbs))]⟩]⟩)
def fx_Settle1_0_J (_:Nat)(_:V)(_ _ _:Int)(y:Int):Prop:=y=y
theorem fx_Settle1_0 (fk:Nat)(u1:V)(ka kb w:Int)(c0:Impl Tryz.prog Amb fk [(.int .i64 (w+24)),u1] (sV ka kb))(c1:L ka.natAbs≤8192∧L kb.natAbs≤8192)(c2:nbits (kb-ka).natAbs≤24)(c3:(0:Int)≤w∧w≤5000)(x0:Int)(hI:fx_Settle1_0_I fk u1 ka kb w x0):LoopOk Tryz.prog Amb (loopN Tryz.f78 0) (fx_Settle1_0_mk fk u1 ka kb w x0) (fun e st_=>∃ y,fx_Settle1_0_J fk u1 ka kb w y∧fx_Settle1_0_ex fk u1 ka kb w y=(e,st_)) :=
 loop_ob hP hAmb ⟨[0,1,4,5],1,[]⟩ (fx_Settle1_0_mk fk u1 ka kb w) (fx_Settle1_0_I fk u1 ka kb w) (fx_Settle1_0_mu fk u1 ka kb w) (fx_Settle1_0_ex fk u1 ka kb w) (fx_Settle1_0_J fk u1 ka kb w) x0 hI (fun j=>.lit<|.yes<|.lit<|.call (sV ka kb)<|.lits 3<|.call (zV (kb-ka))<|.lits 2<|.call (.int .i64 (nbits ((kb-ka).natAbs):Int))<|.lit<|.yes<|.lits 5<|.call (sV (ka / 2^24) (-(-kb / 2^24)))<|.lit<|.fin3 ⟨[4],[0]⟩) (by
  rintro j hI
  have hI:j=j:=hI
  have h1:=hI
  exact cast_ob (aI True.intro (aI (fits_i64 oS:(fits .i64 (w+24))=true) (aI (c0 ) (aI (fx_Width ka kb oS oS) (have f106:=L_abs_sub kb ka;aI (nat_Bits ((kb-ka).natAbs) oS) (have f105:=nbits_L ((kb-ka).natAbs);aI (iLe_mk oO:(iLe (nbits ((kb-ka).natAbs):Int) 24)=true) (aI (fx_Half ka kb 24 oS oS oS) (have f104:=L_abs_neg (-kb / 2^24);have f103:=L_abs_shr (-kb) 24;have f102:=L_abs_neg kb;have f101:=L_abs_shr ka 24;aI tT ((nx_ret ((fx_Settle1_0_ex fk u1 ka kb w j).2) j (show j=j from rfl) rfl:NX (fx_Settle1_0_mk fk u1 ka kb w) (fx_Settle1_0_I fk u1 ka kb w) (fx_Settle1_0_mu fk u1 ka kb w) (fx_Settle1_0_ex fk u1 ka kb w) (fx_Settle1_0_J fk u1 ka kb w) j .ret ((fx_Settle1_0_ex fk u1 ka kb w j).2))))))))))) (by kernel_rfl))
theorem fx_Settle1 (fk:Nat)(u1:V)(ka kb w:Int)(c0:Impl Tryz.prog Amb fk [(.int .i64 (w+24)),u1] (sV ka kb))(c1:L ka.natAbs≤8192∧L kb.natAbs≤8192)(c2:nbits (kb-ka).natAbs≤24)(c3:(0:Int)≤w∧w≤5000):Impl Tryz.prog Amb 78 [(.int .i64 w),(.clos fk [u1])] (sV (ka / 2^24) (-(-kb / 2^24))):=by
 exact impl_ob hP hAmb Tryz.func78 (by kernel_rfl) (.loop ⟨[0,1,4,5],1,[]⟩ ((fx_Settle1_0_mk fk u1 ka kb w (0:Int))) (Int) (fx_Settle1_0_ex fk u1 ka kb w) (fx_Settle1_0_J fk u1 ka kb w) (fun y=>.lit<|.ret))
  (cast_ob (aI True.intro (aI tT (aI (rfl:(fx_Settle1_0_mk fk u1 ka kb w (0:Int))=(fx_Settle1_0_mk fk u1 ka kb w (0:Int))) (aI (fx_Settle1_0 fk u1 ka kb w c0 c1 c2 c3 (0:Int) (show (0:Int)=(0:Int) from rfl)) (fun y (hJ:fx_Settle1_0_J fk u1 ka kb w y)=>have hJ:y=y:=hJ;(vsub_refl (sV (ka / 2^24) (-(-kb / 2^24))))))))) (by kernel_rfl))
end Go.Proofs.YtkkbddkpggjgpaaGreatDoor




namespace Go.Proofs.YtkkbddkpggjgpaaGreatDoor
def Sm (f:Nat→Rat):Nat→Rat
 | 0=>0
 | n+1=>Sm f n+f n
theorem Sm_congr {f g:Nat→Rat}:∀ {n:Nat},(∀ i,i<n→f i=g i)→Sm f n=Sm g n
 | 0,_=>rfl
 | n+1,h=>by
  show Sm f n+f n=Sm g n+g n
  rw[Sm_congr (n:=n) (fun i hi=>h i (by omega)),h n (by omega)]
theorem Sm_add (f g:Nat→Rat):∀ n,Sm (fun i=>f i+g i) n=Sm f n+Sm g n
 | 0=>by show (0:Rat)=0+0;grind
 | n+1=>by
  show Sm (fun i=>f i+g i) n+(f n+g n)=Sm f n+f n+(Sm g n+g n)
  rw[Sm_add f g n];grind
theorem Sm_mul (f:Nat→Rat)(c:Rat):∀ n,Sm f n*c=Sm (fun i=>f i*c) n
 | 0=>by show (0:Rat)*c=0;grind
 | n+1=>by
  show (Sm f n+f n)*c=Sm (fun i=>f i*c) n+f n*c
  rw[← Sm_mul f c n];grind
theorem Sm_shift (f:Nat→Rat):∀ n,Sm f (n+1)=f 0+Sm (fun i=>f (i+1)) n
 | 0=>by show (0:Rat)+f 0=f 0+0;grind
 | n+1=>by
  show Sm f (n+1)+f (n+1)=f 0+(Sm (fun i=>f (i+1)) n+f (n+1))
  rw[Sm_shift f n];grind
theorem Sm_le {f g:Nat→Rat}:∀ {n:Nat},(∀ i,i<n→f i≤g i)→Sm f n≤Sm g n
 | 0,_=>Rat.le_refl
 | n+1,h=>by
  have a:=Sm_le (n:=n) (fun i hi=>h i (by omega))
  have b:=h n (by omega)
  show Sm f n+f n≤Sm g n+g n
  grind
theorem Sm_nonneg {f:Nat→Rat}(h:∀ i,0≤f i):∀ n,0≤Sm f n
 | 0=>Rat.le_refl
 | n+1=>Rat.add_nonneg (Sm_nonneg h n) (h n)
theorem Sm_mono {f:Nat→Rat}(h:∀ i,0≤f i){n m:Nat}(hn:n≤m):Sm f n≤Sm f m:=by
 obtain⟨k,rfl⟩:∃ k,m=n+k:=⟨m-n,by omega⟩
 induction k with
 | zero=>exact Rat.le_refl
 | succ k ih =>
  have a:=ih (by omega)
  have b:=h (n+k)
  show Sm f n≤Sm f (n+k)+f (n+k)
  grind
theorem Sm_tri (f:Nat→Nat→Rat):∀ K,Sm (fun n=>Sm (fun i=>f i (n-i)) (n+1)) K=Sm (fun i=>Sm (f i) (K-i)) K
 | 0=>rfl
 | K+1=>by
  have h:=Sm_tri f K
  have e:Sm (fun i=>Sm (f i) (K+1-i)) (K+1)=Sm (fun i=>Sm (f i) (K-i)+f i (K-i)) (K+1):=Sm_congr fun i hi=>by
   rw[show K+1-i=(K-i)+1 by omega];rfl
  rw[e,Sm_add]
  show Sm (fun n=>Sm (fun i=>f i (n-i)) (n+1)) K+Sm (fun i=>f i (K-i)) (K+1)=Sm (fun i=>Sm (f i) (K-i)) K+Sm (f K) (K-K)+Sm (fun i=>f i (K-i)) (K+1)
  rw[h,Nat.sub_self]
  show _=_+0+_
  grind
theorem Sm_prod (f g:Nat→Rat)(K:Nat):∀ n,Sm f n*Sm g K=Sm (fun i=>Sm (fun j=>f i*g j) K) n
 | 0=>by show (0:Rat)*_=0;grind
 | n+1=>by
  have h:=Sm_prod f g K n
  have e:f n*Sm g K=Sm (fun j=>f n*g j) K:=by
   rw[Rat.mul_comm,Sm_mul]
   exact Sm_congr fun i _=>Rat.mul_comm _ _
  show (Sm f n+f n)*Sm g K=Sm (fun i=>Sm (fun j=>f i*g j) K) n+Sm (fun j=>f n*g j) K
  rw[← h,← e];grind
def nx (n:Nat):Int:=(n:Int)+1
theorem nx_pos (n:Nat):(0:Rat)<(nx n:Rat):=Rat.intCast_pos.2 (by unfold nx;omega)
def tE (x:Rat):Nat→Rat
 | 0=>1
 | n+1=>tE x n*x / (nx n:Rat)
theorem tE_mul (x:Rat)(n:Nat):tE x n*x=(nx n:Rat)*tE x (n+1):=by
 show tE x n*x=(nx n:Rat)*(tE x n*x / (nx n:Rat))
 have:=nx_pos n
 rw[Rat.mul_comm (nx n:Rat),Rat.div_mul_cancel (by grind)]
theorem tE_nonneg {x:Rat}(h:0≤x):∀ n,0≤tE x n
 | 0=>by show (0:Rat)≤1;decide
 | n+1=>by
  show 0≤tE x n*x / (nx n:Rat)
  rw[Rat.div_def]
  exact Rat.mul_nonneg (Rat.mul_nonneg (tE_nonneg h n) h) (Rat.le_of_lt (Rat.inv_pos.2 (nx_pos n)))
def EP (x:Rat)(K:Nat):Rat:=Sm (tE x) K
theorem tE_add (x y:Rat):∀ n,tE (x+y) n=Sm (fun i=>tE x i*tE y (n-i)) (n+1)
 | 0=>by show (1:Rat)=0+1*1;grind
 | n+1=>by
  have h:=tE_add x y n
  have np:=nx_pos n
  have key:Sm (fun i=>tE x i*tE y (n-i)) (n+1)*(x+y)=(nx n:Rat)*Sm (fun i=>tE x i*tE y (n+1-i)) (n+2):=by
   have ex:Sm (fun i=>tE x i*tE y (n-i)) (n+1)*x=Sm (fun i=>(i:Rat)*(tE x i*tE y (n+1-i))) (n+2):=by
    rw[Sm_mul,Sm_shift (fun i=>(i:Rat)*(tE x i*tE y (n+1-i))) (n+1)]
    have z:(((0:Nat):Nat):Rat)*(tE x 0*tE y (n+1-0))=0:=by
     rw[show ((0:Nat):Rat)=0 from rfl];grind
    rw[z,Rat.zero_add]
    refine Sm_congr fun i hi=>?_
    rw[show n+1-(i+1)=n-i by omega]
    have t:=tE_mul x i
    have c:((i+1:Nat):Rat)=(nx i:Rat):=rfl
    show tE x i*tE y (n-i)*x=((i+1:Nat):Rat)*(tE x (i+1)*tE y (n-i))
    rw[c]
    grind
   have ey:Sm (fun i=>tE x i*tE y (n-i)) (n+1)*y=Sm (fun i=>((nx n:Rat)-(i:Rat))*(tE x i*tE y (n+1-i))) (n+2):=by
    rw[Sm_mul]
    show _=Sm (fun i=>((nx n:Rat)-(i:Rat))*(tE x i*tE y (n+1-i))) (n+1)+((nx n:Rat)-((n+1:Nat):Rat))*(tE x (n+1)*tE y (n+1-(n+1)))
    have c:((n+1:Nat):Rat)=(nx n:Rat):=rfl
    rw[c]
    have z:((nx n:Rat)-(nx n:Rat))*(tE x (n+1)*tE y (n+1-(n+1)))=0:=by grind
    rw[z,Rat.add_zero]
    refine Sm_congr fun i hi=>?_
    have t:=tE_mul y (n-i)
    rw[show n+1-i=(n-i)+1 by omega]
    have d:(nx (n-i):Rat)=(nx n:Rat)-(i:Rat):=by
     have e:nx (n-i)=nx n-(i:Int):=by unfold nx;omega
     rw[e,Rat.intCast_sub];rfl
    rw[← d]
    grind
   rw[show Sm (fun i=>tE x i*tE y (n-i)) (n+1)*(x+y)=Sm (fun i=>tE x i*tE y (n-i)) (n+1)*x+Sm (fun i=>tE x i*tE y (n-i)) (n+1)*y by grind,ex,ey,← Sm_add,Rat.mul_comm (nx n:Rat),Sm_mul]
   exact Sm_congr fun i _=>by grind
  show tE (x+y) n*(x+y) / (nx n:Rat)=_
  rw[h,key,Rat.mul_comm,Rat.mul_div_cancel (by grind)]
theorem EP_conv (x y:Rat)(K:Nat):EP (x+y) K=Sm (fun i=>Sm (fun j=>tE x i*tE y j) (K-i)) K:=by
 unfold EP
 rw[← Sm_tri (fun i j=>tE x i*tE y j) K]
 exact Sm_congr fun n _=>tE_add x y n
theorem EP_mul {x y:Rat}(hx:0≤x)(hy:0≤y)(K:Nat):EP (x+y) K≤EP x K*EP y K∧EP x K*EP y K≤EP (x+y) (2*K):=by
 have nn:∀ i j,0≤tE x i*tE y j:=fun i j=>Rat.mul_nonneg (tE_nonneg hx i) (tE_nonneg hy j)
 have p:EP x K*EP y K=Sm (fun i=>Sm (fun j=>tE x i*tE y j) K) K:=Sm_prod _ _ K K
 rw[p,EP_conv,EP_conv]
 constructor
 ·exact Sm_le fun i _=>Sm_mono (nn i) (by omega)
 ·refine Rat.le_trans (Sm_le (g:=fun i=>Sm (fun j=>tE x i*tE y j) (2*K-i)) fun i hi=>Sm_mono (nn i) (by omega)) (Sm_mono (fun i=>Sm_nonneg (nn i) _) (by omega))
theorem EP_mono {x:Rat}(h:0≤x){n m:Nat}(hn:n≤m):EP x n≤EP x m:=Sm_mono (tE_nonneg h) hn
end Go.Proofs.YtkkbddkpggjgpaaGreatDoor

namespace Go.Proofs.YtkkbddkpggjgpaaGreatDoor
theorem tE_half {x:Rat}(h0:0≤x){m:Nat}(h:2*x≤(nx m:Rat)):2*tE x (m+1)≤tE x m:=by
 have np:=nx_pos m
 have t:=tE_mul x m
 have p:=tE_nonneg h0 m
 refine Rat.le_of_mul_le_mul_right (c:=(nx m:Rat)) ?_ np
 have e:2*tE x (m+1)*(nx m:Rat)=tE x m*(2*x):=by grind
 rw[e]
 exact Rat.mul_le_mul_of_nonneg_left h p
theorem nx_mono {a b:Nat}(h:a≤b):(nx a:Rat)≤(nx b:Rat):=Rat.intCast_le_intCast.2 (by unfold nx;omega)
theorem EP_tail {x:Rat}(h0:0≤x){n:Nat}(h:2*x≤(nx n:Rat))(K:Nat):EP x K≤EP x (n+1)+tE x n:=by
 have key:∀ k,EP x (n+1+k)+tE x (n+k)≤EP x (n+1)+tE x n:=by
  intro k
  induction k with
  | zero=>exact Rat.le_refl
  | succ k ih =>
   have a:=tE_half h0 (m:=n+k) (Rat.le_trans h (nx_mono (by omega)))
   have e:EP x (n+1+(k+1))=EP x (n+1+k)+tE x (n+k+1):=by
    show Sm (tE x) (n+1+k)+tE x (n+1+k)=_
    rw[show n+1+k=n+k+1 by omega];rfl
   rw[e]
   show EP x (n+1+k)+tE x (n+k+1)+tE x (n+k+1)≤_
   grind
 have a:=key K
 have b:=EP_mono h0 (show K≤n+1+K by omega)
 have c:=tE_nonneg h0 (n+K)
 grind
theorem one_pow_le {q:Rat}(h:1≤q):∀ n:Nat,1≤q^n
 | 0=>by rw[Rat.pow_zero];exact Rat.le_refl
 | n+1=>by
  have a:=one_pow_le h n
  have m:=Rat.mul_le_mul_of_nonneg_left h (show (0:Rat)≤q^n by grind)
  rw[Rat.pow_succ];grind
end Go.Proofs.YtkkbddkpggjgpaaGreatDoor








namespace Go.Proofs.YtkkbddkpggjgpaaGreatDoor
open Go.RowKit
set_option maxRecDepth 100000
theorem r10_Has (m e n f:Int)(r:Rat)(c0:L (m).natAbs≤9000)(c1:L (n).natAbs≤9000)(c2:(-65536:Int)≤e∧e≤65536)(c3:(-65536:Int)≤f∧f≤65536)(c4:vdb m e=true)(c5:vdb n f=true)(c6:L r.num.natAbs≤6000)(c7:L r.den≤6000):Impl Tryz.prog Amb 41 [(wV m e n f),(.agg [(.bool (decide (r.num<0))),(N r.num.natAbs),(N r.den)])] (.bool (decide (cmpQ (dv m e) r≤0∧cmpQ r (dv n f)≤0))):=by
 exact impl_ob hP hAmb Tryz.func41 (by kernel_rfl) (.lits 2<|.call (.agg [(.bool (decide ((dv m e).num<0))),(N (((dv m e).num).natAbs)),(N ((dv m e).den))])<|.lits 2<|.call (.int .i64 (cmpQ (dv m e) r))<|.lit<|.both (.lits 6<|.call (.agg [(.bool (decide ((dv n f).num<0))),(N (((dv n f).num).natAbs)),(N ((dv n f).den))])<|.lits 2<|.call (.int .i64 (cmpQ r (dv n f)))<|.lits 4<|.ret) (.lits 7<|.ret))
  (cast_ob (aI True.intro (aI (r08_Rat m e oA oA oA) (have f6:=(dv_L ‹vdb m e=true› oA:L (dv m e).num.natAbs≤L (m).natAbs+2050∧L (dv m e).den≤2050);aI (r07_Cmp (dv m e) r oA oA oA oA) (have f5:=cmpQ_range (dv m e) r;aI (fun (h1:(iLe (cmpQ (dv m e) r) 0)=true)=>have _gh1:=iLe_t h1;aI (r08_Rat n f oA oA oA) (have f3:=(dv_L ‹vdb n f=true› oA:L (dv n f).num.natAbs≤L (n).natAbs+2050∧L (dv n f).den≤2050);aI (r07_Cmp r (dv n f) oA oA oA oA) (have f2:=cmpQ_range r (dv n f);(vsub_of (congrArg V.bool (has_1 oO)):vsub (.bool (iLe (cmpQ r (dv n f)) 0)) (.bool (decide (cmpQ (dv m e) r≤0∧cmpQ r (dv n f)≤0))))))) (fun (h4:(iLe (cmpQ (dv m e) r) 0)=false)=>have _gh4:=iLe_f h4;(vsub_of (congrArg V.bool ((decide_eq_false oO).symm)):vsub (.bool false) (.bool (decide (cmpQ (dv m e) r≤0∧cmpQ r (dv n f)≤0))))))))) (by kernel_rfl))
end Go.Proofs.YtkkbddkpggjgpaaGreatDoor














