/-
  Lower layers: what functions of the program compute, and plain facts. Conditions: as the theorems say.
-/
import Derived.Test.YtcbihoojfakhdaaGreatDoorChP
set_option linter.unusedVariables false
set_option linter.unusedSimpArgs false
namespace Go.Proofs.YtcbihoojfakhdaaGreatDoor
open Go.RowKit
set_option maxRecDepth 100000
def ar_div_mk (m ee n f p g q h w:Int)(x:(Int)⊕((Int × Int)⊕((Int × Int)⊕((Int × Int)⊕(Int × Int))))):St:=Sum.elim (fun (x:Int)=>⟨mkS 124 [(2,(.val (.int .i64 w))),(6,(.own 2 0)),(10,(.own 3 0)),(11,(.own 4 0)),(65,(.val (.agg [(.bool (decide (m<0))),(N m.natAbs),(.int .i64 ee),(.bool (decide (p<0))),(N p.natAbs),(.int .i64 g),(.bool (decide (m<0))),(N m.natAbs),(.int .i64 ee),(.bool (decide (q<0))),(N q.natAbs),(.int .i64 h),(.bool (decide (n<0))),(N n.natAbs),(.int .i64 f),(.bool (decide (p<0))),(N p.natAbs),(.int .i64 g),(.bool (decide (n<0))),(N n.natAbs),(.int .i64 f),(.bool (decide (q<0))),(N q.natAbs),(.int .i64 h)]))),(66,(.val (.int .i64 0)))],[⟨true,false,[(V.bool (decide (m<0))),(N m.natAbs),(V.int .i64 ee),(V.bool (decide (n<0))),(N n.natAbs),(V.int .i64 f)]⟩,⟨true,false,[(V.bool (decide (p<0))),(N p.natAbs),(V.int .i64 g),(V.bool (decide (q<0))),(N q.natAbs),(V.int .i64 h)]⟩,⟨true,false,[(V.bool false),V.nil,(V.int .i64 0),(V.bool false),V.nil,(V.int .i64 0)]⟩,⟨true,false,[(V.bool false),V.nil]⟩,⟨true,false,[(V.bool false),V.nil]⟩]⟩) (fun (x:(Int × Int)⊕((Int × Int)⊕((Int × Int)⊕(Int × Int))))=>Sum.elim (fun (x:Int × Int)=>⟨mkS 124 [(2,(.val (.int .i64 w))),(6,(.own 2 0)),(10,(.own 3 0)),(11,(.own 4 0)),(65,(.val (.agg [(.bool (decide (m<0))),(N m.natAbs),(.int .i64 ee),(.bool (decide (p<0))),(N p.natAbs),(.int .i64 g),(.bool (decide (m<0))),(N m.natAbs),(.int .i64 ee),(.bool (decide (q<0))),(N q.natAbs),(.int .i64 h),(.bool (decide (n<0))),(N n.natAbs),(.int .i64 f),(.bool (decide (p<0))),(N p.natAbs),(.int .i64 g),(.bool (decide (n<0))),(N n.natAbs),(.int .i64 f),(.bool (decide (q<0))),(N q.natAbs),(.int .i64 h)]))),(66,(.val (.int .i64 1)))],[⟨true,false,[(V.bool (decide (m<0))),(N m.natAbs),(V.int .i64 ee),(V.bool (decide (n<0))),(N n.natAbs),(V.int .i64 f)]⟩,⟨true,false,[(V.bool (decide (p<0))),(N p.natAbs),(V.int .i64 g),(V.bool (decide (q<0))),(N q.natAbs),(V.int .i64 h)]⟩,⟨true,false,[(V.bool false),V.nil,(V.int .i64 0),(V.bool false),V.nil,(V.int .i64 0)]⟩,⟨true,false,[(V.bool (decide (x.1<0))),(N x.1.natAbs)]⟩,⟨true,false,[(V.bool (decide (x.2<0))),(N x.2.natAbs)]⟩]⟩) (fun (x:(Int × Int)⊕((Int × Int)⊕(Int × Int)))=>Sum.elim (fun (x:Int × Int)=>⟨mkS 124 [(2,(.val (.int .i64 w))),(6,(.own 2 0)),(10,(.own 3 0)),(11,(.own 4 0)),(65,(.val (.agg [(.bool (decide (m<0))),(N m.natAbs),(.int .i64 ee),(.bool (decide (p<0))),(N p.natAbs),(.int .i64 g),(.bool (decide (m<0))),(N m.natAbs),(.int .i64 ee),(.bool (decide (q<0))),(N q.natAbs),(.int .i64 h),(.bool (decide (n<0))),(N n.natAbs),(.int .i64 f),(.bool (decide (p<0))),(N p.natAbs),(.int .i64 g),(.bool (decide (n<0))),(N n.natAbs),(.int .i64 f),(.bool (decide (q<0))),(N q.natAbs),(.int .i64 h)]))),(66,(.val (.int .i64 2)))],[⟨true,false,[(V.bool (decide (m<0))),(N m.natAbs),(V.int .i64 ee),(V.bool (decide (n<0))),(N n.natAbs),(V.int .i64 f)]⟩,⟨true,false,[(V.bool (decide (p<0))),(N p.natAbs),(V.int .i64 g),(V.bool (decide (q<0))),(N q.natAbs),(V.int .i64 h)]⟩,⟨true,false,[(V.bool false),V.nil,(V.int .i64 0),(V.bool false),V.nil,(V.int .i64 0)]⟩,⟨true,false,[(V.bool (decide (x.1<0))),(N x.1.natAbs)]⟩,⟨true,false,[(V.bool (decide (x.2<0))),(N x.2.natAbs)]⟩]⟩) (fun (x:(Int × Int)⊕(Int × Int))=>Sum.elim (fun (x:Int × Int)=>⟨mkS 124 [(2,(.val (.int .i64 w))),(6,(.own 2 0)),(10,(.own 3 0)),(11,(.own 4 0)),(65,(.val (.agg [(.bool (decide (m<0))),(N m.natAbs),(.int .i64 ee),(.bool (decide (p<0))),(N p.natAbs),(.int .i64 g),(.bool (decide (m<0))),(N m.natAbs),(.int .i64 ee),(.bool (decide (q<0))),(N q.natAbs),(.int .i64 h),(.bool (decide (n<0))),(N n.natAbs),(.int .i64 f),(.bool (decide (p<0))),(N p.natAbs),(.int .i64 g),(.bool (decide (n<0))),(N n.natAbs),(.int .i64 f),(.bool (decide (q<0))),(N q.natAbs),(.int .i64 h)]))),(66,(.val (.int .i64 3)))],[⟨true,false,[(V.bool (decide (m<0))),(N m.natAbs),(V.int .i64 ee),(V.bool (decide (n<0))),(N n.natAbs),(V.int .i64 f)]⟩,⟨true,false,[(V.bool (decide (p<0))),(N p.natAbs),(V.int .i64 g),(V.bool (decide (q<0))),(N q.natAbs),(V.int .i64 h)]⟩,⟨true,false,[(V.bool false),V.nil,(V.int .i64 0),(V.bool false),V.nil,(V.int .i64 0)]⟩,⟨true,false,[(V.bool (decide (x.1<0))),(N x.1.natAbs)]⟩,⟨true,false,[(V.bool (decide (x.2<0))),(N x.2.natAbs)]⟩]⟩) (fun (x:Int × Int)=>⟨mkS 124 [(2,(.val (.int .i64 w))),(6,(.own 2 0)),(10,(.own 3 0)),(11,(.own 4 0)),(65,(.val (.agg [(.bool (decide (m<0))),(N m.natAbs),(.int .i64 ee),(.bool (decide (p<0))),(N p.natAbs),(.int .i64 g),(.bool (decide (m<0))),(N m.natAbs),(.int .i64 ee),(.bool (decide (q<0))),(N q.natAbs),(.int .i64 h),(.bool (decide (n<0))),(N n.natAbs),(.int .i64 f),(.bool (decide (p<0))),(N p.natAbs),(.int .i64 g),(.bool (decide (n<0))),(N n.natAbs),(.int .i64 f),(.bool (decide (q<0))),(N q.natAbs),(.int .i64 h)]))),(66,(.val (.int .i64 4)))],[⟨true,false,[(V.bool (decide (m<0))),(N m.natAbs),(V.int .i64 ee),(V.bool (decide (n<0))),(N n.natAbs),(V.int .i64 f)]⟩,⟨true,false,[(V.bool (decide (p<0))),(N p.natAbs),(V.int .i64 g),(V.bool (decide (q<0))),(N q.natAbs),(V.int .i64 h)]⟩,⟨true,false,[(V.bool false),V.nil,(V.int .i64 0),(V.bool false),V.nil,(V.int .i64 0)]⟩,⟨true,false,[(V.bool (decide (x.1<0))),(N x.1.natAbs)]⟩,⟨true,false,[(V.bool (decide (x.2<0))),(N x.2.natAbs)]⟩]⟩) x) x) x) x
def ar_div_I (m ee n f p g q h w:Int)(x:(Int)⊕((Int × Int)⊕((Int × Int)⊕((Int × Int)⊕(Int × Int))))):Prop:=Sum.elim (fun (x:Int)=>x=x) (fun (x:(Int × Int)⊕((Int × Int)⊕((Int × Int)⊕(Int × Int))))=>Sum.elim (fun (x:Int × Int)=>x.1=(flr ((dv m ee) / (dv p g)) w)∧x.2=(cei ((dv m ee) / (dv p g)) w)∧L x.1.natAbs≤5000∧L x.2.natAbs≤5000) (fun (x:(Int × Int)⊕((Int × Int)⊕(Int × Int)))=>Sum.elim (fun (x:Int × Int)=>x.1=(flr (qmin ((dv m ee) / (dv p g)) ((dv m ee) / (dv q h))) w)∧x.2=(cei (qmax ((dv m ee) / (dv p g)) ((dv m ee) / (dv q h))) w)∧L x.1.natAbs≤5000∧L x.2.natAbs≤5000) (fun (x:(Int × Int)⊕(Int × Int))=>Sum.elim (fun (x:Int × Int)=>x.1=(flr (qmin (qmin ((dv m ee) / (dv p g)) ((dv m ee) / (dv q h))) ((dv n f) / (dv p g))) w)∧x.2=(cei (qmax (qmax ((dv m ee) / (dv p g)) ((dv m ee) / (dv q h))) ((dv n f) / (dv p g))) w)∧L x.1.natAbs≤5000∧L x.2.natAbs≤5000) (fun (x:Int × Int)=>x.1=(flr (qmin (qmin (qmin ((dv m ee) / (dv p g)) ((dv m ee) / (dv q h))) ((dv n f) / (dv p g))) ((dv n f) / (dv q h))) w)∧x.2=(cei (qmax (qmax (qmax ((dv m ee) / (dv p g)) ((dv m ee) / (dv q h))) ((dv n f) / (dv p g))) ((dv n f) / (dv q h))) w)∧L x.1.natAbs≤5000∧L x.2.natAbs≤5000) x) x) x) x
def ar_div_mu (_ _ _ _ _ _ _ _ _:Int)(x:(Int)⊕((Int × Int)⊕((Int × Int)⊕((Int × Int)⊕(Int × Int))))):Nat:=Sum.elim (fun (x:Int)=>9) (fun (x:(Int × Int)⊕((Int × Int)⊕((Int × Int)⊕(Int × Int))))=>Sum.elim (fun (x:Int × Int)=>9-1) (fun (x:(Int × Int)⊕((Int × Int)⊕(Int × Int)))=>Sum.elim (fun (x:Int × Int)=>9-2) (fun (x:(Int × Int)⊕(Int × Int))=>Sum.elim (fun (x:Int × Int)=>9-3) (fun (x:Int × Int)=>9-4) x) x) x) x
def ar_div_ex (m ee n f p g q h w:Int)(y:Int × Int):Ex × St:=(.exit 1,⟨mkS 124 [(2,(.val (.int .i64 w))),(6,(.own 2 0)),(10,(.own 3 0)),(11,(.own 4 0))],[⟨true,false,[(V.bool (decide (m<0))),(N m.natAbs),(V.int .i64 ee),(V.bool (decide (n<0))),(N n.natAbs),(V.int .i64 f)]⟩,⟨true,false,[(V.bool (decide (p<0))),(N p.natAbs),(V.int .i64 g),(V.bool (decide (q<0))),(N q.natAbs),(V.int .i64 h)]⟩,⟨true,false,[(V.bool false),V.nil,(V.int .i64 0),(V.bool false),V.nil,(V.int .i64 0)]⟩,⟨true,false,[(V.bool (decide (y.1<0))),(N y.1.natAbs)]⟩,⟨true,false,[(V.bool (decide (y.2<0))),(N y.2.natAbs)]⟩]⟩)
def ar_div_J (m ee n f p g q h w:Int)(y:Int × Int):Prop:=y.1=(flr (qmin (qmin (qmin ((dv m ee) / (dv p g)) ((dv m ee) / (dv q h))) ((dv n f) / (dv p g))) ((dv n f) / (dv q h))) w)∧y.2=(cei (qmax (qmax (qmax ((dv m ee) / (dv p g)) ((dv m ee) / (dv q h))) ((dv n f) / (dv p g))) ((dv n f) / (dv q h))) w)∧L y.1.natAbs≤5000∧L y.2.natAbs≤5000
abbrev ar_div_N (m ee n f p g q h w:Int):=NX (ar_div_mk m ee n f p g q h w) (ar_div_I m ee n f p g q h w) (ar_div_mu m ee n f p g q h w) (ar_div_ex m ee n f p g q h w) (ar_div_J m ee n f p g q h w)
theorem ar_div (m ee n f p g q h w:Int)(c0:L (m).natAbs≤600)(c1:(-20000:Int)≤ee∧ee≤20000)(c2:L (n).natAbs≤600)(c3:(-20000:Int)≤f∧f≤20000)(c4:L (p).natAbs≤600)(c5:(-20000:Int)≤g∧g≤20000)(c6:L (q).natAbs≤600)(c7:(-20000:Int)≤h∧h≤20000)(c8:0≤w∧w≤4096)(c9:p≠0)(c10:q≠0)(x0:(Int)⊕((Int × Int)⊕((Int × Int)⊕((Int × Int)⊕(Int × Int)))))(hI:ar_div_I m ee n f p g q h w x0):LoopOk Tryz.prog Amb (loopN Tryz.f62 0) (ar_div_mk m ee n f p g q h w x0) (fun e st_=>∃ y,ar_div_J m ee n f p g q h w y∧ar_div_ex m ee n f p g q h w y=(e,st_)) :=
 loop_ob hP hAmb ⟨[2,6,10,11,65,66],5,[]⟩ (ar_div_mk m ee n f p g q h w) (ar_div_I m ee n f p g q h w) (ar_div_mu m ee n f p g q h w) (ar_div_ex m ee n f p g q h w) (ar_div_J m ee n f p g q h w) x0 hI (Sum.elim (fun u=>.lits 2<|.yes<|.lits 7<|.call (zV (flr ((dv m ee) / (dv p g)) w))<|.lits 4<|.call (yV (-m) ee)<|.lits 3<|.call (zV (flr ((dv (-m) ee) / (dv p g)) w))<|.lit<|.call (zV (-(flr ((dv (-m) ee) / (dv p g)) w)))<|.lits 19<|.yes<|.fin3 ⟨[2,6,10,11,65,66],[0,1,2,3,4]⟩) (Sum.elim (fun (a,b)=>.lits 2<|.yes<|.lits 7<|.call (zV (flr ((dv m ee) / (dv q h)) w))<|.lits 4<|.call (yV (-m) ee)<|.lits 3<|.call (zV (flr ((dv (-m) ee) / (dv q h)) w))<|.lit<|.call (zV (-(flr ((dv (-m) ee) / (dv q h)) w)))<|.lits 7<|.call (.int .i64 (cmpI (flr ((dv m ee) / (dv q h)) w) a))<|.lits 3<|.both (.lits 9<|.call (.int .i64 (cmpI (-(flr ((dv (-m) ee) / (dv q h)) w)) b))<|.lits 3<|.both (.lits 3<|.yes<|.fin3 ⟨[2,6,10,11,65,66],[0,1,2,3,4]⟩) (.lit<|.yes<|.fin3 ⟨[2,6,10,11,65,66],[0,1,2,3,4]⟩)) (.lits 7<|.call (.int .i64 (cmpI (-(flr ((dv (-m) ee) / (dv q h)) w)) b))<|.lits 3<|.both (.lits 3<|.yes<|.fin3 ⟨[2,6,10,11,65,66],[0,1,2,3,4]⟩) (.lit<|.yes<|.fin3 ⟨[2,6,10,11,65,66],[0,1,2,3,4]⟩))) (Sum.elim (fun (a,b)=>.lits 2<|.yes<|.lits 7<|.call (zV (flr ((dv n f) / (dv p g)) w))<|.lits 4<|.call (yV (-n) f)<|.lits 3<|.call (zV (flr ((dv (-n) f) / (dv p g)) w))<|.lit<|.call (zV (-(flr ((dv (-n) f) / (dv p g)) w)))<|.lits 7<|.call (.int .i64 (cmpI (flr ((dv n f) / (dv p g)) w) a))<|.lits 3<|.both (.lits 9<|.call (.int .i64 (cmpI (-(flr ((dv (-n) f) / (dv p g)) w)) b))<|.lits 3<|.both (.lits 3<|.yes<|.fin3 ⟨[2,6,10,11,65,66],[0,1,2,3,4]⟩) (.lit<|.yes<|.fin3 ⟨[2,6,10,11,65,66],[0,1,2,3,4]⟩)) (.lits 7<|.call (.int .i64 (cmpI (-(flr ((dv (-n) f) / (dv p g)) w)) b))<|.lits 3<|.both (.lits 3<|.yes<|.fin3 ⟨[2,6,10,11,65,66],[0,1,2,3,4]⟩) (.lit<|.yes<|.fin3 ⟨[2,6,10,11,65,66],[0,1,2,3,4]⟩))) (Sum.elim (fun (a,b)=>.lits 2<|.yes<|.lits 7<|.call (zV (flr ((dv n f) / (dv q h)) w))<|.lits 4<|.call (yV (-n) f)<|.lits 3<|.call (zV (flr ((dv (-n) f) / (dv q h)) w))<|.lit<|.call (zV (-(flr ((dv (-n) f) / (dv q h)) w)))<|.lits 7<|.call (.int .i64 (cmpI (flr ((dv n f) / (dv q h)) w) a))<|.lits 3<|.both (.lits 9<|.call (.int .i64 (cmpI (-(flr ((dv (-n) f) / (dv q h)) w)) b))<|.lits 3<|.both (.lits 3<|.yes<|.fin3 ⟨[2,6,10,11,65,66],[0,1,2,3,4]⟩) (.lit<|.yes<|.fin3 ⟨[2,6,10,11,65,66],[0,1,2,3,4]⟩)) (.lits 7<|.call (.int .i64 (cmpI (-(flr ((dv (-n) f) / (dv q h)) w)) b))<|.lits 3<|.both (.lits 3<|.yes<|.fin3 ⟨[2,6,10,11,65,66],[0,1,2,3,4]⟩) (.lit<|.yes<|.fin3 ⟨[2,6,10,11,65,66],[0,1,2,3,4]⟩))) (fun (a,b)=>.lits 2<|.fin2 ⟨[2,6,10,11],5,[]⟩))))) (by
  rintro (u | ⟨a,b⟩ | ⟨a,b⟩ | ⟨a,b⟩ | ⟨a,b⟩) hI
  ·skip
   have hI:u=u:=hI
   have h1:=hI
   have z0:=quo_L (m:=m) (e:=ee) (p:=p) (g:=g) (w:=w) (show p≠0 by assumption)
   have y0:=quo_L (m:=-m) (e:=ee) (p:=p) (g:=g) (w:=w) (show p≠0 by assumption)
   have x0:=L_abs_neg m
   have w0:=L_abs_neg (flr (dv (-m) ee / dv p g) w)
   have z1:=quo_L (m:=m) (e:=ee) (p:=q) (g:=h) (w:=w) (show q≠0 by assumption)
   have y1:=quo_L (m:=-m) (e:=ee) (p:=q) (g:=h) (w:=w) (show q≠0 by assumption)
   have x1:=L_abs_neg m
   have w1:=L_abs_neg (flr (dv (-m) ee / dv q h) w)
   have z2:=quo_L (m:=n) (e:=f) (p:=p) (g:=g) (w:=w) (show p≠0 by assumption)
   have y2:=quo_L (m:=-n) (e:=f) (p:=p) (g:=g) (w:=w) (show p≠0 by assumption)
   have x2:=L_abs_neg n
   have w2:=L_abs_neg (flr (dv (-n) f / dv p g) w)
   have z3:=quo_L (m:=n) (e:=f) (p:=q) (g:=h) (w:=w) (show q≠0 by assumption)
   have y3:=quo_L (m:=-n) (e:=f) (p:=q) (g:=h) (w:=w) (show q≠0 by assumption)
   have x3:=L_abs_neg n
   have w3:=L_abs_neg (flr (dv (-n) f / dv q h) w)
   exact cast_ob (aI True.intro (aI tT (aI (ar_quotient m ee p g w oO oO oO oO oO oO) (have f104:=quo_L (m:=m) (e:=ee) (p:=p) (g:=g) (w:=w) (show p≠0 by assumption); aI (dy_Neg m ee oO) (have f103:=L_abs_neg m; aI (ar_quotient (-m) ee p g w oO oO oO oO oO oO) (have f102:=quo_L (m:=(-m)) (e:=ee) (p:=p) (g:=g) (w:=w) (show p≠0 by assumption); aI (int_Neg (flr ((dv (-m) ee) / (dv p g)) w) oO) (have f101:=L_abs_neg (flr ((dv (-m) ee) / (dv p g)) w); aI tT (aI tT ((nx_next (Sum.inr (Sum.inl ((flr ((dv m ee) / (dv p g)) w),(-(flr ((dv (-m) ee) / (dv p g)) w))))) (show (flr ((dv m ee) / (dv p g)) w)=(flr ((dv m ee) / (dv p g)) w)∧(-(flr ((dv (-m) ee) / (dv p g)) w))=(cei ((dv m ee) / (dv p g)) w)∧L (flr ((dv m ee) / (dv p g)) w).natAbs≤5000∧L (-(flr ((dv (-m) ee) / (dv p g)) w)).natAbs≤5000 from ⟨rfl,neg_flr,by omega,by omega⟩) (show 9-1<9 by omega):ar_div_N m ee n f p g q h w (Sum.inl u) .normal (ar_div_mk m ee n f p g q h w (Sum.inr (Sum.inl ((flr ((dv m ee) / (dv p g)) w),(-(flr ((dv (-m) ee) / (dv p g)) w)))))))))))))))) (by kernel_rfl)
  ·skip
   have hI:a=(flr ((dv m ee) / (dv p g)) w)∧b=(cei ((dv m ee) / (dv p g)) w)∧L a.natAbs≤5000∧L b.natAbs≤5000:=hI
   obtain ⟨h1,h2,h3,h4⟩:=hI
   have z0:=quo_L (m:=m) (e:=ee) (p:=p) (g:=g) (w:=w) (show p≠0 by assumption)
   have y0:=quo_L (m:=-m) (e:=ee) (p:=p) (g:=g) (w:=w) (show p≠0 by assumption)
   have x0:=L_abs_neg m
   have w0:=L_abs_neg (flr (dv (-m) ee / dv p g) w)
   have z1:=quo_L (m:=m) (e:=ee) (p:=q) (g:=h) (w:=w) (show q≠0 by assumption)
   have y1:=quo_L (m:=-m) (e:=ee) (p:=q) (g:=h) (w:=w) (show q≠0 by assumption)
   have x1:=L_abs_neg m
   have w1:=L_abs_neg (flr (dv (-m) ee / dv q h) w)
   have z2:=quo_L (m:=n) (e:=f) (p:=p) (g:=g) (w:=w) (show p≠0 by assumption)
   have y2:=quo_L (m:=-n) (e:=f) (p:=p) (g:=g) (w:=w) (show p≠0 by assumption)
   have x2:=L_abs_neg n
   have w2:=L_abs_neg (flr (dv (-n) f / dv p g) w)
   have z3:=quo_L (m:=n) (e:=f) (p:=q) (g:=h) (w:=w) (show q≠0 by assumption)
   have y3:=quo_L (m:=-n) (e:=f) (p:=q) (g:=h) (w:=w) (show q≠0 by assumption)
   have x3:=L_abs_neg n
   have w3:=L_abs_neg (flr (dv (-n) f / dv q h) w)
   exact cast_ob (aI True.intro (aI tT (aI (ar_quotient m ee q h w oO oO oO oO oO oO) (have f113:=quo_L (m:=m) (e:=ee) (p:=q) (g:=h) (w:=w) (show q≠0 by assumption); aI (dy_Neg m ee oO) (have f112:=L_abs_neg m; aI (ar_quotient (-m) ee q h w oO oO oO oO oO oO) (have f111:=quo_L (m:=(-m)) (e:=ee) (p:=q) (g:=h) (w:=w) (show q≠0 by assumption); aI (int_Neg (flr ((dv (-m) ee) / (dv q h)) w) oO) (have f110:=L_abs_neg (flr ((dv (-m) ee) / (dv q h)) w); aI (int_Cmp (flr ((dv m ee) / (dv q h)) w) a oO oO) (have f109:=cmpI_range (flr ((dv m ee) / (dv q h)) w) a; aI (fun (h101:(iLt (cmpI (flr ((dv m ee) / (dv q h)) w) a) 0)=true)=>have _gh101:=iLt_t h101; aI (int_Cmp (-(flr ((dv (-m) ee) / (dv q h)) w)) b oO oO) (have f104:=cmpI_range (-(flr ((dv (-m) ee) / (dv q h)) w)) b; aI (fun (h102:(iGt (cmpI (-(flr ((dv (-m) ee) / (dv q h)) w)) b) 0)=true)=>have _gh102:=iGt_t h102; aI tT (aI tT ((nx_next (Sum.inr (Sum.inr (Sum.inl ((flr ((dv m ee) / (dv q h)) w),(-(flr ((dv (-m) ee) / (dv q h)) w)))))) (show (flr ((dv m ee) / (dv q h)) w)=(flr (qmin ((dv m ee) / (dv p g)) ((dv m ee) / (dv q h))) w)∧(-(flr ((dv (-m) ee) / (dv q h)) w))=(cei (qmax ((dv m ee) / (dv p g)) ((dv m ee) / (dv q h))) w)∧L (flr ((dv m ee) / (dv q h)) w).natAbs≤5000∧L (-(flr ((dv (-m) ee) / (dv q h)) w)).natAbs≤5000 from ⟨flr_y h1 oO,cei_y h2 neg_flr oO,by omega,by omega⟩) (show 9-2<9-1 by omega):ar_div_N m ee n f p g q h w (Sum.inr (Sum.inl (a,b))) .normal (ar_div_mk m ee n f p g q h w (Sum.inr (Sum.inr (Sum.inl ((flr ((dv m ee) / (dv q h)) w),(-(flr ((dv (-m) ee) / (dv q h)) w))))))))))) (fun (h103:(iGt (cmpI (-(flr ((dv (-m) ee) / (dv q h)) w)) b) 0)=false)=>have _gh103:=iGt_f h103; aI tT (aI tT ((nx_next (Sum.inr (Sum.inr (Sum.inl ((flr ((dv m ee) / (dv q h)) w),b)))) (show (flr ((dv m ee) / (dv q h)) w)=(flr (qmin ((dv m ee) / (dv p g)) ((dv m ee) / (dv q h))) w)∧b=(cei (qmax ((dv m ee) / (dv p g)) ((dv m ee) / (dv q h))) w)∧L (flr ((dv m ee) / (dv q h)) w).natAbs≤5000∧L b.natAbs≤5000 from ⟨flr_y h1 oO,cei_n h2 neg_flr oO,by omega,by omega⟩) (show 9-2<9-1 by omega):ar_div_N m ee n f p g q h w (Sum.inr (Sum.inl (a,b))) .normal (ar_div_mk m ee n f p g q h w (Sum.inr (Sum.inr (Sum.inl ((flr ((dv m ee) / (dv q h)) w),b))))))))))) (fun (h105:(iLt (cmpI (flr ((dv m ee) / (dv q h)) w) a) 0)=false)=>have _gh105:=iLt_f h105; aI (int_Cmp (-(flr ((dv (-m) ee) / (dv q h)) w)) b oO oO) (have f108:=cmpI_range (-(flr ((dv (-m) ee) / (dv q h)) w)) b; aI (fun (h106:(iGt (cmpI (-(flr ((dv (-m) ee) / (dv q h)) w)) b) 0)=true)=>have _gh106:=iGt_t h106; aI tT (aI tT ((nx_next (Sum.inr (Sum.inr (Sum.inl (a,(-(flr ((dv (-m) ee) / (dv q h)) w)))))) (show a=(flr (qmin ((dv m ee) / (dv p g)) ((dv m ee) / (dv q h))) w)∧(-(flr ((dv (-m) ee) / (dv q h)) w))=(cei (qmax ((dv m ee) / (dv p g)) ((dv m ee) / (dv q h))) w)∧L a.natAbs≤5000∧L (-(flr ((dv (-m) ee) / (dv q h)) w)).natAbs≤5000 from ⟨flr_n h1 oO,cei_y h2 neg_flr oO,by omega,by omega⟩) (show 9-2<9-1 by omega):ar_div_N m ee n f p g q h w (Sum.inr (Sum.inl (a,b))) .normal (ar_div_mk m ee n f p g q h w (Sum.inr (Sum.inr (Sum.inl (a,(-(flr ((dv (-m) ee) / (dv q h)) w))))))))))) (fun (h107:(iGt (cmpI (-(flr ((dv (-m) ee) / (dv q h)) w)) b) 0)=false)=>have _gh107:=iGt_f h107; aI tT (aI tT ((nx_next (Sum.inr (Sum.inr (Sum.inl (a,b)))) (show a=(flr (qmin ((dv m ee) / (dv p g)) ((dv m ee) / (dv q h))) w)∧b=(cei (qmax ((dv m ee) / (dv p g)) ((dv m ee) / (dv q h))) w)∧L a.natAbs≤5000∧L b.natAbs≤5000 from ⟨flr_n h1 oO,cei_n h2 neg_flr oO,by omega,by omega⟩) (show 9-2<9-1 by omega):ar_div_N m ee n f p g q h w (Sum.inr (Sum.inl (a,b))) .normal (ar_div_mk m ee n f p g q h w (Sum.inr (Sum.inr (Sum.inl (a,b))))))))))))))))))) (by kernel_rfl)
  ·skip
   have hI:a=(flr (qmin ((dv m ee) / (dv p g)) ((dv m ee) / (dv q h))) w)∧b=(cei (qmax ((dv m ee) / (dv p g)) ((dv m ee) / (dv q h))) w)∧L a.natAbs≤5000∧L b.natAbs≤5000:=hI
   obtain ⟨h1,h2,h3,h4⟩:=hI
   have z0:=quo_L (m:=m) (e:=ee) (p:=p) (g:=g) (w:=w) (show p≠0 by assumption)
   have y0:=quo_L (m:=-m) (e:=ee) (p:=p) (g:=g) (w:=w) (show p≠0 by assumption)
   have x0:=L_abs_neg m
   have w0:=L_abs_neg (flr (dv (-m) ee / dv p g) w)
   have z1:=quo_L (m:=m) (e:=ee) (p:=q) (g:=h) (w:=w) (show q≠0 by assumption)
   have y1:=quo_L (m:=-m) (e:=ee) (p:=q) (g:=h) (w:=w) (show q≠0 by assumption)
   have x1:=L_abs_neg m
   have w1:=L_abs_neg (flr (dv (-m) ee / dv q h) w)
   have z2:=quo_L (m:=n) (e:=f) (p:=p) (g:=g) (w:=w) (show p≠0 by assumption)
   have y2:=quo_L (m:=-n) (e:=f) (p:=p) (g:=g) (w:=w) (show p≠0 by assumption)
   have x2:=L_abs_neg n
   have w2:=L_abs_neg (flr (dv (-n) f / dv p g) w)
   have z3:=quo_L (m:=n) (e:=f) (p:=q) (g:=h) (w:=w) (show q≠0 by assumption)
   have y3:=quo_L (m:=-n) (e:=f) (p:=q) (g:=h) (w:=w) (show q≠0 by assumption)
   have x3:=L_abs_neg n
   have w3:=L_abs_neg (flr (dv (-n) f / dv q h) w)
   exact cast_ob (aI True.intro (aI tT (aI (ar_quotient n f p g w oO oO oO oO oO oO) (have f113:=quo_L (m:=n) (e:=f) (p:=p) (g:=g) (w:=w) (show p≠0 by assumption); aI (dy_Neg n f oO) (have f112:=L_abs_neg n; aI (ar_quotient (-n) f p g w oO oO oO oO oO oO) (have f111:=quo_L (m:=(-n)) (e:=f) (p:=p) (g:=g) (w:=w) (show p≠0 by assumption); aI (int_Neg (flr ((dv (-n) f) / (dv p g)) w) oO) (have f110:=L_abs_neg (flr ((dv (-n) f) / (dv p g)) w); aI (int_Cmp (flr ((dv n f) / (dv p g)) w) a oO oO) (have f109:=cmpI_range (flr ((dv n f) / (dv p g)) w) a; aI (fun (h101:(iLt (cmpI (flr ((dv n f) / (dv p g)) w) a) 0)=true)=>have _gh101:=iLt_t h101; aI (int_Cmp (-(flr ((dv (-n) f) / (dv p g)) w)) b oO oO) (have f104:=cmpI_range (-(flr ((dv (-n) f) / (dv p g)) w)) b; aI (fun (h102:(iGt (cmpI (-(flr ((dv (-n) f) / (dv p g)) w)) b) 0)=true)=>have _gh102:=iGt_t h102; aI tT (aI tT ((nx_next (Sum.inr (Sum.inr (Sum.inr (Sum.inl ((flr ((dv n f) / (dv p g)) w),(-(flr ((dv (-n) f) / (dv p g)) w))))))) (show (flr ((dv n f) / (dv p g)) w)=(flr (qmin (qmin ((dv m ee) / (dv p g)) ((dv m ee) / (dv q h))) ((dv n f) / (dv p g))) w)∧(-(flr ((dv (-n) f) / (dv p g)) w))=(cei (qmax (qmax ((dv m ee) / (dv p g)) ((dv m ee) / (dv q h))) ((dv n f) / (dv p g))) w)∧L (flr ((dv n f) / (dv p g)) w).natAbs≤5000∧L (-(flr ((dv (-n) f) / (dv p g)) w)).natAbs≤5000 from ⟨flr_y h1 oO,cei_y h2 neg_flr oO,by omega,by omega⟩) (show 9-3<9-2 by omega):ar_div_N m ee n f p g q h w (Sum.inr (Sum.inr (Sum.inl (a,b)))) .normal (ar_div_mk m ee n f p g q h w (Sum.inr (Sum.inr (Sum.inr (Sum.inl ((flr ((dv n f) / (dv p g)) w),(-(flr ((dv (-n) f) / (dv p g)) w)))))))))))) (fun (h103:(iGt (cmpI (-(flr ((dv (-n) f) / (dv p g)) w)) b) 0)=false)=>have _gh103:=iGt_f h103; aI tT (aI tT ((nx_next (Sum.inr (Sum.inr (Sum.inr (Sum.inl ((flr ((dv n f) / (dv p g)) w),b))))) (show (flr ((dv n f) / (dv p g)) w)=(flr (qmin (qmin ((dv m ee) / (dv p g)) ((dv m ee) / (dv q h))) ((dv n f) / (dv p g))) w)∧b=(cei (qmax (qmax ((dv m ee) / (dv p g)) ((dv m ee) / (dv q h))) ((dv n f) / (dv p g))) w)∧L (flr ((dv n f) / (dv p g)) w).natAbs≤5000∧L b.natAbs≤5000 from ⟨flr_y h1 oO,cei_n h2 neg_flr oO,by omega,by omega⟩) (show 9-3<9-2 by omega):ar_div_N m ee n f p g q h w (Sum.inr (Sum.inr (Sum.inl (a,b)))) .normal (ar_div_mk m ee n f p g q h w (Sum.inr (Sum.inr (Sum.inr (Sum.inl ((flr ((dv n f) / (dv p g)) w),b)))))))))))) (fun (h105:(iLt (cmpI (flr ((dv n f) / (dv p g)) w) a) 0)=false)=>have _gh105:=iLt_f h105; aI (int_Cmp (-(flr ((dv (-n) f) / (dv p g)) w)) b oO oO) (have f108:=cmpI_range (-(flr ((dv (-n) f) / (dv p g)) w)) b; aI (fun (h106:(iGt (cmpI (-(flr ((dv (-n) f) / (dv p g)) w)) b) 0)=true)=>have _gh106:=iGt_t h106; aI tT (aI tT ((nx_next (Sum.inr (Sum.inr (Sum.inr (Sum.inl (a,(-(flr ((dv (-n) f) / (dv p g)) w))))))) (show a=(flr (qmin (qmin ((dv m ee) / (dv p g)) ((dv m ee) / (dv q h))) ((dv n f) / (dv p g))) w)∧(-(flr ((dv (-n) f) / (dv p g)) w))=(cei (qmax (qmax ((dv m ee) / (dv p g)) ((dv m ee) / (dv q h))) ((dv n f) / (dv p g))) w)∧L a.natAbs≤5000∧L (-(flr ((dv (-n) f) / (dv p g)) w)).natAbs≤5000 from ⟨flr_n h1 oO,cei_y h2 neg_flr oO,by omega,by omega⟩) (show 9-3<9-2 by omega):ar_div_N m ee n f p g q h w (Sum.inr (Sum.inr (Sum.inl (a,b)))) .normal (ar_div_mk m ee n f p g q h w (Sum.inr (Sum.inr (Sum.inr (Sum.inl (a,(-(flr ((dv (-n) f) / (dv p g)) w)))))))))))) (fun (h107:(iGt (cmpI (-(flr ((dv (-n) f) / (dv p g)) w)) b) 0)=false)=>have _gh107:=iGt_f h107; aI tT (aI tT ((nx_next (Sum.inr (Sum.inr (Sum.inr (Sum.inl (a,b))))) (show a=(flr (qmin (qmin ((dv m ee) / (dv p g)) ((dv m ee) / (dv q h))) ((dv n f) / (dv p g))) w)∧b=(cei (qmax (qmax ((dv m ee) / (dv p g)) ((dv m ee) / (dv q h))) ((dv n f) / (dv p g))) w)∧L a.natAbs≤5000∧L b.natAbs≤5000 from ⟨flr_n h1 oO,cei_n h2 neg_flr oO,by omega,by omega⟩) (show 9-3<9-2 by omega):ar_div_N m ee n f p g q h w (Sum.inr (Sum.inr (Sum.inl (a,b)))) .normal (ar_div_mk m ee n f p g q h w (Sum.inr (Sum.inr (Sum.inr (Sum.inl (a,b)))))))))))))))))))) (by kernel_rfl)
  ·skip
   have hI:a=(flr (qmin (qmin ((dv m ee) / (dv p g)) ((dv m ee) / (dv q h))) ((dv n f) / (dv p g))) w)∧b=(cei (qmax (qmax ((dv m ee) / (dv p g)) ((dv m ee) / (dv q h))) ((dv n f) / (dv p g))) w)∧L a.natAbs≤5000∧L b.natAbs≤5000:=hI
   obtain ⟨h1,h2,h3,h4⟩:=hI
   have z0:=quo_L (m:=m) (e:=ee) (p:=p) (g:=g) (w:=w) (show p≠0 by assumption)
   have y0:=quo_L (m:=-m) (e:=ee) (p:=p) (g:=g) (w:=w) (show p≠0 by assumption)
   have x0:=L_abs_neg m
   have w0:=L_abs_neg (flr (dv (-m) ee / dv p g) w)
   have z1:=quo_L (m:=m) (e:=ee) (p:=q) (g:=h) (w:=w) (show q≠0 by assumption)
   have y1:=quo_L (m:=-m) (e:=ee) (p:=q) (g:=h) (w:=w) (show q≠0 by assumption)
   have x1:=L_abs_neg m
   have w1:=L_abs_neg (flr (dv (-m) ee / dv q h) w)
   have z2:=quo_L (m:=n) (e:=f) (p:=p) (g:=g) (w:=w) (show p≠0 by assumption)
   have y2:=quo_L (m:=-n) (e:=f) (p:=p) (g:=g) (w:=w) (show p≠0 by assumption)
   have x2:=L_abs_neg n
   have w2:=L_abs_neg (flr (dv (-n) f / dv p g) w)
   have z3:=quo_L (m:=n) (e:=f) (p:=q) (g:=h) (w:=w) (show q≠0 by assumption)
   have y3:=quo_L (m:=-n) (e:=f) (p:=q) (g:=h) (w:=w) (show q≠0 by assumption)
   have x3:=L_abs_neg n
   have w3:=L_abs_neg (flr (dv (-n) f / dv q h) w)
   exact cast_ob (aI True.intro (aI tT (aI (ar_quotient n f q h w oO oO oO oO oO oO) (have f113:=quo_L (m:=n) (e:=f) (p:=q) (g:=h) (w:=w) (show q≠0 by assumption); aI (dy_Neg n f oO) (have f112:=L_abs_neg n; aI (ar_quotient (-n) f q h w oO oO oO oO oO oO) (have f111:=quo_L (m:=(-n)) (e:=f) (p:=q) (g:=h) (w:=w) (show q≠0 by assumption); aI (int_Neg (flr ((dv (-n) f) / (dv q h)) w) oO) (have f110:=L_abs_neg (flr ((dv (-n) f) / (dv q h)) w); aI (int_Cmp (flr ((dv n f) / (dv q h)) w) a oO oO) (have f109:=cmpI_range (flr ((dv n f) / (dv q h)) w) a; aI (fun (h101:(iLt (cmpI (flr ((dv n f) / (dv q h)) w) a) 0)=true)=>have _gh101:=iLt_t h101; aI (int_Cmp (-(flr ((dv (-n) f) / (dv q h)) w)) b oO oO) (have f104:=cmpI_range (-(flr ((dv (-n) f) / (dv q h)) w)) b; aI (fun (h102:(iGt (cmpI (-(flr ((dv (-n) f) / (dv q h)) w)) b) 0)=true)=>have _gh102:=iGt_t h102; aI tT (aI tT ((nx_next (Sum.inr (Sum.inr (Sum.inr (Sum.inr ((flr ((dv n f) / (dv q h)) w),(-(flr ((dv (-n) f) / (dv q h)) w))))))) (show (flr ((dv n f) / (dv q h)) w)=(flr (qmin (qmin (qmin ((dv m ee) / (dv p g)) ((dv m ee) / (dv q h))) ((dv n f) / (dv p g))) ((dv n f) / (dv q h))) w)∧(-(flr ((dv (-n) f) / (dv q h)) w))=(cei (qmax (qmax (qmax ((dv m ee) / (dv p g)) ((dv m ee) / (dv q h))) ((dv n f) / (dv p g))) ((dv n f) / (dv q h))) w)∧L (flr ((dv n f) / (dv q h)) w).natAbs≤5000∧L (-(flr ((dv (-n) f) / (dv q h)) w)).natAbs≤5000 from ⟨flr_y h1 oO,cei_y h2 neg_flr oO,by omega,by omega⟩) (show 9-4<9-3 by omega):ar_div_N m ee n f p g q h w (Sum.inr (Sum.inr (Sum.inr (Sum.inl (a,b))))) .normal (ar_div_mk m ee n f p g q h w (Sum.inr (Sum.inr (Sum.inr (Sum.inr ((flr ((dv n f) / (dv q h)) w),(-(flr ((dv (-n) f) / (dv q h)) w)))))))))))) (fun (h103:(iGt (cmpI (-(flr ((dv (-n) f) / (dv q h)) w)) b) 0)=false)=>have _gh103:=iGt_f h103; aI tT (aI tT ((nx_next (Sum.inr (Sum.inr (Sum.inr (Sum.inr ((flr ((dv n f) / (dv q h)) w),b))))) (show (flr ((dv n f) / (dv q h)) w)=(flr (qmin (qmin (qmin ((dv m ee) / (dv p g)) ((dv m ee) / (dv q h))) ((dv n f) / (dv p g))) ((dv n f) / (dv q h))) w)∧b=(cei (qmax (qmax (qmax ((dv m ee) / (dv p g)) ((dv m ee) / (dv q h))) ((dv n f) / (dv p g))) ((dv n f) / (dv q h))) w)∧L (flr ((dv n f) / (dv q h)) w).natAbs≤5000∧L b.natAbs≤5000 from ⟨flr_y h1 oO,cei_n h2 neg_flr oO,by omega,by omega⟩) (show 9-4<9-3 by omega):ar_div_N m ee n f p g q h w (Sum.inr (Sum.inr (Sum.inr (Sum.inl (a,b))))) .normal (ar_div_mk m ee n f p g q h w (Sum.inr (Sum.inr (Sum.inr (Sum.inr ((flr ((dv n f) / (dv q h)) w),b)))))))))))) (fun (h105:(iLt (cmpI (flr ((dv n f) / (dv q h)) w) a) 0)=false)=>have _gh105:=iLt_f h105; aI (int_Cmp (-(flr ((dv (-n) f) / (dv q h)) w)) b oO oO) (have f108:=cmpI_range (-(flr ((dv (-n) f) / (dv q h)) w)) b; aI (fun (h106:(iGt (cmpI (-(flr ((dv (-n) f) / (dv q h)) w)) b) 0)=true)=>have _gh106:=iGt_t h106; aI tT (aI tT ((nx_next (Sum.inr (Sum.inr (Sum.inr (Sum.inr (a,(-(flr ((dv (-n) f) / (dv q h)) w))))))) (show a=(flr (qmin (qmin (qmin ((dv m ee) / (dv p g)) ((dv m ee) / (dv q h))) ((dv n f) / (dv p g))) ((dv n f) / (dv q h))) w)∧(-(flr ((dv (-n) f) / (dv q h)) w))=(cei (qmax (qmax (qmax ((dv m ee) / (dv p g)) ((dv m ee) / (dv q h))) ((dv n f) / (dv p g))) ((dv n f) / (dv q h))) w)∧L a.natAbs≤5000∧L (-(flr ((dv (-n) f) / (dv q h)) w)).natAbs≤5000 from ⟨flr_n h1 oO,cei_y h2 neg_flr oO,by omega,by omega⟩) (show 9-4<9-3 by omega):ar_div_N m ee n f p g q h w (Sum.inr (Sum.inr (Sum.inr (Sum.inl (a,b))))) .normal (ar_div_mk m ee n f p g q h w (Sum.inr (Sum.inr (Sum.inr (Sum.inr (a,(-(flr ((dv (-n) f) / (dv q h)) w)))))))))))) (fun (h107:(iGt (cmpI (-(flr ((dv (-n) f) / (dv q h)) w)) b) 0)=false)=>have _gh107:=iGt_f h107; aI tT (aI tT ((nx_next (Sum.inr (Sum.inr (Sum.inr (Sum.inr (a,b))))) (show a=(flr (qmin (qmin (qmin ((dv m ee) / (dv p g)) ((dv m ee) / (dv q h))) ((dv n f) / (dv p g))) ((dv n f) / (dv q h))) w)∧b=(cei (qmax (qmax (qmax ((dv m ee) / (dv p g)) ((dv m ee) / (dv q h))) ((dv n f) / (dv p g))) ((dv n f) / (dv q h))) w)∧L a.natAbs≤5000∧L b.natAbs≤5000 from ⟨flr_n h1 oO,cei_n h2 neg_flr oO,by omega,by omega⟩) (show 9-4<9-3 by omega):ar_div_N m ee n f p g q h w (Sum.inr (Sum.inr (Sum.inr (Sum.inl (a,b))))) .normal (ar_div_mk m ee n f p g q h w (Sum.inr (Sum.inr (Sum.inr (Sum.inr (a,b)))))))))))))))))))) (by kernel_rfl)
  ·skip
   have hI:a=(flr (qmin (qmin (qmin ((dv m ee) / (dv p g)) ((dv m ee) / (dv q h))) ((dv n f) / (dv p g))) ((dv n f) / (dv q h))) w)∧b=(cei (qmax (qmax (qmax ((dv m ee) / (dv p g)) ((dv m ee) / (dv q h))) ((dv n f) / (dv p g))) ((dv n f) / (dv q h))) w)∧L a.natAbs≤5000∧L b.natAbs≤5000:=hI
   obtain ⟨h1,h2,h3,h4⟩:=hI
   have z0:=quo_L (m:=m) (e:=ee) (p:=p) (g:=g) (w:=w) (show p≠0 by assumption)
   have y0:=quo_L (m:=-m) (e:=ee) (p:=p) (g:=g) (w:=w) (show p≠0 by assumption)
   have x0:=L_abs_neg m
   have w0:=L_abs_neg (flr (dv (-m) ee / dv p g) w)
   have z1:=quo_L (m:=m) (e:=ee) (p:=q) (g:=h) (w:=w) (show q≠0 by assumption)
   have y1:=quo_L (m:=-m) (e:=ee) (p:=q) (g:=h) (w:=w) (show q≠0 by assumption)
   have x1:=L_abs_neg m
   have w1:=L_abs_neg (flr (dv (-m) ee / dv q h) w)
   have z2:=quo_L (m:=n) (e:=f) (p:=p) (g:=g) (w:=w) (show p≠0 by assumption)
   have y2:=quo_L (m:=-n) (e:=f) (p:=p) (g:=g) (w:=w) (show p≠0 by assumption)
   have x2:=L_abs_neg n
   have w2:=L_abs_neg (flr (dv (-n) f / dv p g) w)
   have z3:=quo_L (m:=n) (e:=f) (p:=q) (g:=h) (w:=w) (show q≠0 by assumption)
   have y3:=quo_L (m:=-n) (e:=f) (p:=q) (g:=h) (w:=w) (show q≠0 by assumption)
   have x3:=L_abs_neg n
   have w3:=L_abs_neg (flr (dv (-n) f / dv q h) w)
   exact cast_ob (aI True.intro (aI tT ((nx_exit 1 ((ar_div_ex m ee n f p g q h w (a,b)).2) (a,b) (show a=(flr (qmin (qmin (qmin ((dv m ee) / (dv p g)) ((dv m ee) / (dv q h))) ((dv n f) / (dv p g))) ((dv n f) / (dv q h))) w)∧b=(cei (qmax (qmax (qmax ((dv m ee) / (dv p g)) ((dv m ee) / (dv q h))) ((dv n f) / (dv p g))) ((dv n f) / (dv q h))) w)∧L a.natAbs≤5000∧L b.natAbs≤5000 from ⟨h1,h2,h3,h4⟩) rfl:ar_div_N m ee n f p g q h w (Sum.inr (Sum.inr (Sum.inr (Sum.inr (a,b))))) (.exit 1) ((ar_div_ex m ee n f p g q h w (a,b)).2))))) (by kernel_rfl))
theorem ar_DivE (m ee n f p g q h w:Int)(c0:L (m).natAbs≤600)(c1:(-20000:Int)≤ee∧ee≤20000)(c2:L (n).natAbs≤600)(c3:(-20000:Int)≤f∧f≤20000)(c4:L (p).natAbs≤600)(c5:(-20000:Int)≤g∧g≤20000)(c6:L (q).natAbs≤600)(c7:(-20000:Int)≤h∧h≤20000)(c8:(-9223372036854775808:Int)≤w∧w≤9223372036854775807)(c9:p.sign=q.sign)(c10:p≠0):Impl Tryz.prog Amb 62 [(wV m ee n f),(wV p g q h),(.int .i64 w)] (enV (dvLo m ee n f p g q h) (dvHi m ee n f p g q h) w):=by
 have s0:=sign_range p
 have s1:=sign_range q
 have e9:sgI p q=p.sign:=if_pos c9
 have hp:p≠0:=c10
 have hq:q≠0:=by omega
 exact impl_ob hP hAmb Tryz.func62 (by kernel_rfl) (.lits 2<|.call (.tup [(.int .i64 (sgI p q)),(.bool (decide (p.sign=q.sign)))])<|.lit<|.call (.bool (decide (0≤w∧w≤4096)))<|.lit<|.both (.lits 3<|.ret) (.yes<|.lits 3<|.no<|.lit<|.no<|.lits 3<|.no<|.lits 13<|.loop ⟨[2,6,10,11,65,66],5,[]⟩ ((ar_div_mk m ee n f p g q h w (Sum.inl (0:Int)))) (Int × Int) (ar_div_ex m ee n f p g q h w) (ar_div_J m ee n f p g q h w) (fun y=>.lits 2<|.yes<|.lit<|.call (mkT y.1 ((0:Int)-w))<|.lits 3<|.yes<|.lit<|.call (mkT y.2 ((0:Int)-w))<|.lits 4<|.call (ecT (mkM y.1 ((0:Int)-w)) (mkX y.1 ((0:Int)-w)) (mkM y.2 ((0:Int)-w)) (mkX y.2 ((0:Int)-w)) (mkE y.1 ((0:Int)-w)) (mkE y.2 ((0:Int)-w)))<|.lits 2<|.ret)))
  (cast_ob (aI True.intro (aI (iv_Sign p g q h oA oA) (aI (ar_works w oA) (aI (fun (h1:(!(decide (0≤w∧w≤4096)))=true)=>have _gh1:=of_decide_eq_false (notb_t h1); (en_vbad oO:vsub (e0T 1) (enV (dvLo m ee n f p g q h) (dvHi m ee n f p g q h) w))) (fun (h2:(!(decide (0≤w∧w≤4096)))=false)=>have _gh2:=of_decide_eq_true (notb_f h2); aI (decide_eq_true c9:(decide (p.sign=q.sign))=true) (aI (iEq_mkF oO:(iEq (sgI p q) 0)=false) (aI ((by simp [c9]):(!(decide (p.sign=q.sign)))=false) (aI (iEq_mkF oO:(iEq (sgI p q) 0)=false) (aI tT (aI (rfl:(ar_div_mk m ee n f p g q h w (Sum.inl (0:Int)))=(ar_div_mk m ee n f p g q h w (Sum.inl (0:Int)))) (aI (ar_div m ee n f p g q h w c0 c1 c2 c3 c4 c5 c6 c7 oO hp hq (Sum.inl (0:Int)) (show (0:Int)=(0:Int) from rfl)) (fun y (hJ:ar_div_J m ee n f p g q h w y)=>have hJ:y.1=(flr (qmin (qmin (qmin ((dv m ee) / (dv p g)) ((dv m ee) / (dv q h))) ((dv n f) / (dv p g))) ((dv n f) / (dv q h))) w)∧y.2=(cei (qmax (qmax (qmax ((dv m ee) / (dv p g)) ((dv m ee) / (dv q h))) ((dv n f) / (dv p g))) ((dv n f) / (dv q h))) w)∧L y.1.natAbs≤5000∧L y.2.natAbs≤5000:=hJ; aI (fits_i64 oA:(fits .i64 ((0:Int)-w))=true) (aI (dy_Make y.1 ((0:Int)-w) oA oA) (have f4:=mk_facts y.1 ((0:Int)-w); aI (fits_i64 oA:(fits .i64 ((0:Int)-w))=true) (aI (dy_Make y.2 ((0:Int)-w) oA oA) (have f3:=mk_facts y.2 ((0:Int)-w); aI (ar_enclose (mkM y.1 ((0:Int)-w)) (mkX y.1 ((0:Int)-w)) (mkM y.2 ((0:Int)-w)) (mkX y.2 ((0:Int)-w)) (mkE y.1 ((0:Int)-w)) (mkE y.2 ((0:Int)-w)) oA oA oA oA) ((by obtain ⟨j1,j2,_⟩:=hJ; rw [j1,j2,show (0:Int)-w=-w by omega]; exact en_vec rfl rfl oO:vsub (ecT (mkM y.1 ((0:Int)-w)) (mkX y.1 ((0:Int)-w)) (mkM y.2 ((0:Int)-w)) (mkX y.2 ((0:Int)-w)) (mkE y.1 ((0:Int)-w)) (mkE y.2 ((0:Int)-w))) (enV (dvLo m ee n f p g q h) (dvHi m ee n f p g q h) w))))))))))))))))))) (by kernel_rfl))

end Go.Proofs.YtcbihoojfakhdaaGreatDoor


namespace Go.Proofs.YtcbihoojfakhdaaGreatDoor
open Go.RowKit
set_option maxRecDepth 100000
theorem mill_Mod (v n:Int)(c0:(0:Int)<n∧n≤1000000000)(c1:(-9223372036854775808:Int)≤v∧v≤9223372036854775807):Impl Tryz.prog Amb 16 [(.int .i64 v),(.int .i64 n)] (.int .i64 (v%n)):=by
 have r0:=wRem_abs (v:=v) (n:=n) oO
 exact impl_ob hP hAmb Tryz.func16 (by kernel_rfl) (.yes<|.lit<|.both (.lit<|.yes<|.lit<|.ret) (.lit<|.ret))
  (cast_ob (aI True.intro (aI (iNe_mk oA:(iNe n 0)=true) (aI (fun (h1:(iLt (wRem v n) 0)=true)=>have _gh1:=iLt_t h1; aI (fits_i64 oA:(fits .i64 ((wRem v n)+n))=true) ((vsub_of (congrArg (V.int .i64) (mod_neg oO oO)):vsub (.int .i64 ((wRem v n)+n)) (.int .i64 (v%n))))) (fun (h2:(iLt (wRem v n) 0)=false)=>have _gh2:=iLt_f h2; (vsub_of (congrArg (V.int .i64) (mod_pos oO oO)):vsub (.int .i64 (wRem v n)) (.int .i64 (v%n))))))) (by kernel_rfl))
theorem mill_Int (b:Bool)(l:List Nat)(n:Int)(c0:Dig l)(c1:l.length≤9223372036854775807)(c2:(0:Int)≤n∧n≤1000):Impl Tryz.prog Amb 66 [(.agg [(.bool b),(.sl 1 (U l))]),(.int .i64 n)] (.tup [(zV (rawI b l n)),(.bool (decide ((l.length:Int)≤n)))]):=by
 have e0:=U_len l
 exact impl_ob hP hAmb Tryz.func66 (by kernel_rfl) (.lits 2<|.both (.lits 3<|.ret) (.lits 3<|.call (zV (sgn b (val l)))<|.lits 2<|.ret))
  (cast_ob (aI True.intro (aI (fun (h1:(iGt ((U l).length:Int) n)=true)=>have _gh1:=iGt_t h1; (raw_ret1 oO:vsub (.tup [(.agg [(.bool false),.nil]),(.bool false)]) (.tup [(zV (rawI b l n)),(.bool (decide ((l.length:Int)≤n)))]))) (fun (h2:(iGt ((U l).length:Int) n)=false)=>have _gh2:=iGt_f h2; aI (r05_NatC b (U l) l rfl c0 oO) (have f4:=L_val ‹Dig l›; have f3:=L_sgn b (val l); (raw_ret2 oO:vsub (.tup [(zV (sgn b (val l))),(.bool true)]) (.tup [(zV (rawI b l n)),(.bool (decide ((l.length:Int)≤n)))])))))) (by kernel_rfl))
theorem mill_Dyadic (b:Bool)(l:List Nat)(e n k:Int)(c0:Dig l)(c1:l.length≤9223372036854775807)(c2:(-9223372036854775808:Int)≤e∧e≤9223372036854775807)(c3:(0:Int)≤n∧n≤800)(c4:(0:Int)≤k∧k≤20000):Impl Tryz.prog Amb 15 [(.agg [(.bool b),(.sl 1 (U l)),(.int .i64 e)]),(.int .i64 n),(.int .i64 k)] (.tup [(yV (mkM (rawI b l n) (e%(2*k+1)-k)) (mkX (rawI b l n) (e%(2*k+1)-k))),(.bool (decide ((l.length:Int)≤n)))]):=by
 have ej:=Int.emod_nonneg e (show (2*k+1:Int)≠0 by omega)
 have ek:=Int.emod_lt_of_pos e (show (0:Int)<2*k+1 by omega)
 exact impl_ob hP hAmb Tryz.func15 (by kernel_rfl) (.lits 2<|.call (.tup [(zV (rawI b l n)),(.bool (decide ((l.length:Int)≤n)))])<|.lits 2<|.both (.lits 3<|.ret) (.lits 3<|.yes<|.lit<|.yes<|.lit<|.call (.int .i64 (e%(((2:Int)*k)+1)))<|.lit<|.yes<|.lit<|.call (mkT (rawI b l n) ((e%(((2:Int)*k)+1))-k))<|.lits 4<|.ret))
  (cast_ob (aI True.intro (aI (mill_Int b l n oA oA oA) (have f6:=(rawI_L (b:=b) ‹Dig l› (show (0:Int)≤n by first | omega | (simp<;>omega))); aI (fun (h1:(!(decide ((l.length:Int)≤n)))=true)=>have _gh1:=of_decide_eq_false (notb_t h1); (rawd_ret1 oO:vsub (.tup [(.agg [(.bool false),.nil,(.int .i64 0)]),(.bool false)]) (.tup [(yV (mkM (rawI b l n) (e%(2*k+1)-k)) (mkX (rawI b l n) (e%(2*k+1)-k))),(.bool (decide ((l.length:Int)≤n)))]))) (fun (h2:(!(decide ((l.length:Int)≤n)))=false)=>have _gh2:=of_decide_eq_true (notb_f h2); aI (fits_i64 oA:(fits .i64 ((2:Int)*k))=true) (aI (fits_i64 oA:(fits .i64 (((2:Int)*k)+1))=true) (aI (mill_Mod e (((2:Int)*k)+1) oA oA) (have f5:=Int.emod_lt_of_pos e (show (0:Int)<(((2:Int)*k)+1) by first | omega | (simp<;>omega)); have f4:=Int.emod_nonneg e (show ((((2:Int)*k)+1):Int)≠0 by first | omega | (simp<;>omega)); aI (fits_i64 oA:(fits .i64 ((e%(((2:Int)*k)+1))-k))=true) (aI (r08_Make (rawI b l n) ((e%(((2:Int)*k)+1))-k) oA oA) (have f3:=mk_facts (rawI b l n) ((e%(((2:Int)*k)+1))-k); (vsub_tup2 (vsub_refl _) (vsub_of (congrArg V.bool (rawd_ok (mk_fine2 oO oO) oO))):vsub (.tup [(yV (mkM (rawI b l n) ((e%(((2:Int)*k)+1))-k)) (mkX (rawI b l n) ((e%(((2:Int)*k)+1))-k))),(.bool (iEq (mkE (rawI b l n) ((e%(((2:Int)*k)+1))-k)) 0))]) (.tup [(yV (mkM (rawI b l n) (e%(2*k+1)-k)) (mkX (rawI b l n) (e%(2*k+1)-k))),(.bool (decide ((l.length:Int)≤n)))]))))))))))) (by kernel_rfl))
theorem mill_Interval (b:Bool)(l:List Nat)(e:Int)(c:Bool)(r:List Nat)(f n k:Int)(c0:Dig l)(c1:l.length≤9223372036854775807)(c2:Dig r)(c3:r.length≤9223372036854775807)(c4:(-9223372036854775808:Int)≤e∧e≤9223372036854775807)(c5:(-9223372036854775808:Int)≤f∧f≤9223372036854775807)(c6:(0:Int)≤n∧n≤800)(c7:(0:Int)≤k∧k≤20000):Impl Tryz.prog Amb 78 [(.agg [(.bool b),(.sl 1 (U l)),(.int .i64 e),(.bool c),(.sl 1 (U r)),(.int .i64 f)]),(.int .i64 n),(.int .i64 k)] (.tup [(wV (swM (mkM (rawI b l n) (e%(2*k+1)-k)) (mkX (rawI b l n) (e%(2*k+1)-k)) (mkM (rawI c r n) (f%(2*k+1)-k)) (mkX (rawI c r n) (f%(2*k+1)-k))) (swX (mkM (rawI b l n) (e%(2*k+1)-k)) (mkX (rawI b l n) (e%(2*k+1)-k)) (mkM (rawI c r n) (f%(2*k+1)-k)) (mkX (rawI c r n) (f%(2*k+1)-k))) (swN (mkM (rawI b l n) (e%(2*k+1)-k)) (mkX (rawI b l n) (e%(2*k+1)-k)) (mkM (rawI c r n) (f%(2*k+1)-k)) (mkX (rawI c r n) (f%(2*k+1)-k))) (swF (mkM (rawI b l n) (e%(2*k+1)-k)) (mkX (rawI b l n) (e%(2*k+1)-k)) (mkM (rawI c r n) (f%(2*k+1)-k)) (mkX (rawI c r n) (f%(2*k+1)-k)))),(.bool (decide ((l.length:Int)≤n∧(r.length:Int)≤n)))]):=by
 exact impl_ob hP hAmb Tryz.func78 (by kernel_rfl) (.lits 2<|.call (.tup [(yV (mkM (rawI b l n) (e%(2*k+1)-k)) (mkX (rawI b l n) (e%(2*k+1)-k))),(.bool (decide ((l.length:Int)≤n)))])<|.lits 3<|.call (.tup [(yV (mkM (rawI c r n) (f%(2*k+1)-k)) (mkX (rawI c r n) (f%(2*k+1)-k))),(.bool (decide ((r.length:Int)≤n)))])<|.lits 4<|.call (.int .i64 (cmpD (mkM (rawI b l n) (e%(2*k+1)-k)) (mkX (rawI b l n) (e%(2*k+1)-k)) (mkM (rawI c r n) (f%(2*k+1)-k)) (mkX (rawI c r n) (f%(2*k+1)-k))))<|.lit<|.both (.lits 7<|.both (.lits 3<|.ret) (.lits 3<|.ret)) (.lits 3<|.both (.lits 3<|.ret) (.lits 3<|.ret)))
  (cast_ob (aI True.intro (aI (mill_Dyadic b l e n k oA oA oA oA oA) (have f11:=(rawI_L (b:=b) ‹Dig l› (show (0:Int)≤n by first | omega | (simp<;>omega))); have f10:=mk_facts (rawI b l n) (e%(2*k+1)-k); aI (mill_Dyadic c r f n k oA oA oA oA oA) (have f9:=(rawI_L (b:=c) ‹Dig r› (show (0:Int)≤n by first | omega | (simp<;>omega))); have f8:=mk_facts (rawI c r n) (f%(2*k+1)-k); aI (r08_Cmp (mkM (rawI b l n) (e%(2*k+1)-k)) (mkX (rawI b l n) (e%(2*k+1)-k)) (mkM (rawI c r n) (f%(2*k+1)-k)) (mkX (rawI c r n) (f%(2*k+1)-k)) oA oA oA oA) (have f7:=cmpD_range (mkM (rawI b l n) (e%(2*k+1)-k)) (mkX (rawI b l n) (e%(2*k+1)-k)) (mkM (rawI c r n) (f%(2*k+1)-k)) (mkX (rawI c r n) (f%(2*k+1)-k)); aI (fun (h1:(iGt (cmpD (mkM (rawI b l n) (e%(2*k+1)-k)) (mkX (rawI b l n) (e%(2*k+1)-k)) (mkM (rawI c r n) (f%(2*k+1)-k)) (mkX (rawI c r n) (f%(2*k+1)-k))) 0)=true)=>have _gh1:=iGt_t h1; aI (fun (h2:(decide ((l.length:Int)≤n))=true)=>have _gh2:=of_decide_eq_true h2; (W_of (sw_yes oO) (decide_eq_decide.2 oO):vsub (.tup [(wV (mkM (rawI c r n) (f%(2*k+1)-k)) (mkX (rawI c r n) (f%(2*k+1)-k)) (mkM (rawI b l n) (e%(2*k+1)-k)) (mkX (rawI b l n) (e%(2*k+1)-k))),(.bool (decide ((r.length:Int)≤n)))]) (.tup [(wV (swM (mkM (rawI b l n) (e%(2*k+1)-k)) (mkX (rawI b l n) (e%(2*k+1)-k)) (mkM (rawI c r n) (f%(2*k+1)-k)) (mkX (rawI c r n) (f%(2*k+1)-k))) (swX (mkM (rawI b l n) (e%(2*k+1)-k)) (mkX (rawI b l n) (e%(2*k+1)-k)) (mkM (rawI c r n) (f%(2*k+1)-k)) (mkX (rawI c r n) (f%(2*k+1)-k))) (swN (mkM (rawI b l n) (e%(2*k+1)-k)) (mkX (rawI b l n) (e%(2*k+1)-k)) (mkM (rawI c r n) (f%(2*k+1)-k)) (mkX (rawI c r n) (f%(2*k+1)-k))) (swF (mkM (rawI b l n) (e%(2*k+1)-k)) (mkX (rawI b l n) (e%(2*k+1)-k)) (mkM (rawI c r n) (f%(2*k+1)-k)) (mkX (rawI c r n) (f%(2*k+1)-k)))),(.bool (decide ((l.length:Int)≤n∧(r.length:Int)≤n)))]))) (fun (h3:(decide ((l.length:Int)≤n))=false)=>have _gh3:=of_decide_eq_false h3; (W_of (sw_yes oO) (decide_eq_false oO).symm:vsub (.tup [(wV (mkM (rawI c r n) (f%(2*k+1)-k)) (mkX (rawI c r n) (f%(2*k+1)-k)) (mkM (rawI b l n) (e%(2*k+1)-k)) (mkX (rawI b l n) (e%(2*k+1)-k))),(.bool false)]) (.tup [(wV (swM (mkM (rawI b l n) (e%(2*k+1)-k)) (mkX (rawI b l n) (e%(2*k+1)-k)) (mkM (rawI c r n) (f%(2*k+1)-k)) (mkX (rawI c r n) (f%(2*k+1)-k))) (swX (mkM (rawI b l n) (e%(2*k+1)-k)) (mkX (rawI b l n) (e%(2*k+1)-k)) (mkM (rawI c r n) (f%(2*k+1)-k)) (mkX (rawI c r n) (f%(2*k+1)-k))) (swN (mkM (rawI b l n) (e%(2*k+1)-k)) (mkX (rawI b l n) (e%(2*k+1)-k)) (mkM (rawI c r n) (f%(2*k+1)-k)) (mkX (rawI c r n) (f%(2*k+1)-k))) (swF (mkM (rawI b l n) (e%(2*k+1)-k)) (mkX (rawI b l n) (e%(2*k+1)-k)) (mkM (rawI c r n) (f%(2*k+1)-k)) (mkX (rawI c r n) (f%(2*k+1)-k)))),(.bool (decide ((l.length:Int)≤n∧(r.length:Int)≤n)))])))) (fun (h4:(iGt (cmpD (mkM (rawI b l n) (e%(2*k+1)-k)) (mkX (rawI b l n) (e%(2*k+1)-k)) (mkM (rawI c r n) (f%(2*k+1)-k)) (mkX (rawI c r n) (f%(2*k+1)-k))) 0)=false)=>have _gh4:=iGt_f h4; aI (fun (h5:(decide ((l.length:Int)≤n))=true)=>have _gh5:=of_decide_eq_true h5; (W_of (sw_no oO) (decide_eq_decide.2 oO):vsub (.tup [(wV (mkM (rawI b l n) (e%(2*k+1)-k)) (mkX (rawI b l n) (e%(2*k+1)-k)) (mkM (rawI c r n) (f%(2*k+1)-k)) (mkX (rawI c r n) (f%(2*k+1)-k))),(.bool (decide ((r.length:Int)≤n)))]) (.tup [(wV (swM (mkM (rawI b l n) (e%(2*k+1)-k)) (mkX (rawI b l n) (e%(2*k+1)-k)) (mkM (rawI c r n) (f%(2*k+1)-k)) (mkX (rawI c r n) (f%(2*k+1)-k))) (swX (mkM (rawI b l n) (e%(2*k+1)-k)) (mkX (rawI b l n) (e%(2*k+1)-k)) (mkM (rawI c r n) (f%(2*k+1)-k)) (mkX (rawI c r n) (f%(2*k+1)-k))) (swN (mkM (rawI b l n) (e%(2*k+1)-k)) (mkX (rawI b l n) (e%(2*k+1)-k)) (mkM (rawI c r n) (f%(2*k+1)-k)) (mkX (rawI c r n) (f%(2*k+1)-k))) (swF (mkM (rawI b l n) (e%(2*k+1)-k)) (mkX (rawI b l n) (e%(2*k+1)-k)) (mkM (rawI c r n) (f%(2*k+1)-k)) (mkX (rawI c r n) (f%(2*k+1)-k)))),(.bool (decide ((l.length:Int)≤n∧(r.length:Int)≤n)))]))) (fun (h6:(decide ((l.length:Int)≤n))=false)=>have _gh6:=of_decide_eq_false h6; (W_of (sw_no oO) (decide_eq_false oO).symm:vsub (.tup [(wV (mkM (rawI b l n) (e%(2*k+1)-k)) (mkX (rawI b l n) (e%(2*k+1)-k)) (mkM (rawI c r n) (f%(2*k+1)-k)) (mkX (rawI c r n) (f%(2*k+1)-k))),(.bool false)]) (.tup [(wV (swM (mkM (rawI b l n) (e%(2*k+1)-k)) (mkX (rawI b l n) (e%(2*k+1)-k)) (mkM (rawI c r n) (f%(2*k+1)-k)) (mkX (rawI c r n) (f%(2*k+1)-k))) (swX (mkM (rawI b l n) (e%(2*k+1)-k)) (mkX (rawI b l n) (e%(2*k+1)-k)) (mkM (rawI c r n) (f%(2*k+1)-k)) (mkX (rawI c r n) (f%(2*k+1)-k))) (swN (mkM (rawI b l n) (e%(2*k+1)-k)) (mkX (rawI b l n) (e%(2*k+1)-k)) (mkM (rawI c r n) (f%(2*k+1)-k)) (mkX (rawI c r n) (f%(2*k+1)-k))) (swF (mkM (rawI b l n) (e%(2*k+1)-k)) (mkX (rawI b l n) (e%(2*k+1)-k)) (mkM (rawI c r n) (f%(2*k+1)-k)) (mkX (rawI c r n) (f%(2*k+1)-k)))),(.bool (decide ((l.length:Int)≤n∧(r.length:Int)≤n)))]))))))))) (by kernel_rfl))
end Go.Proofs.YtcbihoojfakhdaaGreatDoor

namespace Go.Proofs.YtcbihoojfakhdaaGreatDoor
theorem mkX_b {m e:Int}(hE:mkE m e=0):(m=0∧mkX m e=0)∨(m≠0∧e≤mkX m e∧mkX m e≤e+32*(L m.natAbs:Int)):=by
 rcases mk_cases hE with ⟨h,_,k⟩ | ⟨h,_,k,_⟩
 ·exact .inl ⟨h,k⟩
 ·have:=tz_L m.natAbs
  refine .inr ⟨h,?_,?_⟩<;>rw [k]<;>unfold de<;>omega
theorem mk_fit {m e:Int}(h:L m.natAbs≤900)(he:-60000≤e∧e≤30000):mkE m e=0∧L (mkM m e).natAbs≤L m.natAbs∧iMin e 0≤mkX m e∧mkX m e≤iMax e 0+32*(L m.natAbs:Int)∧vdb (mkM m e) (mkX m e)=true∧dv (mkM m e) (mkX m e)=dv m e:=by
 have hE:=mk_fine2 h he
 have h1:=mk_facts m e
 have h2:=iMin_range e 0
 have h3:e≤iMax e 0∧0≤iMax e 0:=by unfold iMax; split<;>omega
 refine ⟨hE,h1.1,?_,?_,vdb_mk,dv_mk hE⟩<;>rcases mkX_b hE with ⟨_,k⟩ | ⟨_,k,l⟩<;>omega
theorem of_fit {n:Int}(h:-9223372036854775808≤n∧n≤9223372036854775807):mkE n 0=0∧L (mkM n 0).natAbs≤2∧0≤mkX n 0∧mkX n 0≤64∧vdb (mkM n 0) (mkX n 0)=true∧dv (mkM n 0) (mkX n 0)=(n:Rat):=by
 have hl:=L_i64 h
 have h1:=mk_fit (m:=n) (e:=0) (by omega) (by omega)
 have h2:iMin 0 0=0:=rfl
 have h3:iMax 0 0=0:=rfl
 rw [h2,h3,dv_int] at h1
 exact ⟨h1.1,by omega,h1.2.2.1,by omega,h1.2.2.2.2.1,h1.2.2.2.2.2⟩
theorem rawD_fit {b:Bool}{l:List Nat}{n e k:Int}(hl:Dig l)(hn:0≤n∧n≤800)(hk:0≤k∧k≤20000) :
  L (mkM (rawI b l n) (e%(2*k+1)-k)).natAbs≤n∧-k≤mkX (rawI b l n) (e%(2*k+1)-k)∧mkX (rawI b l n) (e%(2*k+1)-k)≤k+32*n ∧
  vdb (mkM (rawI b l n) (e%(2*k+1)-k)) (mkX (rawI b l n) (e%(2*k+1)-k))=true:=by
 have h1:=rawI_L (b:=b) hl hn.1
 have h2:=Int.emod_nonneg e (show (2*k+1:Int)≠0 by omega)
 have h3:=Int.emod_lt_of_pos e (show (0:Int)<2*k+1 by omega)
 generalize hd:e%(2*k+1)-k=d
 have h4:=mk_fit (m:=rawI b l n) (e:=d) (by omega) (by omega)
 have h5:=iMin_range d 0
 have h6:iMax d 0=d∨iMax d 0=0:=by unfold iMax; split<;>simp
 refine ⟨by omega,by omega,by omega,h4.2.2.2.2.1⟩
theorem sw_fit {m e n f:Int}(h1:vdb m e=true)(h2:vdb n f=true):vdb (swM m e n f) (swX m e n f)=true∧vdb (swN m e n f) (swF m e n f)=true∧dv (swM m e n f) (swX m e n f)≤dv (swN m e n f) (swF m e n f):=by
 rcases sw_facts m e n f with ⟨h,a,b,c,d,_⟩ | ⟨h,a,b,c,d,_⟩
 ·rw [a,b,c,d]
  exact ⟨h2,h1,Rat.le_of_lt (cmpD_pos.1 h)⟩
 ·rw [a,b,c,d]
  refine ⟨h1,h2,Rat.not_lt.1 fun q=>?_⟩
  have:=cmpD_pos.2 q
  omega
theorem rawI_fit {b c:Bool}{l r:List Nat}{n e f k:Int}(hl:Dig l)(hr:Dig r)(hn:0≤n∧n≤800)(hk:0≤k∧k≤20000){m1 x1 m2 x2:Int}(e1:m1=mkM (rawI b l n) (e%(2*k+1)-k))(e2:x1=mkX (rawI b l n) (e%(2*k+1)-k))
  (e3:m2=mkM (rawI c r n) (f%(2*k+1)-k)) (e4:x2=mkX (rawI c r n) (f%(2*k+1)-k)) :
  (L (swM m1 x1 m2 x2).natAbs≤n∧-k≤swX m1 x1 m2 x2∧swX m1 x1 m2 x2≤k+32*n)∧(L (swN m1 x1 m2 x2).natAbs≤n∧-k≤swF m1 x1 m2 x2∧swF m1 x1 m2 x2≤k+32*n) ∧
  vdb (swM m1 x1 m2 x2) (swX m1 x1 m2 x2)=true∧vdb (swN m1 x1 m2 x2) (swF m1 x1 m2 x2)=true∧dv (swM m1 x1 m2 x2) (swX m1 x1 m2 x2)≤dv (swN m1 x1 m2 x2) (swF m1 x1 m2 x2):=by
 have h1:=rawD_fit (b:=b) (e:=e) hl hn hk
 have h2:=rawD_fit (b:=c) (e:=f) hr hn hk
 rw [← e1,← e2] at h1
 rw [← e3,← e4] at h2
 obtain ⟨a1,a2,a3,a4⟩:=h1
 obtain ⟨b1,b2,b3,b4⟩:=h2
 have h3:=sw_fit a4 b4
 rcases sw_facts m1 x1 m2 x2 with ⟨_,a,b,c,d,g,i⟩ | ⟨_,a,b,c,d,g,i⟩
 ·exact ⟨⟨by omega,by omega,by omega⟩,⟨by omega,by omega,by omega⟩,h3⟩
 ·exact ⟨⟨by omega,by omega,by omega⟩,⟨by omega,by omega,by omega⟩,h3⟩
theorem ad_fine {m e n f:Int}(hm:L m.natAbs≤300)(hn:L n.natAbs≤300)(he:-4000≤e∧e≤4000)(hf:-4000≤f∧f≤4000):mkE (adS m e n f) (iMin e f)=0:=by
 have h0:=iMin_range e f
 have h1:=L_abs_shl m (e-iMin e f).toNat
 have h2:=L_abs_shl n (f-iMin e f).toNat
 have h3:=L_abs_add (m*2^(e-iMin e f).toNat) (n*2^(f-iMin e f).toNat)
 exact mk_fine2 (by unfold adS; omega) (by omega)
theorem ml_fine {m e n f:Int}(hm:L m.natAbs≤400)(hn:L n.natAbs≤400)(he:-20000≤e∧e≤14000)(hf:-20000≤f∧f≤14000):mkE (m*n) (e+f)=0:=by
 have h1:=L_abs_mul m n
 exact mk_fine2 (by omega) (by omega)
theorem cmpQ_le {x y:Rat}:cmpQ x y≤0↔x≤y:=by
 rcases cmpQ_range x y with ⟨q,k⟩ | ⟨q,k⟩ | ⟨q,k⟩
 ·exact ⟨fun _=>Rat.le_of_lt k,fun _=>by omega⟩
 ·exact ⟨fun h=>by omega,fun h=>absurd h (Rat.not_le.2 k)⟩
 ·exact ⟨fun _=>by rw [k]; exact Rat.le_refl,fun _=>by omega⟩
end Go.Proofs.YtcbihoojfakhdaaGreatDoor


namespace Go.Proofs.YtcbihoojfakhdaaGreatDoor
theorem oM {p:Prop}(h:p:=by first | omega | exact ml_fine (by omega) (by omega) (by omega) (by omega) | exact ad_fine (by omega) (by omega) (by omega) (by omega) | exact (en_vdb _ _ _).1 | exact (en_vdb _ _ _).2):p:=h
theorem oD {p:Prop}(h:p:=by first | omega | exact ml_fine (by omega) (by omega) (by omega) (by omega) | exact ad_fine (by omega) (by omega) (by omega) (by omega) | exact (en_vdb _ _ _).1 | exact (en_vdb _ _ _).2 | decide):p:=h
theorem oN {p:Prop}(h:p:=by first | omega | exact ml_fine (by omega) (by omega) (by omega) (by omega) | exact ad_fine (by omega) (by omega) (by omega) (by omega) | exact (en_vdb _ _ _).1 | exact (en_vdb _ _ _).2 | assumption):p:=h
theorem oN2 {p:Prop}(h:p:=by first | omega | exact ml_fine (by omega) (by omega) (by omega) (by omega) | exact ad_fine (by omega) (by omega) (by omega) (by omega) | exact (en_vdb _ _ _).1 | exact (en_vdb _ _ _).2 | assumption | exact ad_fine (by omega) (by omega) (by omega) (by omega)):p:=h
theorem oP {p:Prop}(h:p:=by first | assumption | omega | exact o1.2.2.2.2.1):p:=h
theorem oW {p:Prop}(h:p:=by first | assumption | exact pw_or (by omega) | (simp; done) | omega):p:=h
theorem oS {p:Prop}(h:p:=by first | omega | assumption):p:=h
theorem oR {p:Prop}(h:p:=by first | omega | assumption | exact Rat.le_refl):p:=h
theorem oT {p:Prop}(h:p:=by first | assumption | omega | exact Rat.le_refl | exact of0.2.2.2.2.1):p:=h
theorem oU {p:Prop}(h:p:=by first | assumption | omega):p:=h
end Go.Proofs.YtcbihoojfakhdaaGreatDoor


namespace Go.Proofs.YtcbihoojfakhdaaGreatDoor
theorem bil_ge1 {x1 x2 a c l:Rat}(h1:x1≤a)(h2:a≤x2)(k1:l≤x1*c)(k2:l≤x2*c):l≤a*c:=by
 rcases (Rat.le_total:0≤c∨c≤0) with h | h
 ·exact Rat.le_trans k1 (Rat.mul_le_mul_of_nonneg_right h1 h)
 ·have e:(-x2)*(-c)≤(-a)*(-c):=Rat.le_trans (Rat.le_refl) (by
   have hc:0≤-c:=by grind
   have:=Rat.mul_le_mul_of_nonneg_right h2 hc
   grind)
  have e':x2*c≤a*c:=by grind
  exact Rat.le_trans k2 e'
theorem bil_ge {x1 x2 y1 y2 a b l:Rat}(h1:x1≤a)(h2:a≤x2)(g1:y1≤b)(g2:b≤y2)(k1:l≤x1*y1)(k2:l≤x1*y2)(k3:l≤x2*y1)(k4:l≤x2*y2):l≤a*b:=by
 refine bil_ge1 h1 h2 ?_ ?_
 ·rw [Rat.mul_comm]; exact bil_ge1 g1 g2 (by rw [Rat.mul_comm]; exact k1) (by rw [Rat.mul_comm]; exact k2)
 ·rw [Rat.mul_comm]; exact bil_ge1 g1 g2 (by rw [Rat.mul_comm]; exact k3) (by rw [Rat.mul_comm]; exact k4)
theorem bil_le {x1 x2 y1 y2 a b l:Rat}(h1:x1≤a)(h2:a≤x2)(g1:y1≤b)(g2:b≤y2)(k1:x1*y1≤l)(k2:x1*y2≤l)(k3:x2*y1≤l)(k4:x2*y2≤l):a*b≤l:=by
 have h:=bil_ge (x1:=-x2) (x2:=-x1) (y1:=y1) (y2:=y2) (a:=-a) (b:=b) (l:=-l) (by grind) (by grind) g1 g2 (by grind) (by grind) (by grind) (by grind)
 grind
theorem qmin_both (a b:Rat):qmin a b≤a∧qmin a b≤b:=by
 rcases qmin_or a b with ⟨h,k⟩ | ⟨h,k⟩<;>rw [h]
 ·exact ⟨Rat.le_of_lt k,Rat.le_refl⟩
 ·exact ⟨Rat.le_refl,k⟩
theorem qmax_both (a b:Rat):a≤qmax a b∧b≤qmax a b:=by
 rcases qmax_or a b with ⟨h,k⟩ | ⟨h,k⟩<;>rw [h]
 ·exact ⟨Rat.le_of_lt k,Rat.le_refl⟩
 ·exact ⟨Rat.le_refl,k⟩
theorem le_qmin {a b l:Rat}(h:l≤a)(k:l≤b):l≤qmin a b:=by rcases qmin_or a b with ⟨e,_⟩ | ⟨e,_⟩<;>rw [e]<;>assumption
theorem qmax_le2 {a b l:Rat}(h:a≤l)(k:b≤l):qmax a b≤l:=by rcases qmax_or a b with ⟨e,_⟩ | ⟨e,_⟩<;>rw [e]<;>assumption
theorem qmin4 (a b c d:Rat):qmin (qmin (qmin a b) c) d≤a∧qmin (qmin (qmin a b) c) d≤b∧qmin (qmin (qmin a b) c) d≤c∧qmin (qmin (qmin a b) c) d≤d:=by
 have h1:=qmin_both a b
 have h2:=qmin_both (qmin a b) c
 have h3:=qmin_both (qmin (qmin a b) c) d
 exact ⟨Rat.le_trans h3.1 (Rat.le_trans h2.1 h1.1),Rat.le_trans h3.1 (Rat.le_trans h2.1 h1.2),Rat.le_trans h3.1 h2.2,h3.2⟩
theorem qmax4 (a b c d:Rat):a≤qmax (qmax (qmax a b) c) d∧b≤qmax (qmax (qmax a b) c) d∧c≤qmax (qmax (qmax a b) c) d∧d≤qmax (qmax (qmax a b) c) d:=by
 have h1:=qmax_both a b
 have h2:=qmax_both (qmax a b) c
 have h3:=qmax_both (qmax (qmax a b) c) d
 exact ⟨Rat.le_trans h1.1 (Rat.le_trans h2.1 h3.1),Rat.le_trans h1.2 (Rat.le_trans h2.1 h3.1),Rat.le_trans h2.2 h3.1,h3.2⟩
theorem ml_in {m e n f p g q h:Int}{a b:Rat}(h1:dv m e≤a)(h2:a≤dv n f)(h3:dv p g≤b)(h4:b≤dv q h):mlLo m e n f p g q h≤a*b∧a*b≤mlHi m e n f p g q h:=by
 have l:=qmin4 (dv m e*dv p g) (dv m e*dv q h) (dv n f*dv p g) (dv n f*dv q h)
 have r:=qmax4 (dv m e*dv p g) (dv m e*dv q h) (dv n f*dv p g) (dv n f*dv q h)
 exact ⟨bil_ge h1 h2 h3 h4 l.1 l.2.1 l.2.2.1 l.2.2.2,bil_le h1 h2 h3 h4 r.1 r.2.1 r.2.2.1 r.2.2.2⟩
theorem nbits_L2 (a:Nat):nbits a≤32*L a:=by
 have:=nbits_L a; omega
theorem dm_nbits {m:Int}(h:m≠0):(nbits (dm m).natAbs:Int)+tz m.natAbs≤nbits m.natAbs:=by
 have h1:=dm_mul m
 have h2:m.natAbs=(dm m).natAbs*2^tz m.natAbs:=by
  have:=congrArg Int.natAbs h1
  rw [abs_shl] at this; exact this.symm
 have h3:=dm_ne h
 have h4:=nbits_le (show (dm m).natAbs≠0 by omega)
 have h5:=nbits_pos (show (dm m).natAbs≠0 by omega)
 have h6:=nbits_lt m.natAbs
 have h7:2^(nbits (dm m).natAbs-1+tz m.natAbs)≤m.natAbs:=by
  rw [Nat.pow_add]
  exact Nat.le_trans (Nat.mul_le_mul_right _ h4) (Nat.le_of_eq h2.symm)
 have h8:=(Nat.pow_lt_pow_iff_right (a:=2) (by omega)).1 (Nat.lt_of_le_of_lt h7 h6)
 omega
theorem end_ok {x w:Int}(h:L x.natAbs≤60)(hw:0≤w∧w≤300):endB (mkM x (-w)) (mkX x (-w))=true:=by
 have hf:=mk_fit (m:=x) (e:=-w) (by omega) (by omega)
 have hi:=iMin_range (-w) 0
 unfold endB onB topD
 simp only [Bool.and_eq_true,decide_eq_true_eq]
 by_cases hx:x=0
 ·subst hx
  rw [(mk_zero _).1,if_pos rfl]
  exact ⟨by omega,by omega,.inl rfl⟩
 ·have e1:mkM x (-w)=dm x:=by unfold mkM; rw [if_pos hf.1]
  have e2:mkX x (-w)=-w+(tz x.natAbs:Int):=by unfold mkX; rw [if_pos ⟨hf.1,hx⟩]; rfl
  have h1:=dm_nbits hx
  have h2:=nbits_L2 x.natAbs
  rw [e1,if_neg (dm_ne hx),e2]
  exact ⟨by omega,by omega,.inr (by omega)⟩
theorem en_ok {lo hi:Rat}{w:Int}(hw:0≤w∧w≤300)(h:lo≤hi)(h1:L (flr lo w).natAbs≤60)(h2:L (cei hi w).natAbs≤60):enE lo hi w=0:=by
 have a:=mk_fit (m:=flr lo w) (e:=-w) (by omega) (by omega)
 have b:=mk_fit (m:=cei hi w) (e:=-w) (by omega) (by omega)
 unfold enE
 rw [if_pos (by omega)]
 unfold ecE
 rw [if_pos]
 refine ⟨a.1,b.1,?_⟩
 unfold smB ivB
 rw [end_ok h1 hw,end_ok h2 hw,a.2.2.2.2.1,b.2.2.2.2.1]
 simp only [Bool.and_true,Bool.true_and,decide_eq_true_eq]
 rw [cmpD_dv,a.2.2.2.2.2,b.2.2.2.2.2]
 exact cmpQ_le.2 (Rat.le_trans (flr_le lo w) (Rat.le_trans h (cei_ge hi w)))
theorem flr_cei {lo hi:Rat}(h:lo≤hi)(w:Int):flr lo w≤cei hi w:=(dv_le (c:=-w)).1 (Rat.le_trans (flr_le lo w) (Rat.le_trans h (cei_ge hi w)))
theorem adS_L {m e n f:Int}{a c:Nat}(hm:L m.natAbs≤a)(hn:L n.natAbs≤a)(h:e-f≤32*c)(k:f-e≤32*c):L (adS m e n f).natAbs≤a+c+2:=by
 have h0:=iMin_range e f
 have h1:=L_abs_shl m (e-iMin e f).toNat
 have h2:=L_abs_shl n (f-iMin e f).toNat
 have h3:=L_abs_add (m*2^(e-iMin e f).toNat) (n*2^(f-iMin e f).toNat)
 unfold adS
 omega
theorem add_L {m e n f w:Int}(hm:L m.natAbs≤30)(hn:L n.natAbs≤30)(he:-300≤e∧e≤400)(hf:-300≤f∧f≤400)(hw:0≤w∧w≤200)(sh:L m.natAbs≤8∧L n.natAbs≤8:=by omega):L (flr (dv m e+dv n f) w).natAbs≤60∧L (cei (dv m e+dv n f) w).natAbs≤60:=by
 have h0:=iMin_range e f
 have h1:=adS_L (a:=8) (c:=22) sh.1 sh.2 (show e-f≤32*(22:Nat) by omega) (by omega)
 have h2:=flr_LD (adS m e n f) (iMin e f) w
 rw [dv_ad] at h2
 omega
theorem mul_L {m e n f w:Int}(hm:L m.natAbs≤8)(hn:L n.natAbs≤8)(he:-300≤e∧e≤400)(hf:-300≤f∧f≤400)(hw:0≤w∧w≤200):L (flr (dv m e*dv n f) w).natAbs≤60∧L (cei (dv m e*dv n f) w).natAbs≤60:=by
 have h1:=L_abs_mul m n
 have h2:=flr_LD (m*n) (e+f) w
 rw [dv_mul] at h2
 omega
theorem flr_qmin_L {a b:Rat}{w:Int}{k:Nat}(h:L (flr a w).natAbs≤k)(h':L (flr b w).natAbs≤k):L (flr (qmin a b) w).natAbs≤k:=by
 rcases qmin_or a b with ⟨e,_⟩ | ⟨e,_⟩<;>rw [e]<;>assumption
theorem cei_qmax_L {a b:Rat}{w:Int}{k:Nat}(h:L (cei a w).natAbs≤k)(h':L (cei b w).natAbs≤k):L (cei (qmax a b) w).natAbs≤k:=by
 rcases qmax_or a b with ⟨e,_⟩ | ⟨e,_⟩<;>rw [e]<;>assumption
def FitI (m e n f:Int):Prop:=(L m.natAbs≤8∧-300≤e∧e≤400)∧(L n.natAbs≤8∧-300≤f∧f≤400)∧dv m e≤dv n f
theorem ml_L {m e n f p g q h w:Int}(h1:FitI m e n f)(h2:FitI p g q h)(hw:0≤w∧w≤200):L (flr (mlLo m e n f p g q h) w).natAbs≤60∧L (cei (mlHi m e n f p g q h) w).natAbs≤60:=by
 obtain ⟨a,b,_⟩:=h1
 obtain ⟨c,d,_⟩:=h2
 have k1:=mul_L a.1 c.1 a.2 c.2 hw
 have k2:=mul_L a.1 d.1 a.2 d.2 hw
 have k3:=mul_L b.1 c.1 b.2 c.2 hw
 have k4:=mul_L b.1 d.1 b.2 d.2 hw
 exact ⟨flr_qmin_L (flr_qmin_L (flr_qmin_L k1.1 k2.1) k3.1) k4.1,cei_qmax_L (cei_qmax_L (cei_qmax_L k1.2 k2.2) k3.2) k4.2⟩
theorem ml_le {m e n f p g q h:Int}(h1:dv m e≤dv n f)(h2:dv p g≤dv q h):mlLo m e n f p g q h≤mlHi m e n f p g q h :=
 have k:=ml_in (a:=dv m e) (b:=dv p g) Rat.le_refl h1 Rat.le_refl h2
 Rat.le_trans k.1 k.2
theorem ml_ok {m e n f p g q h w:Int}(h1:FitI m e n f)(h2:FitI p g q h)(hw:0≤w∧w≤200):enE (mlLo m e n f p g q h) (mlHi m e n f p g q h) w=0:=by
 have k:=ml_L h1 h2 hw
 exact en_ok (by omega) (ml_le h1.2.2 h2.2.2) k.1 k.2
theorem sb_L {m e n f p g q h w:Int}(h1:FitI m e n f)(h2:FitI p g q h)(hw:0≤w∧w≤200) :
  (L (flr (dv m e+(-(dv q h))) w).natAbs≤60∧L (cei (dv n f+(-(dv p g))) w).natAbs≤60)∧dv m e+(-(dv q h))≤dv n f+(-(dv p g)):=by
 obtain ⟨a,b,o⟩:=h1
 obtain ⟨c,d,o'⟩:=h2
 have l1:=L_abs_neg p
 have l2:=L_abs_neg q
 rw [← dv_neg,← dv_neg]
 refine ⟨⟨(add_L (by omega) (by omega) a.2 d.2 hw).1,(add_L (by omega) (by omega) b.2 c.2 hw).2⟩,?_⟩
 rw [dv_neg,dv_neg]
 exact q_add_le o (Rat.neg_le_neg o')
theorem sb_ok {m e n f p g q h w:Int}(h1:FitI m e n f)(h2:FitI p g q h)(hw:0≤w∧w≤200):enE (dv m e+(-(dv q h))) (dv n f+(-(dv p g))) w=0:=by
 have k:=sb_L h1 h2 hw
 exact en_ok (by omega) k.2 k.1.1 k.1.2
end Go.Proofs.YtcbihoojfakhdaaGreatDoor



namespace Go.Proofs.YtcbihoojfakhdaaGreatDoor
theorem fl_R {a T:Int}(hT:0<T):((a / T:Int):Rat)*(T:Rat)≤(a:Rat)∧(a:Rat)<((a / T:Int):Rat)*(T:Rat)+(T:Rat):=by
 have h1:=Int.ediv_mul_le a (show T≠0 by omega)
 have h2:=Int.lt_ediv_add_one_mul_self a hT
 rw [Int.add_mul,Int.one_mul] at h2
 rw [← Rat.intCast_mul,← Rat.intCast_add,Rat.intCast_le_intCast,Rat.intCast_lt_intCast]
 exact ⟨h1,h2⟩
theorem ce_R {a T:Int}(hT:0<T):(a:Rat)≤((-(-a / T):Int):Rat)*(T:Rat)∧((-(-a / T):Int):Rat)*(T:Rat)<(a:Rat)+(T:Rat):=by
 have h:=fl_R (a:=-a) hT
 rw [Rat.intCast_neg] at h ⊢
 constructor<;>grind
theorem least {P:Nat→Prop}[DecidablePred P]:∀ {n:Nat},P n→∃ N,N≤n∧P N∧∀ j,j<N→¬ P j
 | 0,h=>⟨0,Nat.le_refl _,h,fun j hj=>by omega⟩
 | n+1,h=>by
  by_cases q:∃ m,m≤n∧P m
  ·obtain ⟨m,hm,pm⟩:=q
   obtain ⟨N,hN,pN,hj⟩:=least pm
   exact ⟨N,by omega,pN,hj⟩
  ·exact ⟨n+1,Nat.le_refl _,h,fun j hj pj=>q ⟨j,by omega,pj⟩⟩
def ptLo (a d:Int):Int:=((a.natAbs / d.toNat:Nat):Int)
def ptHi (b d:Int):Int:=((b.natAbs / d.toNat+(if b.natAbs%d.toNat=0 then 0 else 1):Nat):Int)
theorem ptLo_eq {a d:Int}(ha:0≤a)(hd:0<d):ptLo a d=a / d:=by
 unfold ptLo
 obtain ⟨x,rfl⟩:=Int.eq_ofNat_of_zero_le ha
 obtain ⟨y,rfl⟩:=Int.eq_ofNat_of_zero_le (show 0≤d by omega)
 simp
theorem ptHi_eq {b d : Int} (hb : 0 ≤ b) (hd : 0 < d) : ptHi b d = -(-b / d) := by
  unfold ptHi
  obtain ⟨x, rfl⟩ := Int.eq_ofNat_of_zero_le hb
  obtain ⟨y, rfl⟩ := Int.eq_ofNat_of_zero_le (show 0 ≤ d by omega)
  simp only [Int.natAbs_natCast, Int.toNat_natCast]
  have e := Nat.div_add_mod x y
  have l := Nat.mod_lt x (show 0 < y by omega)
  have key : ∀ q : Int, q * (y : Int) ≤ -(x : Int) → -(x : Int) < (q + 1) * (y : Int) → -(x : Int) / (y : Int) = q := by
    intro q h1 h2
    have a1 := Int.le_ediv_of_mul_le hd h1
    have a2 := Int.ediv_lt_of_lt_mul hd h2
    omega
  have ei : ((y : Int)) * ((x / y : Nat) : Int) + ((x % y : Nat) : Int) = (x : Int) := by
    have := congrArg (Nat.cast : Nat → Int) e
    push_cast at this ⊢
    exact this
  split
  · rename_i h0
    rw [key (-((x / y : Nat) : Int)) (by rw [h0] at ei; grind) (by rw [h0] at ei; grind)]
    omega
  · rename_i h0
    rw [key (-((x / y : Nat) : Int) - 1) (by have : ((x % y : Nat) : Int) ≤ y := by omega
                                             grind) (by have : (0 : Int) < ((x % y : Nat) : Int) := by omega
                                                        grind)]
    omega
structure ArH (T x1 x2:Int):Prop where
 hT:8≤T
 h1:0≤x1
 h2:x1≤x2
 h3:2*x2≤T
end Go.Proofs.YtcbihoojfakhdaaGreatDoor

namespace Go.Proofs.YtcbihoojfakhdaaGreatDoor
theorem dv_sc (x:Int)(t:Nat):dv x (-(t:Int))*((2^t:Int):Rat)=(x:Rat):=by
 have e:((2^t:Int):Rat)=(2:Rat)^(t:Int):=(zp_nat t).symm
 unfold dv
 rw [e,Rat.mul_assoc,Rat.mul_comm ((2:Rat)^(-(t:Int))),zp_cancel,Rat.mul_one]
theorem flr_sc (r:Rat)(t:Nat):((flr r t:Int):Rat)≤r*((2^t:Int):Rat)∧r*((2^t:Int):Rat)<((flr r t:Int):Rat)+1:=by
 have T0:(0:Rat)<((2^t:Int):Rat):=Rat.intCast_pos.2 (two_pos t)
 have a:=Rat.mul_le_mul_of_nonneg_right (flr_le r t) (Rat.le_of_lt T0)
 have b:=Rat.mul_lt_mul_of_pos_right (flr_lt r t) T0
 rw [dv_sc] at a b
 rw [Rat.intCast_add] at b
 exact ⟨a,b⟩
theorem cei_sc (r:Rat)(t:Nat):r*((2^t:Int):Rat)≤((cei r t:Int):Rat)∧((cei r t:Int):Rat)<r*((2^t:Int):Rat)+1:=by
 have h:=flr_sc (-r) t
 unfold cei
 rw [Rat.intCast_neg]
 constructor<;>grind
theorem flr_cei1 (r:Rat)(t:Nat):cei r t≤flr r t+1∧flr r t≤cei r t:=by
 have a:=flr_sc r t
 have b:=cei_sc r t
 constructor
 ·refine Decidable.byContradiction fun hn=>?_
  have:((flr r t+2:Int):Rat)≤((cei r t:Int):Rat):=Rat.intCast_le_intCast.2 (by omega)
  rw [Rat.intCast_add,show ((2:Int):Rat)=2 from rfl] at this
  grind
 ·refine Rat.intCast_le_intCast.1 ?_
  grind
structure LnH (T:Int) (M Z:Rat) (d1 d2 xa xb:Int):Prop where
 hT:256≤T
 m1:3≤4*M
 m2:2*M≤3
 xa1:(xa:Rat)≤M*(T:Rat)
 xb1:M*(T:Rat)≤(xb:Rat)
 x2:xb≤xa+1
 d0:0≤d1
 d3:d2≤d1+1
 z0:0≤Z
 z2:2*(Z*(M+1))≤1
 dz1:(d1:Rat)≤Z*(M+1)*(T:Rat)
 dz2:Z*(M+1)*(T:Rat)≤(d2:Rat)
end Go.Proofs.YtcbihoojfakhdaaGreatDoor

namespace Go.Proofs.YtcbihoojfakhdaaGreatDoor
structure RrH (v:Nat) (x1 x2:Int):Prop where
 hv:8≤v
 h1:x1.natAbs≤2^(v-1)
 h2:x2.natAbs≤2^(v-1)
end Go.Proofs.YtcbihoojfakhdaaGreatDoor

namespace Go.Proofs.YtcbihoojfakhdaaGreatDoor
theorem of_ge {m e s:Int}(h:0≤e+s):m*2^(e+s).toNat=flr (dv m e) s∧m*2^(e+s).toNat=cei (dv m e) s:=by
 have a:flr (dv m e) s=m*2^(e+s).toNat:=by rw [flr_dv,if_pos h]
 have b:flr (dv (-m) e) s=-m*2^(e+s).toNat:=by rw [flr_dv,if_pos h]
 refine ⟨a.symm,?_⟩
 unfold cei
 rw [← dv_neg,b,Int.neg_mul,Int.neg_neg]
theorem of_lt {m e s:Int}(h:e+s<0):m / 2^(0-(e+s)).toNat=flr (dv m e) s∧-(-m / 2^(0-(e+s)).toNat)=cei (dv m e) s:=by
 have a:flr (dv m e) s=m / 2^(-(e+s)).toNat:=by rw [flr_dv,if_neg (by omega)]
 have b:flr (dv (-m) e) s=-m / 2^(-(e+s)).toNat:=by rw [flr_dv,if_neg (by omega)]
 rw [show (0:Int)-(e+s)=-(e+s) by omega]
 refine ⟨a.symm,?_⟩
 unfold cei
 rw [← dv_neg,b]
theorem half_enc {a b:Int}{X:Rat}{t s n:Nat}(h:t=s+n)(h1:(a:Rat)≤X*((2^t:Int):Rat))(h2:X*((2^t:Int):Rat)≤(b:Rat)) :
  ((a / 2^n:Int):Rat)≤X*((2^s:Int):Rat)∧X*((2^s:Int):Rat)≤((-(-b / 2^n):Int):Rat):=by
 have n0:(0:Rat)<((2^n:Int):Rat):=Rat.intCast_pos.2 (two_pos n)
 have e:((2^t:Int):Rat)=((2^s:Int):Rat)*((2^n:Int):Rat):=by rw [h,Int.pow_add,Rat.intCast_mul]
 rw [e,← Rat.mul_assoc] at h1 h2
 have f:=(fl_R (a:=a) (two_pos n)).1
 have g:=(ce_R (a:=b) (two_pos n)).1
 exact ⟨Rat.le_of_mul_le_mul_right (Rat.le_trans f h1) n0,Rat.le_of_mul_le_mul_right (Rat.le_trans h2 g) n0⟩
theorem half_w {a b W:Int}{n:Nat}(h:b-a≤W*2^n):-(-b / 2^n)-a / 2^n≤W+1:=by
 have n0:=two_pos n
 have f1:=Int.lt_ediv_add_one_mul_self a n0
 have f2:=Int.lt_ediv_add_one_mul_self (-b) n0
 generalize a / 2^n=u at *
 generalize -b / 2^n=v at *
 generalize (2:Int)^n=T at *
 refine Decidable.byContradiction fun hn=>?_
 have m:=Int.mul_le_mul_of_nonneg_right (show W+2≤-v-u by omega) (show 0≤T by omega)
 grind
def tmLo (a b k:Int):Int:=if k<0 then b*k else a*k
def tmHi (a b k:Int):Int:=if k<0 then a*k else b*k
theorem tm_enc {a b k:Int}{y:Rat}(h1:(a:Rat)≤y)(h2:y≤(b:Rat)):((tmLo a b k:Int):Rat)≤y*k∧y*k≤((tmHi a b k:Int):Rat):=by
 unfold tmLo tmHi
 split
 ·rename_i h
  have k0:(0:Rat)≤-(k:Rat):=by rw [← Rat.intCast_neg]; exact Rat.intCast_nonneg.2 (by omega)
  have m1:=Rat.mul_le_mul_of_nonneg_right h1 k0
  have m2:=Rat.mul_le_mul_of_nonneg_right h2 k0
  rw [Rat.intCast_mul,Rat.intCast_mul]
  constructor<;>grind
 ·rename_i h
  have k0:(0:Rat)≤(k:Rat):=Rat.intCast_nonneg.2 (by omega)
  have m1:=Rat.mul_le_mul_of_nonneg_right h1 k0
  have m2:=Rat.mul_le_mul_of_nonneg_right h2 k0
  rw [Rat.intCast_mul,Rat.intCast_mul]
  exact ⟨m1,m2⟩
theorem tm_w {a b k W:Int}(hab:a≤b)(hk:-W≤k∧k≤W)(h:b-a<16777216):tmHi a b k-tmLo a b k≤16777216*W:=by
 unfold tmLo tmHi
 have key:∀ {x y:Int},0≤x→x≤16777216→0≤y→y≤W→x*y≤16777216*W:=fun h1 h2 h3 h4 =>
  Int.le_trans (Int.mul_le_mul_of_nonneg_right h2 h3) (Int.mul_le_mul_of_nonneg_left h4 (by omega))
 split
 ·have:=key (x:=b-a) (y:=-k) (by omega) (by omega) (by omega) (by omega)
  rw [Int.mul_neg,Int.sub_mul] at this
  omega
 ·have:=key (x:=b-a) (y:=k) (by omega) (by omega) (by omega) (by omega)
  rw [Int.sub_mul] at this
  omega
theorem cl_sc {x:Int}{t:Nat}{P:Int}(ht:t≤430):(x*2^(430-t)≤P→(x:Rat)≤dv P (-430)*((2^t:Int):Rat))∧(P≤x*2^(430-t)→dv P (-430)*((2^t:Int):Rat)≤(x:Rat)):=by
 have T0:(0:Rat)<((2^t:Int):Rat):=Rat.intCast_pos.2 (two_pos t)
 have e:dv (x*2^(430-t)) (-430)*((2^t:Int):Rat)=(x:Rat):=by
  rw [dv_shl,show (-430:Int)+((430-t:Nat):Int)=-(t:Int) by omega,dv_sc]
 constructor
 ·intro h
  have a:=Rat.mul_le_mul_of_nonneg_right ((dv_le (c:=-430)).2 h) (Rat.le_of_lt T0)
  rwa [e] at a
 ·intro h
  have a:=Rat.mul_le_mul_of_nonneg_right ((dv_le (c:=-430)).2 h) (Rat.le_of_lt T0)
  rwa [e] at a
def Encl (f:Nat→Rat)(s:Nat)(lo hi:Int):Prop:=∃ N,∀ K,N≤K→(lo:Rat)≤f K*((2^s:Int):Rat)∧f K*((2^s:Int):Rat)≤(hi:Rat)
theorem Encl.half {f:Nat→Rat}{t s n:Nat}{a b:Int}(h:Encl f t a b)(e:t=s+n):Encl f s (a / 2^n) (-(-b / 2^n)):=by
 obtain ⟨N,h⟩:=h
 exact ⟨N,fun K hK=>half_enc e (h K hK).1 (h K hK).2⟩
theorem Encl.le {f:Nat→Rat}{s:Nat}{a b:Int}(h:Encl f s a b):a≤b:=by
 obtain ⟨N,h⟩:=h
 exact Rat.intCast_le_intCast.1 (Rat.le_trans (h N (Nat.le_refl _)).1 (h N (Nat.le_refl _)).2)
theorem Encl.meet {f:Nat→Rat}{s n:Nat}{a b c d:Int}(h:Encl f s a b)(k:Encl f (s+n) c d):a*2^n≤d∧c≤b*2^n:=by
 obtain ⟨N,h⟩:=h
 obtain ⟨N',k⟩:=k
 have x:=h (N+N') (by omega)
 have y:=k (N+N') (by omega)
 have n0:(0:Rat)<((2^n:Int):Rat):=Rat.intCast_pos.2 (two_pos n)
 rw [Int.pow_add,Rat.intCast_mul,← Rat.mul_assoc] at y
 have m1:=Rat.mul_le_mul_of_nonneg_right x.1 (Rat.le_of_lt n0)
 have m2:=Rat.mul_le_mul_of_nonneg_right x.2 (Rat.le_of_lt n0)
 rw [← Rat.intCast_mul] at m1 m2
 exact ⟨Rat.intCast_le_intCast.1 (Rat.le_trans m1 y.2),Rat.intCast_le_intCast.1 (Rat.le_trans y.1 m2)⟩
theorem cmpI_le (x y:Int):cmpI x y≤0↔x≤y:=by unfold cmpI; split<;>(try split)<;>omega
theorem Sp_of {a b c d:Int}(h1:a=c)(h2:b=d):vsub (.agg [.bool (decide (a<0)),N a.natAbs,.bool (decide (b<0)),N b.natAbs]) (.agg [.bool (decide (c<0)),N c.natAbs,.bool (decide (d<0)),N d.natAbs]):=by
 subst h1; subst h2; exact vsub_refl _
theorem pt_hi1 {b d:Int}(h:((b.natAbs%d.toNat:Nat):Int)≠0):sgn false (b.natAbs / d.toNat+(1:Int).toNat)=ptHi b d:=by
 unfold ptHi
 rw [if_neg (by omega)]; rfl
theorem pt_hi2 {b d:Int}(h:((b.natAbs%d.toNat:Nat):Int)=0):sgn false (b.natAbs / d.toNat)=ptHi b d:=by
 unfold ptHi
 rw [if_pos (by omega)]; rfl
theorem tiny_8 {b:Int}:iLe (nbits b.natAbs:Int) 3=decide (b.natAbs<8):=by
 unfold iLe
 have h:(nbits b.natAbs:Int)≤3↔b.natAbs<8:=by
  constructor
  ·intro h
   have l:=nbits_lt b.natAbs
   have:=Nat.pow_le_pow_right (n:=2) (by omega) (show nbits b.natAbs≤3 by omega)
   omega
  ·intro h
   have:=nbits_of_lt (x:=b.natAbs) (k:=3) (by omega)
   omega
 exact decide_eq_decide.2 h
end Go.Proofs.YtcbihoojfakhdaaGreatDoor

namespace Go.Proofs.YtcbihoojfakhdaaGreatDoor
open Go.RowKit
set_option maxRecDepth 100000
theorem fx_One (s:Int)(c0:(0:Int)≤s∧s≤20000):Impl Tryz.prog Amb 213 [(.int .i64 s)] (sV ((1:Int)*2^(s).toNat) ((1:Int)*2^(s).toNat)):=by
 exact impl_ob hP hAmb Tryz.func213 (by kernel_rfl) (.lit<|.call (zV (1:Int))<|.lit<|.call (zV ((1:Int)*2^(s).toNat))<|.lit<|.call (sV ((1:Int)*2^(s).toNat) ((1:Int)*2^(s).toNat))<|.lits 2<|.ret)
  (cast_ob (aI True.intro (aI (int_Of 1 oO) (have f2:=(L_i64 oO:L (1:Int).natAbs≤2); aI (int_Shl (1:Int) s oO oO) (have f1:=L_abs_shl (1:Int) (s).toNat; aI (fx_Exact ((1:Int)*2^(s).toNat) oO) ((vsub_refl (sV ((1:Int)*2^(s).toNat) ((1:Int)*2^(s).toNat)))))))) (by kernel_rfl))
theorem fx_Of (m e s:Int)(c0:L (m).natAbs≤8192)(c1:(-200000:Int)≤e∧e≤200000)(c2:(0:Int)≤s∧s≤20000):Impl Tryz.prog Amb 161 [(yV m e),(.int .i64 s)] (sV (flr (dv m e) s) (cei (dv m e) s)):=by
 exact impl_ob hP hAmb Tryz.func161 (by kernel_rfl) (.lits 2<|.yes<|.lit<|.both (.lits 2<|.call (zV (m*2^((e+s)).toNat))<|.lit<|.call (sV (m*2^((e+s)).toNat) (m*2^((e+s)).toNat))<|.lits 2<|.ret) (.lits 2<|.call (sV m m)<|.lit<|.yes<|.lit<|.call (sV (m / 2^(((0:Int)-(e+s))).toNat) (-(-m / 2^(((0:Int)-(e+s))).toNat)))<|.lits 2<|.ret))
  (cast_ob (aI True.intro (aI (fits_i64 oO:(fits .i64 (e+s))=true) (aI (fun (h1:(iGe (e+s) 0)=true)=>have _gh1:=iGe_t h1; aI (int_Shl m (e+s) oO oO) (have f2:=L_abs_shl m ((e+s)).toNat; aI (fx_Exact (m*2^((e+s)).toNat) oO) ((by rw [← (of_ge (m:=m) (e:=e) (s:=s) oO).1,← (of_ge (m:=m) (e:=e) (s:=s) oO).2]; exact vsub_refl _:vsub (sV (m*2^((e+s)).toNat) (m*2^((e+s)).toNat)) (sV (flr (dv m e) s) (cei (dv m e) s)))))) (fun (h3:(iGe (e+s) 0)=false)=>have _gh3:=iGe_f h3; aI (fx_Exact m oO) (aI (fits_i64 oO:(fits .i64 ((0:Int)-(e+s)))=true) (aI (fx_Half m m ((0:Int)-(e+s)) oO oO oO) (have f7:=L_abs_neg (-m / 2^(((0:Int)-(e+s))).toNat); have f6:=L_abs_shr (-m) (((0:Int)-(e+s))).toNat; have f5:=L_abs_neg m; have f4:=L_abs_shr m (((0:Int)-(e+s))).toNat; (by rw [← (of_lt (m:=m) (e:=e) (s:=s) oO).1,← (of_lt (m:=m) (e:=e) (s:=s) oO).2]; exact vsub_refl _:vsub (sV (m / 2^(((0:Int)-(e+s))).toNat) (-(-m / 2^(((0:Int)-(e+s))).toNat))) (sV (flr (dv m e) s) (cei (dv m e) s)))))))))) (by kernel_rfl))
theorem fx_Mul (a b c d s:Int)(c0:L (a).natAbs≤8192)(c1:L (b).natAbs≤8192)(c2:L (c).natAbs≤8192)(c3:L (d).natAbs≤8192)(c4:(0:Int)≤s∧s≤20000):Impl Tryz.prog Amb 236 [(sV a b),(sV c d),(.int .i64 s)] (sV (a*c / 2^(s).toNat) (-(-(b*d) / 2^(s).toNat))):=by
 exact impl_ob hP hAmb Tryz.func236 (by kernel_rfl) (.lits 3<|.call (zV (a*c))<|.lit<|.call (zV ((a*c) / 2^(s).toNat))<|.lits 3<|.call (zV (b*d))<|.lit<|.call (zV (-(-(b*d) / 2^(s).toNat)))<|.lits 3<|.ret)
  (cast_ob (aI True.intro (aI (int_Mul a c oO oO) (have f6:=L_abs_mul a c; aI (int_Shr (a*c) s oO oO) (have f5:=L_abs_shr (a*c) (s).toNat; aI (int_Mul b d oO oO) (have f4:=L_abs_mul b d; aI (fx_up (b*d) s oO oO) (have f3:=L_abs_neg (-(b*d) / 2^(s).toNat); have f2:=L_abs_shr (-(b*d)) (s).toNat; have f1:=L_abs_neg (b*d); (vsub_of (by first | rfl | simp_all):vsub (sV ((a*c) / 2^(s).toNat) (-(-(b*d) / 2^(s).toNat))) (sV (a*c / 2^(s).toNat) (-(-(b*d) / 2^(s).toNat)))))))))) (by kernel_rfl))
theorem fx_TimesN (a b n:Int)(c0:L (a).natAbs≤65536)(c1:L (b).natAbs≤65536)(c2:(-9223372036854775808:Int)≤n∧n<0):Impl Tryz.prog Amb 165 [(sV a b),(.int .i64 n)] (sV (b*n) (a*n)):=by
 exact impl_ob hP hAmb Tryz.func165 (by kernel_rfl) (.lit<|.call (zV n)<|.lits 2<|.yes<|.lits 3<|.call (zV (b*n))<|.lits 3<|.call (zV (a*n))<|.lits 3<|.ret)
  (cast_ob (aI True.intro (aI (int_Of n oO) (have f3:=(L_i64 oO:L (n:Int).natAbs≤2); aI (iLt_mk oO:(iLt n 0)=true) (aI (int_Mul b n oO oO) (have f2:=L_abs_mul b n; aI (int_Mul a n oO oO) (have f1:=L_abs_mul a n; (vsub_refl (sV (b*n) (a*n))))))))) (by kernel_rfl))
theorem fx_TimesA (a b n:Int)(c0:L (a).natAbs≤65536)(c1:L (b).natAbs≤65536)(c2:(-9223372036854775808:Int)≤n∧n≤9223372036854775807):Impl Tryz.prog Amb 165 [(sV a b),.int .i64 n] (sV (tmLo a b n) (tmHi a b n)):=by
 by_cases h:n<0
 ·unfold tmLo tmHi
  rw [if_pos h,if_pos h]
  exact fx_TimesN a b n c0 c1 ⟨by omega,h⟩
 ·unfold tmLo tmHi
  rw [if_neg h,if_neg h]
  exact fx_Times a b n c0 c1 ⟨by omega,by omega⟩
theorem fx_Part (a b d:Int)(c0:L (a).natAbs≤65536)(c1:L (b).natAbs≤65536)(c2:(0:Int)<d∧d<4294967296):Impl Tryz.prog Amb 242 [(sV a b),(.int .u32 d)] (sV (ptLo a d) (ptHi b d)):=by
 have z1:=L_lit 1 (by decide)
 exact impl_ob hP hAmb Tryz.func242 (by kernel_rfl) (.lits 2<|.call (.tup [(N (a.natAbs / (d).toNat)),(.int .u32 ((a.natAbs%(d).toNat:Nat):Int)),(.bool true)])<|.lits 2<|.call (.tup [(N (b.natAbs / (d).toNat)),(.int .u32 ((b.natAbs%(d).toNat:Nat):Int)),(.bool true)])<|.lit<|.both (.lit<|.call (N 1)<|.lit<|.call (N ((b.natAbs / (d).toNat)+1))<|.lit<|.call (zV (sgn false (a.natAbs / (d).toNat)))<|.lit<|.call (zV (sgn false ((b.natAbs / (d).toNat)+1)))<|.lits 3<|.ret) (.lit<|.call (zV (sgn false (a.natAbs / (d).toNat)))<|.lit<|.call (zV (sgn false (b.natAbs / (d).toNat)))<|.lits 3<|.ret))
  (cast_ob (aI True.intro (aI (quot_SmallI a.natAbs d oO oO) (have f9:=L_div a.natAbs (d).toNat; aI (quot_SmallI b.natAbs d oO oO) (have f8:=L_div b.natAbs (d).toNat; aI (fun (h1:(iNe ((b.natAbs%(d).toNat:Nat):Int) 0)=true)=>have _gh1:=iNe_t h1; aI (nat_Of 1 oO) (aI (nat_Add (b.natAbs / (d).toNat) 1 oO oO) (have f4:=L_add (b.natAbs / (d).toNat) 1; aI (int_Nat false (a.natAbs / (d).toNat) oO) (have f3:=L_sgn false (a.natAbs / (d).toNat); aI (int_Nat false ((b.natAbs / (d).toNat)+1) oO) (have f2:=L_sgn false ((b.natAbs / (d).toNat)+1); (Sp_of rfl (pt_hi1 oO):vsub (sV (sgn false (a.natAbs / (d).toNat)) (sgn false ((b.natAbs / (d).toNat)+1))) (sV (ptLo a d) (ptHi b d)))))))) (fun (h5:(iNe ((b.natAbs%(d).toNat:Nat):Int) 0)=false)=>have _gh5:=iNe_f h5; aI (int_Nat false (a.natAbs / (d).toNat) oO) (have f7:=L_sgn false (a.natAbs / (d).toNat); aI (int_Nat false (b.natAbs / (d).toNat) oO) (have f6:=L_sgn false (b.natAbs / (d).toNat); (Sp_of rfl (pt_hi2 oO):vsub (sV (sgn false (a.natAbs / (d).toNat)) (sgn false (b.natAbs / (d).toNat))) (sV (ptLo a d) (ptHi b d)))))))))) (by kernel_rfl))
theorem fx_tiny (b:Int)(c0:L (b).natAbs≤65536):Impl Tryz.prog Amb 249 [(zV b)] (.bool (decide ((b).natAbs<8))):=by
 exact impl_ob hP hAmb Tryz.func249 (by kernel_rfl) (.lits 2<|.call (.int .i64 (nbits b.natAbs:Int))<|.lits 2<|.ret)
  (cast_ob (aI True.intro (aI (nat_Bits b.natAbs oO) (have f1:=nbits_L b.natAbs; (vsub_of (congrArg V.bool tiny_8):vsub (.bool (iLe (nbits b.natAbs:Int) 3)) (.bool (decide ((b).natAbs<8))))))) (by kernel_rfl))
theorem fx_Tiny (a b:Int)(c0:L (b).natAbs≤65536):Impl Tryz.prog Amb 241 [(sV a b)] (.bool (decide ((b).natAbs<8))):=by
 exact impl_ob hP hAmb Tryz.func241 (by kernel_rfl) (.lits 2<|.call (.bool (decide ((b).natAbs<8)))<|.lit<|.ret)
  (cast_ob (aI True.intro (aI (fx_tiny b oO) ((vsub_refl (.bool (decide ((b).natAbs<8))))))) (by kernel_rfl))
end Go.Proofs.YtcbihoojfakhdaaGreatDoor


namespace Go.Proofs.YtcbihoojfakhdaaGreatDoor
theorem cmpD_le {m e n f:Int}:cmpD m e n f≤0↔dv m e≤dv n f:=by rw [cmpD_dv,cmpQ_le]
end Go.Proofs.YtcbihoojfakhdaaGreatDoor


namespace Go.Proofs.YtcbihoojfakhdaaGreatDoor
theorem dv_ge0 {m e:Int}:0≤dv m e↔0≤m:=by rw [← dv_zero e,dv_le]
theorem dv_top {m e:Int}(hm:m≠0):dv (m.natAbs:Int) e<dv 1 (topD m e)∧dv 1 (topD m e-1)≤dv (m.natAbs:Int) e:=by
 have h1:=nbits_lt m.natAbs
 have h2:=nbits_le (show m.natAbs≠0 by omega)
 have h3:=nbits_pos (show m.natAbs≠0 by omega)
 have ht:topD m e=(nbits m.natAbs:Int)+e:=by unfold topD; rw [if_neg hm]
 constructor
 ·rw [dv_at (m:=1) (show e≤topD m e by omega),dv_lt,Int.one_mul,pow_cast,show (topD m e-e).toNat=nbits m.natAbs by omega]; omega
 ·rw [dv_at (m:=1) (show e≤topD m e-1 by omega),dv_le,Int.one_mul,pow_cast,show (topD m e-1-e).toNat=nbits m.natAbs-1 by omega]; omega
end Go.Proofs.YtcbihoojfakhdaaGreatDoor


namespace Go.Proofs.YtcbihoojfakhdaaGreatDoor
theorem dv_exp (m e k:Int):dv m e=dv m (e-k)*2^k:=by
 unfold dv
 rw [Rat.mul_assoc,← zp_add,show e-k+k=e by omega]
end Go.Proofs.YtcbihoojfakhdaaGreatDoor

namespace Go.Proofs.YtcbihoojfakhdaaGreatDoor
open Go.RowKit
set_option maxRecDepth 100000
def fx_Settle2_0_mk (fk:Nat)(u1:V)(u2:V)(_ _ w:Int)(x:Int):St:=⟨mkS 27 [(0,(.val (.int .i64 w))),(1,(.val (.clos fk [u1,u2]))),(4,(.own 0 0)),(5,(.val (.int .i64 24)))],[⟨true,false,[(V.bool false),V.nil,(V.bool false),V.nil]⟩]⟩
def fx_Settle2_0_I (_:Nat)(_:V)(_:V)(_ _ _:Int)(x:Int):Prop:=x=x
def fx_Settle2_0_mu (_:Nat)(_:V)(_:V)(_ _ _:Int)(x:Int):Nat:=0
def fx_Settle2_0_ex (_:Nat)(_:V)(_:V)(ka kb _:Int)(y:Int):Ex × St:=(.ret,⟨mkS 27 [(4,(.own 0 0))],[⟨true,false,[(V.bool (decide ((ka / 2^24)<0))),(N ((ka / 2^24).natAbs)),(V.bool (decide ((-(-kb / 2^24))<0))),(N ((-(-kb / 2^24)).natAbs))]⟩]⟩)
def fx_Settle2_0_J (_:Nat)(_:V)(_:V)(_ _ _:Int)(y:Int):Prop:=y=y
theorem fx_Settle2_0 (fk:Nat)(u1:V)(u2:V)(ka kb w:Int)(c0:Impl Tryz.prog Amb fk [(.int .i64 (w+24)),u1,u2] (sV ka kb))(c1:L ka.natAbs≤8192∧L kb.natAbs≤8192)(c2:nbits (kb-ka).natAbs≤24)(c3:(0:Int)≤w∧w≤5000)(x0:Int)(hI:fx_Settle2_0_I fk u1 u2 ka kb w x0):LoopOk Tryz.prog Amb (loopN Tryz.f133 0) (fx_Settle2_0_mk fk u1 u2 ka kb w x0) (fun e st_=>∃ y,fx_Settle2_0_J fk u1 u2 ka kb w y∧fx_Settle2_0_ex fk u1 u2 ka kb w y=(e,st_)) :=
 loop_ob hP hAmb ⟨[0,1,4,5],1,[]⟩ (fx_Settle2_0_mk fk u1 u2 ka kb w) (fx_Settle2_0_I fk u1 u2 ka kb w) (fx_Settle2_0_mu fk u1 u2 ka kb w) (fx_Settle2_0_ex fk u1 u2 ka kb w) (fx_Settle2_0_J fk u1 u2 ka kb w) x0 hI (fun j=>.lit<|.yes<|.lit<|.call (sV ka kb)<|.lits 3<|.call (zV (kb-ka))<|.lits 2<|.call (.int .i64 (nbits ((kb-ka).natAbs):Int))<|.lit<|.yes<|.lits 5<|.call (sV (ka / 2^24) (-(-kb / 2^24)))<|.lit<|.fin3 ⟨[4],[0]⟩) (by
  rintro j hI
  have hI:j=j:=hI
  have h1:=hI
  exact cast_ob (aI True.intro (aI (fits_i64 oS:(fits .i64 (w+24))=true) (aI (c0 ) (aI (fx_Width ka kb oS oS) (have f106:=L_abs_sub kb ka; aI (nat_Bits ((kb-ka).natAbs) oS) (have f105:=nbits_L ((kb-ka).natAbs); aI (iLe_mk oO:(iLe (nbits ((kb-ka).natAbs):Int) 24)=true) (aI (fx_Half ka kb 24 oS oS oS) (have f104:=L_abs_neg (-kb / 2^24); have f103:=L_abs_shr (-kb) 24; have f102:=L_abs_neg kb; have f101:=L_abs_shr ka 24; aI tT ((nx_ret ((fx_Settle2_0_ex fk u1 u2 ka kb w j).2) j (show j=j from rfl) rfl:NX (fx_Settle2_0_mk fk u1 u2 ka kb w) (fx_Settle2_0_I fk u1 u2 ka kb w) (fx_Settle2_0_mu fk u1 u2 ka kb w) (fx_Settle2_0_ex fk u1 u2 ka kb w) (fx_Settle2_0_J fk u1 u2 ka kb w) j .ret ((fx_Settle2_0_ex fk u1 u2 ka kb w j).2))))))))))) (by kernel_rfl))
theorem fx_Settle2 (fk:Nat)(u1:V)(u2:V)(ka kb w:Int)(c0:Impl Tryz.prog Amb fk [(.int .i64 (w+24)),u1,u2] (sV ka kb))(c1:L ka.natAbs≤8192∧L kb.natAbs≤8192)(c2:nbits (kb-ka).natAbs≤24)(c3:(0:Int)≤w∧w≤5000):Impl Tryz.prog Amb 133 [(.int .i64 w),(.clos fk [u1,u2])] (sV (ka / 2^24) (-(-kb / 2^24))):=by
 exact impl_ob hP hAmb Tryz.func133 (by kernel_rfl) (.loop ⟨[0,1,4,5],1,[]⟩ ((fx_Settle2_0_mk fk u1 u2 ka kb w (0:Int))) (Int) (fx_Settle2_0_ex fk u1 u2 ka kb w) (fx_Settle2_0_J fk u1 u2 ka kb w) (fun y=>.lit<|.ret))
  (cast_ob (aI True.intro (aI tT (aI (rfl:(fx_Settle2_0_mk fk u1 u2 ka kb w (0:Int))=(fx_Settle2_0_mk fk u1 u2 ka kb w (0:Int))) (aI (fx_Settle2_0 fk u1 u2 ka kb w c0 c1 c2 c3 (0:Int) (show (0:Int)=(0:Int) from rfl)) (fun y (hJ:fx_Settle2_0_J fk u1 u2 ka kb w y)=>have hJ:y=y:=hJ; (vsub_refl (sV (ka / 2^24) (-(-kb / 2^24))))))))) (by kernel_rfl))
end Go.Proofs.YtcbihoojfakhdaaGreatDoor


namespace Go.Proofs.YtcbihoojfakhdaaGreatDoor
open Go.RowKit
set_option maxRecDepth 100000
theorem wrap_neg {x:Int}(h:x<0)(k:-4294967295≤x):IntKind.wrap .i64 (IntKind.wrap .u64 ((0:Int)-(x.natAbs:Int)))=x:=by
 rw [wrap_u64]
 have e:((0:Int)-(x.natAbs:Int))%18446744073709551616=18446744073709551616+x:=by omega
 rw [e]
 simp [IntKind.wrap,IntKind.bits,IntKind.signed]
 omega
theorem nat_Uint1 (a:Nat)(c0:a<4294967296):Impl Tryz.prog Amb 238 [(N a)] (.tup [(.int .u64 (a:Int)),(.bool true)]):=by
 have l1:=L_le (n:=a) (k:=1) (by rw [Nat.pow_one]; exact c0)
 have e0:=L_len a
 have g0:=gi_nonneg (limbs a) 0
 have g1:=gi_lt (dig_limbs a) 0
 exact impl_ob hP hAmb Tryz.func238 (by kernel_rfl) (.lit<|.call (.int .i64 (L a:Int))<|.lit<|.both (.lit<|.ret) (.lit<|.both (.yes<|.yes<|.lit<|.yes<|.lit<|.ret) (.lit<|.both (.yes<|.yes<|.lit<|.yes<|.lit<|.yes<|.yes<|.yes<|.lit<|.yes<|.lits 2<|.ret) (.lit<|.ret))))
  (cast_ob (aI True.intro (aI (nat_sizeN a oO) (aI (fun (h1:(iEq (L a:Int) 0)=true)=>have _gh1:=iEq_t h1; (vsub_of (by rw [show a=0 from Decidable.byContradiction fun h=>by have:=L_pos h; omega]; rfl):vsub (.tup [(.int .u64 0),(.bool true)]) (.tup [(.int .u64 (a:Int)),(.bool true)]))) (fun (h2:(iEq (L a:Int) 0)=false)=>have _gh2:=iEq_f h2; aI (fun (h3:(iEq (L a:Int) 1)=true)=>have _gh3:=iEq_t h3; aI (inB_mk oO:(inB (0:Int) ((lim a).length))=true) (aI (ld_L oO:(Nat.blt 0 (lim a).length && isIntK .u32 (nth (lim a) 0 .unk))=true) (aI (fits_u64 oO:(fits .u64 (gi (limbs a) 0))=true) ((vsub_of (by rw [gi_one (show L a=1 by omega)]):vsub (.tup [(.int .u64 (gi (limbs a) 0)),(.bool true)]) (.tup [(.int .u64 (a:Int)),(.bool true)])))))) (fun (h4:(iEq (L a:Int) 1)=false)=>have _gh4:=iEq_f h4; aI (fun (h5:(iEq (L a:Int) 2)=true)=>have _gh5:=iEq_t h5; aI (inB_mk oO:(inB (1:Int) ((lim a).length))=true) (aI (ld_L oO:(Nat.blt 1 (lim a).length && isIntK .u32 (nth (lim a) 1 .unk))=true) (aI (fits_u64 oO:(fits .u64 (gi (limbs a) 1))=true) (aI (fits_u64 oO:(fits .u64 ((gi (limbs a) 1)*2^32))=true) (aI (inB_mk oO:(inB (0:Int) ((lim a).length))=true) (aI (ld_L oO:(Nat.blt 0 (lim a).length && isIntK .u32 (nth (lim a) 0 .unk))=true) (aI (fits_u64 oO:(fits .u64 (gi (limbs a) 0))=true) ((False.elim oO:vsub (.tup [(.int .u64 (wOr .u64 ((gi (limbs a) 1)*2^32) (gi (limbs a) 0))),(.bool true)]) (.tup [(.int .u64 (a:Int)),(.bool true)])))))))))) (fun (h6:(iEq (L a:Int) 2)=false)=>have _gh6:=iEq_f h6; (False.elim oO:vsub (.tup [(.int .u64 0),(.bool false)]) (.tup [(.int .u64 (a:Int)),(.bool true)])))))))) (by kernel_rfl))
theorem int_Int1 (x:Int)(c0:-4294967295≤x∧x≤4294967295):Impl Tryz.prog Amb 211 [(zV x)] (.tup [(.int .i64 x),(.bool true)]):=by
 have wz:=wrap_neg (x:=x)
 exact impl_ob hP hAmb Tryz.func211 (by kernel_rfl) (.lits 2<|.call (.tup [(.int .u64 (x.natAbs:Int)),(.bool true)])<|.lits 4<|.both (.lits 3<|.yes<|.lit<|.yes<|.lit<|.ret) (.lits 4<|.both (.lits 3<|.yes<|.lit<|.no<|.lit<|.no<|.lit<|.ret) (.lits 4<|.ret)))
  (cast_ob (aI True.intro (aI (nat_Uint1 x.natAbs oO) (aI (fun (h1:(!(decide (x<0)))=true)=>have _gh1:=of_decide_eq_false (notb_t h1); aI (iLt_mk oO:(iLt (x.natAbs:Int) 9223372036854775808)=true) (aI (fits_i64 oO:(fits .i64 (x.natAbs:Int))=true) ((vsub_of (by rw [show (x.natAbs:Int)=x by omega]):vsub (.tup [(.int .i64 (x.natAbs:Int)),(.bool true)]) (.tup [(.int .i64 x),(.bool true)]))))) (fun (h2:(!(decide (x<0)))=false)=>have _gh2:=of_decide_eq_true (notb_f h2); aI (fun (h3:(decide (x<0))=true)=>have _gh3:=of_decide_eq_true h3; aI (iLe_mk oO:(iLe (x.natAbs:Int) 9223372036854775808)=true) ((vsub_of (by rw [wz oO oO]):vsub (.tup [(.int .i64 (IntKind.wrap .i64 (IntKind.wrap .u64 ((0:Int)-(x.natAbs:Int))))),(.bool true)]) (.tup [(.int .i64 x),(.bool true)])))) (fun (h4:(decide (x<0))=false)=>have _gh4:=of_decide_eq_false h4; (False.elim oO:vsub (.tup [(.int .i64 0),(.bool false)]) (.tup [(.int .i64 x),(.bool true)]))))))) (by kernel_rfl))
theorem fx_Nearest (a b c d:Int)(c0:L (a).natAbs≤3000)(c1:L (b).natAbs≤3000)(c2:L (c).natAbs≤3000)(c3:L (d).natAbs≤3000)(c4:0<c+d)(c5:-4294967295≤(Int.fdiv (((a+b)*2^1)+(c+d)) ((c+d)*2^1))∧(Int.fdiv (((a+b)*2^1)+(c+d)) ((c+d)*2^1))≤4294967295):Impl Tryz.prog Amb 163 [(sV a b),(sV c d)] (.int .i64 (Int.fdiv (((a+b)*2^1)+(c+d)) ((c+d)*2^1))):=by
 exact impl_ob hP hAmb Tryz.func163 (by kernel_rfl) (.lits 3<|.call (zV (a+b))<|.lits 3<|.call (zV (c+d))<|.lits 2<|.call (zV ((a+b)*2^1))<|.lits 2<|.call (zV (((a+b)*2^1)+(c+d)))<|.lits 2<|.call (zV ((c+d)*2^1))<|.lit<|.call (.tup [(zV (Int.fdiv (((a+b)*2^1)+(c+d)) ((c+d)*2^1))),(zV ((((a+b)*2^1)+(c+d))-(Int.fdiv (((a+b)*2^1)+(c+d)) ((c+d)*2^1))*((c+d)*2^1))),(.bool true)])<|.lits 2<|.call (.tup [(.int .i64 (Int.fdiv (((a+b)*2^1)+(c+d)) ((c+d)*2^1))),(.bool true)])<|.lit<|.ret)
  (cast_ob (aI True.intro (aI (int_Add a b oO oO) (have f7:=L_abs_add a b; aI (int_Add c d oO oO) (have f6:=L_abs_add c d; aI (int_Shl (a+b) 1 oO oO) (have f5:=L_abs_shl (a+b) 1; aI (int_Add ((a+b)*2^1) (c+d) oO oO) (have f4:=L_abs_add ((a+b)*2^1) (c+d); aI (int_Shl (c+d) 1 oO oO) (have f3:=L_abs_shl (c+d) 1; aI (int_DivMod (((a+b)*2^1)+(c+d)) ((c+d)*2^1) oO oO oO) (have f2:=L_rm (((a+b)*2^1)+(c+d)) ((c+d)*2^1); have f1:=L_fdiv (((a+b)*2^1)+(c+d)) ((c+d)*2^1); aI (int_Int1 (Int.fdiv (((a+b)*2^1)+(c+d)) ((c+d)*2^1)) oO) ((vsub_refl (.int .i64 (Int.fdiv (((a+b)*2^1)+(c+d)) ((c+d)*2^1))))))))))))) (by kernel_rfl))
end Go.Proofs.YtcbihoojfakhdaaGreatDoor


namespace Go.Proofs.YtcbihoojfakhdaaGreatDoor
def Sm (f:Nat→Rat):Nat→Rat
 | 0=>0
 | n+1=>Sm f n+f n
theorem Sm_congr {f g:Nat→Rat}:∀ {n:Nat},(∀ i,i<n→f i=g i)→Sm f n=Sm g n
 | 0,_=>rfl
 | n+1,h=>by
  show Sm f n+f n=Sm g n+g n
  rw [Sm_congr (n:=n) (fun i hi=>h i (by omega)),h n (by omega)]
theorem Sm_add (f g:Nat→Rat):∀ n,Sm (fun i=>f i+g i) n=Sm f n+Sm g n
 | 0=>by show (0:Rat)=0+0; grind
 | n+1=>by
  show Sm (fun i=>f i+g i) n+(f n+g n)=Sm f n+f n+(Sm g n+g n)
  rw [Sm_add f g n]; grind
theorem Sm_mul (f:Nat→Rat)(c:Rat):∀ n,Sm f n*c=Sm (fun i=>f i*c) n
 | 0=>by show (0:Rat)*c=0; grind
 | n+1=>by
  show (Sm f n+f n)*c=Sm (fun i=>f i*c) n+f n*c
  rw [← Sm_mul f c n]; grind
theorem Sm_shift (f:Nat→Rat):∀ n,Sm f (n+1)=f 0+Sm (fun i=>f (i+1)) n
 | 0=>by show (0:Rat)+f 0=f 0+0; grind
 | n+1=>by
  show Sm f (n+1)+f (n+1)=f 0+(Sm (fun i=>f (i+1)) n+f (n+1))
  rw [Sm_shift f n]; grind
theorem Sm_le {f g:Nat→Rat}:∀ {n:Nat},(∀ i,i<n→f i≤g i)→Sm f n≤Sm g n
 | 0,_=>Rat.le_refl
 | n+1,h=>by
  have a:=Sm_le (n:=n) (fun i hi=>h i (by omega))
  have b:=h n (by omega)
  show Sm f n+f n≤Sm g n+g n
  grind
theorem Sm_nonneg {f:Nat→Rat}(h:∀ i,0≤f i):∀ n,0≤Sm f n
 | 0=>Rat.le_refl
 | n+1=>Rat.add_nonneg (Sm_nonneg h n) (h n)
theorem Sm_mono {f:Nat→Rat}(h:∀ i,0≤f i){n m:Nat}(hn:n≤m):Sm f n≤Sm f m:=by
 obtain ⟨k,rfl⟩:∃ k,m=n+k:=⟨m-n,by omega⟩
 induction k with
 | zero=>exact Rat.le_refl
 | succ k ih =>
  have a:=ih (by omega)
  have b:=h (n+k)
  show Sm f n≤Sm f (n+k)+f (n+k)
  grind
theorem Sm_tri (f:Nat→Nat→Rat):∀ K,Sm (fun n=>Sm (fun i=>f i (n-i)) (n+1)) K=Sm (fun i=>Sm (f i) (K-i)) K
 | 0=>rfl
 | K+1=>by
  have h:=Sm_tri f K
  have e:Sm (fun i=>Sm (f i) (K+1-i)) (K+1)=Sm (fun i=>Sm (f i) (K-i)+f i (K-i)) (K+1):=Sm_congr fun i hi=>by
   rw [show K+1-i=(K-i)+1 by omega]; rfl
  rw [e,Sm_add]
  show Sm (fun n=>Sm (fun i=>f i (n-i)) (n+1)) K+Sm (fun i=>f i (K-i)) (K+1)=Sm (fun i=>Sm (f i) (K-i)) K+Sm (f K) (K-K)+Sm (fun i=>f i (K-i)) (K+1)
  rw [h,Nat.sub_self]
  show _=_+0+_
  grind
theorem Sm_prod (f g:Nat→Rat)(K:Nat):∀ n,Sm f n*Sm g K=Sm (fun i=>Sm (fun j=>f i*g j) K) n
 | 0=>by show (0:Rat)*_=0; grind
 | n+1=>by
  have h:=Sm_prod f g K n
  have e:f n*Sm g K=Sm (fun j=>f n*g j) K:=by
   rw [Rat.mul_comm,Sm_mul]
   exact Sm_congr fun i _=>Rat.mul_comm _ _
  show (Sm f n+f n)*Sm g K=Sm (fun i=>Sm (fun j=>f i*g j) K) n+Sm (fun j=>f n*g j) K
  rw [← h,← e]; grind
def nx (n:Nat):Int:=(n:Int)+1
theorem nx_pos (n:Nat):(0:Rat)<(nx n:Rat):=Rat.intCast_pos.2 (by unfold nx; omega)
def tE (x:Rat):Nat→Rat
 | 0=>1
 | n+1=>tE x n*x / (nx n:Rat)
theorem tE_mul (x:Rat)(n:Nat):tE x n*x=(nx n:Rat)*tE x (n+1):=by
 show tE x n*x=(nx n:Rat)*(tE x n*x / (nx n:Rat))
 have:=nx_pos n
 rw [Rat.mul_comm (nx n:Rat),Rat.div_mul_cancel (by grind)]
theorem tE_nonneg {x:Rat}(h:0≤x):∀ n,0≤tE x n
 | 0=>by show (0:Rat)≤1; decide
 | n+1=>by
  show 0≤tE x n*x / (nx n:Rat)
  rw [Rat.div_def]
  exact Rat.mul_nonneg (Rat.mul_nonneg (tE_nonneg h n) h) (Rat.le_of_lt (Rat.inv_pos.2 (nx_pos n)))
def EP (x:Rat)(K:Nat):Rat:=Sm (tE x) K
theorem tE_add (x y:Rat):∀ n,tE (x+y) n=Sm (fun i=>tE x i*tE y (n-i)) (n+1)
 | 0=>by show (1:Rat)=0+1*1; grind
 | n+1=>by
  have h:=tE_add x y n
  have np:=nx_pos n
  have key:Sm (fun i=>tE x i*tE y (n-i)) (n+1)*(x+y)=(nx n:Rat)*Sm (fun i=>tE x i*tE y (n+1-i)) (n+2):=by
   have ex:Sm (fun i=>tE x i*tE y (n-i)) (n+1)*x=Sm (fun i=>(i:Rat)*(tE x i*tE y (n+1-i))) (n+2):=by
    rw [Sm_mul,Sm_shift (fun i=>(i:Rat)*(tE x i*tE y (n+1-i))) (n+1)]
    have z:(((0:Nat):Nat):Rat)*(tE x 0*tE y (n+1-0))=0:=by
     rw [show ((0:Nat):Rat)=0 from rfl]; grind
    rw [z,Rat.zero_add]
    refine Sm_congr fun i hi=>?_
    rw [show n+1-(i+1)=n-i by omega]
    have t:=tE_mul x i
    have c:((i+1:Nat):Rat)=(nx i:Rat):=rfl
    show tE x i*tE y (n-i)*x=((i+1:Nat):Rat)*(tE x (i+1)*tE y (n-i))
    rw [c]
    grind
   have ey:Sm (fun i=>tE x i*tE y (n-i)) (n+1)*y=Sm (fun i=>((nx n:Rat)-(i:Rat))*(tE x i*tE y (n+1-i))) (n+2):=by
    rw [Sm_mul]
    show _=Sm (fun i=>((nx n:Rat)-(i:Rat))*(tE x i*tE y (n+1-i))) (n+1)+((nx n:Rat)-((n+1:Nat):Rat))*(tE x (n+1)*tE y (n+1-(n+1)))
    have c:((n+1:Nat):Rat)=(nx n:Rat):=rfl
    rw [c]
    have z:((nx n:Rat)-(nx n:Rat))*(tE x (n+1)*tE y (n+1-(n+1)))=0:=by grind
    rw [z,Rat.add_zero]
    refine Sm_congr fun i hi=>?_
    have t:=tE_mul y (n-i)
    rw [show n+1-i=(n-i)+1 by omega]
    have d:(nx (n-i):Rat)=(nx n:Rat)-(i:Rat):=by
     have e:nx (n-i)=nx n-(i:Int):=by unfold nx; omega
     rw [e,Rat.intCast_sub]; rfl
    rw [← d]
    grind
   rw [show Sm (fun i=>tE x i*tE y (n-i)) (n+1)*(x+y)=Sm (fun i=>tE x i*tE y (n-i)) (n+1)*x+Sm (fun i=>tE x i*tE y (n-i)) (n+1)*y by grind,ex,ey,← Sm_add,Rat.mul_comm (nx n:Rat),Sm_mul]
   exact Sm_congr fun i _=>by grind
  show tE (x+y) n*(x+y) / (nx n:Rat)=_
  rw [h,key,Rat.mul_comm,Rat.mul_div_cancel (by grind)]
theorem EP_conv (x y:Rat)(K:Nat):EP (x+y) K=Sm (fun i=>Sm (fun j=>tE x i*tE y j) (K-i)) K:=by
 unfold EP
 rw [← Sm_tri (fun i j=>tE x i*tE y j) K]
 exact Sm_congr fun n _=>tE_add x y n
theorem EP_mul {x y:Rat}(hx:0≤x)(hy:0≤y)(K:Nat):EP (x+y) K≤EP x K*EP y K∧EP x K*EP y K≤EP (x+y) (2*K):=by
 have nn:∀ i j,0≤tE x i*tE y j:=fun i j=>Rat.mul_nonneg (tE_nonneg hx i) (tE_nonneg hy j)
 have p:EP x K*EP y K=Sm (fun i=>Sm (fun j=>tE x i*tE y j) K) K:=Sm_prod _ _ K K
 rw [p,EP_conv,EP_conv]
 constructor
 ·exact Sm_le fun i _=>Sm_mono (nn i) (by omega)
 ·refine Rat.le_trans (Sm_le (g:=fun i=>Sm (fun j=>tE x i*tE y j) (2*K-i)) fun i hi=>Sm_mono (nn i) (by omega)) (Sm_mono (fun i=>Sm_nonneg (nn i) _) (by omega))
theorem EP_mono {x:Rat}(h:0≤x){n m:Nat}(hn:n≤m):EP x n≤EP x m:=Sm_mono (tE_nonneg h) hn
end Go.Proofs.YtcbihoojfakhdaaGreatDoor

namespace Go.Proofs.YtcbihoojfakhdaaGreatDoor
theorem tE_half {x:Rat}(h0:0≤x){m:Nat}(h:2*x≤(nx m:Rat)):2*tE x (m+1)≤tE x m:=by
 have np:=nx_pos m
 have t:=tE_mul x m
 have p:=tE_nonneg h0 m
 refine Rat.le_of_mul_le_mul_right (c:=(nx m:Rat)) ?_ np
 have e:2*tE x (m+1)*(nx m:Rat)=tE x m*(2*x):=by grind
 rw [e]
 exact Rat.mul_le_mul_of_nonneg_left h p
theorem nx_mono {a b:Nat}(h:a≤b):(nx a:Rat)≤(nx b:Rat):=Rat.intCast_le_intCast.2 (by unfold nx; omega)
theorem EP_tail {x:Rat}(h0:0≤x){n:Nat}(h:2*x≤(nx n:Rat))(K:Nat):EP x K≤EP x (n+1)+tE x n:=by
 have key:∀ k,EP x (n+1+k)+tE x (n+k)≤EP x (n+1)+tE x n:=by
  intro k
  induction k with
  | zero=>exact Rat.le_refl
  | succ k ih =>
   have a:=tE_half h0 (m:=n+k) (Rat.le_trans h (nx_mono (by omega)))
   have e:EP x (n+1+(k+1))=EP x (n+1+k)+tE x (n+k+1):=by
    show Sm (tE x) (n+1+k)+tE x (n+1+k)=_
    rw [show n+1+k=n+k+1 by omega]; rfl
   rw [e]
   show EP x (n+1+k)+tE x (n+k+1)+tE x (n+k+1)≤_
   grind
 have a:=key K
 have b:=EP_mono h0 (show K≤n+1+K by omega)
 have c:=tE_nonneg h0 (n+K)
 grind
theorem one_pow_le {q:Rat}(h:1≤q):∀ n:Nat,1≤q^n
 | 0=>by rw [Rat.pow_zero]; exact Rat.le_refl
 | n+1=>by
  have a:=one_pow_le h n
  have m:=Rat.mul_le_mul_of_nonneg_left h (show (0:Rat)≤q^n by grind)
  rw [Rat.pow_succ]; grind
end Go.Proofs.YtcbihoojfakhdaaGreatDoor








namespace Go.Proofs.YtcbihoojfakhdaaGreatDoor
open Go.RowKit
set_option maxRecDepth 100000
def ivM (b:Bool)(l:List Nat)(e:Int)(c:Bool)(r:List Nat)(f n k:Int):Int:=(swM (mkM (rawI b l n) (e%(2*k+1)-k)) (mkX (rawI b l n) (e%(2*k+1)-k)) (mkM (rawI c r n) (f%(2*k+1)-k)) (mkX (rawI c r n) (f%(2*k+1)-k)))
def ivX (b:Bool)(l:List Nat)(e:Int)(c:Bool)(r:List Nat)(f n k:Int):Int:=(swX (mkM (rawI b l n) (e%(2*k+1)-k)) (mkX (rawI b l n) (e%(2*k+1)-k)) (mkM (rawI c r n) (f%(2*k+1)-k)) (mkX (rawI c r n) (f%(2*k+1)-k)))
def ivN (b:Bool)(l:List Nat)(e:Int)(c:Bool)(r:List Nat)(f n k:Int):Int:=(swN (mkM (rawI b l n) (e%(2*k+1)-k)) (mkX (rawI b l n) (e%(2*k+1)-k)) (mkM (rawI c r n) (f%(2*k+1)-k)) (mkX (rawI c r n) (f%(2*k+1)-k)))
def ivF (b:Bool)(l:List Nat)(e:Int)(c:Bool)(r:List Nat)(f n k:Int):Int:=(swF (mkM (rawI b l n) (e%(2*k+1)-k)) (mkX (rawI b l n) (e%(2*k+1)-k)) (mkM (rawI c r n) (f%(2*k+1)-k)) (mkX (rawI c r n) (f%(2*k+1)-k)))
theorem iv_fit {b:Bool}{l:List Nat}{e:Int}{c:Bool}{r:List Nat}{f n k:Int}(hl:Dig l)(hr:Dig r)(hn:0≤n∧n≤800)(hk:0≤k∧k≤20000):((L (ivM b l e c r f n k).natAbs≤n∧-k≤(ivX b l e c r f n k)∧(ivX b l e c r f n k)≤k+32*n)∧(L (ivN b l e c r f n k).natAbs≤n∧-k≤(ivF b l e c r f n k)∧(ivF b l e c r f n k)≤k+32*n))∧vdb (ivM b l e c r f n k) (ivX b l e c r f n k)=true∧vdb (ivN b l e c r f n k) (ivF b l e c r f n k)=true∧dv (ivM b l e c r f n k) (ivX b l e c r f n k)≤dv (ivN b l e c r f n k) (ivF b l e c r f n k):=by
 have h:=rawI_fit (b:=b) (c:=c) (e:=e) (f:=f) hl hr hn hk rfl rfl rfl rfl
 exact ⟨⟨h.1,h.2.1⟩,h.2.2⟩
theorem mill_Iv (b:Bool)(l:List Nat)(e:Int)(c:Bool)(r:List Nat)(f n k:Int)(c0:Dig l)(c1:l.length≤9223372036854775807)(c2:Dig r)(c3:r.length≤9223372036854775807)(c4:(-9223372036854775808:Int)≤e∧e≤9223372036854775807)(c5:(-9223372036854775808:Int)≤f∧f≤9223372036854775807)(c6:(0:Int)≤n∧n≤800)(c7:(0:Int)≤k∧k≤20000):Impl Tryz.prog Amb 78 [(.agg [(.bool b),(.sl 1 (U l)),(.int .i64 e),(.bool c),(.sl 1 (U r)),(.int .i64 f)]),(.int .i64 n),(.int .i64 k)] (.tup [(wV (ivM b l e c r f n k) (ivX b l e c r f n k) (ivN b l e c r f n k) (ivF b l e c r f n k)),(.bool (decide ((l.length:Int)≤n∧(r.length:Int)≤n)))]) :=
 mill_Interval b l e c r f n k c0 c1 c2 c3 c4 c5 c6 c7
end Go.Proofs.YtcbihoojfakhdaaGreatDoor








namespace Go.Proofs.YtcbihoojfakhdaaGreatDoor
open Go.RowKit
set_option maxRecDepth 100000
set_option maxHeartbeats 400000
theorem abs_big {x:Int}{t c:Nat}(h:x.natAbs≤c*2^t)(hc:c≤2^20)(ht:t≤2000):L x.natAbs≤70:=by
 refine L_pow2 (n:=t+21) ?_ oO
 have e:(2:Nat)^(t+21)=2*(2^20*2^t):=by rw [Nat.pow_add]; omega
 have p:=Nat.mul_le_mul_right (2^t) hc
 have:=Nat.pow_pos (n:=t) (show 0<2 by omega)
 omega
theorem vdb_sh {m e f:Int}(h:vdb m e=true)(hm:m≠0)(hf:-65536≤f∧f≤65536):vdb m f=true:=by
 rcases vdb_iff.1 h with q | q
 ·exact absurd q.1 hm
 ·exact vdb_iff.2 (.inr ⟨hm,q.2.1,hf.1,hf.2,q.2.2.2.2⟩)
end Go.Proofs.YtcbihoojfakhdaaGreatDoor




