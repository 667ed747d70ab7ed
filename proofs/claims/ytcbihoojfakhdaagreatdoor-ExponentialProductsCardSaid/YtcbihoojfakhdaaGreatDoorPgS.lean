/-
  Lower layers: what functions of the program compute, and plain facts. Conditions: as the theorems say.
-/
import Derived.Test.YtcbihoojfakhdaaGreatDoorPgR
set_option linter.unusedVariables false
set_option linter.unusedSimpArgs false
namespace Go.Proofs.YtcbihoojfakhdaaGreatDoor
open Go.RowKit
set_option maxRecDepth 100000
def ivM (b:Bool)(l:List Nat)(e:Int)(c:Bool)(r:List Nat)(f n k:Int):Int:=(swM (mkM (rawI b l n) (e%(2*k+1)-k)) (mkX (rawI b l n) (e%(2*k+1)-k)) (mkM (rawI c r n) (f%(2*k+1)-k)) (mkX (rawI c r n) (f%(2*k+1)-k)))
def ivX (b:Bool)(l:List Nat)(e:Int)(c:Bool)(r:List Nat)(f n k:Int):Int:=(swX (mkM (rawI b l n) (e%(2*k+1)-k)) (mkX (rawI b l n) (e%(2*k+1)-k)) (mkM (rawI c r n) (f%(2*k+1)-k)) (mkX (rawI c r n) (f%(2*k+1)-k)))
def ivN (b:Bool)(l:List Nat)(e:Int)(c:Bool)(r:List Nat)(f n k:Int):Int:=(swN (mkM (rawI b l n) (e%(2*k+1)-k)) (mkX (rawI b l n) (e%(2*k+1)-k)) (mkM (rawI c r n) (f%(2*k+1)-k)) (mkX (rawI c r n) (f%(2*k+1)-k)))
def ivF (b:Bool)(l:List Nat)(e:Int)(c:Bool)(r:List Nat)(f n k:Int):Int:=(swF (mkM (rawI b l n) (e%(2*k+1)-k)) (mkX (rawI b l n) (e%(2*k+1)-k)) (mkM (rawI c r n) (f%(2*k+1)-k)) (mkX (rawI c r n) (f%(2*k+1)-k)))
theorem iv_fit {b:Bool}{l:List Nat}{e:Int}{c:Bool}{r:List Nat}{f n k:Int}(hl:Dig l)(hr:Dig r)(hn:0≤n∧n≤800)(hk:0≤k∧k≤20000):((L (ivM b l e c r f n k).natAbs≤n∧-k≤(ivX b l e c r f n k)∧(ivX b l e c r f n k)≤k+32*n)∧(L (ivN b l e c r f n k).natAbs≤n∧-k≤(ivF b l e c r f n k)∧(ivF b l e c r f n k)≤k+32*n))∧vdb (ivM b l e c r f n k) (ivX b l e c r f n k)=true∧vdb (ivN b l e c r f n k) (ivF b l e c r f n k)=true∧dv (ivM b l e c r f n k) (ivX b l e c r f n k)≤dv (ivN b l e c r f n k) (ivF b l e c r f n k):=by
 have h:=rawI_fit (b:=b) (c:=c) (e:=e) (f:=f) hl hr hn hk rfl rfl rfl rfl
 exact ⟨⟨h.1,h.2.1⟩,h.2.2⟩
theorem mill_Iv (b:Bool)(l:List Nat)(e:Int)(c:Bool)(r:List Nat)(f n k:Int)(c0:Dig l)(c1:l.length≤9223372036854775807)(c2:Dig r)(c3:r.length≤9223372036854775807)(c4:(-9223372036854775808:Int)≤e∧e≤9223372036854775807)(c5:(-9223372036854775808:Int)≤f∧f≤9223372036854775807)(c6:(0:Int)≤n∧n≤800)(c7:(0:Int)≤k∧k≤20000):Impl Tryz.prog Amb 78 [(.agg [(.bool b),(.sl 1 (U l)),(.int .i64 e),(.bool c),(.sl 1 (U r)),(.int .i64 f)]),(.int .i64 n),(.int .i64 k)] (.tup [(wV (ivM b l e c r f n k) (ivX b l e c r f n k) (ivN b l e c r f n k) (ivF b l e c r f n k)),(.bool (decide ((l.length:Int)≤n∧(r.length:Int)≤n)))]) :=
 mill_Interval b l e c r f n k c0 c1 c2 c3 c4 c5 c6 c7
theorem r10_Has (m e n f:Int)(r:Rat)(c0:L (m).natAbs≤9000)(c1:L (n).natAbs≤9000)(c2:(-65536:Int)≤e∧e≤65536)(c3:(-65536:Int)≤f∧f≤65536)(c4:vdb m e=true)(c5:vdb n f=true)(c6:L r.num.natAbs≤6000)(c7:L r.den≤6000):Impl Tryz.prog Amb 57 [(wV m e n f),(.agg [(.bool (decide (r.num<0))),(N r.num.natAbs),(N r.den)])] (.bool (decide (cmpQ (dv m e) r≤0∧cmpQ r (dv n f)≤0))):=by
 exact impl_ob hP hAmb Tryz.func57 (by kernel_rfl) (.lits 2<|.call (.agg [(.bool (decide ((dv m e).num<0))),(N (((dv m e).num).natAbs)),(N ((dv m e).den))])<|.lits 2<|.call (.int .i64 (cmpQ (dv m e) r))<|.lit<|.both (.lits 6<|.call (.agg [(.bool (decide ((dv n f).num<0))),(N (((dv n f).num).natAbs)),(N ((dv n f).den))])<|.lits 2<|.call (.int .i64 (cmpQ r (dv n f)))<|.lits 4<|.ret) (.lits 7<|.ret))
  (cast_ob (aI True.intro (aI (r08_Rat m e oA oA oA) (have f6:=(dv_L ‹vdb m e=true› oA:L (dv m e).num.natAbs≤L (m).natAbs+2050∧L (dv m e).den≤2050); aI (r07_Cmp (dv m e) r oA oA oA oA) (have f5:=cmpQ_range (dv m e) r; aI (fun (h1:(iLe (cmpQ (dv m e) r) 0)=true)=>have _gh1:=iLe_t h1; aI (r08_Rat n f oA oA oA) (have f3:=(dv_L ‹vdb n f=true› oA:L (dv n f).num.natAbs≤L (n).natAbs+2050∧L (dv n f).den≤2050); aI (r07_Cmp r (dv n f) oA oA oA oA) (have f2:=cmpQ_range r (dv n f); (vsub_of (congrArg V.bool (has_1 oO)):vsub (.bool (iLe (cmpQ r (dv n f)) 0)) (.bool (decide (cmpQ (dv m e) r≤0∧cmpQ r (dv n f)≤0))))))) (fun (h4:(iLe (cmpQ (dv m e) r) 0)=false)=>have _gh4:=iLe_f h4; (vsub_of (congrArg V.bool ((decide_eq_false oO).symm)):vsub (.bool false) (.bool (decide (cmpQ (dv m e) r≤0∧cmpQ r (dv n f)≤0))))))))) (by kernel_rfl))
end Go.Proofs.YtcbihoojfakhdaaGreatDoor

namespace Go.Proofs.YtcbihoojfakhdaaGreatDoor
open Go.RowKit
set_option maxRecDepth 100000
set_option maxHeartbeats 2000000
theorem flr0 {s:Int}(h:0≤s):flr (dv 0 0) s=0∧cei (dv 0 0) s=0:=by
 have z:=of_ge (m:=0) (e:=0) (s:=s) oO
 rw [Int.zero_mul] at z
 exact ⟨z.1.symm,z.2.symm⟩
theorem of0 (s:Int)(h:0≤s∧s≤20000):Impl Tryz.prog Amb 161 [(yV (0:Int) 0),(.int .i64 s)] (sV (0:Int) (0:Int)):=by
 have a:=fx_Of 0 0 s (by simp [L_zero]) oO h
 rw [(flr0 h.1).1,(flr0 h.1).2] at a
 exact a
theorem expo_aw:Impl Tryz.prog Amb 232 [(sV (1560828692041339:Int) (1560828692041340:Int)),(.int .i64 51)] (sV (4503599627370494:Int) (4503599627370497:Int)) :=
 impl_eq (by kernel_rfl) (fx_expG 1560828692041339 1560828692041340 51 8 6703708186976006485049344 6703708186976010780016640 26186360105375025332224 26186360105375042109440 9697628400215167260647547 9697628400215167277470259 8 oO oO (by intro i a b; rcases (show i=4∨i=5∨i=6∨i=7 by omega) with rfl | rfl | rfl | rfl<;>decide) (by decide) oO
  (Nat.le_trans (L500 (of_decide_eq_true (by kernel_rfl))) oO) (Nat.le_trans (L500 (of_decide_eq_true (by kernel_rfl))) oO) (by kernel_rfl) (by kernel_rfl) (by kernel_rfl) (by kernel_rfl) (Nat.le_trans (L500 (of_decide_eq_true (by kernel_rfl))) oO) (Nat.le_trans (L500 (of_decide_eq_true (by kernel_rfl))) oO)
  (by kernel_rfl) (by kernel_rfl) (by kernel_rfl) (by kernel_rfl))
theorem L_c {x:Int}(h:x.natAbs<2^500):L x.natAbs≤3000:=Nat.le_trans (L500 h) oO
theorem exp_aw:Impl Tryz.prog Amb 194 [(yV (0:Int) 0),(.int .i64 27)] (sV (134217727:Int) (134217729:Int)):=by
 have n0:(Int.fdiv (((0+0)*2^1)+((lnLo 32)+(lnHi 32))) (((lnLo 32)+(lnHi 32))*2^1))=0:=by kernel_rfl
 have hN:=fx_Nearest 0 0 (lnLo 32) (lnHi 32) (by simp [L_zero]) (by simp [L_zero]) (L_c (of_decide_eq_true (by kernel_rfl))) (L_c (of_decide_eq_true (by kernel_rfl))) (of_decide_eq_true (by kernel_rfl)) (by rw [n0]; omega)
 rw [n0] at hN
 exact fx_Exp_aw (lnLo 32) (lnHi 32) (lnLo 67) (lnHi 67) (tmLo (lnLo 67) (lnHi 67) (-1)) (tmHi (lnLo 67) (lnHi 67) (-1)) _ _ 1560828692041339 1560828692041340 4503599627370494 4503599627370497 134217727 134217729 (of0 32 oO) (fx_Ln2 32 oO) hN (of0 67 oO) (fx_Ln2 67 oO)
  (fx_TimesA (lnLo 67) (lnHi 67) (-1) (Nat.le_trans (L_c (of_decide_eq_true (by kernel_rfl))) oO) (Nat.le_trans (L_c (of_decide_eq_true (by kernel_rfl))) oO) oO)
  (fx_Sub 0 0 (tmLo (lnLo 67) (lnHi 67) (-1)) (tmHi (lnLo 67) (lnHi 67) (-1)) (by simp [L_zero]) (by simp [L_zero]) (Nat.le_trans (L_c (of_decide_eq_true (by kernel_rfl))) oO) (Nat.le_trans (L_c (of_decide_eq_true (by kernel_rfl))) oO))
  (impl_eq (by kernel_rfl) (fx_Half (0+-(tmHi (lnLo 67) (lnHi 67) (-1))) (0+-(tmLo (lnLo 67) (lnHi 67) (-1))) 16 (Nat.le_trans (L_c (of_decide_eq_true (by kernel_rfl))) oO) (Nat.le_trans (L_c (of_decide_eq_true (by kernel_rfl))) oO) oO))
  expo_aw (impl_eq (by kernel_rfl) (fx_Half 4503599627370494 4503599627370497 25 (Nat.le_trans (L_c (of_decide_eq_true (by kernel_rfl))) oO) (Nat.le_trans (L_c (of_decide_eq_true (by kernel_rfl))) oO) oO))
theorem value_aw:Impl Tryz.prog Amb 71 [(yV (0:Int) 0),(.int .i64 3)] (sV (7:Int) (9:Int)) :=
 ex_value0 0 0 3 7 9 (by simp [L_zero]) oO (impl_eq (by kernel_rfl) (ex_beyond (-0) 0 (3+1) (by simp [L_zero]) oO oO))
  (impl_eq (by kernel_rfl) (fx_SettleB 134 (yV (0:Int) 0) 134217727 134217729 3 (ex_at 0 0 (3+24) 134217727 134217729 exp_aw) ⟨Nat.le_trans (L_c (of_decide_eq_true (by kernel_rfl))) oO,Nat.le_trans (L_c (of_decide_eq_true (by kernel_rfl))) oO⟩ (of_decide_eq_true (by kernel_rfl)) oO))
theorem l14_awake:Impl Tryz.prog Amb 14 [] (.bool true):=by
 have one:=r07_Of 1 oO
 have hE:Impl Tryz.prog Amb 20 [(wV (0:Int) 0 (0:Int) 0),(.int .i64 3)] (.tup [(wV (mkM 7 (0-3)) (mkX 7 (0-3)) (mkM 9 (0-3)) (mkX 9 (0-3))),(.int .i64 0)]) :=
  ex_Exp0 0 0 0 0 3 7 9 7 9 _ _ _ _ oO (impl_eq (by kernel_rfl) (ex_beyond 0 0 1000 (by simp [L_zero]) oO oO)) value_aw value_aw
   (impl_eq (by kernel_rfl) (dy_Make 7 (0-3) (Nat.le_trans (L_c (of_decide_eq_true (by kernel_rfl))) oO) oO)) (impl_eq (by kernel_rfl) (dy_Make 9 (0-3) (Nat.le_trans (L_c (of_decide_eq_true (by kernel_rfl))) oO) oO))
 have f2:=of_fit (n:=2000) oO
 exact l14_awake0 _ _ _ _ (mkM 2000 0) (mkX 2000 0) _ (impl_eq (by kernel_rfl) (l14_of 0 0 oO oO)) hE (l14_of 2000 2000 oO oO)
  (ex_ExpL _ _ _ _ 3 oO (impl_eq (by kernel_rfl) (ex_beyond (mkM 2000 0) (mkX 2000 0) 1000 oO oO oO))) one
  (impl_eq (by kernel_rfl) (r10_Has (mkM 7 (0-3)) (mkX 7 (0-3)) (mkM 9 (0-3)) (mkX 9 (0-3)) ((1:Int):Rat) (Nat.le_trans (L_c (of_decide_eq_true (by kernel_rfl))) oO) (Nat.le_trans (L_c (of_decide_eq_true (by kernel_rfl))) oO) (of_decide_eq_true (by kernel_rfl)) (of_decide_eq_true (by kernel_rfl)) (by kernel_rfl) (by kernel_rfl) (Nat.le_trans (q_ofL (n:=1) oO).1 oO) (Nat.le_trans (q_ofL (n:=1) oO).2 oO)))
end Go.Proofs.YtcbihoojfakhdaaGreatDoor


namespace Go.Proofs.YtcbihoojfakhdaaGreatDoor
open Go.RowKit
set_option maxRecDepth 100000
set_option maxHeartbeats 2000000
def shx (m e:Int)(j:Nat):Int:=if m=0 then 0 else e-20*(j:Int)
theorem l14_argF (b1:Bool)(l1:List Nat)(e1:Int)(b2:Bool)(l2:List Nat)(e2 fa m ee n f:Int)(c0:Impl Tryz.prog Amb 78 [(.agg [(.bool b1),(.sl 1 (U l1)),(.int .i64 e1),(.bool b2),(.sl 1 (U l2)),(.int .i64 e2)]),(.int .i64 2),(.int .i64 40)] (.tup [(wV m ee n f),(.bool false)])):Impl Tryz.prog Amb 59 [(.agg [(.bool b1),(.sl 1 (U l1)),(.int .i64 e1),(.bool b2),(.sl 1 (U l2)),(.int .i64 e2)]),(.int .i64 fa)] (.tup [(wV m ee n f),(.bool false)]):=by
 exact impl_ob hP hAmb Tryz.func59 (by kernel_rfl) (.lits 2<|.call (.tup [(wV m ee n f),(.bool false)])<|.lits 6<|.ret)
  (cast_ob (aI True.intro (aI (c0 ) ((vsub_refl (.tup [(wV m ee n f),(.bool false)]))))) (by kernel_rfl))
def l14_arg_0_mk (b1:Bool)(l1:List Nat)(e1:Int)(b2:Bool)(l2:List Nat)(e2:Int)(fa m ee n f:Int)(_:Nat)(x:Nat):St:=⟨mkS 43 [(1,(.val (.int .i64 fa))),(4,(.own 1 0)),(6,(.own 2 0))],[⟨true,false,[(V.bool b1),(V.sl 1 (U l1)),(V.int .i64 e1),(V.bool b2),(V.sl 1 (U l2)),(V.int .i64 e2)]⟩,⟨true,false,[(V.bool false),V.nil,(V.int .i64 0),(V.bool false),V.nil,(V.int .i64 0)]⟩,⟨true,false,[(V.bool (decide (m<0))),(N m.natAbs),(V.int .i64 (shx m ee x)),(V.bool (decide (n<0))),(N n.natAbs),(V.int .i64 (shx n f x))]⟩]⟩
def l14_arg_0_I (_:Bool)(_:List Nat)(_:Int)(_:Bool)(_:List Nat)(_:Int)(_ _ _ _ _:Int)(nn:Nat)(x:Nat):Prop:=x≤nn
def l14_arg_0_mu (_:Bool)(_:List Nat)(_:Int)(_:Bool)(_:List Nat)(_:Int)(_ _ _ _ _:Int)(nn:Nat)(x:Nat):Nat:=nn-x
def l14_arg_0_ex (b1:Bool)(l1:List Nat)(e1:Int)(b2:Bool)(l2:List Nat)(e2:Int)(_ m ee n f:Int)(_:Nat)(y:Nat):Ex × St:=(.exit 0,⟨mkS 43 [(4,(.own 1 0)),(6,(.own 2 0))],[⟨true,false,[(V.bool b1),(V.sl 1 (U l1)),(V.int .i64 e1),(V.bool b2),(V.sl 1 (U l2)),(V.int .i64 e2)]⟩,⟨true,false,[(V.bool false),V.nil,(V.int .i64 0),(V.bool false),V.nil,(V.int .i64 0)]⟩,⟨true,false,[(V.bool (decide (m<0))),(N m.natAbs),(V.int .i64 (shx m ee y)),(V.bool (decide (n<0))),(N n.natAbs),(V.int .i64 (shx n f y))]⟩]⟩)
def l14_arg_0_J (_:Bool)(_:List Nat)(_:Int)(_:Bool)(_:List Nat)(_:Int)(_ _ _ _ _:Int)(nn:Nat)(y:Nat):Prop:=y=nn
abbrev l14_arg_0_N (b1:Bool)(l1:List Nat)(e1:Int)(b2:Bool)(l2:List Nat)(e2:Int)(fa m ee n f:Int)(nn:Nat):=NX (l14_arg_0_mk b1 l1 e1 b2 l2 e2 fa m ee n f nn) (l14_arg_0_I b1 l1 e1 b2 l2 e2 fa m ee n f nn) (l14_arg_0_mu b1 l1 e1 b2 l2 e2 fa m ee n f nn) (l14_arg_0_ex b1 l1 e1 b2 l2 e2 fa m ee n f nn) (l14_arg_0_J b1 l1 e1 b2 l2 e2 fa m ee n f nn)
theorem l14_arg_0 (b1:Bool)(l1:List Nat)(e1:Int)(b2:Bool)(l2:List Nat)(e2:Int)(fa m ee n f:Int)(nn:Nat)(c0:nn≤100)(c1:∀ j,j≤nn→(j=nn↔(topD m (shx m ee j))≤fa∧(topD n (shx n f j))≤fa))(c2:∀ j,j≤nn→Impl Tryz.prog Amb 18 [(yV m (shx m ee j))] (.int .i64 (topD m (shx m ee j))))(c3:∀ j,j≤nn→Impl Tryz.prog Amb 18 [(yV n (shx n f j))] (.int .i64 (topD n (shx n f j))))(c4:∀ j,j<nn→Impl Tryz.prog Amb 38 [(yV m (shx m ee j)),(.int .i64 (-20))] (.tup [(yV m (shx m ee (j+1))),(.int .i64 0)]))(c5:∀ j,j<nn→Impl Tryz.prog Amb 38 [(yV n (shx n f j)),(.int .i64 (-20))] (.tup [(yV n (shx n f (j+1))),(.int .i64 0)]))(x0:Nat)(hI:l14_arg_0_I b1 l1 e1 b2 l2 e2 fa m ee n f nn x0):LoopOk Tryz.prog Amb (loopN Tryz.f59 0) (l14_arg_0_mk b1 l1 e1 b2 l2 e2 fa m ee n f nn x0) (fun e st_=>∃ y,l14_arg_0_J b1 l1 e1 b2 l2 e2 fa m ee n f nn y∧l14_arg_0_ex b1 l1 e1 b2 l2 e2 fa m ee n f nn y=(e,st_)) :=
 loop_ob hP hAmb ⟨[1,4,6],3,[]⟩ (l14_arg_0_mk b1 l1 e1 b2 l2 e2 fa m ee n f nn) (l14_arg_0_I b1 l1 e1 b2 l2 e2 fa m ee n f nn) (l14_arg_0_mu b1 l1 e1 b2 l2 e2 fa m ee n f nn) (l14_arg_0_ex b1 l1 e1 b2 l2 e2 fa m ee n f nn) (l14_arg_0_J b1 l1 e1 b2 l2 e2 fa m ee n f nn) x0 hI (fun j=>.lits 2<|.call (.int .i64 (topD m (shx m ee j)))<|.lit<|.both (.lits 8<|.call (.tup [(yV m (shx m ee (j+1))),(.int .i64 0)])<|.lits 3<|.call (.tup [(yV n (shx n f (j+1))),(.int .i64 0)])<|.lit<|.fin2 ⟨[1,4,6],3,[]⟩) (.lits 4<|.call (.int .i64 (topD n (shx n f j)))<|.lits 4<|.both (.lits 2<|.call (.tup [(yV m (shx m ee (j+1))),(.int .i64 0)])<|.lits 3<|.call (.tup [(yV n (shx n f (j+1))),(.int .i64 0)])<|.lit<|.fin2 ⟨[1,4,6],3,[]⟩) (.fin2 ⟨[4,6],3,[]⟩))) (by
  rintro j hI
  have hI:j≤nn:=hI
  have h1:=hI
  have q:=c1 j h1
  exact cast_ob (aI True.intro (aI (c2 j h1 ) (aI (fun (h101:(iGt (topD m (shx m ee j)) fa)=true)=>have _gh101:=iGt_t h101; aI (c4 j oO ) (aI (c5 j oO ) (aI tT ((nx_next (j+1) (show (j+1)≤nn from show j+1≤nn by omega) (show nn-(j+1)<nn-j by omega):l14_arg_0_N b1 l1 e1 b2 l2 e2 fa m ee n f nn j .normal (l14_arg_0_mk b1 l1 e1 b2 l2 e2 fa m ee n f nn (j+1))))))) (fun (h102:(iGt (topD m (shx m ee j)) fa)=false)=>have _gh102:=iGt_f h102; aI (c3 j h1 ) (aI (fun (h103:(iGt (topD n (shx n f j)) fa)=true)=>have _gh103:=iGt_t h103; aI (c4 j oO ) (aI (c5 j oO ) (aI tT ((nx_next (j+1) (show (j+1)≤nn from show j+1≤nn by omega) (show nn-(j+1)<nn-j by omega):l14_arg_0_N b1 l1 e1 b2 l2 e2 fa m ee n f nn j .normal (l14_arg_0_mk b1 l1 e1 b2 l2 e2 fa m ee n f nn (j+1))))))) (fun (h104:(iGt (topD n (shx n f j)) fa)=false)=>have _gh104:=iGt_f h104; aI tT ((nx_exit 0 ((l14_arg_0_ex b1 l1 e1 b2 l2 e2 fa m ee n f nn j).2) j (show j=nn from show j=nn by omega) rfl:l14_arg_0_N b1 l1 e1 b2 l2 e2 fa m ee n f nn j (.exit 0) ((l14_arg_0_ex b1 l1 e1 b2 l2 e2 fa m ee n f nn j).2))))))))) (by kernel_rfl))
theorem l14_argT (b1:Bool)(l1:List Nat)(e1:Int)(b2:Bool)(l2:List Nat)(e2 fa m ee n f:Int)(nn:Nat)(c0:Impl Tryz.prog Amb 78 [(.agg [(.bool b1),(.sl 1 (U l1)),(.int .i64 e1),(.bool b2),(.sl 1 (U l2)),(.int .i64 e2)]),(.int .i64 2),(.int .i64 40)] (.tup [(wV m (shx m ee 0) n (shx n f 0)),(.bool true)]))(c1:nn≤100)(c2:∀ j,j≤nn→(j=nn↔(topD m (shx m ee j))≤fa∧(topD n (shx n f j))≤fa))(c3:∀ j,j≤nn→Impl Tryz.prog Amb 18 [(yV m (shx m ee j))] (.int .i64 (topD m (shx m ee j))))(c4:∀ j,j≤nn→Impl Tryz.prog Amb 18 [(yV n (shx n f j))] (.int .i64 (topD n (shx n f j))))(c5:∀ j,j<nn→Impl Tryz.prog Amb 38 [(yV m (shx m ee j)),(.int .i64 (-20))] (.tup [(yV m (shx m ee (j+1))),(.int .i64 0)]))(c6:∀ j,j<nn→Impl Tryz.prog Amb 38 [(yV n (shx n f j)),(.int .i64 (-20))] (.tup [(yV n (shx n f (j+1))),(.int .i64 0)])):Impl Tryz.prog Amb 59 [(.agg [(.bool b1),(.sl 1 (U l1)),(.int .i64 e1),(.bool b2),(.sl 1 (U l2)),(.int .i64 e2)]),(.int .i64 fa)] (.tup [(wV m (shx m ee nn) n (shx n f nn)),(.bool true)]):=by
 exact impl_ob hP hAmb Tryz.func59 (by kernel_rfl) (.lits 2<|.call (.tup [(wV m (shx m ee 0) n (shx n f 0)),(.bool true)])<|.lits 3<|.loop ⟨[1,4,6],3,[]⟩ ((l14_arg_0_mk b1 l1 e1 b2 l2 e2 fa m ee n f nn 0)) (Nat) (l14_arg_0_ex b1 l1 e1 b2 l2 e2 fa m ee n f nn) (l14_arg_0_J b1 l1 e1 b2 l2 e2 fa m ee n f nn) (fun y=>.lits 3<|.ret))
  (cast_ob (aI True.intro (aI (c0 ) (aI tT (aI (rfl:(l14_arg_0_mk b1 l1 e1 b2 l2 e2 fa m ee n f nn 0)=(l14_arg_0_mk b1 l1 e1 b2 l2 e2 fa m ee n f nn 0)) (aI (l14_arg_0 b1 l1 e1 b2 l2 e2 fa m ee n f nn c1 c2 c3 c4 c5 c6 0 (show 0≤nn from Nat.zero_le _)) (fun y (hJ:l14_arg_0_J b1 l1 e1 b2 l2 e2 fa m ee n f nn y)=>have hJ:y=nn:=hJ; (by rw [show y=nn from hJ]; exact vsub_refl _:vsub (.tup [(wV m (shx m ee y) n (shx n f y)),(.bool true)]) (.tup [(wV m (shx m ee nn) n (shx n f nn)),(.bool true)])))))))) (by kernel_rfl))
end Go.Proofs.YtcbihoojfakhdaaGreatDoor

namespace Go.Proofs.YtcbihoojfakhdaaGreatDoor
open Go.RowKit
set_option maxRecDepth 100000
set_option maxHeartbeats 2000000
theorem shx_fit {m e:Int}(hm:L m.natAbs≤2)(he:-40≤e∧e≤104){j:Nat}(hj:j≤20):-440≤shx m e j∧shx m e j≤104:=by
 unfold shx; split<;>omega
theorem shx_step {m e:Int}(hv:vdb m e=true)(hm:L m.natAbs≤2)(he:-40≤e∧e≤104){j:Nat}(hj:j≤20):Impl Tryz.prog Amb 38 [(yV m (shx m e j)),(.int .i64 (-20))] (.tup [(yV m (shx m e (j+1))),(.int .i64 0)]):=by
 have f:=shx_fit hm he hj
 have h:=r08_Shift m (shx m e j) (-20) oO oO oO
 have key:mkM m (shx m e j+-20)=m∧mkX m (shx m e j+-20)=shx m e (j+1)∧mkE m (shx m e j+-20)=0:=by
  by_cases hz:m=0
  ·subst hz
   have:=mk_r2 (m:=0) (e:=shx 0 e j+-20) oO rfl
   exact ⟨this.1,this.2.1,this.2.2⟩
  ·have s:shx m e j+-20=shx m e (j+1):=by unfold shx; rw [if_neg hz,if_neg hz]; omega
   rw [s]
   refine mk_valid ?_
   rcases vdb_iff.1 hv with q | q
   ·exact absurd q.1 hz
   ·exact vdb_iff.2 (.inr ⟨hz,q.2.1,by omega,by omega,q.2.2.2.2⟩)
 rw [key.1,key.2.1,key.2.2] at h
 exact h
theorem shx_zero {m e:Int}(hv:vdb m e=true):shx m e 0=e:=by
 unfold shx
 split
 ·rename_i h
  rcases vdb_iff.1 hv with q | q
  ·exact q.2.symm
  ·exact absurd h q.1
 ·omega
end Go.Proofs.YtcbihoojfakhdaaGreatDoor


namespace Go.Proofs.YtcbihoojfakhdaaGreatDoor
open Go.RowKit
set_option maxRecDepth 100000
theorem cln_all:(List.range 400).all (fun t=>decide (lnLo (t:Int)*2^(430-t)≤ptLn) && decide (ptLn≤lnHi (t:Int)*2^(430-t)))=true:=by kernel_rfl
theorem cln_at {t:Nat}(ht:t<400):((lnLo (t:Int):Int):Rat)≤cLn*((2^t:Int):Rat)∧cLn*((2^t:Int):Rat)≤((lnHi (t:Int):Int):Rat):=by
 have h:=List.all_eq_true.1 cln_all t (List.mem_range.2 ht)
 simp only [Bool.and_eq_true,decide_eq_true_eq] at h
 exact ⟨(cl_sc oO).1 h.1,(cl_sc oO).2 h.2⟩
theorem ln_le (s:Int):lnLo s≤lnHi s:=by
 have a:=(arcT_pos 26 false s)
 have b:=(arcT_pos 4801 false s)
 have c:=(arcT_pos 8749 false s)
 unfold lnLo lnHi
 omega
end Go.Proofs.YtcbihoojfakhdaaGreatDoor


namespace Go.Proofs.YtcbihoojfakhdaaGreatDoor
open Go.RowKit
set_option maxRecDepth 100000
set_option maxHeartbeats 400000
theorem vdb_sh {m e f:Int}(h:vdb m e=true)(hm:m≠0)(hf:-65536≤f∧f≤65536):vdb m f=true:=by
 rcases vdb_iff.1 h with q | q
 ·exact absurd q.1 hm
 ·exact vdb_iff.2 (.inr ⟨hm,q.2.1,hf.1,hf.2,q.2.2.2.2⟩)
end Go.Proofs.YtcbihoojfakhdaaGreatDoor


namespace Go.Proofs.YtcbihoojfakhdaaGreatDoor
open Go.RowKit
set_option maxRecDepth 100000
set_option maxHeartbeats 2000000
theorem ln32:lnLo 32=2977044084∧lnHi 32=2977044804:=⟨by kernel_rfl,by kernel_rfl⟩
theorem e32:((2^32:Int):Rat)=4294967296:=by rw [show (2:Int)^32=4294967296 from by kernel_rfl]; rfl
theorem near_k32 {d c:Rat}{p1 p2 k:Int}(hp1:(p1:Rat)≤d*4294967296)(hp2:d*4294967296≤(p2:Rat))(hp:p2≤p1+1)(hq1:(2977044084:Rat)≤c*4294967296)(hq2:c*4294967296≤(2977044804:Rat))
  (hk:k=Int.fdiv (((p1+p2)*2^1)+(2977044084+2977044804)) ((2977044084+2977044804)*2^1)) (d1:-512≤d) (d2:d≤512):(-900≤k∧k≤900)∧-36≤100*(d-(k:Rat)*c)∧100*(d-(k:Rat)*c)≤36:=by
 have P1:-512*4294967296≤p2:=by
  refine Rat.intCast_le_intCast.1 ?_
  rw [Rat.intCast_mul]
  show (-512:Rat)*4294967296≤p2
  grind
 have P2:p1≤512*4294967296:=by
  refine Rat.intCast_le_intCast.1 ?_
  rw [Rat.intCast_mul]
  show (p1:Rat)≤512*4294967296
  grind
 rw [Int.fdiv_eq_ediv_of_nonneg _ oO] at hk
 have f1:=Int.ediv_mul_le (((p1+p2)*2^1)+(2977044084+2977044804)) (show ((2977044084:Int)+2977044804)*2^1≠0 by omega)
 have f2:=Int.lt_ediv_add_one_mul_self (((p1+p2)*2^1)+(2977044084+2977044804)) (show 0<((2977044084:Int)+2977044804)*2^1 by omega)
 rw [← hk] at f1 f2
 rw [show (2:Int)^1=2 from rfl] at f1 f2
 have f1:k*11908177776≤2*p1+2*p2+5954088888:=by omega
 have f2:2*p1+2*p2+5954088888≤(k+1)*11908177776:=by omega
 have K1:k≤900:=by omega
 have K2:-900≤k:=by omega
 refine ⟨⟨K2,K1⟩,?_⟩
 have g1:=Rat.intCast_le_intCast.2 f1
 have g2:=Rat.intCast_le_intCast.2 f2
 simp only [Rat.intCast_mul,Rat.intCast_add] at g1 g2
 have g1:(k:Rat)*11908177776≤2*(p1:Rat)+2*(p2:Rat)+5954088888:=g1
 have g2:2*(p1:Rat)+2*(p2:Rat)+5954088888≤((k:Rat)+1)*11908177776:=g2
 have hpR:(p2:Rat)≤(p1:Rat)+1:=by
  have:(p2:Rat)≤((p1+1:Int):Rat):=Rat.intCast_le_intCast.2 hp
  rw [Rat.intCast_add] at this; exact this
 have k1R:(k:Rat)≤1000:=by
  have:(k:Rat)≤((1000:Int):Rat):=Rat.intCast_le_intCast.2 (Int.le_trans K1 (by decide))
  exact this
 have k2R:(-1000:Rat)≤(k:Rat):=by
  have:((-1000:Int):Rat)≤(k:Rat):=Rat.intCast_le_intCast.2 (Int.le_trans (by decide) K2)
  exact this
 generalize (k:Rat)=K at *
 generalize (p1:Rat)=p at *
 generalize (p2:Rat)=p' at *
 clear f1 f2 hk K1 K2 P1 P2 hp
 rcases (Rat.le_total:0≤K∨K≤0) with hK | hK
 ·have m1:=Rat.mul_le_mul_of_nonneg_left hq1 hK
  have m2:=Rat.mul_le_mul_of_nonneg_left hq2 hK
  constructor<;>grind
 ·have m1:=Rat.mul_le_mul_of_nonneg_left hq1 (show 0≤-K by grind)
  have m2:=Rat.mul_le_mul_of_nonneg_left hq2 (show 0≤-K by grind)
  constructor<;>grind
theorem ex_span (m ee k ss:Int)(hs:0≤ss∧ss≤380)(hm:L (m).natAbs≤20)(he:-440≤ee∧ee≤130)(hk:-1000≤k∧k≤1000) :
  ∃ a1 a2 u1 u2 t1 t2 d1 d2 x1 x2:Int,(Impl Tryz.prog Amb 161 [(yV m ee),(.int .i64 (ss+16))] (sV a1 a2)∧Impl Tryz.prog Amb 112 [(.int .i64 (ss+16))] (sV u1 u2)∧Impl Tryz.prog Amb 165 [(sV u1 u2),(.int .i64 k)] (sV t1 t2)∧Impl Tryz.prog Amb 164 [(sV a1 a2),(sV t1 t2)] (sV d1 d2)∧Impl Tryz.prog Amb 162 [(sV d1 d2),(.int .i64 16)] (sV x1 x2)) ∧
   x1≤x2∧x2-x1≤300001∧(x1:Rat)≤(dv m ee-(k:Rat)*cLn)*((2^ss.toNat:Int):Rat)∧(dv m ee-(k:Rat)*cLn)*((2^ss.toNat:Int):Rat)≤(x2:Rat):=by
 obtain ⟨t,ht⟩:∃ t:Nat,(t:Int)=ss+16:=⟨(ss+16).toNat,by omega⟩
 have hO:=fx_Of m ee (ss+16) oO oO oO
 have lf:=flr_LD m ee (ss+16)
 have sc1:=flr_sc (dv m ee) t
 have sc2:=cei_sc (dv m ee) t
 have fc:=flr_cei1 (dv m ee) t
 have cl:=cln_at (t:=t) oO
 rw [ht] at sc1 sc2 fc cl
 have b:=ln_ok (s:=ss+16) oO
 have bl:=ln_le (ss+16)
 have bw:lnHi (ss+16)-lnLo (ss+16)<16777216:=by
  have:=nbits_lt (lnHi (ss+16)-lnLo (ss+16)).natAbs
  have p:=Nat.pow_le_pow_right (n:=2) oO b.2.2
  omega
 have hL:=fx_Ln2 (ss+16) oO
 have hL:Impl Tryz.prog Amb 112 [(.int .i64 (ss+16))] (sV (lnLo (ss+16)) (lnHi (ss+16))):=hL
 generalize lnLo (ss+16)=q1 at *
 generalize lnHi (ss+16)=q2 at *
 generalize flr (dv m ee) (ss+16)=p1 at *
 generalize cei (dv m ee) (ss+16)=p2 at *
 have m1:=L_abs_mul q1 k
 have m2:=L_abs_mul q2 k
 have lk:=L_i64 (n:=k) oO
 have hT:=fx_TimesA q1 q2 k oO oO oO
 have te:=tm_enc (k:=k) cl.1 cl.2
 have tw:=tm_w (W:=1000) bl oO bw
 have tL:L (tmLo q1 q2 k).natAbs≤440∧L (tmHi q1 q2 k).natAbs≤440:=by unfold tmLo tmHi; split<;>omega
 generalize tmLo q1 q2 k=t1 at *
 generalize tmHi q1 q2 k=t2 at *
 have n1:=L_abs_neg t1
 have n2:=L_abs_neg t2
 have a1:=L_abs_add p1 (-t2)
 have a2:=L_abs_add p2 (-t1)
 have hS:=fx_Sub p1 p2 t1 t2 oO oO oO oO
 have hH:=fx_Half (p1+-t2) (p2+-t1) 16 oO oO oO
 have hw:=half_w (a:=p1+-t2) (b:=p2+-t1) (W:=300000) (n:=16) oO
 have he:=half_enc (a:=p1+-t2) (b:=p2+-t1) (X:=dv m ee-(k:Rat)*cLn) (t:=t) (s:=ss.toNat) (n:=16) oO (by rw [Rat.intCast_add,Rat.intCast_neg]; grind) (by rw [Rat.intCast_add,Rat.intCast_neg]; grind)
 exact ⟨p1,p2,q1,q2,t1,t2,_,_,_,_,⟨hO,hL,hT,hS,hH⟩,Rat.intCast_le_intCast.1 (Rat.le_trans he.1 he.2),hw,he.1,he.2⟩
end Go.Proofs.YtcbihoojfakhdaaGreatDoor

namespace Go.Proofs.YtcbihoojfakhdaaGreatDoor
open Go.RowKit
set_option maxRecDepth 100000
set_option maxHeartbeats 2000000
theorem cLn_b:69≤100*cLn∧100*cLn≤70:=⟨of_decide_eq_true (by kernel_rfl),of_decide_eq_true (by kernel_rfl)⟩
def XF (d:Rat)(k:Int)(K:Nat):Rat:=EP (d-(k:Rat)*cLn) K*(2:Rat)^k
theorem fx_ExpE (m ee s1 D:Int)(hs:24≤s1∧s1≤300)(hm:L (m).natAbs≤20)(he:-440≤ee∧ee≤130)(d1:-512≤dv m ee)(d2:dv m ee≤512)(hD:100*dv m ee+36≤69*(D:Rat))(D0:0≤D)(hD2:s1+D+24≤380) :
  ∃ k r1 r2:Int,Impl Tryz.prog Amb 194 [(yV m ee),(.int .i64 s1)] (sV r1 r2)∧(-1000≤k∧k≤D)∧(33≤100*(dv m ee-(k:Rat)*cLn)∧100*(dv m ee-(k:Rat)*cLn)≤106)∧Encl (XF (dv m ee) k) s1.toNat r1 r2∧r2-r1≤2∧0≤r1∧L r2.natAbs≤20:=by
 have hO:=fx_Of m ee 32 oO oO oO
 have hN:Impl Tryz.prog Amb 112 [(.int .i64 32)] (sV (2977044084:Int) (2977044804:Int)):=by
  have h:Impl Tryz.prog Amb 112 [(.int .i64 32)] (sV (lnLo 32) (lnHi 32)):=fx_Ln2 32 oO
  rw [ln32.1,ln32.2] at h
  exact h
 have lf:=flr_LD m ee 32
 have sc1:=(flr_sc (dv m ee) 32).1
 have sc2:=(cei_sc (dv m ee) 32).1
 have fc:=(flr_cei1 (dv m ee) 32).1
 have cl:=cln_at (t:=32) oO
 rw [e32] at sc1 sc2 cl
 have sc1:((flr (dv m ee) 32:Int):Rat)≤dv m ee*4294967296:=sc1
 have sc2:dv m ee*4294967296≤((cei (dv m ee) 32:Int):Rat):=sc2
 have fc:cei (dv m ee) 32≤flr (dv m ee) 32+1:=fc
 have cl:((lnLo 32:Int):Rat)≤cLn*4294967296∧cLn*4294967296≤((lnHi 32:Int):Rat):=cl
 rw [ln32.1,ln32.2] at cl
 generalize flr (dv m ee) 32=p1 at *
 generalize cei (dv m ee) 32=p2 at *
 have nk:=near_k32 (k:=Int.fdiv (((p1+p2)*2^1)+(2977044084+2977044804)) ((2977044084+2977044804)*2^1)) sc1 sc2 fc cl.1 cl.2 rfl d1 d2
 have lq1:L ((2977044084:Int)).natAbs≤2:=Nat.le_trans (L_lit 2977044084 (by decide)) oO
 have lq2:L ((2977044804:Int)).natAbs≤2:=Nat.le_trans (L_lit 2977044804 (by decide)) oO
 have NE:=fx_Nearest p1 p2 2977044084 2977044804 oO oO oO oO oO oO
 generalize Int.fdiv (((p1+p2)*2^1)+(2977044084+2977044804)) ((2977044084+2977044804)*2^1)=k0 at nk NE
 clear sc1 sc2 fc cl lf
 have cb:=cLn_b
 obtain ⟨k,hk⟩:∃ k,k=k0-1:=⟨_,rfl⟩
 have kR:(k:Rat)=(k0:Rat)-1:=by rw [hk,Rat.intCast_sub]; rfl
 have xb:33≤100*(dv m ee-(k:Rat)*cLn)∧100*(dv m ee-(k:Rat)*cLn)≤106:=by rw [kR]; constructor<;>grind
 have kD:k≤D:=by
  refine Decidable.byContradiction fun hn=>?_
  have a:(D:Rat)+1≤(k:Rat):=by
   have:=Rat.intCast_le_intCast.2 (show D+1≤k by omega)
   rw [Rat.intCast_add] at this; exact this
  have b:(0:Rat)≤(D:Rat):=Rat.intCast_nonneg.2 D0
  have c:=Rat.mul_le_mul_of_nonneg_left cb.1 (show (0:Rat)≤(k:Rat) by grind)
  have x36:-36≤100*(dv m ee-(k0:Rat)*cLn):=nk.2.1
  grind
 have im:=iMax_range k 0
 have hL1:iMax k 0≤D:=by omega
 obtain ⟨t,ht⟩:∃ t:Nat,(t:Int)=((s1+(iMax k (0:Int)))+24):=⟨(((s1+(iMax k (0:Int)))+24)).toNat,by omega⟩
 have htn:(((s1+(iMax k (0:Int)))+24)).toNat=t:=by omega
 obtain ⟨a1,a2,u1,u2,t1,t2,q1,q2,x1,x2,⟨C1,C2,C3,C4,C5⟩,x12,xw,xe1,xe2⟩:=ex_span m ee k ((s1+(iMax k (0:Int)))+24) oO hm he oO
 have P48:(2:Int)^48≤2^(((s1+(iMax k (0:Int)))+24)).toNat:=by
  rw [htn,pow_cast,pow_cast]
  exact Int.ofNat_le.2 (Nat.pow_le_pow_right oO oO)
 rw [show (2:Int)^48=281474976710656 from rfl] at P48
 have PR:(281474976710656:Rat)≤((2^(((s1+(iMax k (0:Int)))+24)).toNat:Int):Rat):=Rat.intCast_le_intCast.2 P48
 have X1:33*2^(((s1+(iMax k (0:Int)))+24)).toNat≤100*x2:=by
  refine Rat.intCast_le_intCast.1 ?_
  rw [Rat.intCast_mul,Rat.intCast_mul]
  have m1:=Rat.mul_le_mul_of_nonneg_right xb.1 (show (0:Rat)≤((2^(((s1+(iMax k (0:Int)))+24)).toNat:Int):Rat) by grind)
  show (33:Rat)*_≤100*_
  grind
 have X2:100*x1≤106*2^(((s1+(iMax k (0:Int)))+24)).toNat:=by
  refine Rat.intCast_le_intCast.1 ?_
  rw [Rat.intCast_mul,Rat.intCast_mul]
  have m1:=Rat.mul_le_mul_of_nonneg_right xb.2 (show (0:Rat)≤((2^(((s1+(iMax k (0:Int)))+24)).toNat:Int):Rat) by grind)
  show (100:Rat)*_≤106*_
  grind
 obtain ⟨y1,y2,CE,EE,yw,y0,y9⟩:=fx_expE x1 x2 ((s1+(iMax k (0:Int)))+24) (dv m ee-(k:Rat)*cLn) oO xe1 xe2 oO oO oO
 obtain ⟨n,hn⟩:∃ n:Nat,(n:Int)=(((s1+(iMax k (0:Int)))+24)-s1)-k:=⟨((((s1+(iMax k (0:Int)))+24)-s1)-k).toNat,by omega⟩
 have hnn:((((s1+(iMax k (0:Int)))+24)-s1)-k).toNat=n:=by omega
 rw [htn] at EE y9
 have ly:∀ y:Int,0≤y→y≤9*2^t→L y.natAbs≤20:=fun y z0 z1=>by
  refine L_pow2 (n:=t+4) ?_ oO
  have e:((2^(t+4):Nat):Int)=2^t*16:=by rw [← pow_cast,Int.pow_add]; rfl
  have:=two_pos t
  omega
 have y12:=EE.le
 have l1:=ly y1 y0 oO
 have l2:=ly y2 oO y9
 have CH:=fx_Half y1 y2 ((((s1+(iMax k (0:Int)))+24)-s1)-k) oO oO oO
 rw [hnn] at CH
 have pn:(16777216:Int)≤2^n:=by
  rw [pow_cast,show (16777216:Int)=((2^24:Nat):Int) from rfl]
  exact Int.ofNat_le.2 (Nat.pow_le_pow_right oO oO)
 have hw:=half_w (a:=y1) (b:=y2) (W:=1) (n:=n) oO
 have hE:Encl (XF (dv m ee) k) s1.toNat (y1 / 2^n) (-(-y2 / 2^n)):=by
  obtain ⟨N,EE⟩:=EE
  have z:(2:Rat)^k*((2^(s1.toNat+n):Int):Rat)=((2^t:Int):Rat):=by
   rw [← zp_nat,← zp_nat,← zp_add]
   congr 1
   omega
  refine ⟨N,fun K hK=>half_enc (t:=s1.toNat+n) rfl ?_ ?_⟩
  ·unfold XF; rw [Rat.mul_assoc,z]; exact (EE K hK).1
  ·unfold XF; rw [Rat.mul_assoc,z]; exact (EE K hK).2
 have o1:=L_abs_neg y2
 have o2:=L_abs_shr (-y2) n
 have r0:0≤y1 / 2^n:=Int.ediv_nonneg y0 oO
 have r2:-(-y2 / 2^n)≤9*2^t:=by
  have g:=Int.lt_ediv_add_one_mul_self (-y2) (two_pos n)
  refine Decidable.byContradiction fun hn'=>?_
  have m1:=Int.mul_le_mul_of_nonneg_right (show -y2 / 2^n+1≤-(9*2^t) by omega) (Int.le_of_lt (two_pos n))
  have m2:=Int.mul_le_mul_of_nonneg_left (show (1:Int)≤2^n by omega) (show 0≤9*(2:Int)^t by omega)
  rw [Int.neg_mul] at m1
  omega
 have rle:=hE.le
 have lr:=ly (-(-y2 / 2^n)) oO r2
 have W:=fx_ExpW m ee s1 p1 p2 2977044084 2977044804 k0 a1 a2 u1 u2 t1 t2 q1 q2 x1 x2 y1 y2 (y1 / 2^n) (-(-y2 / 2^n)) oO oO hO hN NE
 rw [← hk] at W
 exact ⟨k,_,_,W C1 C2 C3 C4 C5 CE CH,⟨by omega,kD⟩,xb,hE,hw,r0,lr⟩
end Go.Proofs.YtcbihoojfakhdaaGreatDoor

namespace Go.Proofs.YtcbihoojfakhdaaGreatDoor
open Go.RowKit
set_option maxRecDepth 100000
set_option maxHeartbeats 2000000
theorem ex_valueE (m ee w D:Int)(hw:0≤w∧w≤276)(hm:L (m).natAbs≤20)(he:-440≤ee∧ee≤130)(hd:(-512≤dv m ee∧dv m ee≤512)∧100*dv m ee+36≤69*(D:Rat)∧-dv m ee≤(w:Rat)+1)(D0:0≤D)(hD2:w+D+48≤380) :
  ∃ k lo hi:Int,Impl Tryz.prog Amb 71 [(yV m ee),(.int .i64 w)] (sV lo hi)∧(-1000≤k∧k≤D)∧(33≤100*(dv m ee-(k:Rat)*cLn)∧100*(dv m ee-(k:Rat)*cLn)≤106)∧Encl (XF (dv m ee) k) w.toNat lo hi∧hi-lo≤2∧0≤lo∧L hi.natAbs≤30:=by
 obtain ⟨⟨d1,d2⟩,d3,d4⟩:=hd
 obtain ⟨k,r1,r2,hC,hk,hx,hE,hw2,h0,hl⟩:=fx_ExpE m ee (w+24) D oO hm he d1 d2 d3 D0 oO
 have r12:=hE.le
 have l1:L r1.natAbs≤20:=Nat.le_trans (L_mono oO) hl
 have hA:=ex_at m ee (w+24) r1 r2 hC
 have hT:=fx_SettleB 134 (yV m ee) r1 r2 w hA oO (nbits_of_lt oO) oO
 have n1:=L_abs_neg m
 have hB:=ex_beyond (-m) ee (w+1) oO oO oO
 have hB:Impl Tryz.prog Amb 69 [(yV (-m) ee),(.int .i64 (w+1))] (.bool false):=by
  refine impl_eq (congrArg V.bool (decide_eq_false fun q=>?_)) hB
  have q:=cmpD_pos.1 q
  rw [(of_fit (n:=w+1) oO).2.2.2.2.2,dv_neg,Rat.intCast_add] at q
  have q:(w:Rat)+1 < -dv m ee:=q
  grind
 have o1:=L_abs_shr r1 24
 have o2:=L_abs_neg r2
 have o3:=L_abs_shr (-r2) 24
 have o4:=L_abs_neg (-r2 / 2^24)
 have hw3:=half_w (a:=r1) (b:=r2) (W:=1) (n:=24) oO
 exact ⟨k,_,_,ex_value0 m ee w _ _ oO oO hB hT,hk,hx,hE.half oO,hw3,Int.ediv_nonneg h0 (by decide),by omega⟩
end Go.Proofs.YtcbihoojfakhdaaGreatDoor

namespace Go.Proofs.YtcbihoojfakhdaaGreatDoor
theorem EP_one {x:Rat}(h0:0≤x){K:Nat}(hK:1≤K):1≤EP x K:=by
 have a:=EP_mono h0 hK
 have b:EP x 1=1:=by show (0:Rat)+1=1; grind
 grind
def eps:Rat:=dv 1 (-400)
theorem EPc_num:2-eps≤EP cLn 91∧EP cLn 91+tE cLn 90≤2+eps:=⟨of_decide_eq_true (by kernel_rfl),of_decide_eq_true (by kernel_rfl)⟩
theorem EPc {K:Nat}:(91≤K→2-eps≤EP cLn K)∧EP cLn K≤2+eps:=by
 have c0:0≤cLn:=of_decide_eq_true (by kernel_rfl)
 have c1:2*cLn≤(nx 90:Rat):=of_decide_eq_true (by kernel_rfl)
 have n:=EPc_num
 exact ⟨fun h=>Rat.le_trans n.1 (EP_mono c0 h),Rat.le_trans (EP_tail c0 c1 K) n.2⟩
end Go.Proofs.YtcbihoojfakhdaaGreatDoor


namespace Go.Proofs.YtcbihoojfakhdaaGreatDoor
def Lq (f g:Nat→Rat):Prop:=∀ e:Rat,0<e→∃ N,∀ K,N≤K→f K≤g K+e
def Lm (f g:Nat→Rat):Prop:=Lq f g∧Lq g f
def Bn (f:Nat→Rat)(B:Rat):Prop:=∃ N,∀ K,N≤K→-B≤f K∧f K≤B
theorem Lq.refl (f:Nat→Rat):Lq f f:=fun e h=>⟨0,fun K _=>by grind⟩
theorem Lm.refl (f:Nat→Rat):Lm f f:=⟨Lq.refl f,Lq.refl f⟩
theorem Lm.symm {f g:Nat→Rat}(h:Lm f g):Lm g f:=⟨h.2,h.1⟩
theorem r8:(0:Rat)<1 / 8∧(0:Rat)<1 / 2∧(0:Rat)<2⁻¹:=⟨of_decide_eq_true (by kernel_rfl),of_decide_eq_true (by kernel_rfl),of_decide_eq_true (by kernel_rfl)⟩
theorem half_pos {e:Rat}(h:0<e):0<e / 2:=by rw [Rat.div_def]; exact Rat.mul_pos h r8.2.2
theorem half_two (e:Rat):e / 2+e / 2=e:=by rw [Rat.div_def]; grind
theorem Lq.trans {f g h:Nat→Rat}(a:Lq f g)(b:Lq g h):Lq f h:=fun e he=>by
 obtain ⟨N,p⟩:=a (e / 2) (half_pos he)
 obtain ⟨M,q⟩:=b (e / 2) (half_pos he)
 refine ⟨N+M,fun K hK=>?_⟩
 have x:=p K (by omega)
 have y:=q K (by omega)
 have z:=half_two e
 grind
theorem Lm.trans {f g h:Nat→Rat}(a:Lm f g)(b:Lm g h):Lm f h:=⟨a.1.trans b.1,b.2.trans a.2⟩
theorem Lq.of_le {f g:Nat→Rat}{N:Nat}(h:∀ K,N≤K→f K≤g K):Lq f g:=fun e he=>⟨N,fun K hK=>by have:=h K hK; grind⟩
theorem Lm.of_eq {f g:Nat→Rat}{N:Nat}(h:∀ K,N≤K→f K=g K):Lm f g:=⟨.of_le (N:=N) fun K hK=>by rw [h K hK]; exact Rat.le_refl,.of_le (N:=N) fun K hK=>by rw [h K hK]; exact Rat.le_refl⟩
theorem mul_bd {p x P a:Rat}(h1:-P≤p)(h2:p≤P)(h3:-a≤x)(h4:x≤a):-(P*a)≤p*x∧p*x≤P*a:=by
 have m1:=Rat.mul_nonneg (show 0≤P-p by grind) (show 0≤a+x by grind)
 have m2:=Rat.mul_nonneg (show 0≤P+p by grind) (show 0≤a-x by grind)
 have m3:=Rat.mul_nonneg (show 0≤P+p by grind) (show 0≤a+x by grind)
 have m4:=Rat.mul_nonneg (show 0≤P-p by grind) (show 0≤a-x by grind)
 constructor<;>grind
theorem inv_one {B:Rat}(h:0<B):B⁻¹*B=1:=Rat.inv_mul_cancel _ (by grind)
theorem Bn.pos {f:Nat→Rat}{B:Rat}(h:Bn f B):∃ C,0<C∧Bn f C:=by
 obtain ⟨N,h⟩:=h
 have a:=h N (Nat.le_refl _)
 refine ⟨B+1,by grind,N,fun K hK=>?_⟩
 have b:=h K hK
 constructor<;>grind
theorem Lq.mul_aux {f f' g g':Nat→Rat}{A B:Rat}(h:Lm f f')(k:Lm g g')(hf:Bn f A)(hg:Bn g' B):Lq (fun K=>f K*g K) (fun K=>f' K*g' K):=fun e he=>by
 obtain ⟨A',A0,N1,b1⟩:=hf.pos
 obtain ⟨B',B0,N2,b2⟩:=hg.pos
 have iA:=Rat.inv_pos.2 A0
 have iB:=Rat.inv_pos.2 B0
 have eA:=inv_one A0
 have eB:=inv_one B0
 obtain ⟨N3,c1⟩:=h.1 _ (Rat.mul_pos (half_pos he) iB)
 obtain ⟨N4,c2⟩:=h.2 _ (Rat.mul_pos (half_pos he) iB)
 obtain ⟨N5,c3⟩:=k.1 _ (Rat.mul_pos (half_pos he) iA)
 obtain ⟨N6,c4⟩:=k.2 _ (Rat.mul_pos (half_pos he) iA)
 refine ⟨N1+N2+N3+N4+N5+N6,fun K hK=>?_⟩
 have b1:=b1 K (by omega)
 have b2:=b2 K (by omega)
 have c1:=c1 K (by omega)
 have c2:=c2 K (by omega)
 have c3:=c3 K (by omega)
 have c4:=c4 K (by omega)
 have z:=half_two e
 have m1:=(mul_bd b1.1 b1.2 (x:=g K-g' K) (a:=e / 2*A'⁻¹) (by grind) (by grind)).2
 have m2:=(mul_bd b2.1 b2.2 (x:=f K-f' K) (a:=e / 2*B'⁻¹) (by grind) (by grind)).2
 have q1:A'*(e / 2*A'⁻¹)=e / 2:=by grind
 have q2:B'*(e / 2*B'⁻¹)=e / 2:=by grind
 rw [q1] at m1
 rw [q2] at m2
 show f K*g K≤f' K*g' K+e
 grind
theorem Lm.bn {f g:Nat→Rat}{A:Rat}(h:Lm f g)(b:Bn f A):Bn g (A+1):=by
 obtain ⟨N,b⟩:=b
 obtain ⟨N1,h1⟩:=h.1 1 (by decide)
 obtain ⟨N2,h2⟩:=h.2 1 (by decide)
 refine ⟨N+N1+N2,fun K hK=>?_⟩
 have b:=b K (by omega)
 have h1:=h1 K (by omega)
 have h2:=h2 K (by omega)
 constructor<;>grind
theorem Lm.mul {f f' g g':Nat→Rat}{A B:Rat}(h:Lm f f')(k:Lm g g')(hf:Bn f A)(hg:Bn g B):Lm (fun K=>f K*g K) (fun K=>f' K*g' K) :=
 ⟨Lq.mul_aux h k hf (k.bn hg),Lq.mul_aux h.symm k.symm (h.bn hf) hg⟩
theorem Sm_bd {f g:Nat→Rat}:∀ {n:Nat},(∀ i,i<n→-(g i)≤f i∧f i≤g i)→-(Sm g n)≤Sm f n∧Sm f n≤Sm g n
 | 0,_=>by show -(0:Rat)≤0∧(0:Rat)≤0; constructor<;>decide
 | n+1,h=>by
  have a:=Sm_bd (n:=n) (fun i hi=>h i (by omega))
  have b:=h n (by omega)
  show -(Sm g n+g n)≤Sm f n+f n∧Sm f n+f n≤Sm g n+g n
  constructor<;>grind
theorem tE_bd {x a:Rat}(h1:-a≤x)(h2:x≤a):∀ n,-(tE a n)≤tE x n∧tE x n≤tE a n
 | 0=>by show -(1:Rat)≤1∧(1:Rat)≤1; constructor<;>decide
 | n+1=>by
  have i:=tE_bd h1 h2 n
  have m:=mul_bd i.1 i.2 h1 h2
  have np:=nx_pos n
  have e1:=tE_mul x n
  have e2:=tE_mul a n
  constructor
  ·exact Rat.le_of_mul_le_mul_right (c:=(nx n:Rat)) (by grind) np
  ·exact Rat.le_of_mul_le_mul_right (c:=(nx n:Rat)) (by grind) np
theorem EP_bd {x a:Rat}(h1:-a≤x)(h2:x≤a)(K:Nat):-(EP a K)≤EP x K∧EP x K≤EP a K:=Sm_bd fun i _=>tE_bd h1 h2 i
theorem EP_gap {x a:Rat}(h1:-a≤x)(h2:x≤a)(K k:Nat):-(EP a (K+k)-EP a K)≤EP x (K+k)-EP x K∧EP x (K+k)-EP x K≤EP a (K+k)-EP a K:=by
 induction k with
 | zero=>show -(EP a K-EP a K)≤EP x K-EP x K∧EP x K-EP x K≤EP a K-EP a K; constructor<;>grind
 | succ k ih =>
  have b:=tE_bd h1 h2 (K+k)
  have e1:EP x (K+(k+1))=EP x (K+k)+tE x (K+k):=rfl
  have e2:EP a (K+(k+1))=EP a (K+k)+tE a (K+k):=rfl
  rw [e1,e2]
  constructor<;>grind
theorem Sm_cm (c:Rat)(f:Nat→Rat)(n:Nat):Sm (fun j=>c*f j) n=c*Sm f n:=by
 rw [Rat.mul_comm,Sm_mul]
 exact Sm_congr fun i _=>Rat.mul_comm _ _
theorem EP_form (x y:Rat)(K:Nat):EP x K*EP y K-EP (x+y) K=Sm (fun i=>tE x i*(EP y K-EP y (K-i))) K:=by
 have p:EP x K*EP y K=Sm (fun i=>tE x i*EP y K) K:=by unfold EP; rw [Sm_mul]
 have q:EP (x+y) K=Sm (fun i=>tE x i*EP y (K-i)) K:=by
  rw [EP_conv]
  exact Sm_congr fun i _=>Sm_cm _ _ _
 have r:Sm (fun i=>tE x i*EP y K) K=Sm (fun i=>tE x i*(EP y K-EP y (K-i))) K+Sm (fun i=>tE x i*EP y (K-i)) K:=by
  rw [← Sm_add]
  exact Sm_congr fun i _=>by grind
 rw [p,q,r]; grind
theorem EP_mul_bd {x y a b:Rat}(h1:-a≤x)(h2:x≤a)(h3:-b≤y)(h4:y≤b)(K:Nat):-(EP a K*EP b K-EP (a+b) K)≤EP x K*EP y K-EP (x+y) K∧EP x K*EP y K-EP (x+y) K≤EP a K*EP b K-EP (a+b) K:=by
 rw [EP_form,EP_form]
 refine Sm_bd fun i hi=>?_
 have g:=EP_gap h3 h4 (K-i) i
 rw [show K-i+i=K by omega] at g
 have t:=tE_bd h1 h2 i
 exact mul_bd t.1 t.2 g.1 g.2
theorem rat_nat (r:Rat):∃ n:Nat,r≤(n:Rat):=by
 refine ⟨r.ceil.toNat,?_⟩
 have a:r≤(r.ceil:Rat):=Rat.le_ceil
 have b:((r.ceil:Int):Rat)≤((r.ceil.toNat:Int):Rat):=Rat.intCast_le_intCast.2 (by omega)
 exact Rat.le_trans a b
theorem two_pow_ge:∀ n:Nat,(n:Rat)≤(2:Rat)^n
 | 0=>by rw [Rat.pow_zero]; decide
 | n+1=>by
  have a:=two_pow_ge n
  have b:=one_pow_le (q:=2) (by decide) n
  rw [Rat.pow_succ,Rat.natCast_add]
  show (n:Rat)+1≤_
  grind
theorem tE_dec {a:Rat}(h0:0≤a){m:Nat}(h:2*a≤(nx m:Rat)):∀ j,tE a (m+j)*(2:Rat)^j≤tE a m
 | 0=>by rw [Rat.pow_zero,Rat.mul_one]; exact Rat.le_refl
 | j+1=>by
  have i:=tE_dec h0 h j
  have t:=tE_half h0 (m:=m+j) (Rat.le_trans h (nx_mono (by omega)))
  have p:(0:Rat)≤(2:Rat)^j:=by have:=one_pow_le (q:=2) (by decide) j; grind
  have m1:=Rat.mul_le_mul_of_nonneg_right t p
  rw [Rat.pow_succ]
  show tE a (m+j+1)*_≤_
  grind
theorem tE_lim {a:Rat}(h0:0≤a){e:Rat}(he:0<e):∃ N,∀ K,N≤K→tE a K≤e∧2*a≤(nx K:Rat):=by
 obtain ⟨m,hm⟩:=rat_nat (2*a)
 have hm':2*a≤(nx m:Rat):=Rat.le_trans hm (Rat.intCast_le_intCast.2 (show (m:Int)≤nx m by unfold nx; omega))
 obtain ⟨j,hj⟩:=rat_nat (tE a m*e⁻¹)
 have ie:=inv_one he
 have i0:=Rat.inv_pos.2 he
 refine ⟨m+j,fun K hK=>⟨?_,Rat.le_trans hm' (nx_mono (by omega))⟩⟩
 obtain ⟨i,rfl⟩:∃ i,K=m+(j+i):=⟨K-m-j,by omega⟩
 have d:=tE_dec h0 hm' (j+i)
 have g:=two_pow_ge (j+i)
 have n1:(j:Rat)≤((j+i:Nat):Rat):=by
  rw [Rat.natCast_add]
  have:(0:Rat)≤(i:Rat):=Rat.natCast_nonneg
  grind
 have p:(1:Rat)≤(2:Rat)^(j+i):=one_pow_le (by decide) _
 refine Rat.le_of_mul_le_mul_right (c:=(2:Rat)^(j+i)) ?_ (by grind)
 have m1:=Rat.mul_le_mul_of_nonneg_left (show tE a m*e⁻¹≤(2:Rat)^(j+i) by grind) (Rat.le_of_lt he)
 have q:e*(tE a m*e⁻¹)=tE a m:=by grind
 rw [q] at m1
 exact Rat.le_trans d m1
theorem EP_cau {a:Rat}(h0:0≤a){e:Rat}(he:0<e):∃ N,∀ K,N≤K→∀ M,EP a M≤EP a K+e:=by
 obtain ⟨N,h⟩:=tE_lim h0 he
 refine ⟨N+1,fun K hK M=>?_⟩
 obtain ⟨n,rfl⟩:∃ n,K=n+1:=⟨K-1,by omega⟩
 have b:=h n (by omega)
 have c:=EP_tail h0 b.2 M
 grind
theorem EP_bound {a:Rat}(h0:0≤a):∃ B,0<B∧∀ K,EP a K≤B:=by
 obtain ⟨N,h⟩:=EP_cau h0 (e:=1) (by decide)
 have p:=EP_nonneg h0 N
 exact ⟨EP a N+1,by grind,fun K=>h N (Nat.le_refl _) K⟩
theorem abs_ex (x:Rat):∃ a,0≤a∧-a≤x∧x≤a:=by
 rcases (Rat.le_total:0≤x∨x≤0) with h | h
 ·exact ⟨x,h,by grind,Rat.le_refl⟩
 ·exact ⟨-x,by grind,by grind,by grind⟩
theorem EP_bn (x:Rat):∃ B,0<B∧Bn (EP x) B:=by
 obtain ⟨a,a0,a1,a2⟩:=abs_ex x
 obtain ⟨B,B0,hB⟩:=EP_bound a0
 refine ⟨B,B0,0,fun K _=>?_⟩
 have b:=EP_bd a1 a2 K
 have c:=hB K
 constructor<;>grind
theorem EP_add (x y:Rat):Lm (EP (x+y)) (fun K=>EP x K*EP y K):=by
 obtain ⟨a,a0,a1,a2⟩:=abs_ex x
 obtain ⟨b,b0,b1,b2⟩:=abs_ex y
 have key:∀ e:Rat,0<e→∃ N,∀ K,N≤K→EP (x+y) K≤EP x K*EP y K+e∧EP x K*EP y K≤EP (x+y) K+e:=fun e he=>by
  obtain ⟨N,h⟩:=EP_cau (Rat.add_nonneg a0 b0) he
  refine ⟨N,fun K hK=>?_⟩
  have c:=h K hK (2*K)
  have d:=(EP_mul a0 b0 K).2
  have f:=EP_mul_bd a1 a2 b1 b2 K
  constructor<;>grind
 exact ⟨fun e he=>by obtain ⟨N,h⟩:=key e he; exact ⟨N,fun K hK=>(h K hK).1⟩,fun e he=>by obtain ⟨N,h⟩:=key e he; exact ⟨N,fun K hK=>(h K hK).2⟩⟩
theorem EP_zero':∀ K,1≤K→EP 0 K=1
 | 0,h=>absurd h (by omega)
 | 1,_=>by show (0:Rat)+1=1; grind
 | K+2,_=>by
  have a:=EP_zero' (K+1) (by omega)
  have z:tE 0 (K+1)=0:=by
   show tE 0 K*0 / (nx K:Rat)=0
   rw [Rat.mul_zero,Rat.div_def,Rat.zero_mul]
  show EP 0 (K+1)+tE 0 (K+1)=1
  rw [a,z,Rat.add_zero]
theorem EP_opp (x:Rat):Lm (fun K=>EP x K*EP (-x) K) (fun _=>1):=by
 have h:=EP_add x (-x)
 rw [show x+-x=0 by grind] at h
 exact h.symm.trans (Lm.of_eq (N:=1) fun K hK=>EP_zero' K hK)
theorem EP_pos (x:Rat):∃ p,0<p∧∃ N,∀ K,N≤K→p≤EP x K:=by
 obtain ⟨B,B0,NB,hB⟩:=EP_bn (-(x / 2))
 obtain ⟨N1,h1⟩:=(EP_opp (x / 2)).2 (1 / 2) r8.2.1
 have iB:=inv_one B0
 have i0:=Rat.inv_pos.2 B0
 have c:=Rat.mul_pos i0 i0
 have h2':=EP_add (x / 2) (x / 2)
 rw [half_two] at h2'
 obtain ⟨N2,h2⟩:=h2'.2 (B⁻¹*B⁻¹*(1 / 8)) (Rat.mul_pos c r8.1)
 refine ⟨B⁻¹*B⁻¹*(1 / 8),Rat.mul_pos c r8.1,NB+N1+N2,fun K hK=>?_⟩
 have hB:=hB K (by omega)
 have h1:(1:Rat)≤EP (x / 2) K*EP (-(x / 2)) K+1 / 2:=h1 K (by omega)
 have h2:EP (x / 2) K*EP (x / 2) K≤EP x K+B⁻¹*B⁻¹*(1 / 8):=h2 K (by omega)
 generalize EP (x / 2) K=u at *
 generalize EP (-(x / 2)) K=v at *
 generalize EP x K=z at *
 generalize B⁻¹=i at *
 -- u v≥1/2,|v|≤B: 4 u u B B≥1
 have sq:0≤(u*v)*(u*v)-1 / 4:=by
  have m:=Rat.mul_le_mul_of_nonneg_left (show 1 / 2≤u*v by grind) (show 0≤u*v by grind)
  grind
 have vv:=(mul_bd hB.1 hB.2 hB.1 hB.2).2
 have uu:0≤u*u:=by
  rcases (Rat.le_total:0≤u∨u≤0) with h | h
  ·exact Rat.mul_nonneg h h
  ·have:=Rat.mul_nonneg (show 0≤-u by grind) (show 0≤-u by grind); grind
 have m1:=Rat.mul_le_mul_of_nonneg_left vv uu
 have m2:=Rat.mul_le_mul_of_nonneg_left (show 1 / 4≤u*u*(B*B) by grind) (Rat.le_of_lt c)
 have e:i*i*(u*u*(B*B))=u*u:=by
  have:i*i*(u*u*(B*B))=u*u*((i*B)*(i*B)):=by grind
  rw [this,iB]; grind
 rw [e] at m2
 grind
theorem EP_mono_lim {x y:Rat}(h:x≤y):Lq (EP x) (EP y):=by
 have a:=EP_add x (y-x)
 rw [show x+(y-x)=y by grind] at a
 refine Lq.trans ?_ a.2
 obtain ⟨p,p0,N,hp⟩:=EP_pos x
 refine Lq.of_le (N:=N+1) fun K hK=>?_
 have b:=EP_one (x:=y-x) (by grind) (show 1≤K by omega)
 have c:=hp K (by omega)
 have m:=Rat.mul_le_mul_of_nonneg_left b (show 0≤EP x K by grind)
 show EP x K≤EP x K*EP (y-x) K
 grind
end Go.Proofs.YtcbihoojfakhdaaGreatDoor

namespace Go.Proofs.YtcbihoojfakhdaaGreatDoor
theorem pow_nn {a:Rat}(h:0≤a):∀ n:Nat,0≤a^n
 | 0=>by rw [Rat.pow_zero]; decide
 | n+1=>by rw [Rat.pow_succ]; exact Rat.mul_nonneg (pow_nn h n) h
theorem pow_monox {a b:Rat}(h:0≤a)(k:a≤b):∀ n:Nat,a^n≤b^n
 | 0=>by rw [Rat.pow_zero,Rat.pow_zero]; exact Rat.le_refl
 | n+1=>by
  have i:=pow_monox h k n
  have m1:=Rat.mul_le_mul_of_nonneg_right i h
  have m2:=Rat.mul_le_mul_of_nonneg_left k (pow_nn (Rat.le_trans h k) n)
  rw [Rat.pow_succ,Rat.pow_succ]
  exact Rat.le_trans m1 m2
theorem bern_lo {h:Rat}(h0:0≤h)(h1:h≤1):∀ n:Nat,1-(n:Rat)*h≤(1-h)^n
 | 0=>by rw [Rat.pow_zero]; show 1-(0:Rat)*h≤1; grind
 | n+1=>by
  have i:=bern_lo h0 h1 n
  have m1:=Rat.mul_le_mul_of_nonneg_right i (show 0≤1-h by grind)
  have n0:(0:Rat)≤(n:Rat):=Rat.natCast_nonneg
  have m2:=Rat.mul_nonneg n0 (Rat.mul_nonneg h0 h0)
  have c:((n+1:Nat):Rat)=(n:Rat)+1:=by rw [Rat.natCast_add]; rfl
  rw [Rat.pow_succ,c]
  grind
theorem eps_bd:0≤eps∧4000*eps≤1:=⟨of_decide_eq_true (by kernel_rfl),of_decide_eq_true (by kernel_rfl)⟩
theorem two_half (P:Rat):∀ n:Nat,P^n=(2:Rat)^n*(P / 2)^n
 | 0=>by rw [Rat.pow_zero,Rat.pow_zero,Rat.pow_zero,Rat.mul_one]
 | n+1=>by
  rw [Rat.pow_succ,Rat.pow_succ,Rat.pow_succ,two_half P n]
  have h:=half_two P
  generalize P / 2=q at *
  subst h
  grind
theorem pow_near {P:Rat}{n:Nat}(h1:2-eps≤P)(h2:P≤2+eps)(hn:n≤1000):1-(n:Rat)*eps≤(P / 2)^n∧(P / 2)^n≤1+(n:Rat)*eps:=by
 have e:=eps_bd
 have hq:P / 2+P / 2=P:=half_two P
 have he:eps / 2+eps / 2=eps:=half_two eps
 generalize P / 2=q at *
 generalize eps / 2=h at *
 have n0:(0:Rat)≤(n:Rat):=Rat.natCast_nonneg
 have n1:(n:Rat)≤1000:=Rat.natCast_le_natCast.2 hn
 have m0:=Rat.mul_le_mul_of_nonneg_right n1 e.1
 have m1:=Rat.mul_nonneg n0 e.1
 have b1:=bern_lo (h:=h) (by grind) (by grind) n
 have b2:=inv_bern (y:=h) (n:=n) (by grind) (by
  have:2*((n:Rat)*h)=(n:Rat)*eps:=by grind
  rw [this]; grind)
 have c1:=pow_monox (a:=1-h) (b:=q) (by grind) (by grind) n
 have c2:=pow_monox (a:=q) (b:=1+h) (by grind) (by grind) n
 have f:(n:Rat)*eps=(n:Rat)*h+(n:Rat)*h:=by rw [← he]; grind
 have f0:0≤(n:Rat)*h:=Rat.mul_nonneg n0 (by grind)
 constructor
 ·refine Rat.le_trans ?_ (Rat.le_trans b1 c1); grind
 ·refine Rat.le_trans c2 (Rat.le_trans b2 ?_); grind
theorem EP_npow (c:Rat):∀ n:Nat,Lm (EP ((n:Rat)*c)) (fun K=>EP c K^n)
 | 0=>Lm.of_eq (N:=1) fun K hK=>by
  rw [Rat.pow_zero,show ((0:Nat):Rat)*c=0 by show (0:Rat)*c=0; grind]
  exact EP_zero' K hK
 | n+1=>by
  have i:=EP_npow c n
  have a:=EP_add ((n:Rat)*c) c
  rw [show (n:Rat)*c+c=((n+1:Nat):Rat)*c by rw [Rat.natCast_add]; show _=((n:Rat)+1)*c; grind] at a
  obtain ⟨A,_,hA⟩:=EP_bn ((n:Rat)*c)
  obtain ⟨B,_,hB⟩:=EP_bn c
  refine a.trans ((i.mul (Lm.refl (EP c)) hA hB).trans (Lm.of_eq (N:=0) fun K _=>?_))
  rw [Rat.pow_succ]
def err (D:Nat):Rat:=(2:Rat)^D*(1048576*eps)
theorem two_one (n:Nat):(1:Rat)≤(2:Rat)^n:=one_pow_le (by decide) n
theorem two_mono {n m:Nat}(h:n≤m):(2:Rat)^n≤(2:Rat)^m:=by
 obtain ⟨k,rfl⟩:∃ k,m=n+k:=⟨m-n,by omega⟩
 clear h
 induction k with
 | zero=>exact Rat.le_refl
 | succ k ih =>
  have a:=two_one (n+k)
  rw [← Nat.add_assoc,Rat.pow_succ]
  grind
theorem cLn_bd:0≤cLn∧69≤100*cLn∧100*cLn≤70:=⟨of_decide_eq_true (by kernel_rfl),of_decide_eq_true (by kernel_rfl),of_decide_eq_true (by kernel_rfl)⟩
theorem eps_pos:0<eps:=of_decide_eq_true (by kernel_rfl)
theorem XF_near_pos {d:Rat}{n D:Nat}(hx:33≤100*(d-(n:Rat)*cLn)∧100*(d-(n:Rat)*cLn)≤106)(hn:n≤D)(hD:D≤1000) :
  ∃ N,∀ K,N≤K→EP (d-(n:Rat)*cLn) K*(2:Rat)^n≤EP d K+err D∧EP d K≤EP (d-(n:Rat)*cLn) K*(2:Rat)^n+err D:=by
 have a:=EP_add (d-(n:Rat)*cLn) ((n:Rat)*cLn)
 rw [show d-(n:Rat)*cLn+(n:Rat)*cLn=d by grind] at a
 generalize hy:d-(n:Rat)*cLn=y at *
 obtain ⟨A,_,hA⟩:=EP_bn y
 obtain ⟨B,_,hB⟩:=EP_bn ((n:Rat)*cLn)
 have b:=a.trans ((Lm.refl (EP y)).mul (EP_npow cLn n) hA hB)
 obtain ⟨N1,h1⟩:=b.1 eps eps_pos
 obtain ⟨N2,h2⟩:=b.2 eps eps_pos
 refine ⟨N1+N2+91,fun K hK=>?_⟩
 have h1:EP d K≤EP y K*EP cLn K^n+eps:=h1 K (by omega)
 have h2:EP y K*EP cLn K^n≤EP d K+eps:=h2 K (by omega)
 have p9:=pow_near ((EPc (K:=K)).1 (by omega)) (EPc (K:=K)).2 (n:=n) (by omega)
 rw [two_half (EP cLn K) n] at h1 h2
 have u9:=EP_four (x:=y) (by grind) (by grind) K
 have u0:=EP_nonneg (x:=y) (by grind) K
 have e:=eps_bd
 have t1:=two_one n
 have t2:=two_mono hn
 unfold err
 generalize (2:Rat)^D=F at *
 generalize (2:Rat)^n=T at *
 generalize (EP cLn K / 2)^n=q at *
 generalize EP y K=u at *
 have n1:(n:Rat)≤1000:=Rat.natCast_le_natCast.2 (show n≤1000 by omega)
 have ne:=Rat.mul_le_mul_of_nonneg_right n1 e.1
 have uT:0≤u*T:=Rat.mul_nonneg u0 (by grind)
 have uT4:u*T≤4*F:=by
  have m1:=Rat.mul_le_mul_of_nonneg_right u9 (show 0≤T by grind)
  grind
 have m1:=Rat.mul_le_mul_of_nonneg_left (show q-1≤1000*eps by grind) uT
 have m2:=Rat.mul_le_mul_of_nonneg_left (show 1-q≤1000*eps by grind) uT
 have m3:=Rat.mul_le_mul_of_nonneg_right uT4 (show 0≤1000*eps by grind)
 have m4:=Rat.mul_le_mul_of_nonneg_right (show 1≤F by grind) e.1
 constructor<;>grind
theorem XF_near_neg {d:Rat}{n:Nat}(hx:33≤100*(d+(n:Rat)*cLn)∧100*(d+(n:Rat)*cLn)≤106)(hn:n≤1000) :
  ∃ N,∀ K,N≤K→EP (d+(n:Rat)*cLn) K*((2:Rat)^n)⁻¹≤EP d K+err 0∧EP d K≤EP (d+(n:Rat)*cLn) K*((2:Rat)^n)⁻¹+err 0:=by
 have a:=EP_add d ((n:Rat)*cLn)
 have cb:=cLn_bd
 have n0:(0:Rat)≤(n:Rat):=Rat.natCast_nonneg
 have nc:=Rat.mul_nonneg n0 cb.1
 have mo:=EP_mono_lim (show d≤d+(n:Rat)*cLn by grind)
 generalize hy:d+(n:Rat)*cLn=y at *
 obtain ⟨A,_,hA⟩:=EP_bn d
 obtain ⟨B,_,hB⟩:=EP_bn ((n:Rat)*cLn)
 have b:=a.trans ((Lm.refl (EP d)).mul (EP_npow cLn n) hA hB)
 obtain ⟨N1,h1⟩:=b.1 eps eps_pos
 obtain ⟨N2,h2⟩:=b.2 eps eps_pos
 obtain ⟨N3,h3⟩:=mo 1 (by decide)
 obtain ⟨p,p0,N4,h4⟩:=EP_pos d
 refine ⟨N1+N2+N3+N4+91,fun K hK=>?_⟩
 have h1:EP y K≤EP d K*EP cLn K^n+eps:=h1 K (by omega)
 have h2:EP d K*EP cLn K^n≤EP y K+eps:=h2 K (by omega)
 have h3:=h3 K (by omega)
 have h4:=h4 K (by omega)
 have p9:=pow_near ((EPc (K:=K)).1 (by omega)) (EPc (K:=K)).2 (n:=n) (by omega)
 rw [two_half (EP cLn K) n] at h1 h2
 have u9:=EP_four (x:=y) (by grind) (by grind) K
 have e:=eps_bd
 have t1:=two_one n
 have it:=inv_one (B:=(2:Rat)^n) (by grind)
 have i0:=Rat.inv_pos.2 (show 0<(2:Rat)^n by grind)
 unfold err
 rw [Rat.pow_zero]
 generalize (2:Rat)^n=T at *
 generalize T⁻¹=i at *
 generalize (EP cLn K / 2)^n=q at *
 generalize EP y K=v at *
 generalize EP d K=u at *
 have i1:i≤1:=by
  have:=Rat.mul_le_mul_of_nonneg_left t1 (Rat.le_of_lt i0)
  grind
 have n1:(n:Rat)≤1000:=Rat.natCast_le_natCast.2 hn
 have ne:=Rat.mul_le_mul_of_nonneg_right n1 e.1
 have m1:=Rat.mul_le_mul_of_nonneg_left (show q-1≤1000*eps by grind) (show 0≤u by grind)
 have m2:=Rat.mul_le_mul_of_nonneg_left (show 1-q≤1000*eps by grind) (show 0≤u by grind)
 have m3:=Rat.mul_le_mul_of_nonneg_right (show u≤5 by grind) (show 0≤1000*eps by grind)
 have m4:=Rat.mul_le_mul_of_nonneg_right h1 (Rat.le_of_lt i0)
 have m5:=Rat.mul_le_mul_of_nonneg_right h2 (Rat.le_of_lt i0)
 have m6:=Rat.mul_le_mul_of_nonneg_right i1 e.1
 have r:u*(T*q)*i=u*q:=by
  have:u*(T*q)*i=u*q*(i*T):=by grind
  rw [this,it]; grind
 constructor<;>grind
theorem XF_near {d:Rat}{k:Int}{D:Nat}(hx:33≤100*(d-(k:Rat)*cLn)∧100*(d-(k:Rat)*cLn)≤106)(h1:-1000≤k)(h2:k≤D)(hD:D≤1000) :
  ∃ N,∀ K,N≤K→EP (d-(k:Rat)*cLn) K*(2:Rat)^k≤EP d K+err D∧EP d K≤EP (d-(k:Rat)*cLn) K*(2:Rat)^k+err D:=by
 rcases (show 0≤k∨k≤0 by omega) with h | h
 ·obtain ⟨n,rfl⟩:∃ n:Nat,k=(n:Int):=⟨k.toNat,by omega⟩
  rw [Rat.zpow_natCast]
  exact XF_near_pos hx (by omega) hD
 ·obtain ⟨n,rfl⟩:∃ n:Nat,k=-(n:Int):=⟨(-k).toNat,by omega⟩
  have e:d-((-(n:Int):Int):Rat)*cLn=d+(n:Rat)*cLn:=by
   rw [Rat.intCast_neg]
   show d - -(n:Rat)*cLn=_
   grind
  rw [e] at hx ⊢
  rw [Rat.zpow_neg,Rat.zpow_natCast]
  obtain ⟨N,h⟩:=XF_near_neg hx (by omega)
  refine ⟨N,fun K hK=>?_⟩
  have z:=h K hK
  have w:err 0≤err D:=by
   unfold err
   have:=two_mono (Nat.zero_le D)
   have e:=eps_bd
   exact Rat.mul_le_mul_of_nonneg_right this (by grind)
  constructor<;>grind
end Go.Proofs.YtcbihoojfakhdaaGreatDoor


namespace Go.Proofs.YtcbihoojfakhdaaGreatDoor
def EnE (f:Nat→Rat)(s:Nat)(lo hi:Int)(g:Rat):Prop:=∃ N,∀ K,N≤K→(lo:Rat)≤f K*((2^s:Int):Rat)+g∧f K*((2^s:Int):Rat)≤(hi:Rat)+g
theorem EnE.mono {f:Nat→Rat}{s:Nat}{lo hi:Int}{g g':Rat}(h:EnE f s lo hi g)(hg:g≤g'):EnE f s lo hi g':=by
 obtain ⟨N,h⟩:=h
 exact ⟨N,fun K hK=>by have:=h K hK; constructor<;>grind⟩
theorem EnE.near {f f':Nat→Rat}{s:Nat}{lo hi:Int}{g e:Rat}(h:EnE f s lo hi g)(hn:∃ N,∀ K,N≤K→f K≤f' K+e∧f' K≤f K+e):EnE f' s lo hi (g+e*((2^s:Int):Rat)):=by
 obtain ⟨N,h⟩:=h
 obtain ⟨M,hn⟩:=hn
 have P:(0:Rat)<((2^s:Int):Rat):=Rat.intCast_pos.2 (two_pos s)
 refine ⟨N+M,fun K hK=>?_⟩
 have a:=h K (by omega)
 have b:=hn K (by omega)
 have m1:=Rat.mul_le_mul_of_nonneg_right b.1 (Rat.le_of_lt P)
 have m2:=Rat.mul_le_mul_of_nonneg_right b.2 (Rat.le_of_lt P)
 constructor<;>grind
theorem Encl.toE {f:Nat→Rat}{s:Nat}{lo hi:Int}(h:Encl f s lo hi):EnE f s lo hi 0:=by
 obtain ⟨N,h⟩:=h
 exact ⟨N,fun K hK=>by have:=h K hK; constructor<;>grind⟩
theorem int_gap2 {l h:Int}{X Y:Rat}(h1:(l:Rat)≤X)(h2:Y≤(h:Rat))(g:X<Y+1):l≤h:=by
 refine Decidable.byContradiction fun hn=>?_
 have:((h+1:Int):Rat)≤(l:Rat):=Rat.intCast_le_intCast.2 (by omega)
 rw [Rat.intCast_add,show ((1:Int):Rat)=1 from rfl] at this
 grind
theorem EnE.le {f f':Nat→Rat}{s:Nat}{a b c d:Int}{g g':Rat}(h:EnE f s a b g)(k:EnE f' s c d g')(hl:Lq f f')(hg:g+g'<1):a≤d:=by
 obtain ⟨N,h⟩:=h
 obtain ⟨M,k⟩:=k
 have P:(0:Rat)<((2^s:Int):Rat):=Rat.intCast_pos.2 (two_pos s)
 have i0:=Rat.inv_pos.2 P
 have ie:=inv_one P
 have e0:0<(1-g-g')*(1 / 2):=Rat.mul_pos (by grind) r8.2.1
 obtain ⟨Q,q⟩:=hl ((1-g-g')*(1 / 2)*(((2^s:Int):Rat))⁻¹) (Rat.mul_pos e0 i0)
 have h:=(h (N+M+Q) (by omega)).1
 have k:=(k (N+M+Q) (by omega)).2
 have q:=Rat.mul_le_mul_of_nonneg_right (q (N+M+Q) (by omega)) (Rat.le_of_lt P)
 have z:(1-g-g')*(1 / 2)*(((2^s:Int):Rat))⁻¹*((2^s:Int):Rat)=(1-g-g')*(1 / 2):=by rw [Rat.mul_assoc,ie,Rat.mul_one]
 exact int_gap2 (X:=f (N+M+Q)*((2^s:Int):Rat)+g) (Y:=f' (N+M+Q)*((2^s:Int):Rat)-g') h (by grind) (by grind)
end Go.Proofs.YtcbihoojfakhdaaGreatDoor


namespace Go.Proofs.YtcbihoojfakhdaaGreatDoor
def ptPi:Int:=8710598741881011095307514925528767253835697869117002946683736815061430642517439960281687965396170617911066893946226934353316672095
def cQ:Rat:=dv ptPi (-431)
end Go.Proofs.YtcbihoojfakhdaaGreatDoor

namespace Go.Proofs.YtcbihoojfakhdaaGreatDoor
def mT (i j:Nat):Int:=(((i+2*j:Nat):Int)+1)*(((i+2*j:Nat):Int)+2)
def ty (T q1 q2 a b:Int)(i:Nat):Nat→Int × Int
 | 0=>(a,b)
 | j+1=>(ptLo ((ty T q1 q2 a b i j).1*q1 / T) (mT i j),ptHi (-(-((ty T q1 q2 a b i j).2*q2) / T)) (mT i j))
structure TyH (T q1 q2 a b:Int):Prop where
 hT:16≤T
 q0:0≤q1
 q12:q1≤q2
 qT:q2≤T
 qw:q2-q1≤1
 a0:0≤a
 ab:a≤b
 bT:b≤T
 aw:b-a≤1
end Go.Proofs.YtcbihoojfakhdaaGreatDoor



namespace Go.Proofs.YtcbihoojfakhdaaGreatDoor
theorem EnE.half {f:Nat→Rat}{t s n:Nat}{a b:Int}{g:Rat}(ht:t=s+n)(h:EnE f t a b (g*((2^t:Int):Rat))):EnE f s (a / 2^n) (-(-b / 2^n)) (g*((2^s:Int):Rat)):=by
 obtain ⟨N,h⟩:=h
 refine ⟨N,fun K hK=>?_⟩
 have q:=h K hK
 have e1:f K*((2^t:Int):Rat)+g*((2^t:Int):Rat)=(f K+g)*((2^t:Int):Rat):=by grind
 have P0:(0:Rat)<((2^n:Int):Rat):=Rat.intCast_pos.2 (two_pos n)
 have f1:=(fl_R (a:=a) (two_pos n)).1
 have f2:=(ce_R (a:=b) (two_pos n)).1
 have e:((2^t:Int):Rat)=((2^s:Int):Rat)*((2^n:Int):Rat):=by rw [ht,Int.pow_add,Rat.intCast_mul]
 rw [e] at q
 constructor
 ·refine Rat.le_of_mul_le_mul_right (c:=((2^n:Int):Rat)) ?_ P0
  have:=q.1
  grind
 ·refine Rat.le_of_mul_le_mul_right (c:=((2^n:Int):Rat)) ?_ P0
  have:=q.2
  grind
end Go.Proofs.YtcbihoojfakhdaaGreatDoor









namespace Go.Proofs.YtcbihoojfakhdaaGreatDoor
open Go.RowKit
set_option maxRecDepth 100000
set_option maxHeartbeats 2000000
theorem ex_valueF0 (m ee w:Int)(c0:L (m).natAbs≤8000)(c1:-4096≤w∧w≤4096)(c2:Impl Tryz.prog Amb 69 [(yV (-m) ee),(.int .i64 (w+1))] (.bool true)):Impl Tryz.prog Amb 71 [(yV m ee),(.int .i64 w)] (.agg [(.bool false),.nil,(.bool (decide ((1:Int)<0))),(N ((1:Int).natAbs))]):=by
 exact impl_ob hP hAmb Tryz.func71 (by kernel_rfl) (.lits 2<|.call (yV (-m) ee)<|.lit<|.yes<|.lit<|.call (.bool true)<|.lits 2<|.call (zV (1:Int))<|.lits 3<|.ret)
  (cast_ob (aI True.intro (aI (dy_Neg m ee oS) (have f2:=L_abs_neg m; aI (fits_i64 oS:(fits .i64 (w+1))=true) (aI (c2 ) (aI (int_Of 1 oS) (have f1:=(L_i64 oS:L (1:Int).natAbs≤2); (vsub_refl (.agg [(.bool false),.nil,(.bool (decide ((1:Int)<0))),(N ((1:Int).natAbs))])))))))) (by kernel_rfl))
theorem vsub_s0 (a:Int):vsub (.agg [.bool false,.nil,.bool (decide (a<0)),N a.natAbs]) (.agg [.bool (decide ((0:Int)<0)),N (0:Int).natAbs,.bool (decide (a<0)),N a.natAbs]):=fun w S x hx=>by
 obtain ⟨arr,rfl,hr⟩:=hx.agg_inv
 cases hr with | cons h1 hr=>cases hr with | cons h2 hr=>cases hr with | cons h3 hr=>cases hr with | cons h4 hr=>cases hr with | nil =>
  exact .agg (.cons (by simpa using h1) (.cons (rd_nil_N0 h2) (.cons h3 (.cons h4 .nil))))
theorem implw2 {P:Program}{C:World→Prop}{f:FuncId}{ds:List V}{r r':V}(h:vsub r r')(k:Impl P C f ds r):Impl P C f ds r' :=
 ⟨k.1,fun w S args hC hS hr=>(k.2 w S args hC hS hr).mono fun _ _ hh=>by
  obtain ⟨v,a,b,c⟩:=hh
  exact ⟨v,a,h _ _ _ b,c⟩⟩
theorem Lq.mulc {f g:Nat→Rat}(h:Lq f g){c:Rat}(c0:0<c):Lq (fun K=>f K*c) (fun K=>g K*c):=fun e he=>by
 have i0:=Rat.inv_pos.2 c0
 have ie:=inv_one c0
 obtain ⟨N,h⟩:=h (e*c⁻¹) (Rat.mul_pos he i0)
 refine ⟨N,fun K hK=>?_⟩
 have m:=Rat.mul_le_mul_of_nonneg_right (h K hK) (Rat.le_of_lt c0)
 show f K*c≤g K*c+e
 have:e*c⁻¹*c=e:=by rw [Rat.mul_assoc,ie,Rat.mul_one]
 grind
theorem EP_one2 {K:Nat}(h:2≤K):2≤EP 1 K:=by
 have a:=EP_mono (x:=1) (by decide) h
 have b:EP 1 2=2:=of_decide_eq_true (by kernel_rfl)
 rw [b] at a; exact a
theorem EP_small {d:Rat}{n:Nat}(h:d≤-(n:Rat)):Lq (fun K=>EP d K*(2:Rat)^n) (fun _=>1):=by
 have p2:=two_one n
 have a:=(EP_mono_lim h).mulc (c:=(2:Rat)^n) (by grind)
 have hn:=EP_npow 1 n
 rw [Rat.mul_one] at hn
 obtain ⟨A,_,hA⟩:=EP_bn (-(n:Rat))
 obtain ⟨B,_,hB⟩:=EP_bn (n:Rat)
 obtain ⟨p,p0,N,hp⟩:=EP_pos (-(n:Rat))
 refine a.trans (Lq.trans (g:=fun K=>EP (-(n:Rat)) K*EP 1 K^n) (Lq.of_le (N:=N+2) fun K hK=>?_) (Lq.trans (Lm.mul (Lm.refl (EP (-(n:Rat)))) hn hA hB).2 ?_))
 ·have q:=hp K oO
  have r:=pow_monox (a:=2) (b:=EP 1 K) (by decide) (EP_one2 oO) n
  exact Rat.mul_le_mul_of_nonneg_left r (by grind)
 ·refine Lq.trans (Lm.of_eq (N:=0) fun K _=>?_).1 (EP_opp (n:Rat)).1
  exact Rat.mul_comm _ _
def gE:Rat:=dv 1 (-40)
theorem gE_b:0<gE∧gE*65536+gE<1:=⟨of_decide_eq_true (by kernel_rfl),of_decide_eq_true (by kernel_rfl)⟩
theorem two_cast (n:Nat):(2:Rat)^n=((2^n:Int):Rat):=by rw [← zp_nat,Rat.zpow_natCast]
theorem pow_up {a b:Nat}(h:a≤b):((2^a:Int):Rat)≤((2^b:Int):Rat):=Rat.intCast_le_intCast.2 (by rw [pow_cast,pow_cast]; exact Int.ofNat_le.2 (Nat.pow_le_pow_right oO h))
theorem err_le {D w:Nat}(h:D+w≤332):err D*((2^w:Int):Rat)≤gE:=by
 unfold err
 have e:(2:Rat)^D*(1048576*eps)*((2^w:Int):Rat)=((2^(D+w):Int):Rat)*(1048576*eps):=by
  rw [two_cast,Int.pow_add,Rat.intCast_mul]; grind
 rw [e]
 have m:=pow_up h
 have b:=eps_bd
 have n:=Rat.mul_le_mul_of_nonneg_right m (show 0≤1048576*eps by grind)
 refine Rat.le_trans n ?_
 exact of_decide_eq_true (by kernel_rfl)
def erW (D w:Int):Rat:=err D.toNat*((2^w.toNat:Int):Rat)
theorem erW_pos (D w:Int):0<erW D w:=by
 unfold erW err
 have a:=two_one D.toNat
 have P:(0:Rat)<((2^w.toNat:Int):Rat):=Rat.intCast_pos.2 (two_pos _)
 have e:=eps_pos
 exact Rat.mul_pos (Rat.mul_pos (by grind) (by grind)) P
theorem erW_lt {D w:Int}(w0:0≤w)(D0:0≤D)(h:w+D≤332):erW D w≤gE∧erW D w+erW D w<1:=by
 have a:=err_le (D:=D.toNat) (w:=w.toNat) oO
 have b:=gE_b
 have c:erW D w≤gE:=a
 exact ⟨c,by grind⟩
theorem ex_valueG (m ee w D:Int)(hw:0≤w∧w≤276)(hm:L (m).natAbs≤20)(he:-440≤ee∧ee≤130)(d2:dv m ee≤512)(hD:100*dv m ee+36≤69*(D:Rat))(D0:0≤D)(hD2:w+D≤332) :
  ∃ lo hi:Int,Impl Tryz.prog Amb 71 [(yV m ee),(.int .i64 w)] (sV lo hi)∧EnE (EP (dv m ee)) w.toNat lo hi (erW D w)∧hi-lo≤2∧0≤lo∧L hi.natAbs≤30:=by
 have w276:(w:Rat)≤((276:Int):Rat):=Rat.intCast_le_intCast.2 hw.2
 rw [show ((276:Int):Rat)=276 from rfl] at w276
 rcases (Rat.le_total:-dv m ee≤(w:Rat)+1∨(w:Rat)+1≤-dv m ee) with h | h
 ·obtain ⟨k,lo,hi,hC,⟨hk1,hk2⟩,hx,hE,hw2,h0,hl⟩:=ex_valueE m ee w D hw hm he ⟨⟨by grind,d2⟩,hD,h⟩ D0 oO
  refine ⟨lo,hi,hC,?_,hw2,h0,hl⟩
  have n:=XF_near (D:=D.toNat) hx hk1 oO oO
  have r:=hE.toE.near n
  exact r.mono (by unfold erW; grind)
 ·by_cases hq:-dv m ee=(w:Rat)+1
  ·obtain ⟨k,lo,hi,hC,⟨hk1,hk2⟩,hx,hE,hw2,h0,hl⟩:=ex_valueE m ee w D hw hm he ⟨⟨by grind,d2⟩,hD,by grind⟩ D0 oO
   refine ⟨lo,hi,hC,?_,hw2,h0,hl⟩
   have n:=XF_near (D:=D.toNat) hx hk1 oO oO
   have r:=hE.toE.near n
   exact r.mono (by unfold erW; grind)
  ·have n1:=L_abs_neg m
   have hB:=ex_beyond (-m) ee (w+1) oO oO oO
   have hB:Impl Tryz.prog Amb 69 [(yV (-m) ee),(.int .i64 (w+1))] (.bool true):=by
    refine impl_eq (congrArg V.bool (decide_eq_true (cmpD_pos.2 ?_))) hB
    rw [(of_fit (n:=w+1) oO).2.2.2.2.2,dv_neg,Rat.intCast_add]
    show (w:Rat)+1 < -dv m ee
    grind
   have hC:=implw2 (vsub_s0 1) (ex_valueF0 m ee w oO oO hB)
   have l1:=L_lit 1 (by decide)
   refine ⟨0,1,hC,?_,by omega,by omega,by show L 1≤30; exact Nat.le_trans l1 oO⟩
   have wt:((w.toNat:Nat):Int)=w:=by omega
   have wr:((w.toNat:Nat):Rat)=(w:Rat):=by
    have:(((w.toNat:Nat):Int):Rat)=(w:Rat):=by rw [wt]
    exact this
   obtain ⟨N1,s1⟩:=EP_small (d:=dv m ee) (n:=w.toNat) (by rw [wr]; grind) (erW D w) (erW_pos D w)
   obtain ⟨p,p0,N2,s2⟩:=EP_pos (dv m ee)
   refine ⟨N1+N2,fun K hK=>?_⟩
   have s1:=s1 K oO
   have s2:=s2 K oO
   have P:(0:Rat)<((2^w.toNat:Int):Rat):=Rat.intCast_pos.2 (two_pos _)
   have m1:=Rat.mul_nonneg (show 0≤EP (dv m ee) K by grind) (Rat.le_of_lt P)
   have g:=erW_pos D w
   have s1:EP (dv m ee) K*(2:Rat)^w.toNat≤1+erW D w:=s1
   rw [two_cast] at s1
   refine ⟨?_,s1⟩
   show (0:Rat)≤_
   grind
theorem ex_ExpG (m ee n f w D:Int)(hw:0≤w∧w≤276)(hm:L (m).natAbs≤20)(he:-440≤ee∧ee≤130)(d2:dv m ee≤512)(hD:100*dv m ee+36≤69*(D:Rat))(hn:L (n).natAbs≤20)(hf:-440≤f∧f≤130)(d2':dv n f≤512)(hD':100*dv n f+36≤69*(D:Rat))(D0:0≤D)(hD2:w+D≤332) :
  ∃ l1 h1 l2 h2:Int,Impl Tryz.prog Amb 20 [(wV m ee n f),(.int .i64 w)] (.tup [(wV (mkM l1 (-w)) (mkX l1 (-w)) (mkM h2 (-w)) (mkX h2 (-w))),(.int .i64 0)])∧(EnE (EP (dv m ee)) w.toNat l1 h1 (erW D w)∧h1-l1≤2∧0≤l1∧L h1.natAbs≤30)∧(EnE (EP (dv n f)) w.toNat l2 h2 (erW D w)∧h2-l2≤2∧0≤l2∧L h2.natAbs≤30)∧L l1.natAbs≤30:=by
 obtain ⟨l1,h1,hA,EA,wA,pA,LA⟩:=ex_valueG m ee w D hw hm he d2 hD D0 hD2
 obtain ⟨l2,h2,hB,EB,wB,pB,LB⟩:=ex_valueG n f w D hw hn hf d2' hD' D0 hD2
 have ge:=erW_lt (D:=D) (w:=w) hw.1 D0 hD2
 have le1:l1≤h1:=EA.le EA (Lq.refl _) (by grind)
 have z1:L l1.natAbs≤30:=Nat.le_trans (L_mono oO) LA
 have mA:=dy_Make l1 (0-w) oO oO
 have mB:=dy_Make h2 (0-w) oO oO
 rw [Int.zero_sub,mk_fine2 (m:=l1) (e:=-w) oO oO] at mA
 rw [Int.zero_sub,mk_fine2 (m:=h2) (e:=-w) oO oO] at mB
 have hb:Impl Tryz.prog Amb 69 [(yV n f),(.int .i64 1000)] (.bool false):=by
  refine impl_eq (congrArg V.bool (decide_eq_false fun q=>?_)) (ex_beyond n f 1000 oO oO oO)
  have q:=cmpD_pos.1 q
  rw [(of_fit (n:=1000) oO).2.2.2.2.2] at q
  have q:(1000:Rat)<dv n f:=q
  grind
 exact ⟨l1,h1,l2,h2,ex_Exp0 m ee n f w l1 h1 l2 h2 _ _ _ _ oO hb hA hB (by rw [Int.zero_sub]; exact mA) (by rw [Int.zero_sub]; exact mB),⟨EA,wA,pA,LA⟩,⟨EB,wB,pB,LB⟩,z1⟩
theorem ex_ExpN (m ee n f w D:Int)(hw:0≤w∧w≤276)(hm:L (m).natAbs≤20)(he:-440≤ee∧ee≤130)(d2:dv m ee≤512)(hD:100*dv m ee+36≤69*(D:Rat))(hn:L (n).natAbs≤20)(hf:-440≤f∧f≤130)(d2':dv n f≤512)(hD':100*dv n f+36≤69*(D:Rat))(D0:0≤D)(hD2:w+D≤332) :
  ∃ l1 h1 l2 h2:Int,Impl Tryz.prog Amb 20 [(wV m ee n f),(.int .i64 w)] (.tup [(wV (mkM l1 (-w)) (mkX l1 (-w)) (mkM h2 (-w)) (mkX h2 (-w))),(.int .i64 0)])∧(EnE (EP (dv m ee)) w.toNat l1 h1 gE∧h1-l1≤2∧0≤l1∧L h1.natAbs≤30)∧(EnE (EP (dv n f)) w.toNat l2 h2 gE∧h2-l2≤2∧0≤l2∧L h2.natAbs≤30)∧L l1.natAbs≤30:=by
 obtain ⟨l1,h1,l2,h2,hA,⟨EA,a⟩,⟨EB,b⟩,c⟩:=ex_ExpG m ee n f w D hw hm he d2 hD hn hf d2' hD' D0 hD2
 have g:=(erW_lt (D:=D) (w:=w) hw.1 D0 hD2).1
 exact ⟨l1,h1,l2,h2,hA,⟨EA.mono g,a⟩,⟨EB.mono g,b⟩,c⟩
theorem dv_tople {m e t:Int}(h:topD m e≤t):-(dv 1 t)≤dv m e∧dv m e≤dv 1 t:=by
 by_cases hm:m=0
 ·have:=dv_ge0 (m:=1) (e:=t) |>.2 (by decide)
  rw [hm,dv_zero]; constructor<;>grind
 ·have a:=(dv_top (e:=e) hm).1
  have u:dv 1 (topD m e)≤dv 1 t:=by
   rw [dv_at (m:=1) (e:=t) (c:=topD m e) oO,dv_le,Int.one_mul]
   have:=two_pos (t-topD m e).toNat
   omega
  rcases (show (m.natAbs:Int)=m∨(m.natAbs:Int)=-m by omega) with q | q
  ·have n0:0≤dv m e:=dv_ge0.2 oO
   rw [q] at a
   constructor<;>grind
  ·have n0:0≤dv (-m) e:=dv_ge0.2 oO
   rw [q] at a
   rw [dv_neg] at a n0
   constructor<;>grind
theorem shx_vdb {m e:Int}(hv:vdb m e=true){j:Nat}(hf:-65536≤shx m e j∧shx m e j≤65536):vdb m (shx m e j)=true:=by
 by_cases hm:m=0
 ·subst hm
  exact vdb_iff.2 (.inl ⟨rfl,by unfold shx; rw [if_pos rfl]⟩)
 ·exact vdb_sh hv hm hf
theorem shx_dv (m e:Int)(j:Nat):dv m (shx m e j)*(2:Rat)^((20*(j:Int):Int))=dv m e:=by
 by_cases hm:m=0
 ·subst hm; rw [dv_zero,dv_zero,Rat.zero_mul]
 ·rw [dv_exp m e (20*(j:Int))]
  unfold shx; rw [if_neg hm]
theorem shx_le {m e n f:Int}{j:Nat}(h:dv m e≤dv n f):dv m (shx m e j)≤dv n (shx n f j):=by
 refine Rat.le_of_mul_le_mul_right (c:=(2:Rat)^((20*(j:Int):Int))) ?_ (zp_pos _)
 rw [shx_dv,shx_dv]; exact h
theorem shx_fit9 {m e:Int}(hm:L m.natAbs≤2)(he:-40≤e∧e≤104){j:Nat}(hj:j≤9):-220≤shx m e j∧shx m e j≤104:=by
 unfold shx; split<;>omega
theorem top_down9 {m e:Int}(hm:L m.natAbs≤2)(he:-40≤e∧e≤104):topD m (shx m e 9)≤0:=by
 by_cases hz:m=0
 ·subst hz
  unfold topD
  rw [if_pos rfl]; omega
 ·have s:shx m e 9=e-180:=by unfold shx; rw [if_neg hz]; omega
  rw [s]
  have r:=topD_range m (e-180)
  omega
theorem arg_rounds9 {m ee n f fa:Int}(hm:L m.natAbs≤2)(hn:L n.natAbs≤2)(he:-40≤ee∧ee≤104)(hf:-40≤f∧f≤104)(hfa:0≤fa) :
  ∃ nn,nn≤9∧∀ j,j≤nn→(j=nn↔topD m (shx m ee j)≤fa∧topD n (shx n f j)≤fa):=by
 have t1:=top_down9 (m:=m) hm he
 have t2:=top_down9 (m:=n) hn hf
 obtain ⟨nn,h1,h2,h3⟩:=least (P:=fun j=>topD m (shx m ee j)≤fa∧topD n (shx n f j)≤fa) (n:=9) ⟨by omega,by omega⟩
 refine ⟨nn,h1,fun j hj=>⟨fun q=>by rw [q]; exact h2,fun q=>?_⟩⟩
 exact Decidable.byContradiction fun hn=>h3 j oO q
theorem l14_argN (b1:Bool)(l1:List Nat)(e1:Int)(b2:Bool)(l2:List Nat)(e2 fa:Int)(c0:Dig l1)(c1:l1.length≤9223372036854775807)(c2:(-9223372036854775808:Int)≤e1∧e1≤9223372036854775807)(c3:Dig l2)(c4:l2.length≤9223372036854775807)(c5:(-9223372036854775808:Int)≤e2∧e2≤9223372036854775807)(hfa:0≤fa∧fa≤100):∃ (m ee n f:Int) (ok:Bool),Impl Tryz.prog Amb 59 [(.agg [(.bool b1),(.sl 1 (U l1)),(.int .i64 e1),(.bool b2),(.sl 1 (U l2)),(.int .i64 e2)]),(.int .i64 fa)] (.tup [(wV m ee n f),(.bool ok)])∧(L m.natAbs≤2∧L n.natAbs≤2)∧((-220≤ee∧ee≤104)∧(-220≤f∧f≤104))∧(ok=true→(topD m ee≤fa∧topD n f≤fa)∧(vdb m ee=true∧vdb n f=true)∧dv m ee≤dv n f):=by
 have fa':=iv_fit (b:=b1) (e:=e1) (c:=b2) (f:=e2) (n:=2) (k:=40) c0 c3 oO oO
 have hi:=mill_Iv b1 l1 e1 b2 l2 e2 2 40 c0 c1 c3 c4 c2 c5 oO oO
 generalize (ivM b1 l1 e1 b2 l2 e2 2 40)=m at fa' hi
 generalize (ivX b1 l1 e1 b2 l2 e2 2 40)=ee at fa' hi
 generalize (ivN b1 l1 e1 b2 l2 e2 2 40)=n at fa' hi
 generalize (ivF b1 l1 e1 b2 l2 e2 2 40)=f at fa' hi
 by_cases hok:((l1.length:Int)≤2∧(l2.length:Int)≤2)
 ·rw [decide_eq_true hok] at hi
  obtain ⟨nn,hn,ht⟩:=arg_rounds9 (m:=m) (n:=n) (ee:=ee) (f:=f) (fa:=fa) oO oO oO oO oO
  have s1:=fun j (hj:j≤9)=>shx_fit (m:=m) (e:=ee) (j:=j) oO oO (Nat.le_trans hj oO)
  have s2:=fun j (hj:j≤9)=>shx_fit (m:=n) (e:=f) (j:=j) oO oO (Nat.le_trans hj oO)
  refine ⟨m,shx m ee nn,n,shx n f nn,true,l14_argT b1 l1 e1 b2 l2 e2 fa m ee n f nn ?_ oO ht ?_ ?_ ?_ ?_,by omega,⟨shx_fit9 oO oO hn,shx_fit9 oO oO hn⟩,fun _=>⟨(ht nn (Nat.le_refl _)).1 rfl,⟨shx_vdb fa'.2.1 (by have:=s1 nn hn; omega),shx_vdb fa'.2.2.1 (by have:=s2 nn hn; omega)⟩,shx_le fa'.2.2.2⟩⟩
  ·rw [shx_zero fa'.2.1,shx_zero fa'.2.2.1]; exact hi
  ·intro j hj; have:=s1 j oO; exact r08_Top m _ oO oO
  ·intro j hj; have:=s2 j oO; exact r08_Top n _ oO oO
  ·intro j hj; exact shx_step fa'.2.1 oO oO oO
  ·intro j hj; exact shx_step fa'.2.2.1 oO oO oO
 ·rw [decide_eq_false hok] at hi
  exact ⟨m,ee,n,f,false,l14_argF b1 l1 e1 b2 l2 e2 fa m ee n f hi,by omega,by omega,fun h=>by cases h⟩
end Go.Proofs.YtcbihoojfakhdaaGreatDoor







namespace Go.Proofs.YtcbihoojfakhdaaGreatDoor
open Go.RowKit
set_option maxRecDepth 100000
def eA (w:Int):Int:=(mkM ((eLo (w+24)) / 2^24) (-w))
def eB (w:Int):Int:=(mkX ((eLo (w+24)) / 2^24) (-w))
end Go.Proofs.YtcbihoojfakhdaaGreatDoor


namespace Go.Proofs.YtcbihoojfakhdaaGreatDoor
structure Sq where
 s1:Int
 s2:Int
 c1:Int
 c2:Int
end Go.Proofs.YtcbihoojfakhdaaGreatDoor






namespace Go.Proofs.YtcbihoojfakhdaaGreatDoor
open Go.RowKit
set_option maxRecDepth 100000
set_option maxHeartbeats 4000000
structure QtH (a b T:Rat) (n1 n2 l1 l2 g1 g2:Int):Prop where
 T0:1208925819614629174706176≤T
 c1:(n1:Rat)≤cQ*T
 c2:cQ*T≤(n2:Rat)
 cw:n2-n1≤8194
 a1:(l1:Rat)≤a*T
 a2:a*T≤(l1:Rat)+1
 b2:b*T≤(g2:Rat)
 b1:(g2:Rat)≤b*T+1
 ad:-4294967296≤a∧a≤4294967296
end Go.Proofs.YtcbihoojfakhdaaGreatDoor







namespace Go.Proofs.YtcbihoojfakhdaaGreatDoor
open Go.RowKit
set_option maxRecDepth 100000
set_option maxHeartbeats 4000000
structure EndH (m e:Int):Prop where
 lL:L m.natAbs≤20
 lE:-440≤e
 lV:vdb m e=true
 lD:-1000≤dv m e∧dv m e≤1000
theorem EndH.top {m e:Int}(h:EndH m e):topD m e≤34:=by
 refine Decidable.byContradiction fun hn=>?_
 have hm:m≠0:=fun q=>by
  unfold topD at hn
  rw [if_pos q] at hn
  omega
 have a:=(dv_top (e:=e) hm).2
 have u:dv 1 33≤dv 1 (topD m e-1):=by
  rw [dv_at (m:=1) (e:=topD m e-1) (c:=33) oO,dv_le,Int.one_mul]
  have:=two_pos (topD m e-1-33).toNat
  omega
 have d33:dv 1 33=8589934592:=of_decide_eq_true (by kernel_rfl)
 rw [d33] at u
 have d:=h.lD
 rcases (show (m.natAbs:Int)=m∨(m.natAbs:Int)=-m by omega) with q | q
 ·rw [q] at a; grind
 ·rw [q,dv_neg] at a; grind
theorem EndH.hi {m e:Int}(h:EndH m e):e≤130:=by
 have t:=h.top
 rcases topD_range m e with ⟨a,_⟩ | ⟨_,a,_⟩
 ·rcases vdb_iff.1 h.lV with q | q<;>omega
 ·omega
end Go.Proofs.YtcbihoojfakhdaaGreatDoor

namespace Go.Proofs.YtcbihoojfakhdaaGreatDoor
open Go.RowKit
set_option maxRecDepth 100000
set_option maxHeartbeats 4000000
theorem dv_g {a w:Int}{k:Nat}(h:L a.natAbs≤k)(hk:k≤300)(hw:0≤w∧w≤400):dv (mkM a (-w)) (mkX a (-w))=dv a (-w)∧L (mkM a (-w)).natAbs≤k∧(-400≤mkX a (-w)∧mkX a (-w)≤32*k)∧vdb (mkM a (-w)) (mkX a (-w))=true∧mkE a (-w)=0∧-w≤mkX a (-w):=by
 have f:=mk_fit (m:=a) (e:=-w) oO oO
 have i1:=iMin_range (-w) 0
 have i2:iMax (-w) 0≤0:=by unfold iMax; split<;>omega
 exact ⟨f.2.2.2.2.2,by omega,by omega,f.2.2.2.2.1,f.1,by omega⟩
theorem enV_ok {lo hi:Rat}{w:Int}(h:enE lo hi w=0):enV lo hi w=(.tup [(wV (mkM (flr lo w) (-w)) (mkX (flr lo w) (-w)) (mkM (cei hi w) (-w)) (mkX (cei hi w) (-w))),(.int .i64 0)]):=by
 obtain ⟨a,b,c,d⟩:=en_yes h
 unfold enV
 rw [a,b,c,d,h]
theorem dv_T {a w:Int}(hw:0≤w):dv a (-w)*((2^w.toNat:Int):Rat)=(a:Rat):=by
 obtain ⟨n,rfl⟩:=Int.eq_ofNat_of_zero_le hw
 rw [Int.toNat_natCast,← zp_nat]
 unfold dv
 rw [Rat.mul_assoc,← zp_add,Int.add_left_neg,zp_zero,Rat.mul_one]
theorem g_fit {a b w:Int}(hw:0≤w∧w≤200)(o:a≤b)(la:L a.natAbs≤8)(lb:L b.natAbs≤8):FitI (mkM a (-w)) (mkX a (-w)) (mkM b (-w)) (mkX b (-w)):=by
 have A:=dv_g (w:=w) la oO oO
 have B:=dv_g (w:=w) lb oO oO
 exact ⟨⟨A.2.1,by omega,by omega⟩,⟨B.2.1,by omega,by omega⟩,by rw [A.1,B.1]; exact dv_le.2 o⟩
theorem g_mul (a b c d w:Int)(hw:0≤w∧w≤200)(o1:a≤b)(o2:c≤d)(la:L a.natAbs≤8)(lb:L b.natAbs≤8)(lc:L c.natAbs≤8)(ld:L d.natAbs≤8) :
  ∃ p q:Int,Impl Tryz.prog Amb 53 [(wV (mkM a (-w)) (mkX a (-w)) (mkM b (-w)) (mkX b (-w))),(wV (mkM c (-w)) (mkX c (-w)) (mkM d (-w)) (mkX d (-w))),(.int .i64 w)] (.tup [(wV (mkM p (-w)) (mkX p (-w)) (mkM q (-w)) (mkX q (-w))),(.int .i64 0)])∧p≤q∧(L p.natAbs≤60∧L q.natAbs≤60) ∧
   (∀ X Y:Rat,(a:Rat)≤X→X≤(b:Rat)→(c:Rat)≤Y→Y≤(d:Rat)→(p:Rat)*((2^w.toNat:Int):Rat)≤X*Y∧X*Y≤(q:Rat)*((2^w.toNat:Int):Rat)) ∧
   (∀ k:Int,(∀ x y:Int,(x=a∨x=b)→(y=c∨y=d)→k*2^w.toNat≤x*y)→k≤p)∧(∀ k:Int,(∀ x y:Int,(x=a∨x=b)→(y=c∨y=d)→x*y≤k*2^w.toNat)→q≤k):=by
 have A:=dv_g (w:=w) la oO oO
 have B:=dv_g (w:=w) lb oO oO
 have C:=dv_g (w:=w) lc oO oO
 have D:=dv_g (w:=w) ld oO oO
 have F1:=g_fit hw o1 la lb
 have F2:=g_fit hw o2 lc ld
 have kq:=ml_ok (w:=w) F1 F2 hw
 have lpq:=ml_L (w:=w) F1 F2 hw
 have hq:=impl_eq (enV_ok kq) (ar_Mul (mkM a (-w)) (mkX a (-w)) (mkM b (-w)) (mkX b (-w)) (mkM c (-w)) (mkX c (-w)) (mkM d (-w)) (mkX d (-w)) w oO oO oO oO oO oO oO oO (ml_fine oO oO oO oO) (ml_fine oO oO oO oO) (ml_fine oO oO oO oO) (ml_fine oO oO oO oO) oO)
 have T0:(0:Rat)<((2^w.toNat:Int):Rat):=Rat.intCast_pos.2 (two_pos _)
 have uT:(2:Rat)^(-w)*((2^w.toNat:Int):Rat)=1:=by
  have:=dv_T (a:=1) (w:=w) hw.1
  unfold dv at this
  rw [show ((1:Int):Rat)=1 from rfl,Rat.one_mul] at this
  exact this
 have u0:=zp_pos (-w)
 have dvu:∀ x:Int,dv x (-w)=(x:Rat)*(2:Rat)^(-w):=fun x=>rfl
 refine ⟨_,_,hq,flr_cei (ml_le F1.2.2 F2.2.2) w,lpq,?_,?_,?_⟩
 ·intro X Y h1 h2 h3 h4
  have r:=ml_in (m:=mkM a (-w)) (e:=mkX a (-w)) (n:=mkM b (-w)) (f:=mkX b (-w)) (p:=mkM c (-w)) (g:=mkX c (-w)) (q:=mkM d (-w)) (h:=mkX d (-w)) (a:=X*(2:Rat)^(-w)) (b:=Y*(2:Rat)^(-w))
   (by rw [A.1,dvu]; exact Rat.mul_le_mul_of_nonneg_right h1 (Rat.le_of_lt u0)) (by rw [B.1,dvu]; exact Rat.mul_le_mul_of_nonneg_right h2 (Rat.le_of_lt u0)) (by rw [C.1,dvu]; exact Rat.mul_le_mul_of_nonneg_right h3 (Rat.le_of_lt u0)) (by rw [D.1,dvu]; exact Rat.mul_le_mul_of_nonneg_right h4 (Rat.le_of_lt u0))
  have a1:=Rat.mul_le_mul_of_nonneg_right (Rat.le_trans (flr_le _ w) r.1) (Rat.le_of_lt (Rat.mul_pos T0 T0))
  have a2:=Rat.mul_le_mul_of_nonneg_right (Rat.le_trans r.2 (cei_ge _ w)) (Rat.le_of_lt (Rat.mul_pos T0 T0))
  rw [dvu] at a1 a2
  generalize flr _ w=p at *
  generalize cei _ w=q at *
  generalize (2:Rat)^(-w)=u at *
  generalize ((2^w.toNat:Int):Rat)=t at *
  have e1:X*u*(Y*u)*(t*t)=X*Y:=by
   have:X*u*(Y*u)*(t*t)=X*Y*(u*t)*(u*t):=by grind
   rw [this,uT]; grind
  have e2:∀ z:Rat,z*u*(t*t)=z*t:=fun z=>by
   have:z*u*(t*t)=z*t*(u*t):=by grind
   rw [this,uT,Rat.mul_one]
  rw [e1,e2] at a1 a2
  exact ⟨a1,a2⟩
 ·intro k hk
  have key:∀ x y:Int,(x=a∨x=b)→(y=c∨y=d)→dv k (-w)≤dv x (-w)*dv y (-w):=by
   intro x y hx hy
   have h:=Rat.mul_le_mul_of_nonneg_right (Rat.intCast_le_intCast.2 (hk x y hx hy)) (Rat.le_of_lt (Rat.mul_pos u0 u0))
   rw [Rat.intCast_mul,Rat.intCast_mul] at h
   rw [dvu,dvu,dvu]
   generalize (2:Rat)^(-w)=u at *
   generalize ((2^w.toNat:Int):Rat)=t at *
   have e1:(k:Rat)*t*(u*u)=(k:Rat)*u*(u*t):=by grind
   have e2:(x:Rat)*u*((y:Rat)*u)=(x:Rat)*(y:Rat)*(u*u):=by grind
   rw [e1,uT,Rat.mul_one] at h
   rw [e2]; exact h
  refine le_flr.2 ?_
  unfold mlLo
  rw [A.1,B.1,C.1,D.1]
  exact le_qmin (le_qmin (le_qmin (key a c (.inl rfl) (.inl rfl)) (key a d (.inl rfl) (.inr rfl))) (key b c (.inr rfl) (.inl rfl))) (key b d (.inr rfl) (.inr rfl))
 ·intro k hk
  have key:∀ x y:Int,(x=a∨x=b)→(y=c∨y=d)→dv x (-w)*dv y (-w)≤dv k (-w):=by
   intro x y hx hy
   have h:=Rat.mul_le_mul_of_nonneg_right (Rat.intCast_le_intCast.2 (hk x y hx hy)) (Rat.le_of_lt (Rat.mul_pos u0 u0))
   rw [Rat.intCast_mul,Rat.intCast_mul] at h
   rw [dvu,dvu,dvu]
   generalize (2:Rat)^(-w)=u at *
   generalize ((2^w.toNat:Int):Rat)=t at *
   have e1:(k:Rat)*t*(u*u)=(k:Rat)*u*(u*t):=by grind
   have e2:(x:Rat)*u*((y:Rat)*u)=(x:Rat)*(y:Rat)*(u*u):=by grind
   rw [e1,uT,Rat.mul_one] at h
   rw [e2]; exact h
  refine cei_le.2 ?_
  unfold mlHi
  rw [A.1,B.1,C.1,D.1]
  exact qmax_le2 (qmax_le2 (qmax_le2 (key a c (.inl rfl) (.inl rfl)) (key a d (.inl rfl) (.inr rfl))) (key b c (.inr rfl) (.inl rfl))) (key b d (.inr rfl) (.inr rfl))
theorem g_meet {m e n f p g q h:Int}(h1:dv p g≤dv n f)(h2:dv m e≤dv q h):ivCmp m e n f p g q h=0:=by
 unfold ivCmp
 rw [if_neg,if_neg]
 ·have:=cmpD_le.2 h2
  omega
 ·intro k
  rw [cmpD_dv] at k
  rcases cmpQ_range (dv n f) (dv p g) with ⟨_,x⟩ | ⟨x,_⟩ | ⟨x,_⟩
  ·exact Rat.not_lt.2 h1 x
  ·omega
  ·omega
theorem g_cmp (a b c d w:Int)(hw:0≤w∧w≤200)(la:L a.natAbs≤60)(lb:L b.natAbs≤60)(lc:L c.natAbs≤60)(ld:L d.natAbs≤60)(h1:c≤b)(h2:a≤d):Impl Tryz.prog Amb 52 [(wV (mkM a (-w)) (mkX a (-w)) (mkM b (-w)) (mkX b (-w))),(wV (mkM c (-w)) (mkX c (-w)) (mkM d (-w)) (mkX d (-w)))] (.int .i64 0):=by
 have A:=dv_g (w:=w) la oO oO
 have B:=dv_g (w:=w) lb oO oO
 have C:=dv_g (w:=w) lc oO oO
 have D:=dv_g (w:=w) ld oO oO
 exact impl_eq (congrArg (V.int .i64) (g_meet (by rw [C.1,B.1]; exact dv_le.2 h1) (by rw [A.1,D.1]; exact dv_le.2 h2))) (r10_Cmp (mkM a (-w)) (mkX a (-w)) (mkM b (-w)) (mkX b (-w)) (mkM c (-w)) (mkX c (-w)) (mkM d (-w)) (mkX d (-w)) oO oO oO oO oO oO oO oO)
theorem g_has (a b k w:Int)(hw:0≤w∧w≤200)(la:L a.natAbs≤60)(lb:L b.natAbs≤60)(hk:(-9223372036854775808:Int)≤k∧k≤9223372036854775807)(h1:a≤k*2^w.toNat)(h2:k*2^w.toNat≤b):Impl Tryz.prog Amb 57 [(wV (mkM a (-w)) (mkX a (-w)) (mkM b (-w)) (mkX b (-w))),(.agg [(.bool (decide (((k:Int):Rat).num<0))),(N ((((k:Int):Rat).num).natAbs)),(N (((k:Int):Rat).den))])] (.bool true):=by
 have A:=dv_g (w:=w) la oO oO
 have B:=dv_g (w:=w) lb oO oO
 have e:((k:Int):Rat)=dv (k*2^w.toNat) (-w):=by
  rw [dv_shl,show (-w+(w.toNat:Int))=0 by omega]; unfold dv; rw [zp_zero,Rat.mul_one]
 have q:=q_ofL (n:=k) oO
 exact impl_eq (congrArg V.bool (decide_eq_true ⟨cmpQ_le.2 (by rw [A.1,e]; exact dv_le.2 h1),cmpQ_le.2 (by rw [B.1,e]; exact dv_le.2 h2)⟩)) (r10_Has (mkM a (-w)) (mkX a (-w)) (mkM b (-w)) (mkX b (-w)) ((k:Int):Rat) oO oO oO oO A.2.2.2.1 B.2.2.2.1 oO oO)
theorem EnE.neg {f:Nat→Rat}{t:Nat}{a b:Int}{x:Rat}(h:EnE f t a b x):EnE (fun K=>-(f K)) t (-b) (-a) x:=by
 obtain ⟨N,h⟩:=h
 refine ⟨N,fun K hK=>?_⟩
 have h:=h K hK
 rw [Rat.intCast_neg,Rat.intCast_neg,Rat.neg_mul]
 constructor<;>grind
end Go.Proofs.YtcbihoojfakhdaaGreatDoor

