/-
  Lower layers: what functions of the program compute, and plain facts. Conditions: as the theorems say.
-/
import Derived.Test.YtkkbddkpggjgpaaGreatDoorPfM
set_option linter.unusedVariables false
set_option linter.unusedSimpArgs false
namespace Go.Proofs.YtkkbddkpggjgpaaGreatDoor
open Go.RowKit
set_option maxRecDepth 100000
theorem gr_permitted (p:Int)(c0:(-9223372036854775808:Int)≤p∧p≤9223372036854775807):Impl Tryz.prog Amb 199 [(.int .i64 p)] (.bool (decide ((-2048:Int)≤p∧p≤8192))):=by
 exact impl_ob hP hAmb Tryz.func199 (by kernel_rfl) (.lit<|.both (.lits 4<|.ret) (.lits 3<|.ret))
  (cast_ob (aI True.intro (aI (fun (h1:(iGe p (-2048))=true)=>have _gh1:=iGe_t h1;(vsub_of (congrArg V.bool (perm_1 oO)):vsub (.bool (iLe p 8192)) (.bool (decide ((-2048:Int)≤p∧p≤8192))))) (fun (h2:(iGe p (-2048))=false)=>have _gh2:=iGe_f h2;(vsub_of (congrArg V.bool (decide_eq_false oO).symm):vsub (.bool false) (.bool (decide ((-2048:Int)≤p∧p≤8192))))))) (by kernel_rfl))
theorem gr_On (m e p:Int)(c0:L (m).natAbs≤16777216)(c1:(-9223372036854775808:Int)≤p∧p≤9223372036854775807):Impl Tryz.prog Amb 203 [(yV m e),(.int .i64 p)] (.bool (decide (((-2048:Int)≤p∧p≤8192)∧(m=0∨-p≤e)))):=by
 have e0:=L_len m.natAbs
 have e1:=L_pos_iff m.natAbs
 have s0:=sign_range m
 exact impl_ob hP hAmb Tryz.func203 (by kernel_rfl) (.lit<|.call (.bool (decide ((-2048:Int)≤p∧p≤8192)))<|.both (.lits 3<|.call (.int .i64 ((m).sign))<|.lits 3<|.both (.lits 8<|.ret) (.lits 5<|.yes<|.lits 6<|.ret)) (.lits 6<|.ret))
  (cast_ob (aI True.intro (aI (gr_permitted p oA) (aI (fun (h1:(decide ((-2048:Int)≤p∧p≤8192))=true)=>have _gh1:=of_decide_eq_true h1;aI (dy_Sign m e oA) (have f4:=sign_range m;aI (fun (h2:(iEq ((m).sign) 0)=true)=>have _gh2:=iEq_t h2;(vsub_of (congrArg V.bool ((decide_eq_true oO).symm)):vsub (.bool true) (.bool (decide (((-2048:Int)≤p∧p≤8192)∧(m=0∨-p≤e)))))) (fun (h3:(iEq ((m).sign) 0)=false)=>have _gh3:=iEq_f h3;aI (fits_i64 oA:(fits .i64 ((0:Int)-p))=true) ((vsub_of (congrArg V.bool (on_3 oO oO)):vsub (.bool (iGe e ((0:Int)-p))) (.bool (decide (((-2048:Int)≤p∧p≤8192)∧(m=0∨-p≤e))))))))) (fun (h5:(decide ((-2048:Int)≤p∧p≤8192))=false)=>have _gh5:=of_decide_eq_false h5;(vsub_of (congrArg V.bool ((decide_eq_false oO).symm)):vsub (.bool false) (.bool (decide (((-2048:Int)≤p∧p≤8192)∧(m=0∨-p≤e))))))))) (by kernel_rfl))
theorem r09_permitted (p:Int)(c0:(-9223372036854775808:Int)≤p∧p≤9223372036854775807):Impl Tryz.prog Amb 112 [(.int .i64 p)] (.bool (decide ((-2048:Int)≤p∧p≤8192))):=by
 exact impl_ob hP hAmb Tryz.func112 (by kernel_rfl) (.lit<|.both (.lits 4<|.ret) (.lits 3<|.ret))
  (cast_ob (aI True.intro (aI (fun (h1:(iGe p (-2048))=true)=>have _gh1:=iGe_t h1;(vsub_of (congrArg V.bool (perm_1 oO)):vsub (.bool (iLe p 8192)) (.bool (decide ((-2048:Int)≤p∧p≤8192))))) (fun (h2:(iGe p (-2048))=false)=>have _gh2:=iGe_f h2;(vsub_of (congrArg V.bool (decide_eq_false oO).symm):vsub (.bool false) (.bool (decide ((-2048:Int)≤p∧p≤8192))))))) (by kernel_rfl))
theorem r09_On (m e p:Int)(c0:L (m).natAbs≤16777216)(c1:(-9223372036854775808:Int)≤p∧p≤9223372036854775807):Impl Tryz.prog Amb 50 [(yV m e),(.int .i64 p)] (.bool (decide (((-2048:Int)≤p∧p≤8192)∧(m=0∨-p≤e)))):=by
 have e0:=L_len m.natAbs
 have e1:=L_pos_iff m.natAbs
 have s0:=sign_range m
 exact impl_ob hP hAmb Tryz.func50 (by kernel_rfl) (.lit<|.call (.bool (decide ((-2048:Int)≤p∧p≤8192)))<|.both (.lits 7<|.both (.lits 8<|.ret) (.lits 5<|.yes<|.lits 6<|.ret)) (.lits 8<|.ret))
  (cast_ob (aI True.intro (aI (r09_permitted p oA) (aI (fun (h1:(decide ((-2048:Int)≤p∧p≤8192))=true)=>have _gh1:=of_decide_eq_true h1;aI (fun (h2:(iEq ((lim m.natAbs).length:Int) 0)=true)=>have _gh2:=iEq_t h2;(vsub_of (congrArg V.bool ((decide_eq_true oO).symm)):vsub (.bool true) (.bool (decide (((-2048:Int)≤p∧p≤8192)∧(m=0∨-p≤e)))))) (fun (h3:(iEq ((lim m.natAbs).length:Int) 0)=false)=>have _gh3:=iEq_f h3;aI (fits_i64 oA:(fits .i64 ((0:Int)-p))=true) ((vsub_of (congrArg V.bool (on_3 oO oO)):vsub (.bool (iGe e ((0:Int)-p))) (.bool (decide (((-2048:Int)≤p∧p≤8192)∧(m=0∨-p≤e)))))))) (fun (h4:(decide ((-2048:Int)≤p∧p≤8192))=false)=>have _gh4:=of_decide_eq_false h4;(vsub_of (congrArg V.bool ((decide_eq_false oO).symm)):vsub (.bool false) (.bool (decide (((-2048:Int)≤p∧p≤8192)∧(m=0∨-p≤e))))))))) (by kernel_rfl))
theorem r09_Unit (p:Int)(c0:(-2048:Int)≤p∧p≤8192):Impl Tryz.prog Amb 51 [(.int .i64 p)] (.tup [(yV (mkM (1:Int) (-p)) (mkX (1:Int) (-p))),(.int .i64 (mkE (1:Int) (-p)))]):=by
 have l1:=L_le (n:=1) (k:=1) (by decide)
 exact impl_ob hP hAmb Tryz.func51 (by kernel_rfl) (.lit<|.call (.bool (decide ((-2048:Int)≤p∧p≤8192)))<|.lit<|.no<|.lit<|.call (zV (1:Int))<|.lit<|.yes<|.lit<|.call (.tup [(yV (mkM (1:Int) ((0:Int)-p)) (mkX (1:Int) ((0:Int)-p))),(.int .i64 (mkE (1:Int) ((0:Int)-p)))])<|.lits 2<|.ret)
  (cast_ob (aI True.intro (aI (r09_permitted p oA) (aI (perm_no oO:(!(decide ((-2048:Int)≤p∧p≤8192)))=false) (aI (r05_Of 1 oA) (have f2:=(L_i64 oA:L (1:Int).natAbs≤2);aI (fits_i64 oA:(fits .i64 ((0:Int)-p))=true) (aI (r08_Make (1:Int) ((0:Int)-p) oA oA) (have f1:=mk_facts (1:Int) ((0:Int)-p);(vsub_of (by first | rfl | simp_all):vsub (.tup [(yV (mkM (1:Int) ((0:Int)-p)) (mkX (1:Int) ((0:Int)-p))),(.int .i64 (mkE (1:Int) ((0:Int)-p)))]) (.tup [(yV (mkM (1:Int) (-p)) (mkX (1:Int) (-p))),(.int .i64 (mkE (1:Int) (-p)))]))))))))) (by kernel_rfl))
theorem iv_Valid (m e n f:Int)(c0:L (m).natAbs≤8192)(c1:L (n).natAbs≤8192):Impl Tryz.prog Amb 201 [(wV m e n f)] (.bool (ivB m e n f)):=by
 have v0:=vdb_range m e
 have v1:=vdb_range n f
 exact impl_ob hP hAmb Tryz.func201 (by kernel_rfl) (.lits 2<|.call (.bool (vdb m e))<|.both (.lits 4<|.call (.bool (vdb n f))<|.lit<|.both (.lits 7<|.call (.int .i64 (cmpD m e n f))<|.lits 4<|.ret) (.lits 7<|.ret)) (.lits 11<|.ret))
  (cast_ob (aI True.intro (aI (dy_Valid m e (by first | omega | (have:=v0 (by assumption);have:=v1 (by assumption);omega))) (aI (fun (h1:(vdb m e)=true)=>aI (dy_Valid n f (by first | omega | (have:=v0 (by assumption);have:=v1 (by assumption);omega))) (aI (fun (h2:(vdb n f)=true)=>aI (dy_Cmp m e n f (by first | omega | (have:=v0 (by assumption);have:=v1 (by assumption);omega)) (by first | omega | (have:=v0 (by assumption);have:=v1 (by assumption);omega)) (by first | omega | (have:=v0 (by assumption);have:=v1 (by assumption);omega)) (by first | omega | (have:=v0 (by assumption);have:=v1 (by assumption);omega))) (have f3:=cmpD_range m e n f;(vsub_of (congrArg V.bool (iv_1 (by assumption) (by assumption))):vsub (.bool (iLe (cmpD m e n f) 0)) (.bool (ivB m e n f))))) (fun (h4:(vdb n f)=false)=>(vsub_of (congrArg V.bool (iv_3 (by assumption))):vsub (.bool false) (.bool (ivB m e n f)))))) (fun (h5:(vdb m e)=false)=>(vsub_of (congrArg V.bool (iv_2 (by assumption))):vsub (.bool false) (.bool (ivB m e n f))))))) (by kernel_rfl))
theorem r10_Valid (m e n f:Int)(c0:L (m).natAbs≤8192)(c1:L (n).natAbs≤8192):Impl Tryz.prog Amb 49 [(wV m e n f)] (.bool (ivB m e n f)):=by
 have v0:=vdb_range m e
 have v1:=vdb_range n f
 exact impl_ob hP hAmb Tryz.func49 (by kernel_rfl) (.lits 2<|.call (.bool (vdb m e))<|.both (.lits 4<|.call (.bool (vdb n f))<|.lit<|.both (.lits 7<|.call (.int .i64 (cmpD m e n f))<|.lits 4<|.ret) (.lits 7<|.ret)) (.lits 11<|.ret))
  (cast_ob (aI True.intro (aI (r08_Valid m e (by first | omega | (have:=v0 (by assumption);have:=v1 (by assumption);omega))) (aI (fun (h1:(vdb m e)=true)=>aI (r08_Valid n f (by first | omega | (have:=v0 (by assumption);have:=v1 (by assumption);omega))) (aI (fun (h2:(vdb n f)=true)=>aI (r08_Cmp m e n f (by first | omega | (have:=v0 (by assumption);have:=v1 (by assumption);omega)) (by first | omega | (have:=v0 (by assumption);have:=v1 (by assumption);omega)) (by first | omega | (have:=v0 (by assumption);have:=v1 (by assumption);omega)) (by first | omega | (have:=v0 (by assumption);have:=v1 (by assumption);omega))) (have f3:=cmpD_range m e n f;(vsub_of (congrArg V.bool (iv_1 (by assumption) (by assumption))):vsub (.bool (iLe (cmpD m e n f) 0)) (.bool (ivB m e n f))))) (fun (h4:(vdb n f)=false)=>(vsub_of (congrArg V.bool (iv_3 (by assumption))):vsub (.bool false) (.bool (ivB m e n f)))))) (fun (h5:(vdb m e)=false)=>(vsub_of (congrArg V.bool (iv_2 (by assumption))):vsub (.bool false) (.bool (ivB m e n f))))))) (by kernel_rfl))
theorem r10_Width (m e n f:Int)(c0:L (m).natAbs≤8192)(c1:L (n).natAbs≤8192)(c2:(-65536:Int)≤e∧e≤65536)(c3:(-65536:Int)≤f∧f≤65536):Impl Tryz.prog Amb 89 [(wV m e n f)] (.tup [(yV (mkM (adS n f (-m) e) (iMin f e)) (mkX (adS n f (-m) e) (iMin f e))),(.int .i64 (mkE (adS n f (-m) e) (iMin f e)))]):=by
 exact impl_ob hP hAmb Tryz.func89 (by kernel_rfl) (.lits 3<|.call (.tup [(yV (mkM (adS n f (-m) e) (iMin f e)) (mkX (adS n f (-m) e) (iMin f e))),(.int .i64 (mkE (adS n f (-m) e) (iMin f e)))])<|.lits 2<|.ret)
  (cast_ob (aI True.intro (aI (r08_Sub n f m e oA oA oA oA) (have f2:=mk_facts (adS n f (-m) e) (iMin f e);have f1:=ad_facts n f (-m) e oA oA;(vsub_refl (.tup [(yV (mkM (adS n f (-m) e) (iMin f e)) (mkX (adS n f (-m) e) (iMin f e))),(.int .i64 (mkE (adS n f (-m) e) (iMin f e)))]))))) (by kernel_rfl))
theorem r10_Cmp (m e n f p g q h:Int)(c0:L (m).natAbs≤8192)(c1:L (n).natAbs≤8192)(c2:(-65536:Int)≤e∧e≤65536)(c3:(-65536:Int)≤f∧f≤65536)(c4:L (p).natAbs≤8192)(c5:L (q).natAbs≤8192)(c6:(-65536:Int)≤g∧g≤65536)(c7:(-65536:Int)≤h∧h≤65536):Impl Tryz.prog Amb 21 [(wV m e n f),(wV p g q h)] (.int .i64 (ivCmp m e n f p g q h)):=by
 exact impl_ob hP hAmb Tryz.func21 (by kernel_rfl) (.lits 3<|.call (.int .i64 (cmpD n f p g))<|.lit<|.both (.lit<|.ret) (.lits 3<|.call (.int .i64 (cmpD m e q h))<|.lit<|.both (.lit<|.ret) (.lit<|.ret)))
  (cast_ob (aI True.intro (aI (r08_Cmp n f p g oA oA oA oA) (have f6:=cmpD_range n f p g;aI (fun (h1:(iLt (cmpD n f p g) 0)=true)=>have _gh1:=iLt_t h1;(vsub_of (congrArg (V.int .i64) (ivc_1 oO)):vsub (.int .i64 (-1)) (.int .i64 (ivCmp m e n f p g q h)))) (fun (h2:(iLt (cmpD n f p g) 0)=false)=>have _gh2:=iLt_f h2;aI (r08_Cmp m e q h oA oA oA oA) (have f5:=cmpD_range m e q h;aI (fun (h3:(iGt (cmpD m e q h) 0)=true)=>have _gh3:=iGt_t h3;(vsub_of (congrArg (V.int .i64) (ivc_2 oO oO)):vsub (.int .i64 1) (.int .i64 (ivCmp m e n f p g q h)))) (fun (h4:(iGt (cmpD m e q h) 0)=false)=>have _gh4:=iGt_f h4;(vsub_of (congrArg (V.int .i64) (ivc_3 oO oO)):vsub (.int .i64 0) (.int .i64 (ivCmp m e n f p g q h))))))))) (by kernel_rfl))
theorem r08_Same (m e n f:Int)(c0:L (m).natAbs≤16777216)(c1:L (n).natAbs≤16777216):Impl Tryz.prog Amb 70 [(yV m e),(yV n f)] (.bool (decide (e=f∧m=n))):=by
 exact impl_ob hP hAmb Tryz.func70 (by kernel_rfl) (.lits 3<|.both (.lits 7<|.call (.bool (decide (m=n)))<|.lits 2<|.ret) (.lits 6<|.ret))
  (cast_ob (aI True.intro (aI (fun (h1:(iEq e f)=true)=>have _gh1:=iEq_t h1;aI (r05_Same m n oA oA) ((vsub_of (congrArg V.bool (sm_1 oO)):vsub (.bool (decide (m=n))) (.bool (decide (e=f∧m=n)))))) (fun (h2:(iEq e f)=false)=>have _gh2:=iEq_f h2;(vsub_of (congrArg V.bool ((decide_eq_false oO).symm)):vsub (.bool false) (.bool (decide (e=f∧m=n))))))) (by kernel_rfl))
theorem r10_Same (m e n f p g q h:Int)(c0:L (m).natAbs≤16777216)(c1:L (n).natAbs≤16777216)(c2:L (p).natAbs≤16777216)(c3:L (q).natAbs≤16777216):Impl Tryz.prog Amb 27 [(wV m e n f),(wV p g q h)] (.bool (decide ((e=g∧m=p)∧(f=h∧n=q)))):=by
 exact impl_ob hP hAmb Tryz.func27 (by kernel_rfl) (.lits 3<|.call (.bool (decide (e=g∧m=p)))<|.both (.lits 7<|.call (.bool (decide (f=h∧n=q)))<|.lits 2<|.ret) (.lits 6<|.ret))
  (cast_ob (aI True.intro (aI (r08_Same m e p g oA oA) (aI (fun (h1:(decide (e=g∧m=p))=true)=>have _gh1:=of_decide_eq_true h1;aI (r08_Same n f q h oA oA) ((vsub_of (congrArg V.bool (sm_2 oO)):vsub (.bool (decide (f=h∧n=q))) (.bool (decide ((e=g∧m=p)∧(f=h∧n=q))))))) (fun (h2:(decide (e=g∧m=p))=false)=>have _gh2:=of_decide_eq_false h2;(vsub_of (congrArg V.bool ((decide_eq_false oO).symm)):vsub (.bool false) (.bool (decide ((e=g∧m=p)∧(f=h∧n=q))))))))) (by kernel_rfl))
end Go.Proofs.YtkkbddkpggjgpaaGreatDoor

namespace Go.Proofs.YtkkbddkpggjgpaaGreatDoor
theorem L_min (a b:Int):L (min a b).natAbs≤max (L a.natAbs) (L b.natAbs):=by
 rcases Int.le_total a b with h | h
 ·rw[Int.min_eq_left h];omega
 ·rw[Int.min_eq_right h];omega
theorem L_max (a b:Int):L (max a b).natAbs≤max (L a.natAbs) (L b.natAbs):=by
 rcases Int.le_total a b with h | h
 ·rw[Int.max_eq_right h];omega
 ·rw[Int.max_eq_left h];omega
theorem tiny_1 {a b:Nat}(h:a≤1):iLe (cmpN b 1) 0=decide (a≤1∧b≤1):=by
 have:=cmpN_range b 1
 unfold iLe
 by_cases q:b≤1
 ·rw[decide_eq_true (show cmpN b 1≤0 by omega),decide_eq_true];exact⟨h,q⟩
 ·rw[decide_eq_false (show ¬ cmpN b 1≤0 by omega),decide_eq_false];omega
theorem tiny_2 {a b:Nat}(h:1<a):false=decide (a≤1∧b≤1):=by rw[decide_eq_false];omega
theorem fl_le {m n:Int}{B:Nat}(hn:1≤n)(h:m.natAbs≤B):(Int.fdiv m n).natAbs≤B:=by
 rw[Int.fdiv_eq_ediv_of_nonneg _ (by omega)]
 have hB:(B:Int)*1≤(B:Int)*n:=Int.mul_le_mul_of_nonneg_left (by omega) (by omega)
 have h1:-(B:Int)≤m / n:=(Int.le_ediv_iff_mul_le (by omega)).2 (by rw[Int.neg_mul];omega)
 have h2:m / n<(B:Int)+1:=(Int.ediv_lt_iff_lt_mul (by omega)).2 (by rw[Int.add_mul];omega)
 omega
theorem fl_half {m n:Int}{B:Nat}(hn:2≤n)(h:m.natAbs≤2*B):(Int.fdiv m n).natAbs≤B:=by
 rw[Int.fdiv_eq_ediv_of_nonneg _ (by omega)]
 have hB:(B:Int)*2≤(B:Int)*n:=Int.mul_le_mul_of_nonneg_left (by omega) (by omega)
 have h1:-(B:Int)≤m / n:=(Int.le_ediv_iff_mul_le (by omega)).2 (by rw[Int.neg_mul];omega)
 have h2:m / n<(B:Int)+1:=(Int.ediv_lt_iff_lt_mul (by omega)).2 (by rw[Int.add_mul];omega)
 omega
theorem min_abs {a b:Int}{B:Nat}(h:a.natAbs≤B)(k:b.natAbs≤B):(min a b).natAbs≤B:=by
 rcases Int.le_total a b with q | q
 ·rw[Int.min_eq_left q];exact h
 ·rw[Int.min_eq_right q];exact k
theorem max_abs {a b:Int}{B:Nat}(h:a.natAbs≤B)(k:b.natAbs≤B):(max a b).natAbs≤B:=by
 rcases Int.le_total a b with q | q
 ·rw[Int.max_eq_right q];exact k
 ·rw[Int.max_eq_left q];exact h
theorem ov_le {a b n:Int}{B:Nat}(hn:1≤n)(h:a.natAbs≤B)(k:b.natAbs≤B):(Int.fdiv (min a b) n).natAbs≤B∧(-(Int.fdiv (-(max a b)) n)).natAbs≤B:=by
 refine⟨fl_le hn (min_abs h k),?_⟩
 rw[Int.natAbs_neg]
 exact fl_le hn (by rw[Int.natAbs_neg];exact max_abs h k)
theorem ov_half {a b n:Int}{B:Nat}(hn:2≤n)(h:a.natAbs≤2*B)(k:b.natAbs≤2*B):(Int.fdiv (min a b) n).natAbs≤B∧(-(Int.fdiv (-(max a b)) n)).natAbs≤B:=by
 refine⟨fl_half hn (min_abs h k),?_⟩
 rw[Int.natAbs_neg]
 exact fl_half hn (by rw[Int.natAbs_neg];exact max_abs h k)
theorem rem_two {k:Int}(h:0≤k):wRem k (2:Int)=k%2:=Int.tmod_eq_emod_of_nonneg h
def atanG (n:Int):Nat→Int→Int→Int→Int→Int→Int × Int
 | 0,_,_,_,a,b=>(a,b)
 | f+1,k,lo,hi,a,b =>
  if lo.natAbs≤1∧hi.natAbs≤1 then (a,b) else
  if k%2=1 then atanG n f (k+1) (Int.fdiv (min (Int.fdiv (min lo hi) n) (-(Int.fdiv (-(max lo hi)) n))) n) (-(Int.fdiv (-(max (Int.fdiv (min lo hi) n) (-(Int.fdiv (-(max lo hi)) n)))) n))
   (a+-(-(Int.fdiv (-(max lo hi)) (2*k+1)))) (b+-(Int.fdiv (min lo hi) (2*k+1)))
  else atanG n f (k+1) (Int.fdiv (min (Int.fdiv (min lo hi) n) (-(Int.fdiv (-(max lo hi)) n))) n) (-(Int.fdiv (-(max (Int.fdiv (min lo hi) n) (-(Int.fdiv (-(max lo hi)) n)))) n))
   (a+(Int.fdiv (min lo hi) (2*k+1))) (b+(-(Int.fdiv (-(max lo hi)) (2*k+1))))
def atanT (n v:Int):Int × Int:=atanG n (v.toNat+2) 0 (Int.fdiv (min ((1:Int)*2^v.toNat) ((1:Int)*2^v.toNat)) n) (-(Int.fdiv (-(max ((1:Int)*2^v.toNat) ((1:Int)*2^v.toNat))) n)) ((0:Int)*2^v.toNat) ((0:Int)*2^v.toNat)
def AtInv (n F:Int)(T:Int × Int)(f k lo hi a b A:Int):Prop :=
 0≤f∧0≤k∧k+f=F∧atanG n (f.toNat+1) k lo hi a b=T∧lo.natAbs≤2^f.toNat∧hi.natAbs≤2^f.toNat∧L lo.natAbs≤A+4*k∧L hi.natAbs≤A+4*k∧L a.natAbs≤A+4*k+2∧L b.natAbs≤A+4*k+2
theorem pow_succ2 {f:Int}(h:0≤f-1):2^f.toNat=2*2^(f-1).toNat:=by
 rw[show f.toNat=(f-1).toNat+1 by omega,Nat.pow_succ,Nat.mul_comm]
theorem pow_tiny {f:Int}{x y:Nat}(h:0≤f)(hx:x≤2^f.toNat)(hy:y≤2^f.toNat)(hn:¬ (x≤1∧y≤1)):1≤f:=by
 refine Decidable.byContradiction fun q=>hn ?_
 have:f.toNat=0:=by omega
 rw[this] at hx hy
 exact⟨hx,hy⟩
theorem at_end {n F:Int}{T:Int × Int}{f k lo hi a b A:Int}(h:AtInv n F T f k lo hi a b A)(ht:lo.natAbs≤1∧hi.natAbs≤1):a=T.1∧b=T.2:=by
 obtain⟨h1,h2,h3,h4,_⟩:=h
 rw[atanG,if_pos ht] at h4
 rw[← h4];exact⟨rfl,rfl⟩
theorem at_next {n F:Int}{T:Int × Int}{f k lo hi a b A:Int}(hn:2≤n)(h:AtInv n F T f k lo hi a b A)(ht:¬ (lo.natAbs≤1∧hi.natAbs≤1))(x y:Int)
  (hxy:(wRem k (2:Int)=1∧x=a+-(-(Int.fdiv (-(max lo hi)) (2*k+1)))∧y=b+-(Int.fdiv (min lo hi) (2*k+1)))∨(wRem k (2:Int)≠1∧x=a+(Int.fdiv (min lo hi) (2*k+1))∧y=b+(-(Int.fdiv (-(max lo hi)) (2*k+1))))) :
  AtInv n F T (f-1) (k+1) (Int.fdiv (min (Int.fdiv (min lo hi) n) (-(Int.fdiv (-(max lo hi)) n))) n) (-(Int.fdiv (-(max (Int.fdiv (min lo hi) n) (-(Int.fdiv (-(max lo hi)) n)))) n)) x y A:=by
 obtain⟨h1,h2,h3,h4,h5,h6,h7,h8,h9,h10⟩:=h
 have hf:=pow_tiny h1 h5 h6 ht
 rw[rem_two h2] at hxy
 rw[pow_succ2 (by omega)] at h5 h6
 obtain⟨b1,b2⟩:=ov_half hn h5 h6
 obtain⟨b3,b4⟩:=ov_le (show 1≤n by omega) b1 b2
 have l1:=L_min lo hi
 have l2:=L_max lo hi
 have l3:=L_abs_neg (max lo hi)
 have l4:=L_fdiv (min lo hi) n
 have l5:=L_fdiv (-(max lo hi)) n
 have l6:=L_abs_neg (Int.fdiv (-(max lo hi)) n)
 have l7:=L_min (Int.fdiv (min lo hi) n) (-(Int.fdiv (-(max lo hi)) n))
 have l8:=L_max (Int.fdiv (min lo hi) n) (-(Int.fdiv (-(max lo hi)) n))
 have l9:=L_abs_neg (max (Int.fdiv (min lo hi) n) (-(Int.fdiv (-(max lo hi)) n)))
 have l10:=L_fdiv (min (Int.fdiv (min lo hi) n) (-(Int.fdiv (-(max lo hi)) n))) n
 have l11:=L_fdiv (-(max (Int.fdiv (min lo hi) n) (-(Int.fdiv (-(max lo hi)) n)))) n
 have l12:=L_abs_neg (Int.fdiv (-(max (Int.fdiv (min lo hi) n) (-(Int.fdiv (-(max lo hi)) n)))) n)
 have l13:=L_fdiv (min lo hi) (2*k+1)
 have l14:=L_fdiv (-(max lo hi)) (2*k+1)
 have l15:=L_abs_neg (Int.fdiv (-(max lo hi)) (2*k+1))
 have l16:=L_abs_neg (Int.fdiv (min lo hi) (2*k+1))
 have l17:=L_abs_neg (-(Int.fdiv (-(max lo hi)) (2*k+1)))
 have hfn:f.toNat=(f-1).toNat+1:=by omega
 rw[atanG,if_neg ht,hfn] at h4
 refine⟨by omega,by omega,by omega,?_,b3,b4,by omega,by omega,?_,?_⟩
 ·rcases hxy with ⟨q,rfl,rfl⟩ | ⟨q,rfl,rfl⟩
  ·rw[if_pos q] at h4;exact h4
  ·rw[if_neg q] at h4;exact h4
 all_goals
  rcases hxy with ⟨q,rfl,rfl⟩ | ⟨q,rfl,rfl⟩
  ·have:=L_abs_add a (-(-(Int.fdiv (-(max lo hi)) (2*k+1))))
   have:=L_abs_add b (-(Int.fdiv (min lo hi) (2*k+1)))
   omega
  ·have:=L_abs_add a (Int.fdiv (min lo hi) (2*k+1))
   have:=L_abs_add b (-(Int.fdiv (-(max lo hi)) (2*k+1)))
   omega
theorem L_pow1 (k:Nat):L ((1:Int)*2^k).natAbs≤k / 32+1:=by
 rw[Int.one_mul,Int.natAbs_pow];exact L_two_pow k
theorem at_init {n v:Int}(hn:2≤n)(hv:0≤v):AtInv n (v+1) (atanT n v) (v+1) 0 (Int.fdiv (min ((1:Int)*2^v.toNat) ((1:Int)*2^v.toNat)) n) (-(Int.fdiv (-(max ((1:Int)*2^v.toNat) ((1:Int)*2^v.toNat))) n)) ((0:Int)*2^v.toNat) ((0:Int)*2^v.toNat) (v / 32+2):=by
 have hb:((1:Int)*2^v.toNat).natAbs≤2^(v+1).toNat:=by
  rw[Int.one_mul,Int.natAbs_pow,show (v+1).toNat=v.toNat+1 by omega,Nat.pow_succ]
  show 2^v.toNat≤_
  omega
 obtain⟨b1,b2⟩:=ov_le (show 1≤n by omega) hb hb
 have l0:=L_pow1 v.toNat
 have l1:=L_min ((1:Int)*2^v.toNat) ((1:Int)*2^v.toNat)
 have l2:=L_max ((1:Int)*2^v.toNat) ((1:Int)*2^v.toNat)
 have l3:=L_abs_neg (max ((1:Int)*2^v.toNat) ((1:Int)*2^v.toNat))
 have l4:=L_fdiv (min ((1:Int)*2^v.toNat) ((1:Int)*2^v.toNat)) n
 have l5:=L_fdiv (-(max ((1:Int)*2^v.toNat) ((1:Int)*2^v.toNat))) n
 have l6:=L_abs_neg (Int.fdiv (-(max ((1:Int)*2^v.toNat) ((1:Int)*2^v.toNat))) n)
 have z:L ((0:Int)*2^v.toNat).natAbs=0:=by rw[Int.zero_mul];exact L_zero
 refine⟨by omega,by omega,by omega,?_,b1,b2,by omega,by omega,by omega,by omega⟩
 rw[show (v+1).toNat+1=v.toNat+2 by omega];rfl
theorem at_bound {n F:Int}{T:Int × Int}{f k lo hi a b A:Int}(h:AtInv n F T f k lo hi a b A):0≤k∧k≤F∧L lo.natAbs≤A+4*F∧L hi.natAbs≤A+4*F∧L a.natAbs≤A+4*F+2∧L b.natAbs≤A+4*F+2:=by
 obtain⟨h1,h2,h3,h4,h5,h6,h7,h8,h9,h10⟩:=h
 omega
def eG:Nat→Int→Int→Int→Int→Int→Int × Int
 | 0,_,_,_,a,b=>(a,b)
 | f+1,k,lo,hi,a,b =>
  if lo.natAbs≤1∧hi.natAbs≤1 then (a,b) else
  eG f (k+1) (Int.fdiv (min lo hi) k) (-(Int.fdiv (-(max lo hi)) k)) (a+(Int.fdiv (min lo hi) k)) (b+(-(Int.fdiv (-(max lo hi)) k)))
def eT (v:Int):Int × Int:=eG (v.toNat+2) 1 ((1:Int)*2^v.toNat) ((1:Int)*2^v.toNat) ((1:Int)*2^v.toNat) ((1:Int)*2^v.toNat)
theorem at_T {n F:Int}{T:Int × Int}{A:Int}(hn:2≤n):∀ (m:Nat) (f k lo hi a b:Int),f.toNat=m→AtInv n F T f k lo hi a b A→L T.1.natAbs≤A+4*F+2∧L T.2.natAbs≤A+4*F+2
 | m,f,k,lo,hi,a,b,hm,h=>by
  have hb:=at_bound h
  by_cases ht:lo.natAbs≤1∧hi.natAbs≤1
  ·obtain⟨e1,e2⟩:=at_end h ht
   rw[← e1,← e2];exact⟨hb.2.2.2.2.1,hb.2.2.2.2.2⟩
  ·have hf:=pow_tiny h.1 h.2.2.2.2.1 h.2.2.2.2.2.1 ht
   cases m with
   | zero=>omega
   | succ m =>
    by_cases hq:wRem k (2:Int)=1
    ·exact at_T hn m _ _ _ _ _ _ (by omega) (at_next hn h ht _ _ (.inl ⟨hq,rfl,rfl⟩))
    ·exact at_T hn m _ _ _ _ _ _ (by omega) (at_next hn h ht _ _ (.inr ⟨hq,rfl,rfl⟩))
theorem L_lit (n:Nat)(h:n<4294967296):L n≤1:=L_le (by simpa using h)
end Go.Proofs.YtkkbddkpggjgpaaGreatDoor

namespace Go.Proofs.YtkkbddkpggjgpaaGreatDoor
open Go.RowKit
set_option maxRecDepth 100000
theorem r13_over0 (x n:Int)(c0:L (x).natAbs≤16384)(c1:L (n).natAbs≤16384)(c2:n≠0):Impl Tryz.prog Amb 178 [(zV x),(zV n),(.bool false)] (zV (Int.fdiv x n)):=by
 have l0:=L_abs_neg x
 exact impl_ob hP hAmb Tryz.func178 (by kernel_rfl) (.lits 4<|.call (.tup [(zV (Int.fdiv x n)),(zV (x-(Int.fdiv x n)*n)),(.bool true)])<|.lits 5<|.ret)
  (cast_ob (aI True.intro (aI (r05_DivMod x n oO oO oO) (have f1:=L_fdiv x n;(vsub_refl (zV (Int.fdiv x n)))))) (by kernel_rfl))
theorem r13_over1 (x n:Int)(c0:L (x).natAbs≤16384)(c1:L (n).natAbs≤16384)(c2:n≠0):Impl Tryz.prog Amb 178 [(zV x),(zV n),(.bool true)] (zV (-(Int.fdiv (-x) n))):=by
 have l0:=L_abs_neg x
 exact impl_ob hP hAmb Tryz.func178 (by kernel_rfl) (.lits 3<|.call (zV (-x))<|.lits 2<|.call (.tup [(zV (Int.fdiv (-x) n)),(zV ((-x)-(Int.fdiv (-x) n)*n)),(.bool true)])<|.lits 2<|.call (zV (-(Int.fdiv (-x) n)))<|.lits 2<|.ret)
  (cast_ob (aI True.intro (aI (r05_Neg x oO) (have f3:=L_abs_neg x;aI (r05_DivMod (-x) n oO oO oO) (have f2:=L_fdiv (-x) n;aI (r05_Neg (Int.fdiv (-x) n) oO) (have f1:=L_abs_neg (Int.fdiv (-x) n);(vsub_refl (zV (-(Int.fdiv (-x) n))))))))) (by kernel_rfl))
def r13_hull2_0_mk (a b n:Int)(x:(Int × Int)⊕((Int × Int)⊕(Int × Int))):St:=Sum.elim (fun (x:Int × Int)=>⟨mkS 39 [(3,(.own 0 0)),(4,(.own 1 0)),(5,(.own 2 0)),(6,(.own 3 0)),(15,(.val (.sl 2 [(V.bool (decide (a<0))),(N a.natAbs),(V.bool (decide (b<0))),(N b.natAbs)]))),(16,(.val (.int .i64 2))),(17,(.val (.int .i64 0)))],[⟨true,false,[(V.bool (decide (n<0))),(N n.natAbs)]⟩,⟨true,false,[(V.bool false),V.nil,(V.bool false),V.nil]⟩,⟨true,false,[(V.bool (decide (x.1<0))),(N x.1.natAbs)]⟩,⟨true,false,[(V.bool (decide (x.2<0))),(N x.2.natAbs)]⟩]⟩) (fun (x:(Int × Int)⊕(Int × Int))=>Sum.elim (fun (x:Int × Int)=>⟨mkS 39 [(3,(.own 0 0)),(4,(.own 1 0)),(5,(.own 2 0)),(6,(.own 3 0)),(15,(.val (.sl 2 [(V.bool (decide (a<0))),(N a.natAbs),(V.bool (decide (b<0))),(N b.natAbs)]))),(16,(.val (.int .i64 2))),(17,(.val (.int .i64 1)))],[⟨true,false,[(V.bool (decide (n<0))),(N n.natAbs)]⟩,⟨true,false,[(V.bool false),V.nil,(V.bool false),V.nil]⟩,⟨true,false,[(V.bool (decide (x.1<0))),(N x.1.natAbs)]⟩,⟨true,false,[(V.bool (decide (x.2<0))),(N x.2.natAbs)]⟩]⟩) (fun (x:Int × Int)=>⟨mkS 39 [(3,(.own 0 0)),(4,(.own 1 0)),(5,(.own 2 0)),(6,(.own 3 0)),(15,(.val (.sl 2 [(V.bool (decide (a<0))),(N a.natAbs),(V.bool (decide (b<0))),(N b.natAbs)]))),(16,(.val (.int .i64 2))),(17,(.val (.int .i64 2)))],[⟨true,false,[(V.bool (decide (n<0))),(N n.natAbs)]⟩,⟨true,false,[(V.bool false),V.nil,(V.bool false),V.nil]⟩,⟨true,false,[(V.bool (decide (x.1<0))),(N x.1.natAbs)]⟩,⟨true,false,[(V.bool (decide (x.2<0))),(N x.2.natAbs)]⟩]⟩) x) x
def r13_hull2_0_I (a b _:Int)(x:(Int × Int)⊕((Int × Int)⊕(Int × Int))):Prop:=Sum.elim (fun (x:Int × Int)=>x.1=a∧x.2=a) (fun (x:(Int × Int)⊕(Int × Int))=>Sum.elim (fun (x:Int × Int)=>x.1=a∧x.2=a) (fun (x:Int × Int)=>x.1=(min a b)∧x.2=(max a b)) x) x
def r13_hull2_0_mu (_ _ _:Int)(x:(Int × Int)⊕((Int × Int)⊕(Int × Int))):Nat:=Sum.elim (fun (x:Int × Int)=>2) (fun (x:(Int × Int)⊕(Int × Int))=>Sum.elim (fun (x:Int × Int)=>1) (fun (x:Int × Int)=>0) x) x
def r13_hull2_0_ex (_ _ n:Int)(y:Int × Int):Ex × St:=(.exit 0,⟨mkS 39 [(3,(.own 0 0)),(4,(.own 1 0)),(5,(.own 2 0)),(6,(.own 3 0))],[⟨true,false,[(V.bool (decide (n<0))),(N n.natAbs)]⟩,⟨true,false,[(V.bool false),V.nil,(V.bool false),V.nil]⟩,⟨true,false,[(V.bool (decide (y.1<0))),(N y.1.natAbs)]⟩,⟨true,false,[(V.bool (decide (y.2<0))),(N y.2.natAbs)]⟩]⟩)
def r13_hull2_0_J (a b _:Int)(y:Int × Int):Prop:=y.1=(min a b)∧y.2=(max a b)
abbrev r13_hull2_0_N (a b n:Int):=NX (r13_hull2_0_mk a b n) (r13_hull2_0_I a b n) (r13_hull2_0_mu a b n) (r13_hull2_0_ex a b n) (r13_hull2_0_J a b n)
theorem r13_hull2_0 (a b n:Int)(c0:L a.natAbs≤8192)(c1:L b.natAbs≤8192)(x0:(Int × Int)⊕((Int × Int)⊕(Int × Int)))(hI:r13_hull2_0_I a b n x0):LoopOk Tryz.prog Amb (loopN Tryz.f115 0) (r13_hull2_0_mk a b n x0) (fun e st_=>∃ y,r13_hull2_0_J a b n y∧r13_hull2_0_ex a b n y=(e,st_)) :=
 loop_ob hP hAmb ⟨[3,4,5,6,15,16,17],4,[]⟩ (r13_hull2_0_mk a b n) (r13_hull2_0_I a b n) (r13_hull2_0_mu a b n) (r13_hull2_0_ex a b n) (r13_hull2_0_J a b n) x0 hI (Sum.elim (fun (p,q)=>.lits 8<|.call (.int .i64 (cmpI a p))<|.lit<|.both (.lits 5<|.call (.int .i64 (cmpI a q))<|.lit<|.both (.lits 3<|.yes<|.fin2 ⟨[3,4,5,6,15,16,17],4,[]⟩) (.lit<|.yes<|.fin2 ⟨[3,4,5,6,15,16,17],4,[]⟩)) (.lits 3<|.call (.int .i64 (cmpI a q))<|.lit<|.both (.lits 3<|.yes<|.fin2 ⟨[3,4,5,6,15,16,17],4,[]⟩) (.lit<|.yes<|.fin2 ⟨[3,4,5,6,15,16,17],4,[]⟩))) (Sum.elim (fun (p,q)=>.lits 8<|.call (.int .i64 (cmpI b p))<|.lit<|.both (.lits 5<|.call (.int .i64 (cmpI b q))<|.lit<|.both (.lits 3<|.yes<|.fin2 ⟨[3,4,5,6,15,16,17],4,[]⟩) (.lit<|.yes<|.fin2 ⟨[3,4,5,6,15,16,17],4,[]⟩)) (.lits 3<|.call (.int .i64 (cmpI b q))<|.lit<|.both (.lits 3<|.yes<|.fin2 ⟨[3,4,5,6,15,16,17],4,[]⟩) (.lit<|.yes<|.fin2 ⟨[3,4,5,6,15,16,17],4,[]⟩))) (fun (p,q)=>.lits 2<|.fin2 ⟨[3,4,5,6],4,[]⟩))) (by
  rintro (⟨p,q⟩ | ⟨p,q⟩ | ⟨p,q⟩) hI
  ·skip
   have hI:p=a∧q=a:=hI
   obtain⟨h1,h2⟩:=hI
   subst p
   subst q
   have l1:=L_min a b
   have m1:=L_max a b
   exact cast_ob (aI True.intro (aI (r05_Cmp a a oO oO) (have f109:=cmpI_range a a;aI (fun (h101:(iLt (cmpI a a) 0)=true)=>have _gh101:=iLt_t h101;aI (r05_Cmp a a oO oO) (have f104:=cmpI_range a a;aI (fun (h102:(iGt (cmpI a a) 0)=true)=>have _gh102:=iGt_t h102;aI tT (aI tT ((nx_next (Sum.inr (Sum.inl (a,a))) (show a=a∧a=a from ⟨by omega,by omega⟩) (show (1:Nat)<2 by omega):r13_hull2_0_N a b n (Sum.inl (a,a)) .normal (r13_hull2_0_mk a b n (Sum.inr (Sum.inl (a,a)))))))) (fun (h103:(iGt (cmpI a a) 0)=false)=>have _gh103:=iGt_f h103;aI tT (aI tT ((nx_next (Sum.inr (Sum.inl (a,a))) (show a=a∧a=a from ⟨by omega,by omega⟩) (show (1:Nat)<2 by omega):r13_hull2_0_N a b n (Sum.inl (a,a)) .normal (r13_hull2_0_mk a b n (Sum.inr (Sum.inl (a,a)))))))))) (fun (h105:(iLt (cmpI a a) 0)=false)=>have _gh105:=iLt_f h105;aI (r05_Cmp a a oO oO) (have f108:=cmpI_range a a;aI (fun (h106:(iGt (cmpI a a) 0)=true)=>have _gh106:=iGt_t h106;aI tT (aI tT ((nx_next (Sum.inr (Sum.inl (a,a))) (show a=a∧a=a from ⟨by omega,by omega⟩) (show (1:Nat)<2 by omega):r13_hull2_0_N a b n (Sum.inl (a,a)) .normal (r13_hull2_0_mk a b n (Sum.inr (Sum.inl (a,a)))))))) (fun (h107:(iGt (cmpI a a) 0)=false)=>have _gh107:=iGt_f h107;aI tT (aI tT ((nx_next (Sum.inr (Sum.inl (a,a))) (show a=a∧a=a from ⟨by omega,by omega⟩) (show (1:Nat)<2 by omega):r13_hull2_0_N a b n (Sum.inl (a,a)) .normal (r13_hull2_0_mk a b n (Sum.inr (Sum.inl (a,a))))))))))))) (by kernel_rfl)
  ·skip
   have hI:p=a∧q=a:=hI
   obtain⟨h1,h2⟩:=hI
   subst p
   subst q
   have l1:=L_min a b
   have m1:=L_max a b
   exact cast_ob (aI True.intro (aI (r05_Cmp b a oO oO) (have f109:=cmpI_range b a;aI (fun (h101:(iLt (cmpI b a) 0)=true)=>have _gh101:=iLt_t h101;aI (r05_Cmp b a oO oO) (have f104:=cmpI_range b a;aI (fun (h102:(iGt (cmpI b a) 0)=true)=>have _gh102:=iGt_t h102;aI tT (aI tT ((nx_next (Sum.inr (Sum.inr (b,b))) (show b=(min a b)∧b=(max a b) from ⟨by omega,by omega⟩) (show (0:Nat)<1 by omega):r13_hull2_0_N a b n (Sum.inr (Sum.inl (a,a))) .normal (r13_hull2_0_mk a b n (Sum.inr (Sum.inr (b,b)))))))) (fun (h103:(iGt (cmpI b a) 0)=false)=>have _gh103:=iGt_f h103;aI tT (aI tT ((nx_next (Sum.inr (Sum.inr (b,a))) (show b=(min a b)∧a=(max a b) from ⟨by omega,by omega⟩) (show (0:Nat)<1 by omega):r13_hull2_0_N a b n (Sum.inr (Sum.inl (a,a))) .normal (r13_hull2_0_mk a b n (Sum.inr (Sum.inr (b,a)))))))))) (fun (h105:(iLt (cmpI b a) 0)=false)=>have _gh105:=iLt_f h105;aI (r05_Cmp b a oO oO) (have f108:=cmpI_range b a;aI (fun (h106:(iGt (cmpI b a) 0)=true)=>have _gh106:=iGt_t h106;aI tT (aI tT ((nx_next (Sum.inr (Sum.inr (a,b))) (show a=(min a b)∧b=(max a b) from ⟨by omega,by omega⟩) (show (0:Nat)<1 by omega):r13_hull2_0_N a b n (Sum.inr (Sum.inl (a,a))) .normal (r13_hull2_0_mk a b n (Sum.inr (Sum.inr (a,b)))))))) (fun (h107:(iGt (cmpI b a) 0)=false)=>have _gh107:=iGt_f h107;aI tT (aI tT ((nx_next (Sum.inr (Sum.inr (a,a))) (show a=(min a b)∧a=(max a b) from ⟨by omega,by omega⟩) (show (0:Nat)<1 by omega):r13_hull2_0_N a b n (Sum.inr (Sum.inl (a,a))) .normal (r13_hull2_0_mk a b n (Sum.inr (Sum.inr (a,a))))))))))))) (by kernel_rfl)
  ·skip
   have hI:p=(min a b)∧q=(max a b):=hI
   obtain⟨h1,h2⟩:=hI
   subst p
   subst q
   have l1:=L_min a b
   have m1:=L_max a b
   exact cast_ob (aI True.intro (aI tT ((nx_exit 0 ((r13_hull2_0_ex a b n ((min a b),(max a b))).2) ((min a b),(max a b)) (show (min a b)=(min a b)∧(max a b)=(max a b) from ⟨rfl,rfl⟩) rfl:r13_hull2_0_N a b n (Sum.inr (Sum.inr ((min a b),(max a b)))) (.exit 0) ((r13_hull2_0_ex a b n ((min a b),(max a b))).2))))) (by kernel_rfl))
theorem r13_hull2 (a b n:Int)(c0:L (a).natAbs≤8192)(c1:L (b).natAbs≤8192)(c2:L (n).natAbs≤8192)(c3:n≠0):Impl Tryz.prog Amb 115 [(.sl 2 [(V.bool (decide (a<0))),(N a.natAbs),(V.bool (decide (b<0))),(N b.natAbs)]),(zV n)] (sV (Int.fdiv (min a b) n) (-(Int.fdiv (-(max a b)) n))):=by
 have l1:=L_min a b
 have m1:=L_max a b
 exact impl_ob hP hAmb Tryz.func115 (by kernel_rfl) (.lits 4<|.loop ⟨[3,4,5,6,15,16,17],4,[]⟩ ((r13_hull2_0_mk a b n (Sum.inl (a,a)))) (Int × Int) (r13_hull2_0_ex a b n) (r13_hull2_0_J a b n) (fun y=>.lits 3<|.call (zV (Int.fdiv y.1 n))<|.lits 3<|.call (zV (-(Int.fdiv (-y.2) n)))<|.lits 3<|.ret))
  (cast_ob (aI True.intro (aI tT (aI (rfl:(r13_hull2_0_mk a b n (Sum.inl (a,a)))=(r13_hull2_0_mk a b n (Sum.inl (a,a)))) (aI (r13_hull2_0 a b n c0 c1 (Sum.inl (a,a)) (show a=a∧a=a from ⟨rfl,rfl⟩)) (fun y (hJ:r13_hull2_0_J a b n y)=>have hJ:y.1=(min a b)∧y.2=(max a b):=hJ;have ⟨q1,q2⟩:=hJ;have q3:L y.1.natAbs=L ((min a b)).natAbs:=(by rw[q1]);have q4:L y.2.natAbs=L ((max a b)).natAbs:=(by rw[q2]);aI (r13_over0 y.1 n oO oO oO) (have f8:=L_abs_neg (Int.fdiv (-y.1) n);have f7:=L_abs_neg y.1;have f6:=L_fdiv (-y.1) n;have f5:=L_fdiv y.1 n;aI (r13_over1 y.2 n oO oO oO) (have f4:=L_abs_neg (Int.fdiv (-y.2) n);have f3:=L_abs_neg y.2;have f2:=L_fdiv (-y.2) n;have f1:=L_fdiv y.2 n;(by rw[q1,q2];exact vsub_refl _:vsub (sV (Int.fdiv y.1 n) (-(Int.fdiv (-y.2) n))) (sV (Int.fdiv (min a b) n) (-(Int.fdiv (-(max a b)) n))))))))))) (by kernel_rfl))
theorem r13_Of (n v:Int)(c0:(-9223372036854775808:Int)≤n∧n≤9223372036854775807)(c1:(0:Int)≤v∧v≤100000):Impl Tryz.prog Amb 57 [(.int .i64 n),(.int .i64 v)] (sV (n*2^(v).toNat) (n*2^(v).toNat)):=by
 exact impl_ob hP hAmb Tryz.func57 (by kernel_rfl) (.lit<|.call (zV n)<|.lit<|.call (zV (n*2^(v).toNat))<|.lits 6<|.ret)
  (cast_ob (aI True.intro (aI (r05_Of n oO) (have f2:=(L_i64 oO:L (n:Int).natAbs≤2);aI (r05_Shl n v oO oO) (have f1:=L_abs_shl n (v).toNat;(vsub_refl (sV (n*2^(v).toNat) (n*2^(v).toNat))))))) (by kernel_rfl))
theorem r13_Wide (a b n:Int)(c0:L (a).natAbs≤32768)(c1:L (b).natAbs≤32768)(c2:(-9223372036854775808:Int)≤n∧n≤9223372036854775807):Impl Tryz.prog Amb 124 [(sV a b),(.int .i64 n)] (sV (a-n) (b+n)):=by
 exact impl_ob hP hAmb Tryz.func124 (by kernel_rfl) (.lits 2<|.call (zV n)<|.lit<|.call (zV (a-n))<|.lits 2<|.call (zV n)<|.lit<|.call (zV (b+n))<|.lits 3<|.ret)
  (cast_ob (aI True.intro (aI (r05_Of n oO) (have f4:=(L_i64 oO:L (n:Int).natAbs≤2);aI (r05_Sub a n oO oO) (have f3:=L_abs_sub a n;aI (r05_Of n oO) (have f2:=(L_i64 oO:L (n:Int).natAbs≤2);aI (r05_Add b n oO oO) (have f1:=L_abs_add b n;(vsub_refl (sV (a-n) (b+n))))))))) (by kernel_rfl))
theorem r13_Add (a b c d:Int)(c0:L (a).natAbs≤32768)(c1:L (b).natAbs≤32768)(c2:L (c).natAbs≤32768)(c3:L (d).natAbs≤32768):Impl Tryz.prog Amb 119 [(sV a b),(sV c d)] (sV (a+c) (b+d)):=by
 exact impl_ob hP hAmb Tryz.func119 (by kernel_rfl) (.lits 3<|.call (zV (a+c))<|.lits 3<|.call (zV (b+d))<|.lits 3<|.ret)
  (cast_ob (aI True.intro (aI (r05_Add a c oO oO) (have f2:=L_abs_add a c;aI (r05_Add b d oO oO) (have f1:=L_abs_add b d;(vsub_refl (sV (a+c) (b+d))))))) (by kernel_rfl))
theorem r13_Neg (a b:Int)(c0:L (a).natAbs≤32768)(c1:L (b).natAbs≤32768):Impl Tryz.prog Amb 64 [(sV a b)] (sV (-b) (-a)):=by
 exact impl_ob hP hAmb Tryz.func64 (by kernel_rfl) (.lits 2<|.call (zV (-b))<|.lits 2<|.call (zV (-a))<|.lits 3<|.ret)
  (cast_ob (aI True.intro (aI (r05_Neg b oO) (have f2:=L_abs_neg b;aI (r05_Neg a oO) (have f1:=L_abs_neg a;(vsub_refl (sV (-b) (-a))))))) (by kernel_rfl))
theorem r13_Over (a b n:Int)(c0:L (a).natAbs≤8192)(c1:L (b).natAbs≤8192)(c2:(0:Int)<n∧n≤9223372036854775807):Impl Tryz.prog Amb 61 [(sV a b),(.int .i64 n)] (sV (Int.fdiv (min a b) n) (-(Int.fdiv (-(max a b)) n))):=by
 exact impl_ob hP hAmb Tryz.func61 (by kernel_rfl) (.lits 3<|.call (zV n)<|.lit<|.call (sV (Int.fdiv (min a b) n) (-(Int.fdiv (-(max a b)) n)))<|.lits 2<|.ret)
  (cast_ob (aI True.intro (aI (r05_Of n oO) (have f7:=(L_i64 oO:L (n:Int).natAbs≤2);aI (r13_hull2 a b n oO oO oO oO) (have f6:=L_abs_neg (Int.fdiv (-(max a b)) n);have f5:=L_abs_neg (max a b);have f4:=L_fdiv (-(max a b)) n;have f3:=L_fdiv (min a b) n;have f2:=L_max a b;have f1:=L_min a b;(vsub_refl (sV (Int.fdiv (min a b) n) (-(Int.fdiv (-(max a b)) n)))))))) (by kernel_rfl))
theorem r13_Tiny (a b:Int)(c0:L (a).natAbs≤32768)(c1:L (b).natAbs≤32768):Impl Tryz.prog Amb 123 [(sV a b)] (.bool (decide ((a).natAbs≤1∧(b).natAbs≤1))):=by
 have l1:=L_le (n:=1) (k:=1) (by decide)
 have k0:=cmpN_range a.natAbs 1
 have k1:=cmpN_range b.natAbs 1
 have t1:(1:Int).toNat=1:=rfl
 exact impl_ob hP hAmb Tryz.func123 (by kernel_rfl) (.lit<|.call (N 1)<|.lits 2<|.call (.int .i64 (cmpN a.natAbs 1))<|.lit<|.both (.lits 6<|.call (.int .i64 (cmpN b.natAbs 1))<|.lits 4<|.ret) (.lits 7<|.ret))
  (cast_ob (aI True.intro (aI (r01_Of 1 oO) (aI (r01_Cmp a.natAbs 1 oO oO) (have f4:=cmpN_range a.natAbs 1;aI (fun (h1:(iLe (cmpN a.natAbs 1) 0)=true)=>have _gh1:=iLe_t h1;aI (r01_Cmp b.natAbs 1 oO oO) (have f2:=cmpN_range b.natAbs 1;(vsub_of (congrArg V.bool (tiny_1 oO)):vsub (.bool (iLe (cmpN b.natAbs 1) 0)) (.bool (decide ((a).natAbs≤1∧(b).natAbs≤1)))))) (fun (h3:(iLe (cmpN a.natAbs 1) 0)=false)=>have _gh3:=iLe_f h3;(vsub_of (congrArg V.bool (tiny_2 oO)):vsub (.bool false) (.bool (decide ((a).natAbs≤1∧(b).natAbs≤1))))))))) (by kernel_rfl))
theorem r13_Out (a b v w:Int)(c0:L (a).natAbs≤32768)(c1:L (b).natAbs≤32768)(c2:(0:Int)≤w∧w≤v∧v≤1000000):Impl Tryz.prog Amb 65 [(sV a b),(.int .i64 v),(.int .i64 w)] (wV (mkM (a / 2^(v-w).toNat) (-w)) (mkX (a / 2^(v-w).toNat) (-w)) (mkM (-(-b / 2^(v-w).toNat)) (-w)) (mkX (-(-b / 2^(v-w).toNat)) (-w))):=by
 exact impl_ob hP hAmb Tryz.func65 (by kernel_rfl) (.lits 2<|.yes<|.lit<|.call (zV (a / 2^((v-w)).toNat))<|.lit<|.yes<|.lit<|.call (.tup [(yV (mkM (a / 2^((v-w)).toNat) ((0:Int)-w)) (mkX (a / 2^((v-w)).toNat) ((0:Int)-w))),(.int .i64 (mkE (a / 2^((v-w)).toNat) ((0:Int)-w)))])<|.lits 3<|.call (zV (-b))<|.lit<|.yes<|.lit<|.call (zV ((-b) / 2^((v-w)).toNat))<|.lit<|.call (zV (-((-b) / 2^((v-w)).toNat)))<|.lit<|.yes<|.lit<|.call (.tup [(yV (mkM (-((-b) / 2^((v-w)).toNat)) ((0:Int)-w)) (mkX (-((-b) / 2^((v-w)).toNat)) ((0:Int)-w))),(.int .i64 (mkE (-((-b) / 2^((v-w)).toNat)) ((0:Int)-w)))])<|.lits 6<|.ret)
  (cast_ob (aI True.intro (aI (fits_i64 oO:(fits .i64 (v-w))=true) (aI (r05_Shr a (v-w) oO oO) (have f6:=L_abs_shr a ((v-w)).toNat;aI (fits_i64 oO:(fits .i64 ((0:Int)-w))=true) (aI (r08_Make (a / 2^((v-w)).toNat) ((0:Int)-w) oO oO) (have f5:=mk_facts (a / 2^((v-w)).toNat) ((0:Int)-w);aI (r05_Neg b oO) (have f4:=L_abs_neg b;aI (fits_i64 oO:(fits .i64 (v-w))=true) (aI (r05_Shr (-b) (v-w) oO oO) (have f3:=L_abs_shr (-b) ((v-w)).toNat;aI (r05_Neg ((-b) / 2^((v-w)).toNat) oO) (have f2:=L_abs_neg ((-b) / 2^((v-w)).toNat);aI (fits_i64 oO:(fits .i64 ((0:Int)-w))=true) (aI (r08_Make (-((-b) / 2^((v-w)).toNat)) ((0:Int)-w) oO oO) (have f1:=mk_facts (-((-b) / 2^((v-w)).toNat)) ((0:Int)-w);(vsub_of (by first | rfl | simp_all):vsub (wV (mkM (a / 2^((v-w)).toNat) ((0:Int)-w)) (mkX (a / 2^((v-w)).toNat) ((0:Int)-w)) (mkM (-((-b) / 2^((v-w)).toNat)) ((0:Int)-w)) (mkX (-((-b) / 2^((v-w)).toNat)) ((0:Int)-w))) (wV (mkM (a / 2^(v-w).toNat) (-w)) (mkX (a / 2^(v-w).toNat) (-w)) (mkM (-(-b / 2^(v-w).toNat)) (-w)) (mkX (-(-b / 2^(v-w).toNat)) (-w)))))))))))))))) (by kernel_rfl))
end Go.Proofs.YtkkbddkpggjgpaaGreatDoor

namespace Go.Proofs.YtkkbddkpggjgpaaGreatDoor
open Go.RowKit
set_option maxRecDepth 100000
def r13_atan_0_mk (n _:Int)(x:Int × Int × Int × Int × Int × Int):St:=⟨mkS 40 [(0,(.val (.int .i64 n))),(4,(.own 0 0)),(5,(.own 1 0)),(6,(.own 2 0)),(7,(.val (.int .i64 x.2.1)))],[⟨true,false,[(V.bool false),V.nil,(V.bool false),V.nil]⟩,⟨true,false,[(V.bool (decide (x.2.2.1<0))),(N x.2.2.1.natAbs),(V.bool (decide (x.2.2.2.1<0))),(N x.2.2.2.1.natAbs)]⟩,⟨true,false,[(V.bool (decide (x.2.2.2.2.1<0))),(N x.2.2.2.2.1.natAbs),(V.bool (decide (x.2.2.2.2.2<0))),(N x.2.2.2.2.2.natAbs)]⟩]⟩
def r13_atan_0_I (n v:Int)(x:Int × Int × Int × Int × Int × Int):Prop:=AtInv n (v+1) (atanT n v) x.1 x.2.1 x.2.2.1 x.2.2.2.1 x.2.2.2.2.1 x.2.2.2.2.2 (v / 32+2)
def r13_atan_0_mu (_ _:Int)(x:Int × Int × Int × Int × Int × Int):Nat:=(x.1).toNat
def r13_atan_0_ex (_ _:Int)(y:Int × Int):Ex × St:=(.exit 0,⟨mkS 40 [(4,(.own 0 0)),(6,(.own 1 0))],[⟨true,false,[(V.bool false),V.nil,(V.bool false),V.nil]⟩,⟨true,false,[(V.bool (decide (y.1<0))),(N y.1.natAbs),(V.bool (decide (y.2<0))),(N y.2.natAbs)]⟩]⟩)
def r13_atan_0_J (n v:Int)(y:Int × Int):Prop:=y.1=(atanT n v).1∧y.2=(atanT n v).2∧L y.1.natAbs≤7000∧L y.2.natAbs≤7000
abbrev r13_atan_0_N (n v:Int):=NX (r13_atan_0_mk n v) (r13_atan_0_I n v) (r13_atan_0_mu n v) (r13_atan_0_ex n v) (r13_atan_0_J n v)
theorem r13_atan_0 (n v:Int)(c0:(2:Int)≤n∧n≤1000000)(c1:(0:Int)≤v∧v≤1500)(x0:Int × Int × Int × Int × Int × Int)(hI:r13_atan_0_I n v x0):LoopOk Tryz.prog Amb (loopN Tryz.f90 0) (r13_atan_0_mk n v x0) (fun e st_=>∃ y,r13_atan_0_J n v y∧r13_atan_0_ex n v y=(e,st_)) :=
 loop_ob hP hAmb ⟨[0,4,5,6,7],3,[]⟩ (r13_atan_0_mk n v) (r13_atan_0_I n v) (r13_atan_0_mu n v) (r13_atan_0_ex n v) (r13_atan_0_J n v) x0 hI (fun (f,k,lo,hi,a,b)=>.lits 2<|.call (.bool (decide ((lo).natAbs≤1∧(hi).natAbs≤1)))<|.lit<|.both (.lits 2<|.yes<|.lit<|.yes<|.lit<|.call (sV (Int.fdiv (min lo hi) (((2:Int)*k)+1)) (-(Int.fdiv (-(max lo hi)) (((2:Int)*k)+1))))<|.lits 3<|.both (.lits 2<|.call (sV (-(-(Int.fdiv (-(max lo hi)) (((2:Int)*k)+1)))) (-(Int.fdiv (min lo hi) (((2:Int)*k)+1))))<|.lits 4<|.call (sV (a+(-(-(Int.fdiv (-(max lo hi)) (((2:Int)*k)+1))))) (b+(-(Int.fdiv (min lo hi) (((2:Int)*k)+1)))))<|.lits 3<|.call (sV (Int.fdiv (min lo hi) n) (-(Int.fdiv (-(max lo hi)) n)))<|.lit<|.call (sV (Int.fdiv (min (Int.fdiv (min lo hi) n) (-(Int.fdiv (-(max lo hi)) n))) n) (-(Int.fdiv (-(max (Int.fdiv (min lo hi) n) (-(Int.fdiv (-(max lo hi)) n)))) n)))<|.lits 2<|.yes<|.fin2 ⟨[0,4,5,6,7],3,[]⟩) (.lits 3<|.call (sV (a+(Int.fdiv (min lo hi) (((2:Int)*k)+1))) (b+(-(Int.fdiv (-(max lo hi)) (((2:Int)*k)+1)))))<|.lits 3<|.call (sV (Int.fdiv (min lo hi) n) (-(Int.fdiv (-(max lo hi)) n)))<|.lit<|.call (sV (Int.fdiv (min (Int.fdiv (min lo hi) n) (-(Int.fdiv (-(max lo hi)) n))) n) (-(Int.fdiv (-(max (Int.fdiv (min lo hi) n) (-(Int.fdiv (-(max lo hi)) n)))) n)))<|.lits 2<|.yes<|.fin2 ⟨[0,4,5,6,7],3,[]⟩)) (.fin3 ⟨[4,6],[0,2]⟩)) (by
  rintro ⟨f,k,lo,hi,a,b⟩ hI
  have hI:AtInv n (v+1) (atanT n v) f k lo hi a b (v / 32+2):=hI
  have h1:=hI
  have hb:=at_bound h1
  have h0:=h1.1
  exact cast_ob (aI True.intro (aI (r13_Tiny lo hi oO oO) (aI (fun (h101:(!(decide ((lo).natAbs≤1∧(hi).natAbs≤1)))=true)=>have _gh101:=of_decide_eq_false (notb_t h101);aI (fits_i64 oO:(fits .i64 ((2:Int)*k))=true) (aI (fits_i64 oO:(fits .i64 (((2:Int)*k)+1))=true) (aI (r13_Over lo hi (((2:Int)*k)+1) oO oO oO) (have f139:=L_abs_neg (Int.fdiv (-(max lo hi)) (((2:Int)*k)+1));have f138:=L_abs_neg (max lo hi);have f137:=L_fdiv (-(max lo hi)) (((2:Int)*k)+1);have f136:=L_fdiv (min lo hi) (((2:Int)*k)+1);have f135:=L_max lo hi;have f134:=L_min lo hi;aI (fun (h102:(iEq (wRem k (2:Int)) 1)=true)=>have _gh102:=iEq_t h102;aI (r13_Neg (Int.fdiv (min lo hi) (((2:Int)*k)+1)) (-(Int.fdiv (-(max lo hi)) (((2:Int)*k)+1))) oO oO) (have f118:=L_abs_neg (-(Int.fdiv (-(max lo hi)) (((2:Int)*k)+1)));have f117:=L_abs_neg (Int.fdiv (min lo hi) (((2:Int)*k)+1));aI (r13_Add a b (-(-(Int.fdiv (-(max lo hi)) (((2:Int)*k)+1)))) (-(Int.fdiv (min lo hi) (((2:Int)*k)+1))) oO oO oO oO) (have f116:=L_abs_add b (-(Int.fdiv (min lo hi) (((2:Int)*k)+1)));have f115:=L_abs_add a (-(-(Int.fdiv (-(max lo hi)) (((2:Int)*k)+1))));aI (r13_Over lo hi n oO oO oO) (have f114:=L_abs_neg (Int.fdiv (-(max lo hi)) n);have f113:=L_abs_neg (max lo hi);have f112:=L_fdiv (-(max lo hi)) n;have f111:=L_fdiv (min lo hi) n;have f110:=L_max lo hi;have f109:=L_min lo hi;aI (r13_Over (Int.fdiv (min lo hi) n) (-(Int.fdiv (-(max lo hi)) n)) n oO oO oO) (have f108:=L_abs_neg (Int.fdiv (-(max (Int.fdiv (min lo hi) n) (-(Int.fdiv (-(max lo hi)) n)))) n);have f107:=L_abs_neg (max (Int.fdiv (min lo hi) n) (-(Int.fdiv (-(max lo hi)) n)));have f106:=L_fdiv (-(max (Int.fdiv (min lo hi) n) (-(Int.fdiv (-(max lo hi)) n)))) n;have f105:=L_fdiv (min (Int.fdiv (min lo hi) n) (-(Int.fdiv (-(max lo hi)) n))) n;have f104:=L_max (Int.fdiv (min lo hi) n) (-(Int.fdiv (-(max lo hi)) n));have f103:=L_min (Int.fdiv (min lo hi) n) (-(Int.fdiv (-(max lo hi)) n));aI (fits_i64 oO:(fits .i64 (k+1))=true) (aI tT ((nx_next ((f-1),(k+1),(Int.fdiv (min (Int.fdiv (min lo hi) n) (-(Int.fdiv (-(max lo hi)) n))) n),(-(Int.fdiv (-(max (Int.fdiv (min lo hi) n) (-(Int.fdiv (-(max lo hi)) n)))) n)),(a+(-(-(Int.fdiv (-(max lo hi)) (((2:Int)*k)+1))))),(b+(-(Int.fdiv (min lo hi) (((2:Int)*k)+1))))) (show AtInv n (v+1) (atanT n v) (f-1) (k+1) (Int.fdiv (min (Int.fdiv (min lo hi) n) (-(Int.fdiv (-(max lo hi)) n))) n) (-(Int.fdiv (-(max (Int.fdiv (min lo hi) n) (-(Int.fdiv (-(max lo hi)) n)))) n)) (a+(-(-(Int.fdiv (-(max lo hi)) (((2:Int)*k)+1))))) (b+(-(Int.fdiv (min lo hi) (((2:Int)*k)+1)))) (v / 32+2) from at_next oO h1 (by assumption) _ _ (by first | exact .inl ⟨by assumption,rfl,rfl⟩ | exact .inr ⟨by assumption,rfl,rfl⟩)) (show (f-1).toNat<f.toNat by have:=pow_tiny h1.1 h1.2.2.2.2.1 h1.2.2.2.2.2.1 (by assumption);omega):r13_atan_0_N n v (f,k,lo,hi,a,b) .normal (r13_atan_0_mk n v ((f-1),(k+1),(Int.fdiv (min (Int.fdiv (min lo hi) n) (-(Int.fdiv (-(max lo hi)) n))) n),(-(Int.fdiv (-(max (Int.fdiv (min lo hi) n) (-(Int.fdiv (-(max lo hi)) n)))) n)),(a+(-(-(Int.fdiv (-(max lo hi)) (((2:Int)*k)+1))))),(b+(-(Int.fdiv (min lo hi) (((2:Int)*k)+1)))))))))))))) (fun (h119:(iEq (wRem k (2:Int)) 1)=false)=>have _gh119:=iEq_f h119;aI (r13_Add a b (Int.fdiv (min lo hi) (((2:Int)*k)+1)) (-(Int.fdiv (-(max lo hi)) (((2:Int)*k)+1))) oO oO oO oO) (have f133:=L_abs_add b (-(Int.fdiv (-(max lo hi)) (((2:Int)*k)+1)));have f132:=L_abs_add a (Int.fdiv (min lo hi) (((2:Int)*k)+1));aI (r13_Over lo hi n oO oO oO) (have f131:=L_abs_neg (Int.fdiv (-(max lo hi)) n);have f130:=L_abs_neg (max lo hi);have f129:=L_fdiv (-(max lo hi)) n;have f128:=L_fdiv (min lo hi) n;have f127:=L_max lo hi;have f126:=L_min lo hi;aI (r13_Over (Int.fdiv (min lo hi) n) (-(Int.fdiv (-(max lo hi)) n)) n oO oO oO) (have f125:=L_abs_neg (Int.fdiv (-(max (Int.fdiv (min lo hi) n) (-(Int.fdiv (-(max lo hi)) n)))) n);have f124:=L_abs_neg (max (Int.fdiv (min lo hi) n) (-(Int.fdiv (-(max lo hi)) n)));have f123:=L_fdiv (-(max (Int.fdiv (min lo hi) n) (-(Int.fdiv (-(max lo hi)) n)))) n;have f122:=L_fdiv (min (Int.fdiv (min lo hi) n) (-(Int.fdiv (-(max lo hi)) n))) n;have f121:=L_max (Int.fdiv (min lo hi) n) (-(Int.fdiv (-(max lo hi)) n));have f120:=L_min (Int.fdiv (min lo hi) n) (-(Int.fdiv (-(max lo hi)) n));aI (fits_i64 oO:(fits .i64 (k+1))=true) (aI tT ((nx_next ((f-1),(k+1),(Int.fdiv (min (Int.fdiv (min lo hi) n) (-(Int.fdiv (-(max lo hi)) n))) n),(-(Int.fdiv (-(max (Int.fdiv (min lo hi) n) (-(Int.fdiv (-(max lo hi)) n)))) n)),(a+(Int.fdiv (min lo hi) (((2:Int)*k)+1))),(b+(-(Int.fdiv (-(max lo hi)) (((2:Int)*k)+1))))) (show AtInv n (v+1) (atanT n v) (f-1) (k+1) (Int.fdiv (min (Int.fdiv (min lo hi) n) (-(Int.fdiv (-(max lo hi)) n))) n) (-(Int.fdiv (-(max (Int.fdiv (min lo hi) n) (-(Int.fdiv (-(max lo hi)) n)))) n)) (a+(Int.fdiv (min lo hi) (((2:Int)*k)+1))) (b+(-(Int.fdiv (-(max lo hi)) (((2:Int)*k)+1)))) (v / 32+2) from at_next oO h1 (by assumption) _ _ (by first | exact .inl ⟨by assumption,rfl,rfl⟩ | exact .inr ⟨by assumption,rfl,rfl⟩)) (show (f-1).toNat<f.toNat by have:=pow_tiny h1.1 h1.2.2.2.2.1 h1.2.2.2.2.2.1 (by assumption);omega):r13_atan_0_N n v (f,k,lo,hi,a,b) .normal (r13_atan_0_mk n v ((f-1),(k+1),(Int.fdiv (min (Int.fdiv (min lo hi) n) (-(Int.fdiv (-(max lo hi)) n))) n),(-(Int.fdiv (-(max (Int.fdiv (min lo hi) n) (-(Int.fdiv (-(max lo hi)) n)))) n)),(a+(Int.fdiv (min lo hi) (((2:Int)*k)+1))),(b+(-(Int.fdiv (-(max lo hi)) (((2:Int)*k)+1))))))))))))))))) (fun (h140:(!(decide ((lo).natAbs≤1∧(hi).natAbs≤1)))=false)=>have _gh140:=of_decide_eq_true (notb_f h140);aI tT ((nx_exit 0 ((r13_atan_0_ex n v (a,b)).2) (a,b) (show a=(atanT n v).1∧b=(atanT n v).2∧L a.natAbs≤7000∧L b.natAbs≤7000 from ⟨(at_end h1 (by assumption)).1,(at_end h1 (by assumption)).2,by omega,by omega⟩) rfl:r13_atan_0_N n v (f,k,lo,hi,a,b) (.exit 0) ((r13_atan_0_ex n v (a,b)).2))))))) (by kernel_rfl))
theorem r13_AtanInverse (n v:Int)(c0:(2:Int)≤n∧n≤1000000)(c1:(0:Int)≤v∧v≤1500):Impl Tryz.prog Amb 90 [(.int .i64 n),(.int .i64 v)] (sV ((atanT n v).1-2) ((atanT n v).2+2)):=by
 exact impl_ob hP hAmb Tryz.func90 (by kernel_rfl) (.lit<|.call (sV ((1:Int)*2^(v).toNat) ((1:Int)*2^(v).toNat))<|.lit<|.call (sV (Int.fdiv (min ((1:Int)*2^(v).toNat) ((1:Int)*2^(v).toNat)) n) (-(Int.fdiv (-(max ((1:Int)*2^(v).toNat) ((1:Int)*2^(v).toNat))) n)))<|.lits 2<|.call (sV ((0:Int)*2^(v).toNat) ((0:Int)*2^(v).toNat))<|.lit<|.loop ⟨[0,4,5,6,7],3,[]⟩ ((r13_atan_0_mk n v ((v+1),0,(Int.fdiv (min ((1:Int)*2^(v).toNat) ((1:Int)*2^(v).toNat)) n),(-(Int.fdiv (-(max ((1:Int)*2^(v).toNat) ((1:Int)*2^(v).toNat))) n)),((0:Int)*2^(v).toNat),((0:Int)*2^(v).toNat)))) (Int × Int) (r13_atan_0_ex n v) (r13_atan_0_J n v) (fun y=>.lits 2<|.call (sV (y.1-2) (y.2+2))<|.lits 2<|.ret))
  (cast_ob (aI True.intro (aI (r13_Of 1 v oO oO) (have f13:=(L_i64 oO:L (1:Int).natAbs≤2);have f12:=L_abs_shl (1:Int) (v).toNat;aI (r13_Over ((1:Int)*2^(v).toNat) ((1:Int)*2^(v).toNat) n oO oO oO) (have f11:=L_abs_neg (Int.fdiv (-(max ((1:Int)*2^(v).toNat) ((1:Int)*2^(v).toNat))) n);have f10:=L_abs_neg (max ((1:Int)*2^(v).toNat) ((1:Int)*2^(v).toNat));have f9:=L_fdiv (-(max ((1:Int)*2^(v).toNat) ((1:Int)*2^(v).toNat))) n;have f8:=L_fdiv (min ((1:Int)*2^(v).toNat) ((1:Int)*2^(v).toNat)) n;have f7:=L_max ((1:Int)*2^(v).toNat) ((1:Int)*2^(v).toNat);have f6:=L_min ((1:Int)*2^(v).toNat) ((1:Int)*2^(v).toNat);aI (r13_Of 0 v oO oO) (have f5:=(L_i64 oO:L (0:Int).natAbs≤2);have f4:=L_abs_shl (0:Int) (v).toNat;aI tT (aI (rfl:(r13_atan_0_mk n v ((v+1),0,(Int.fdiv (min ((1:Int)*2^(v).toNat) ((1:Int)*2^(v).toNat)) n),(-(Int.fdiv (-(max ((1:Int)*2^(v).toNat) ((1:Int)*2^(v).toNat))) n)),((0:Int)*2^(v).toNat),((0:Int)*2^(v).toNat)))=(r13_atan_0_mk n v ((v+1),0,(Int.fdiv (min ((1:Int)*2^(v).toNat) ((1:Int)*2^(v).toNat)) n),(-(Int.fdiv (-(max ((1:Int)*2^(v).toNat) ((1:Int)*2^(v).toNat))) n)),((0:Int)*2^(v).toNat),((0:Int)*2^(v).toNat)))) (aI (r13_atan_0 n v c0 c1 ((v+1),0,(Int.fdiv (min ((1:Int)*2^(v).toNat) ((1:Int)*2^(v).toNat)) n),(-(Int.fdiv (-(max ((1:Int)*2^(v).toNat) ((1:Int)*2^(v).toNat))) n)),((0:Int)*2^(v).toNat),((0:Int)*2^(v).toNat)) (show AtInv n (v+1) (atanT n v) (v+1) 0 (Int.fdiv (min ((1:Int)*2^(v).toNat) ((1:Int)*2^(v).toNat)) n) (-(Int.fdiv (-(max ((1:Int)*2^(v).toNat) ((1:Int)*2^(v).toNat))) n)) ((0:Int)*2^(v).toNat) ((0:Int)*2^(v).toNat) (v / 32+2) from (at_init oO oO))) (fun y (hJ:r13_atan_0_J n v y)=>have hJ:y.1=(atanT n v).1∧y.2=(atanT n v).2∧L y.1.natAbs≤7000∧L y.2.natAbs≤7000:=hJ;have ⟨q1,q2,q3,q4⟩:=hJ;aI (r13_Wide y.1 y.2 2 oO oO oO) (have f3:=(L_i64 oO:L (2:Int).natAbs≤2);have f2:=L_abs_add y.2 2;have f1:=L_abs_sub y.1 2;(by rw[q1,q2];exact vsub_refl _:vsub (sV (y.1-2) (y.2+2)) (sV ((atanT n v).1-2) ((atanT n v).2+2)))))))))))) (by kernel_rfl))
end Go.Proofs.YtkkbddkpggjgpaaGreatDoor

namespace Go.Proofs.YtkkbddkpggjgpaaGreatDoor
theorem weak_box1 {s:List D}{h:List Box}(b:Nat)(x y:Box)(hb:h[b]?=some x)(ha:y.alive=x.alive)(hf:y.frozen=x.frozen)(hl:y.cells.length=x.cells.length)
  (hr:∀ (w:World) (S:Nat→Prop) (l:List Value),RdL w S l x.cells→RdL w S l y.cells):Weak ⟨s,h⟩ ⟨s,h.set b y⟩:=by
 intro w0 S0 a w ρ ok
 have hbl:b<h.length:=lt_of_get hb
 have hget:∀ (i:Nat) (z:Box),(h.set b y)[i]?=some z→∃ u:Box,h[i]?=some u∧z.alive=u.alive∧z.frozen=u.frozen∧z.cells.length=u.cells.length∧∀ (w:World) (S:Nat→Prop) (l:List Value),RdL w S l u.cells→RdL w S l z.cells:=by
  intro i z hz
  rw[List.getElem?_set] at hz
  split at hz
  ·rename_i e
   subst e
   (try rw[if_pos hbl] at hz)
   cases hz
   exact⟨x,hb,ha,hf,hl,hr⟩
  ·exact⟨z,hz,rfl,rfl,rfl,fun _ _ _ q=>q⟩
 have hstab:∀ c,stab S0 ρ h c→stab S0 ρ (h.set b y) c:=fun c hc=>⟨hc.1,fun i z hz za zf hi=>by
  obtain⟨u,hu,ua,uf,_⟩:=hget i z hz
  exact hc.2 i u hu (ua ▸ za) (uf ▸ zf) hi⟩
 have hls:Lasts w w (stab S0 ρ h) (stab S0 ρ (h.set b y)):=⟨Nat.le_refl _,fun c _ hc=>⟨hstab c hc,rfl⟩⟩
 refine⟨ρ,⟨ok.ok.below,by simpa using ok.ok.heap.len,ok.ok.heap.low,?_,?_⟩,ok.size,fun t=>(ok.slots t).lasts hls (fun _ _ _ q=>q) (fun _ _ q=>q),ok.defers⟩
 ·intro i j p q β hp hq pa qa hi hj
  obtain⟨p',hp',pa',_⟩:=hget i p hp
  obtain⟨q',hq',qa',_⟩:=hget j q hq
  exact ok.ok.heap.inj i j p' q' β hp' hq' (pa' ▸ pa) (qa' ▸ qa) hi hj
 ·intro i z β hz za hi
  obtain⟨u,hu,ua,_,ul,ur⟩:=hget i z hz
  obtain⟨vs,t,h1,h2,h3⟩:=ok.ok.heap.box i u β hu (ua ▸ za) hi
  exact⟨vs,t,h1,by rw[ul];exact h2,by rw[ul];exact ur _ _ _ (h3.lasts hls)⟩
theorem rd_z0 {w:World}{S:Nat→Prop}{l:List Value}(h:RdL w S l [.bool false,.nil]):RdL w S l [.bool (decide ((0:Int)<0)),N (0:Int).natAbs]:=by
 cases h with | cons h1 h=>cases h with | cons h2 h=>cases h with | nil =>
  refine .cons (by simpa using h1) (.cons ?_ .nil)
  have:N (0:Int).natAbs=.sl 1 []:=by simp [N,lim,limbs_zero,U]
  rw[this]
  cases h2
  exact .nilsl
def arcG (n:Nat)(g:Bool):Nat→Int→Nat→Int→Int × Int
 | 0,k,_,s=>(k,s)
 | f+1,k,p,s=>if p=0 then (k,s) else arcG n g f (k+1) (p / n / n) (s+sgn (g && decide (k%2=1)) (p / (2*k+1).toNat))
def arcT (n:Int)(g:Bool)(s:Int):Int × Int:=arcG n.toNat g (s.toNat+2) 0 (1*2^s.toNat / n.toNat) 0
def ArcInv (n:Int)(g:Bool)(s:Int)(T:Int × Int)(f k:Int)(p:Nat)(a:Int):Prop :=
 0≤f∧0≤k∧k+f=s+1∧arcG n.toNat g (f.toNat+1) k p a=T∧p<2^f.toNat∧L p≤s / 32+2∧L a.natAbs≤s / 32+2+k
theorem arc_end {n:Int}{g:Bool}{s:Int}{T:Int × Int}{f k a:Int}{p:Nat}(h:ArcInv n g s T f k p a)(hp:p=0):k=T.1∧a=T.2:=by
 obtain⟨h1,h2,h3,h4,_⟩:=h
 rw[arcG,if_pos hp] at h4
 rw[← h4];exact⟨rfl,rfl⟩
theorem arc_f {n:Int}{g:Bool}{s:Int}{T:Int × Int}{f k a:Int}{p:Nat}(h:ArcInv n g s T f k p a)(hp:p≠0):1≤f:=by
 obtain⟨h1,h2,h3,h4,h5,_⟩:=h
 refine Decidable.byContradiction fun q=>?_
 rw[show f.toNat=0 by omega] at h5
 omega
theorem arc_next {n:Int}{g:Bool}{s:Int}{T:Int × Int}{f k a:Int}{p:Nat}(hn:2≤n)(h:ArcInv n g s T f k p a)(hp:p≠0){b:Bool}(hb:b=(g && decide (k%2=1))) :
  ArcInv n g s T (f-1) (k+1) (p / n.toNat / n.toNat) (a+sgn b (p / (2*k+1).toNat)):=by
 have hf:=arc_f h hp
 obtain⟨h1,h2,h3,h4,h5,h6,h7⟩:=h
 have hfn:f.toNat=(f-1).toNat+1:=by omega
 rw[arcG,if_neg hp,hfn] at h4
 rw[hfn,Nat.pow_succ] at h5
 have d1:p / n.toNat≤p / 2:=Nat.div_le_div_left (by omega) (by omega)
 have d2:p / n.toNat / n.toNat≤p / n.toNat:=Nat.div_le_self _ _
 have l1:=L_mono (Nat.le_trans d2 (Nat.le_trans d1 (Nat.div_le_self p 2)))
 have l2:=L_div p (2*k+1).toNat
 have l3:=L_sgn b (p / (2*k+1).toNat)
 have l4:=L_abs_add a (sgn b (p / (2*k+1).toNat))
 refine⟨by omega,by omega,by omega,by rw[hb];exact h4,by omega,by omega,by omega⟩
theorem arc_init {n:Int}{g:Bool}{s:Int}(hs:0≤s):ArcInv n g s (arcT n g s) (s+1) 0 (1*2^s.toNat / n.toNat) 0:=by
 have l0:=L_two_pow s.toNat
 have l1:=L_div (1*2^s.toNat) n.toNat
 rw[Nat.one_mul] at l1 ⊢
 have d:2^s.toNat / n.toNat≤2^s.toNat:=Nat.div_le_self _ _
 have e:2^s.toNat<2^(s+1).toNat:=Nat.pow_lt_pow_right (by omega) (by omega)
 refine⟨by omega,by omega,by omega,?_,by omega,by omega,by simp [L_zero];omega⟩
 unfold arcT
 rw[show (s+1).toNat+1=s.toNat+2 by omega,Nat.one_mul]
theorem arc_bound {n:Int}{g:Bool}{s:Int}{T:Int × Int}{f k a:Int}{p:Nat}(h:ArcInv n g s T f k p a):0≤k∧k≤s+1∧L p≤s / 32+2∧L a.natAbs≤s / 32+3+s:=by
 obtain⟨h1,h2,h3,h4,h5,h6,h7⟩:=h;omega
theorem arc_T {n:Int}{g:Bool}{s:Int}{T:Int × Int}(hn:2≤n):∀ (m:Nat) (f k:Int) (p:Nat) (a:Int),f.toNat=m→ArcInv n g s T f k p a→0≤T.1∧T.1≤s+1∧L T.2.natAbs≤s / 32+3+s
 | m,f,k,p,a,hm,h=>by
  have hb:=arc_bound h
  by_cases ht:p=0
  ·obtain⟨e1,e2⟩:=arc_end h ht
   rw[← e1,← e2];exact⟨hb.1,hb.2.1,hb.2.2.2⟩
  ·have hf:=arc_f h ht
   cases m with
   | zero=>omega
   | succ m=>exact arc_T hn m _ _ _ _ (by omega) (arc_next hn h ht rfl)
theorem arcT_L {n:Int}(g:Bool){s:Int}(hn:2≤n)(hs:0≤s∧s≤6000):0≤(arcT n g s).1∧(arcT n g s).1≤s+1∧L ((arcT n g s).2-3*((arcT n g s).1+2)).natAbs≤s / 32+7+s∧L ((arcT n g s).2+3*((arcT n g s).1+2)).natAbs≤s / 32+7+s:=by
 have h:=arc_T hn _ _ _ _ _ rfl (arc_init (n:=n) (g:=g) hs.1)
 have l0:=L_i64 (n:=3*((arcT n g s).1+2)) (by omega)
 have l1:=L_abs_sub (arcT n g s).2 (3*((arcT n g s).1+2))
 have l2:=L_abs_add (arcT n g s).2 (3*((arcT n g s).1+2))
 omega
def epG:Nat→Int→Nat→Nat→Int × Nat
 | 0,k,_,s=>(k,s)
 | f+1,k,p,s=>if p=0 then (k,s) else epG f (k+1) (p / k.toNat) (s+p / k.toNat)
def epT (s:Int):Int × Nat:=epG (s.toNat+3) 1 (1*2^s.toNat) (1*2^s.toNat)
theorem arc_b {k:Int}(h:0≤k):iEq (wRem k (2:Int)) 1=(true && decide (k%2=1)):=by
 rw[rem_two h];unfold iEq;by_cases q:k%2=1<;>simp [q]
theorem arc_b0 (k:Int):false=(false && decide (k%2=1)):=rfl
theorem rd_nil_N0 {w:World}{S:Nat→Prop}{v:Value}(h:Rd w S v .nil):Rd w S v (N (0:Int).natAbs):=by
 have:N (0:Int).natAbs=.sl 1 []:=by simp [N,lim,limbs_zero,U]
 rw[this];cases h;exact .nilsl
theorem vsub_w0 (c:Int):vsub (.tup [.agg [.bool false,.nil,.int .i64 0,.bool false,.nil,.int .i64 0],.int .i64 c])
  (.tup [.agg [.bool (decide ((0:Int)<0)),N (0:Int).natAbs,.int .i64 0,.bool (decide ((0:Int)<0)),N (0:Int).natAbs,.int .i64 0],.int .i64 c]):=by
 refine vsub_tup2 (fun w S x hx=>?_) (vsub_refl _)
 obtain⟨arr,rfl,hr⟩:=hx.agg_inv
 cases hr with | cons h1 hr=>cases hr with | cons h2 hr=>cases hr with | cons h3 hr=>cases hr with | cons h4 hr=>cases hr with | cons h5 hr=>cases hr with | cons h6 hr=>cases hr with | nil =>
  exact .agg (.cons (by simpa using h1) (.cons (rd_nil_N0 h2) (.cons h3 (.cons (by simpa using h4) (.cons (rd_nil_N0 h5) (.cons h6 .nil))))))
theorem nbits_of_lt {x k:Nat}(h:x<2^k):nbits x≤k:=by
 by_cases hx:x=0
 ·rw[hx];simp [nbits]
 ·have h1:=nbits_le hx
  have h2:=nbits_pos hx
  have:=(Nat.pow_lt_pow_iff_right (a:=2) (by omega)).1 (Nat.lt_of_le_of_lt h1 h)
  omega
def onB (m e p:Int):Bool:=decide (((-2048:Int)≤p∧p≤8192)∧(m=0∨-p≤e))
def tgB (m e n f w:Int):Bool:=decide (0≤w∧w≤4224) && ivB m e n f && onB m e w && onB n f w && decide (mkE (adS n f (-m) e) (iMin f e)=0) &&
 decide (cmpD (mkM (adS n f (-m) e) (iMin f e)) (mkX (adS n f (-m) e) (iMin f e)) (mkM (1:Int) (-(w-1))) (mkX (1:Int) (-(w-1)))≤0)
theorem ivB_range {m e n f:Int}(h:(!ivB m e n f)=false):(-65536≤e∧e≤65536)∧(-65536≤f∧f≤65536)∧L m.natAbs≤2048∧L n.natAbs≤2048:=by
 have h:=notb_f h
 unfold ivB at h
 simp only [Bool.and_eq_true] at h
 have a:=vdb_range m e h.1.1
 have b:=vdb_range n f h.1.2
 omega
theorem tg_1 {m e n f w:Int}(h:w<0∨4224<w):false=tgB m e n f w:=by
 unfold tgB;rw[show decide (0≤w∧w≤4224)=false from decide_eq_false (by omega)];rfl
theorem tg_2 {m e n f w:Int}(h:(!ivB m e n f)=true):false=tgB m e n f w:=by
 unfold tgB;rw[notb_t h];simp
theorem tg_3 {m e n f w:Int}(h:(!decide (((-2048:Int)≤w∧w≤8192)∧(m=0∨-w≤e)))=true):false=tgB m e n f w:=by
 unfold tgB;rw[show onB m e w=false from notb_t h];simp
theorem tg_4 {m e n f w:Int}(h:(!decide (((-2048:Int)≤w∧w≤8192)∧(n=0∨-w≤f)))=true):false=tgB m e n f w:=by
 unfold tgB;rw[show onB n f w=false from notb_t h];simp
theorem tg_5 {m e n f w:Int}(hw:0≤w∧w≤4224)(hv:(!ivB m e n f)=false)(h1:(!decide (((-2048:Int)≤w∧w≤8192)∧(m=0∨-w≤e)))=false)(h2:(!decide (((-2048:Int)≤w∧w≤8192)∧(n=0∨-w≤f)))=false)
  (he:mkE (adS n f (-m) e) (iMin f e)=0):iLe (cmpD (mkM (adS n f (-m) e) (iMin f e)) (mkX (adS n f (-m) e) (iMin f e)) (mkM (1:Int) (-(w-1))) (mkX (1:Int) (-(w-1)))) 0=tgB m e n f w:=by
 unfold tgB
 rw[decide_eq_true hw,notb_f hv,show onB m e w=true from notb_f h1,show onB n f w=true from notb_f h2,decide_eq_true he];rfl
theorem tg_6 {m e n f w:Int}(he:mkE (adS n f (-m) e) (iMin f e)≠0):false=tgB m e n f w:=by
 unfold tgB;rw[show decide (mkE (adS n f (-m) e) (iMin f e)=0)=false from decide_eq_false he];simp
end Go.Proofs.YtkkbddkpggjgpaaGreatDoor

namespace Go.Proofs.YtkkbddkpggjgpaaGreatDoor
open Go.RowKit
set_option maxRecDepth 100000
theorem fx_Exact (a:Int)(c0:L (a).natAbs≤65536):Impl Tryz.prog Amb 147 [(zV a)] (sV a a):=by
 exact impl_ob hP hAmb Tryz.func147 (by kernel_rfl) (.lits 5<|.ret)
  (cast_ob (aI True.intro ((vsub_refl (sV a a)))) (by kernel_rfl))
theorem fx_up (x n:Int)(c0:L (x).natAbs≤65536)(c1:(0:Int)≤n∧n≤1048576):Impl Tryz.prog Amb 194 [(zV x),(.int .i64 n)] (zV (-(-x / 2^(n).toNat))):=by
 exact impl_ob hP hAmb Tryz.func194 (by kernel_rfl) (.lits 2<|.call (zV (-x))<|.lit<|.call (zV ((-x) / 2^(n).toNat))<|.lit<|.call (zV (-((-x) / 2^(n).toNat)))<|.lits 2<|.ret)
  (cast_ob (aI True.intro (aI (int_Neg x oO) (have f3:=L_abs_neg x;aI (int_Shr (-x) n oO oO) (have f2:=L_abs_shr (-x) (n).toNat;aI (int_Neg ((-x) / 2^(n).toNat) oO) (have f1:=L_abs_neg ((-x) / 2^(n).toNat);(vsub_of (by first | rfl | simp_all):vsub (zV (-((-x) / 2^(n).toNat))) (zV (-(-x / 2^(n).toNat))))))))) (by kernel_rfl))
theorem fx_Half (a b n:Int)(c0:L (a).natAbs≤65536)(c1:L (b).natAbs≤65536)(c2:(0:Int)≤n∧n≤1048576):Impl Tryz.prog Amb 142 [(sV a b),(.int .i64 n)] (sV (a / 2^(n).toNat) (-(-b / 2^(n).toNat))):=by
 exact impl_ob hP hAmb Tryz.func142 (by kernel_rfl) (.lits 2<|.call (zV (a / 2^(n).toNat))<|.lits 2<|.call (zV (-(-b / 2^(n).toNat)))<|.lits 3<|.ret)
  (cast_ob (aI True.intro (aI (int_Shr a n oO oO) (have f4:=L_abs_shr a (n).toNat;aI (fx_up b n oO oO) (have f3:=L_abs_neg (-b / 2^(n).toNat);have f2:=L_abs_shr (-b) (n).toNat;have f1:=L_abs_neg b;(vsub_refl (sV (a / 2^(n).toNat) (-(-b / 2^(n).toNat)))))))) (by kernel_rfl))
theorem fx_Neg (a b:Int)(c0:L (a).natAbs≤65536)(c1:L (b).natAbs≤65536):Impl Tryz.prog Amb 177 [(sV a b)] (sV (-b) (-a)):=by
 exact impl_ob hP hAmb Tryz.func177 (by kernel_rfl) (.lits 2<|.call (zV (-b))<|.lits 2<|.call (zV (-a))<|.lits 3<|.ret)
  (cast_ob (aI True.intro (aI (int_Neg b oO) (have f2:=L_abs_neg b;aI (int_Neg a oO) (have f1:=L_abs_neg a;(vsub_refl (sV (-b) (-a))))))) (by kernel_rfl))
theorem fx_Add (a b c d:Int)(c0:L (a).natAbs≤65536)(c1:L (b).natAbs≤65536)(c2:L (c).natAbs≤65536)(c3:L (d).natAbs≤65536):Impl Tryz.prog Amb 165 [(sV a b),(sV c d)] (sV (a+c) (b+d)):=by
 exact impl_ob hP hAmb Tryz.func165 (by kernel_rfl) (.lits 3<|.call (zV (a+c))<|.lits 3<|.call (zV (b+d))<|.lits 3<|.ret)
  (cast_ob (aI True.intro (aI (int_Add a c oO oO) (have f2:=L_abs_add a c;aI (int_Add b d oO oO) (have f1:=L_abs_add b d;(vsub_refl (sV (a+c) (b+d))))))) (by kernel_rfl))
theorem fx_Sub (a b c d:Int)(c0:L (a).natAbs≤65536)(c1:L (b).natAbs≤65536)(c2:L (c).natAbs≤65536)(c3:L (d).natAbs≤65536):Impl Tryz.prog Amb 164 [(sV a b),(sV c d)] (sV (a+(-d)) (b+(-c))):=by
 exact impl_ob hP hAmb Tryz.func164 (by kernel_rfl) (.lits 3<|.call (sV (-d) (-c))<|.lit<|.call (sV (a+(-d)) (b+(-c)))<|.lits 2<|.ret)
  (cast_ob (aI True.intro (aI (fx_Neg c d oO oO) (have f4:=L_abs_neg d;have f3:=L_abs_neg c;aI (fx_Add a b (-d) (-c) oO oO oO oO) (have f2:=L_abs_add b (-c);have f1:=L_abs_add a (-d);(vsub_refl (sV (a+(-d)) (b+(-c)))))))) (by kernel_rfl))
theorem fx_Wide (a b n:Int)(c0:L (a).natAbs≤65536)(c1:L (b).natAbs≤65536)(c2:L (n).natAbs≤65536):Impl Tryz.prog Amb 148 [(sV a b),(zV n)] (sV (a-n) (b+n)):=by
 exact impl_ob hP hAmb Tryz.func148 (by kernel_rfl) (.lits 3<|.call (zV (a-n))<|.lits 3<|.call (zV (b+n))<|.lits 3<|.ret)
  (cast_ob (aI True.intro (aI (int_Sub a n oO oO) (have f2:=L_abs_sub a n;aI (int_Add b n oO oO) (have f1:=L_abs_add b n;(vsub_refl (sV (a-n) (b+n))))))) (by kernel_rfl))
theorem fx_Times (a b n:Int)(c0:L (a).natAbs≤65536)(c1:L (b).natAbs≤65536)(c2:(0:Int)≤n∧n≤9223372036854775807):Impl Tryz.prog Amb 163 [(sV a b),(.int .i64 n)] (sV (a*n) (b*n)):=by
 exact impl_ob hP hAmb Tryz.func163 (by kernel_rfl) (.lit<|.call (zV n)<|.lits 2<|.no<|.lits 3<|.call (zV (a*n))<|.lits 3<|.call (zV (b*n))<|.lits 3<|.ret)
  (cast_ob (aI True.intro (aI (int_Of n oO) (have f3:=(L_i64 oO:L (n:Int).natAbs≤2);aI (iLt_mkF oO:(iLt n 0)=false) (aI (int_Mul a n oO oO) (have f2:=L_abs_mul a n;aI (int_Mul b n oO oO) (have f1:=L_abs_mul b n;(vsub_refl (sV (a*n) (b*n))))))))) (by kernel_rfl))
theorem fx_Width (a b:Int)(c0:L (a).natAbs≤65536)(c1:L (b).natAbs≤65536):Impl Tryz.prog Amb 141 [(sV a b)] (zV (b-a)):=by
 exact impl_ob hP hAmb Tryz.func141 (by kernel_rfl) (.lits 3<|.call (zV (b-a))<|.lits 2<|.ret)
  (cast_ob (aI True.intro (aI (int_Sub b a oO oO) (have f1:=L_abs_sub b a;(vsub_refl (zV (b-a)))))) (by kernel_rfl))
def fx_Arc1_0_mk (n _:Int)(x:Int × Int × Nat × Int):St:=⟨mkS 71 [(0,(.val (.int .u32 n))),(2,(.val (.bool true))),(6,(.own 0 0)),(7,(.val (N x.2.2.1))),(10,(.own 1 0)),(11,(.val (.int .i64 x.2.1)))],[⟨true,false,[(V.bool false),V.nil,(V.bool false),V.nil]⟩,⟨true,false,[(V.bool (decide (x.2.2.2<0))),(N x.2.2.2.natAbs)]⟩]⟩
def fx_Arc1_0_I (n s:Int)(x:Int × Int × Nat × Int):Prop:=ArcInv n true s (arcT n true s) x.1 x.2.1 x.2.2.1 x.2.2.2
def fx_Arc1_0_mu (_ _:Int)(x:Int × Int × Nat × Int):Nat:=(x.1).toNat
def fx_Arc1_0_ex (_ _:Int)(y:Int × Int):Ex × St:=(.exit 0,⟨mkS 71 [(6,(.own 0 0)),(10,(.own 1 0)),(11,(.val (.int .i64 y.1)))],[⟨true,false,[(V.bool false),V.nil,(V.bool false),V.nil]⟩,⟨true,false,[(V.bool (decide (y.2<0))),(N y.2.natAbs)]⟩]⟩)
def fx_Arc1_0_J (n s:Int)(y:Int × Int):Prop:=y.1=(arcT n true s).1∧y.2=(arcT n true s).2∧0≤y.1∧y.1≤s+1∧L y.2.natAbs≤6400
abbrev fx_Arc1_0_N (n s:Int):=NX (fx_Arc1_0_mk n s) (fx_Arc1_0_I n s) (fx_Arc1_0_mu n s) (fx_Arc1_0_ex n s) (fx_Arc1_0_J n s)
theorem fx_Arc1_0 (n s:Int)(c0:(2:Int)≤n∧n<4294967296)(c1:(0:Int)≤s∧s≤6000)(x0:Int × Int × Nat × Int)(hI:fx_Arc1_0_I n s x0):LoopOk Tryz.prog Amb (loopN Tryz.f80 0) (fx_Arc1_0_mk n s x0) (fun e st_=>∃ y,fx_Arc1_0_J n s y∧fx_Arc1_0_ex n s y=(e,st_)) :=
 loop_ob hP hAmb ⟨[0,2,6,7,10,11],2,[]⟩ (fx_Arc1_0_mk n s) (fx_Arc1_0_I n s) (fx_Arc1_0_mu n s) (fx_Arc1_0_ex n s) (fx_Arc1_0_J n s) x0 hI (fun (f,k,p,a)=>.lit<|.both (.lit<|.yes<|.lit<|.yes<|.lit<|.yes<|.lit<|.call (.tup [(N (p / ((((2:Int)*k)+1)).toNat)),(.int .u32 ((p%((((2:Int)*k)+1)).toNat:Nat):Int)),(.bool true)])<|.lits 8<|.call (zV (sgn (iEq (wRem k (2:Int)) 1) (p / ((((2:Int)*k)+1)).toNat)))<|.lit<|.call (zV (a+(sgn (iEq (wRem k (2:Int)) 1) (p / ((((2:Int)*k)+1)).toNat))))<|.lits 2<|.call (.tup [(N (p / (n).toNat)),(.int .u32 ((p%(n).toNat:Nat):Int)),(.bool true)])<|.lit<|.call (.tup [(N ((p / (n).toNat) / (n).toNat)),(.int .u32 (((p / (n).toNat)%(n).toNat:Nat):Int)),(.bool true)])<|.lit<|.yes<|.fin2 ⟨[0,2,6,7,10,11],2,[]⟩) (.fin2 ⟨[6,10,11],2,[]⟩)) (by
  rintro ⟨f,k,p,a⟩ hI
  have hI:ArcInv n true s (arcT n true s) f k p a:=hI
  have h1:=hI
  have hb:=arc_bound h1
  have h0:=h1.1
  have e0:=L_len p
  have e1:=L_pos_iff p
  exact cast_ob (aI True.intro (aI (fun (h101:(iGt ((lim p).length:Int) 0)=true)=>have _gh101:=iGt_t h101;aI (fits_i64 oO:(fits .i64 ((2:Int)*k))=true) (aI (fits_i64 oO:(fits .i64 (((2:Int)*k)+1))=true) (aI (fits_u32 oO:(fits .u32 (((2:Int)*k)+1))=true) (aI (quot_SmallI p (((2:Int)*k)+1) oO oO) (have f106:=L_div p ((((2:Int)*k)+1)).toNat;aI (int_Nat (iEq (wRem k (2:Int)) 1) (p / ((((2:Int)*k)+1)).toNat) oO) (have f105:=L_sgn (iEq (wRem k (2:Int)) 1) (p / ((((2:Int)*k)+1)).toNat);aI (int_Add a (sgn (iEq (wRem k (2:Int)) 1) (p / ((((2:Int)*k)+1)).toNat)) oO oO) (have f104:=L_abs_add a (sgn (iEq (wRem k (2:Int)) 1) (p / ((((2:Int)*k)+1)).toNat));aI (quot_SmallI p n oO oO) (have f103:=L_div p (n).toNat;aI (quot_SmallI (p / (n).toNat) n oO oO) (have f102:=L_div (p / (n).toNat) (n).toNat;aI (fits_i64 oO:(fits .i64 (k+1))=true) (aI tT ((nx_next ((f-1),(k+1),((p / (n).toNat) / (n).toNat),(a+(sgn (iEq (wRem k (2:Int)) 1) (p / ((((2:Int)*k)+1)).toNat)))) (show ArcInv n true s (arcT n true s) (f-1) (k+1) ((p / (n).toNat) / (n).toNat) (a+(sgn (iEq (wRem k (2:Int)) 1) (p / ((((2:Int)*k)+1)).toNat))) from arc_next oO h1 oO (by first | exact arc_b oO | exact arc_b0 _)) (show (f-1).toNat<f.toNat by have:=arc_f h1 oO;omega):fx_Arc1_0_N n s (f,k,p,a) .normal (fx_Arc1_0_mk n s ((f-1),(k+1),((p / (n).toNat) / (n).toNat),(a+(sgn (iEq (wRem k (2:Int)) 1) (p / ((((2:Int)*k)+1)).toNat))))))))))))))))) (fun (h107:(iGt ((lim p).length:Int) 0)=false)=>have _gh107:=iGt_f h107;aI tT ((nx_exit 0 ((fx_Arc1_0_ex n s (k,a)).2) (k,a) (show k=(arcT n true s).1∧a=(arcT n true s).2∧0≤k∧k≤s+1∧L a.natAbs≤6400 from ⟨(arc_end h1 oO).1,(arc_end h1 oO).2,by omega,by omega,by omega⟩) rfl:fx_Arc1_0_N n s (f,k,p,a) (.exit 0) ((fx_Arc1_0_ex n s (k,a)).2)))))) (by kernel_rfl))
theorem fx_Arc1 (n s:Int)(c0:(2:Int)≤n∧n<4294967296)(c1:(0:Int)≤s∧s≤6000):Impl Tryz.prog Amb 80 [(.int .u32 n),(.int .i64 s),(.bool true)] (sV ((arcT n true s).2-(3*((arcT n true s).1+2))) ((arcT n true s).2+(3*((arcT n true s).1+2)))):=by
 have l0:=L_lit 1 (by decide)
 have l1:=L_two_pow s.toNat
 have l2:=L_shl 1 s.toNat
 exact impl_ob hP hAmb Tryz.func80 (by kernel_rfl) (.lit<|.call (N 1)<|.lit<|.call (N (1*2^(s).toNat))<|.lit<|.call (.tup [(N ((1*2^(s).toNat) / (n).toNat)),(.int .u32 (((1*2^(s).toNat)%(n).toNat:Nat):Int)),(.bool true)])<|.lits 2<|.loop ⟨[0,2,6,7,10,11],2,[]⟩ ((⟨mkS 71 [(0,(.val (.int .u32 n))),(2,(.val (.bool true))),(6,(.own 0 0)),(7,(.val (N ((1*2^(s).toNat) / (n).toNat)))),(10,(.own 1 0)),(11,(.val (.int .i64 0)))],[⟨true,false,[(V.bool false),V.nil,(V.bool false),V.nil]⟩,⟨true,false,[(V.bool false),V.nil]⟩]⟩:St)) (Int × Int) (fx_Arc1_0_ex n s) (fx_Arc1_0_J n s) (fun y=>.lits 2<|.call (sV y.2 y.2)<|.lit<|.yes<|.lit<|.yes<|.lit<|.call (zV ((3:Int)*(y.1+2)))<|.lit<|.call (sV (y.2-((3:Int)*(y.1+2))) (y.2+((3:Int)*(y.1+2))))<|.lits 2<|.ret))
  (cast_ob (aI True.intro (aI (nat_Of 1 oO) (aI (nat_Shl 1 s oO oO) (have f5:=L_shl 1 (s).toNat;aI (quot_SmallI (1*2^(s).toNat) n oO oO) (have f4:=L_div (1*2^(s).toNat) (n).toNat;aI tT (aI (rfl:(⟨mkS 71 [(0,(.val (.int .u32 n))),(2,(.val (.bool true))),(6,(.own 0 0)),(7,(.val (N ((1*2^(s).toNat) / (n).toNat)))),(10,(.own 1 0)),(11,(.val (.int .i64 0)))],[⟨true,false,[(V.bool false),V.nil,(V.bool false),V.nil]⟩,⟨true,false,[(V.bool false),V.nil]⟩]⟩:St)=(⟨mkS 71 [(0,(.val (.int .u32 n))),(2,(.val (.bool true))),(6,(.own 0 0)),(7,(.val (N ((1*2^(s).toNat) / (n).toNat)))),(10,(.own 1 0)),(11,(.val (.int .i64 0)))],[⟨true,false,[(V.bool false),V.nil,(V.bool false),V.nil]⟩,⟨true,false,[(V.bool false),V.nil]⟩]⟩:St)) (aI (LoopOk.weak (weak_box1 1 ⟨true,false,[.bool false,.nil]⟩ ⟨true,false,[.bool (decide ((0:Int)<0)),N (0:Int).natAbs]⟩ rfl rfl rfl rfl (fun _ _ _ h=>rd_z0 h):Weak (⟨mkS 71 [(0,(.val (.int .u32 n))),(2,(.val (.bool true))),(6,(.own 0 0)),(7,(.val (N ((1*2^(s).toNat) / (n).toNat)))),(10,(.own 1 0)),(11,(.val (.int .i64 0)))],[⟨true,false,[(V.bool false),V.nil,(V.bool false),V.nil]⟩,⟨true,false,[(V.bool false),V.nil]⟩]⟩:St) (fx_Arc1_0_mk n s ((s+1),0,((1*2^(s).toNat) / (n).toNat),0))) (fx_Arc1_0 n s c0 c1 ((s+1),0,((1*2^(s).toNat) / (n).toNat),0) (show ArcInv n true s (arcT n true s) (s+1) 0 ((1*2^(s).toNat) / (n).toNat) 0 from (arc_init oO)))) (fun y (hJ:fx_Arc1_0_J n s y)=>have hJ:y.1=(arcT n true s).1∧y.2=(arcT n true s).2∧0≤y.1∧y.1≤s+1∧L y.2.natAbs≤6400:=hJ;have ⟨q1,q2,q3,q4,q5⟩:=hJ;aI (fx_Exact y.2 oO) (aI (fits_i64 oO:(fits .i64 (y.1+2))=true) (aI (fits_i64 oO:(fits .i64 ((3:Int)*(y.1+2)))=true) (aI (int_Of ((3:Int)*(y.1+2)) oO) (have f3:=(L_i64 oO:L (((3:Int)*(y.1+2)):Int).natAbs≤2);aI (fx_Wide y.2 y.2 ((3:Int)*(y.1+2)) oO oO oO) (have f2:=L_abs_add y.2 ((3:Int)*(y.1+2));have f1:=L_abs_sub y.2 ((3:Int)*(y.1+2));(by rw[← q1,← q2];exact vsub_refl _:vsub (sV (y.2-((3:Int)*(y.1+2))) (y.2+((3:Int)*(y.1+2)))) (sV ((arcT n true s).2-(3*((arcT n true s).1+2))) ((arcT n true s).2+(3*((arcT n true s).1+2)))))))))))))))))) (by kernel_rfl))
theorem fx_Pi (s:Int)(c0:(0:Int)≤s∧s≤6000):Impl Tryz.prog Amb 104 [(.int .i64 s)] (sV ((((arcT 5 true s).2-(3*((arcT 5 true s).1+2)))*16)+(-(((arcT 239 true s).2+(3*((arcT 239 true s).1+2)))*4))) ((((arcT 5 true s).2+(3*((arcT 5 true s).1+2)))*16)+(-(((arcT 239 true s).2-(3*((arcT 239 true s).1+2)))*4)))):=by
 exact impl_ob hP hAmb Tryz.func104 (by kernel_rfl) (.lit<|.call (sV ((arcT 5 true s).2-(3*((arcT 5 true s).1+2))) ((arcT 5 true s).2+(3*((arcT 5 true s).1+2))))<|.lit<|.call (sV (((arcT 5 true s).2-(3*((arcT 5 true s).1+2)))*16) (((arcT 5 true s).2+(3*((arcT 5 true s).1+2)))*16))<|.lit<|.call (sV ((arcT 239 true s).2-(3*((arcT 239 true s).1+2))) ((arcT 239 true s).2+(3*((arcT 239 true s).1+2))))<|.lit<|.call (sV (((arcT 239 true s).2-(3*((arcT 239 true s).1+2)))*4) (((arcT 239 true s).2+(3*((arcT 239 true s).1+2)))*4))<|.lit<|.call (sV ((((arcT 5 true s).2-(3*((arcT 5 true s).1+2)))*16)+(-(((arcT 239 true s).2+(3*((arcT 239 true s).1+2)))*4))) ((((arcT 5 true s).2+(3*((arcT 5 true s).1+2)))*16)+(-(((arcT 239 true s).2-(3*((arcT 239 true s).1+2)))*4))))<|.lits 2<|.ret)
  (cast_ob (aI True.intro (aI (fx_Arc1 5 s oO oO) (have f12:=arcT_L (n:=5) true (s:=s) oO oO;aI (fx_Times ((arcT 5 true s).2-(3*((arcT 5 true s).1+2))) ((arcT 5 true s).2+(3*((arcT 5 true s).1+2))) 16 oO oO oO) (have f11:=(L_i64 oO:L (16:Int).natAbs≤2);have f10:=L_abs_mul ((arcT 5 true s).2+(3*((arcT 5 true s).1+2))) 16;have f9:=L_abs_mul ((arcT 5 true s).2-(3*((arcT 5 true s).1+2))) 16;aI (fx_Arc1 239 s oO oO) (have f8:=arcT_L (n:=239) true (s:=s) oO oO;aI (fx_Times ((arcT 239 true s).2-(3*((arcT 239 true s).1+2))) ((arcT 239 true s).2+(3*((arcT 239 true s).1+2))) 4 oO oO oO) (have f7:=(L_i64 oO:L (4:Int).natAbs≤2);have f6:=L_abs_mul ((arcT 239 true s).2+(3*((arcT 239 true s).1+2))) 4;have f5:=L_abs_mul ((arcT 239 true s).2-(3*((arcT 239 true s).1+2))) 4;aI (fx_Sub (((arcT 5 true s).2-(3*((arcT 5 true s).1+2)))*16) (((arcT 5 true s).2+(3*((arcT 5 true s).1+2)))*16) (((arcT 239 true s).2-(3*((arcT 239 true s).1+2)))*4) (((arcT 239 true s).2+(3*((arcT 239 true s).1+2)))*4) oO oO oO oO) (have f4:=L_abs_neg (((arcT 239 true s).2-(3*((arcT 239 true s).1+2)))*4);have f3:=L_abs_neg (((arcT 239 true s).2+(3*((arcT 239 true s).1+2)))*4);have f2:=L_abs_add (((arcT 5 true s).2+(3*((arcT 5 true s).1+2)))*16) (-(((arcT 239 true s).2-(3*((arcT 239 true s).1+2)))*4));have f1:=L_abs_add (((arcT 5 true s).2-(3*((arcT 5 true s).1+2)))*16) (-(((arcT 239 true s).2+(3*((arcT 239 true s).1+2)))*4));(vsub_refl (sV ((((arcT 5 true s).2-(3*((arcT 5 true s).1+2)))*16)+(-(((arcT 239 true s).2+(3*((arcT 239 true s).1+2)))*4))) ((((arcT 5 true s).2+(3*((arcT 5 true s).1+2)))*16)+(-(((arcT 239 true s).2-(3*((arcT 239 true s).1+2)))*4)))))))))))) (by kernel_rfl))
def piLo (s:Int):Int:=((((arcT 5 true s).2-(3*((arcT 5 true s).1+2)))*16)+(-(((arcT 239 true s).2+(3*((arcT 239 true s).1+2)))*4)))
def piHi (s:Int):Int:=((((arcT 5 true s).2+(3*((arcT 5 true s).1+2)))*16)+(-(((arcT 239 true s).2-(3*((arcT 239 true s).1+2)))*4)))
def eLo (s:Int):Int:=((sgn false (epT s).2)-(3*((epT s).1+2)))
theorem pi_ok {s:Int}(h:0≤s∧s≤6000):L (piLo s).natAbs≤s+s / 32+10∧L (piHi s).natAbs≤s+s / 32+10∧nbits (piHi s-piLo s).natAbs≤24:=by
 have a:=arcT_L (n:=5) true (s:=s) oO h
 have b:=arcT_L (n:=239) true (s:=s) oO h
 have l0:=L_lit (16:Int).natAbs (by decide)
 have l1:=L_lit (4:Int).natAbs (by decide)
 have l2:=L_abs_mul ((arcT 5 true s).2-3*((arcT 5 true s).1+2)) 16
 have l3:=L_abs_mul ((arcT 5 true s).2+3*((arcT 5 true s).1+2)) 16
 have l4:=L_abs_mul ((arcT 239 true s).2-3*((arcT 239 true s).1+2)) 4
 have l5:=L_abs_mul ((arcT 239 true s).2+3*((arcT 239 true s).1+2)) 4
 have l6:=L_abs_neg (((arcT 239 true s).2+3*((arcT 239 true s).1+2))*4)
 have l7:=L_abs_neg (((arcT 239 true s).2-3*((arcT 239 true s).1+2))*4)
 have l8:=L_abs_add (((arcT 5 true s).2-3*((arcT 5 true s).1+2))*16) (-(((arcT 239 true s).2+3*((arcT 239 true s).1+2))*4))
 have l9:=L_abs_add (((arcT 5 true s).2+3*((arcT 5 true s).1+2))*16) (-(((arcT 239 true s).2-3*((arcT 239 true s).1+2))*4))
 refine⟨by unfold piLo;omega,by unfold piHi;omega,nbits_of_lt ?_⟩
 unfold piHi piLo
 omega
theorem r13_Tight (m e n f w:Int)(c0:L (m).natAbs≤8192)(c1:L (n).natAbs≤8192)(c2:(-9223372036854775808:Int)≤w∧w≤9223372036854775807):Impl Tryz.prog Amb 31 [(wV m e n f),(.int .i64 w)] (.bool (tgB m e n f w)):=by
 exact impl_ob hP hAmb Tryz.func31 (by kernel_rfl) (.lit<|.both (.lits 20<|.ret) (.lits 3<|.both (.lits 17<|.ret) (.lits 3<|.call (.bool (ivB m e n f))<|.lits 3<|.both (.lits 13<|.ret) (.lits 5<|.call (.bool (decide (((-2048:Int)≤w∧w≤8192)∧(m=0∨-w≤e))))<|.lits 3<|.both (.lits 7<|.ret) (.lits 5<|.call (.bool (decide (((-2048:Int)≤w∧w≤8192)∧(n=0∨-w≤f))))<|.lits 3<|.both (.lit<|.ret) (.lits 2<|.call (.tup [(yV (mkM (adS n f (-m) e) (iMin f e)) (mkX (adS n f (-m) e) (iMin f e))),(.int .i64 (mkE (adS n f (-m) e) (iMin f e)))])<|.lits 2<|.yes<|.lit<|.call (.tup [(yV (mkM (1:Int) (-(w-1))) (mkX (1:Int) (-(w-1)))),(.int .i64 (mkE (1:Int) (-(w-1))))])<|.lits 2<|.both (.lits 5<|.call (.int .i64 (cmpD (mkM (adS n f (-m) e) (iMin f e)) (mkX (adS n f (-m) e) (iMin f e)) (mkM (1:Int) (-(w-1))) (mkX (1:Int) (-(w-1)))))<|.lits 4<|.ret) (.lits 5<|.ret)))))))
  (cast_ob (aI True.intro (aI (fun (h1:(iLt w 0)=true)=>have _gh1:=iLt_t h1;(vsub_of (congrArg V.bool (by first | exact tg_1 oO | exact tg_2 (by assumption) | exact tg_3 (by assumption) | exact tg_4 (by assumption) | exact tg_6 oO)):vsub (.bool false) (.bool (tgB m e n f w)))) (fun (h2:(iLt w 0)=false)=>have _gh2:=iLt_f h2;aI (fun (h3:(iGt w 4224)=true)=>have _gh3:=iGt_t h3;(vsub_of (congrArg V.bool (by first | exact tg_1 oO | exact tg_2 (by assumption) | exact tg_3 (by assumption) | exact tg_4 (by assumption) | exact tg_6 oO)):vsub (.bool false) (.bool (tgB m e n f w)))) (fun (h4:(iGt w 4224)=false)=>have _gh4:=iGt_f h4;aI (r10_Valid m e n f (by first | omega | (have:=ivB_range (by assumption);omega)) (by first | omega | (have:=ivB_range (by assumption);omega))) (aI (fun (h5:(!(ivB m e n f))=true)=>(vsub_of (congrArg V.bool (by first | exact tg_1 oO | exact tg_2 (by assumption) | exact tg_3 (by assumption) | exact tg_4 (by assumption) | exact tg_6 oO)):vsub (.bool false) (.bool (tgB m e n f w)))) (fun (h6:(!(ivB m e n f))=false)=>aI (r09_On m e w (by first | omega | (have:=ivB_range (by assumption);omega)) (by first | omega | (have:=ivB_range (by assumption);omega))) (aI (fun (h7:(!(decide (((-2048:Int)≤w∧w≤8192)∧(m=0∨-w≤e))))=true)=>have _gh7:=of_decide_eq_false (notb_t h7);(vsub_of (congrArg V.bool (by first | exact tg_1 oO | exact tg_2 (by assumption) | exact tg_3 (by assumption) | exact tg_4 (by assumption) | exact tg_6 oO)):vsub (.bool false) (.bool (tgB m e n f w)))) (fun (h8:(!(decide (((-2048:Int)≤w∧w≤8192)∧(m=0∨-w≤e))))=false)=>have _gh8:=of_decide_eq_true (notb_f h8);aI (r09_On n f w (by first | omega | (have:=ivB_range (by assumption);omega)) (by first | omega | (have:=ivB_range (by assumption);omega))) (aI (fun (h9:(!(decide (((-2048:Int)≤w∧w≤8192)∧(n=0∨-w≤f))))=true)=>have _gh9:=of_decide_eq_false (notb_t h9);(vsub_of (congrArg V.bool (by first | exact tg_1 oO | exact tg_2 (by assumption) | exact tg_3 (by assumption) | exact tg_4 (by assumption) | exact tg_6 oO)):vsub (.bool false) (.bool (tgB m e n f w)))) (fun (h10:(!(decide (((-2048:Int)≤w∧w≤8192)∧(n=0∨-w≤f))))=false)=>have _gh10:=of_decide_eq_true (notb_f h10);aI (r10_Width m e n f (by first | omega | (have:=ivB_range (by assumption);omega)) (by first | omega | (have:=ivB_range (by assumption);omega)) (by first | omega | (have:=ivB_range (by assumption);omega)) (by first | omega | (have:=ivB_range (by assumption);omega))) (have f18:=L_abs_neg m;have f17:=ex_range (adS n f (-m) e) (iMin f e);have f16:=mk_facts (adS n f (-m) e) (iMin f e);have f15:=ad_facts n f (-m) e (by first | omega | (have:=ivB_range (by assumption);omega)) (by first | omega | (have:=ivB_range (by assumption);omega));aI (fits_i64 (by first | omega | (have:=ivB_range (by assumption);omega)):(fits .i64 (w-1))=true) (aI (r09_Unit (w-1) (by first | omega | (have:=ivB_range (by assumption);omega))) (have f14:=mk_unit (p:=(w-1)) (by first | omega | (have:=ivB_range (by assumption);omega));aI (fun (h11:(iEq (mkE (adS n f (-m) e) (iMin f e)) 0)=true)=>have _gh11:=iEq_t h11;aI (r08_Cmp (mkM (adS n f (-m) e) (iMin f e)) (mkX (adS n f (-m) e) (iMin f e)) (mkM (1:Int) (-(w-1))) (mkX (1:Int) (-(w-1))) (by first | omega | (have:=ivB_range (by assumption);omega)) (by first | omega | (have:=ivB_range (by assumption);omega)) (by first | omega | (have:=ivB_range (by assumption);omega)) (by first | omega | (have:=ivB_range (by assumption);omega))) (have f12:=cmpD_range (mkM (adS n f (-m) e) (iMin f e)) (mkX (adS n f (-m) e) (iMin f e)) (mkM (1:Int) (-(w-1))) (mkX (1:Int) (-(w-1)));(vsub_of (congrArg V.bool (tg_5 oO (by assumption) (by assumption) (by assumption) oO)):vsub (.bool (iLe (cmpD (mkM (adS n f (-m) e) (iMin f e)) (mkX (adS n f (-m) e) (iMin f e)) (mkM (1:Int) (-(w-1))) (mkX (1:Int) (-(w-1)))) 0)) (.bool (tgB m e n f w))))) (fun (h13:(iEq (mkE (adS n f (-m) e) (iMin f e)) 0)=false)=>have _gh13:=iEq_f h13;(vsub_of (congrArg V.bool (by first | exact tg_1 oO | exact tg_2 (by assumption) | exact tg_3 (by assumption) | exact tg_4 (by assumption) | exact tg_6 oO)):vsub (.bool false) (.bool (tgB m e n f w))))))))))))))))) (by kernel_rfl))
end Go.Proofs.YtkkbddkpggjgpaaGreatDoor
