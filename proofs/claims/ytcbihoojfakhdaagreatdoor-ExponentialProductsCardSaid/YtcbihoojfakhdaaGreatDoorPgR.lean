/-
  Lower layers: what functions of the program compute, and plain facts. Conditions: as the theorems say.
-/
import Derived.Test.YtcbihoojfakhdaaGreatDoorPgQ
set_option linter.unusedVariables false
set_option linter.unusedSimpArgs false
namespace Go.Proofs.YtcbihoojfakhdaaGreatDoor
open Go.RowKit
set_option maxRecDepth 100000
set_option maxHeartbeats 2000000
def saS (p:Nat→Int):Nat→Int
 | 0=>p 0
 | j+1=>saS p j+p (j+1)
def sqS (a b T:Int):Nat→Int × Int
 | 0=>(a,b)
 | i+1=>((sqS a b T i).1*(sqS a b T i).1 / T,-(-((sqS a b T i).2*(sqS a b T i).2) / T))
def fx_exp_0_mk (x1 x2 sc _:Int)(x:Int):St:=⟨mkS 63 [(1,(.val (.int .i64 sc))),(2,(.own 0 0)),(4,(.own 1 0)),(5,(.val (.int .i64 x)))],[⟨true,false,[(V.bool (decide (x1<0))),(N x1.natAbs),(V.bool (decide (x2<0))),(N x2.natAbs)]⟩,⟨true,false,[(V.bool false),V.nil,(V.bool false),V.nil]⟩]⟩
def fx_exp_0_I (_ _ _ hh:Int)(x:Int):Prop:=4≤x∧x≤hh
def fx_exp_0_mu (_ _ _ hh:Int)(x:Int):Nat:=(hh-x).toNat
def fx_exp_0_ex (x1 x2 sc _:Int)(y:Int):Ex × St:=(.exit 0,⟨mkS 63 [(1,(.val (.int .i64 sc))),(2,(.own 0 0)),(4,(.own 1 0)),(5,(.val (.int .i64 y)))],[⟨true,false,[(V.bool (decide (x1<0))),(N x1.natAbs),(V.bool (decide (x2<0))),(N x2.natAbs)]⟩,⟨true,false,[(V.bool false),V.nil,(V.bool false),V.nil]⟩]⟩)
def fx_exp_0_J (_ _ _ hh:Int)(y:Int):Prop:=y=hh
abbrev fx_exp_0_N (x1 x2 sc hh:Int):=NX (fx_exp_0_mk x1 x2 sc hh) (fx_exp_0_I x1 x2 sc hh) (fx_exp_0_mu x1 x2 sc hh) (fx_exp_0_ex x1 x2 sc hh) (fx_exp_0_J x1 x2 sc hh)
theorem fx_exp_0 (x1 x2 sc hh:Int)(c0:0≤sc∧sc≤20000)(c1:4≤hh∧hh≤200)(c2:∀ i:Int,4≤i→i<hh→i*i<sc)(c3:sc≤hh*hh)(x0:Int)(hI:fx_exp_0_I x1 x2 sc hh x0):LoopOk Tryz.prog Amb (loopN Tryz.f232 0) (fx_exp_0_mk x1 x2 sc hh x0) (fun e st_=>∃ y,fx_exp_0_J x1 x2 sc hh y∧fx_exp_0_ex x1 x2 sc hh y=(e,st_)) :=
 loop_ob hP hAmb ⟨[1,2,4,5],2,[]⟩ (fx_exp_0_mk x1 x2 sc hh) (fx_exp_0_I x1 x2 sc hh) (fx_exp_0_mu x1 x2 sc hh) (fx_exp_0_ex x1 x2 sc hh) (fx_exp_0_J x1 x2 sc hh) x0 hI (fun i=>.lit<|.yes<|.lit<|.both (.lit<|.yes<|.fin2 ⟨[1,2,4,5],2,[]⟩) (.fin2 ⟨[1,2,4,5],2,[]⟩)) (by
  rintro i hI
  have hI:4≤i∧i≤hh:=hI
  obtain ⟨h1,h2⟩:=hI
  have hq:i<hh→i*i<sc:=fun q=>c2 i h1 q
  have hm:i*i≤9000000000000:=Int.le_trans (Int.mul_le_mul_of_nonneg_left (show i≤3000000 by omega) oO) oO
  have hm0:0≤i*i:=Int.mul_nonneg oO oO
  have he:i=hh→sc≤i*i:=fun q=>by rw [q]; exact c3
  exact cast_ob (aI True.intro (aI (fits_i64 oO:(fits .i64 (i*i))=true) (aI (fun (h101:(iLt (i*i) sc)=true)=>have _gh101:=iLt_t h101; aI (fits_i64 oO:(fits .i64 (i+1))=true) (aI tT ((nx_next (i+1) (show 4≤(i+1)∧(i+1)≤hh from ⟨by omega,by omega⟩) (show (hh-(i+1)).toNat<(hh-i).toNat by omega):fx_exp_0_N x1 x2 sc hh i .normal (fx_exp_0_mk x1 x2 sc hh (i+1)))))) (fun (h102:(iLt (i*i) sc)=false)=>have _gh102:=iLt_f h102; aI tT ((nx_exit 0 ((fx_exp_0_ex x1 x2 sc hh i).2) i (show i=hh from show i=hh by omega) rfl:fx_exp_0_N x1 x2 sc hh i (.exit 0) ((fx_exp_0_ex x1 x2 sc hh i).2))))))) (by kernel_rfl))
def fx_exp_1_mk (sc hh v1 v2:Int)(_:Nat)(pp1 pp2 _ _:Nat→Int)(x:Nat × Int):St:=⟨mkS 63 [(1,(.val (.int .i64 sc))),(2,(.own 0 0)),(4,(.own 1 0)),(5,(.val (.int .i64 hh))),(6,(.val (.int .i64 ((sc+hh)+24)))),(7,(.own 2 0)),(8,(.own 3 0)),(9,(.val (.int .u32 x.2)))],[⟨true,false,[(V.bool (decide (v1<0))),(N v1.natAbs),(V.bool (decide (v2<0))),(N v2.natAbs)]⟩,⟨true,false,[(V.bool false),V.nil,(V.bool false),V.nil]⟩,⟨true,false,[(V.bool (decide ((pp1 x.1)<0))),(N ((pp1 x.1).natAbs)),(V.bool (decide ((pp2 x.1)<0))),(N ((pp2 x.1).natAbs))]⟩,⟨true,false,[(V.bool (decide ((saS pp1 x.1)<0))),(N ((saS pp1 x.1).natAbs)),(V.bool (decide ((saS pp2 x.1)<0))),(N ((saS pp2 x.1).natAbs))]⟩]⟩
def fx_exp_1_I (_ _ _ _:Int)(nn:Nat)(_ _ _ _:Nat→Int)(x:Nat × Int):Prop:=x.1<nn∧x.2=(x.1:Int)+1
def fx_exp_1_mu (_ _ _ _:Int)(nn:Nat)(_ _ _ _:Nat→Int)(x:Nat × Int):Nat:=nn-x.1
def fx_exp_1_ex (sc hh v1 v2:Int)(_:Nat)(pp1 pp2 _ _:Nat→Int)(y:Nat):Ex × St:=(.exit 2,⟨mkS 63 [(1,(.val (.int .i64 sc))),(4,(.own 1 0)),(5,(.val (.int .i64 hh))),(6,(.val (.int .i64 ((sc+hh)+24)))),(8,(.own 3 0))],[⟨true,false,[(V.bool (decide (v1<0))),(N v1.natAbs),(V.bool (decide (v2<0))),(N v2.natAbs)]⟩,⟨true,false,[(V.bool false),V.nil,(V.bool false),V.nil]⟩,⟨true,false,[(V.bool (decide ((pp1 y)<0))),(N ((pp1 y).natAbs)),(V.bool (decide ((pp2 y)<0))),(N ((pp2 y).natAbs))]⟩,⟨true,false,[(V.bool (decide ((saS pp1 y)<0))),(N ((saS pp1 y).natAbs)),(V.bool (decide (((saS pp2 y)+(pp2 y))<0))),(N (((saS pp2 y)+(pp2 y)).natAbs))]⟩]⟩)
def fx_exp_1_J (_ _ _ _:Int)(nn:Nat)(_ _ _ _:Nat→Int)(y:Nat):Prop:=y=nn
abbrev fx_exp_1_N (sc hh v1 v2:Int)(nn:Nat)(pp1 pp2 mm1 mm2:Nat→Int):=NX (fx_exp_1_mk sc hh v1 v2 nn pp1 pp2 mm1 mm2) (fx_exp_1_I sc hh v1 v2 nn pp1 pp2 mm1 mm2) (fx_exp_1_mu sc hh v1 v2 nn pp1 pp2 mm1 mm2) (fx_exp_1_ex sc hh v1 v2 nn pp1 pp2 mm1 mm2) (fx_exp_1_J sc hh v1 v2 nn pp1 pp2 mm1 mm2)
theorem fx_exp_1 (sc hh v1 v2:Int)(nn:Nat)(pp1 pp2 mm1 mm2:Nat→Int)(c0:∀ j,j<nn→Impl Tryz.prog Amb 236 [(sV (pp1 j) (pp2 j)),(sV v1 v2),(.int .i64 ((sc+hh)+24))] (sV (mm1 j) (mm2 j)))(c1:∀ (j:Nat) (kk:Int),j<nn→kk=(j:Int)+1→Impl Tryz.prog Amb 242 [(sV (mm1 j) (mm2 j)),(.int .u32 kk)] (sV (pp1 (j+1)) (pp2 (j+1))))(c2:∀ j,j<nn→Impl Tryz.prog Amb 179 [(sV (saS pp1 j) (saS pp2 j)),(sV (pp1 (j+1)) (pp2 (j+1)))] (sV (saS pp1 (j+1)) (saS pp2 (j+1))))(c3:∀ j,j<nn→Impl Tryz.prog Amb 241 [(sV (pp1 (j+1)) (pp2 (j+1)))] (.bool (decide (nn≤j+1))))(c4:L (saS pp2 nn).natAbs≤20000∧L (pp2 nn).natAbs≤20000)(c5:1≤nn∧nn≤10000)(x0:Nat × Int)(hI:fx_exp_1_I sc hh v1 v2 nn pp1 pp2 mm1 mm2 x0):LoopOk Tryz.prog Amb (loopN Tryz.f232 1) (fx_exp_1_mk sc hh v1 v2 nn pp1 pp2 mm1 mm2 x0) (fun e st_=>∃ y,fx_exp_1_J sc hh v1 v2 nn pp1 pp2 mm1 mm2 y∧fx_exp_1_ex sc hh v1 v2 nn pp1 pp2 mm1 mm2 y=(e,st_)) :=
 loop_ob hP hAmb ⟨[1,2,4,5,6,7,8,9],4,[]⟩ (fx_exp_1_mk sc hh v1 v2 nn pp1 pp2 mm1 mm2) (fx_exp_1_I sc hh v1 v2 nn pp1 pp2 mm1 mm2) (fx_exp_1_mu sc hh v1 v2 nn pp1 pp2 mm1 mm2) (fx_exp_1_ex sc hh v1 v2 nn pp1 pp2 mm1 mm2) (fx_exp_1_J sc hh v1 v2 nn pp1 pp2 mm1 mm2) x0 hI (fun (j,kk)=>.lits 3<|.call (sV (mm1 j) (mm2 j))<|.lit<|.call (sV (pp1 (j+1)) (pp2 (j+1)))<|.lits 4<|.call (sV (saS pp1 (j+1)) (saS pp2 (j+1)))<|.lits 3<|.call (.bool (decide (nn≤j+1)))<|.both (.lits 3<|.call (zV ((saS pp2 (j+1))+(pp2 (j+1))))<|.lit<|.fin2 ⟨[1,4,5,6,8],4,[]⟩) (.lit<|.yes<|.fin2 ⟨[1,2,4,5,6,7,8,9],4,[]⟩)) (by
  rintro ⟨j,kk⟩ hI
  have hI:j<nn∧kk=(j:Int)+1:=hI
  obtain ⟨h1,h2⟩:=hI
  have c5:=fun (q:nn=j+1)=>(show L (saS pp2 (j+1)).natAbs≤20000∧L (pp2 (j+1)).natAbs≤20000 from q ▸ c4)
  exact cast_ob (aI True.intro (aI (c0 j h1 ) (aI (c1 j kk h1 h2 ) (aI (c2 j h1 ) (aI (c3 j h1 ) (aI (fun (h101:(decide (nn≤j+1))=true)=>have _gh101:=of_decide_eq_true h101; aI (int_Add (saS pp2 (j+1)) (pp2 (j+1)) (by first | omega | (have:=c5 oO; omega)) (by first | omega | (have:=c5 oO; omega))) (have f102:=L_abs_add (saS pp2 (j+1)) (pp2 (j+1)); aI tT ((nx_exit 2 ((fx_exp_1_ex sc hh v1 v2 nn pp1 pp2 mm1 mm2 (j+1)).2) (j+1) (show (j+1)=nn from show j+1=nn by omega) rfl:fx_exp_1_N sc hh v1 v2 nn pp1 pp2 mm1 mm2 (j,kk) (.exit 2) ((fx_exp_1_ex sc hh v1 v2 nn pp1 pp2 mm1 mm2 (j+1)).2))))) (fun (h103:(decide (nn≤j+1))=false)=>have _gh103:=of_decide_eq_false h103; aI (fits_u32 (by first | omega | (have:=c5 oO; omega)):(fits .u32 (kk+1))=true) (aI tT ((nx_next ((j+1),(kk+1)) (show (j+1)<nn∧(kk+1)=((j+1):Int)+1 from ⟨by omega,by omega⟩) (show nn-(j+1)<nn-j by omega):fx_exp_1_N sc hh v1 v2 nn pp1 pp2 mm1 mm2 (j,kk) .normal (fx_exp_1_mk sc hh v1 v2 nn pp1 pp2 mm1 mm2 ((j+1),(kk+1))))))))))))) (by kernel_rfl))
def fx_exp_2_mk (sc hh v1 v2 q1 q2 fa fb:Int)(x:Nat × Int):St:=⟨mkS 63 [(1,(.val (.int .i64 sc))),(4,(.own 1 0)),(6,(.val (.int .i64 ((sc+hh)+24)))),(8,(.own 3 0)),(50,(.val (.int .i64 hh))),(51,(.val (.int .i64 x.2)))],[⟨true,false,[(V.bool (decide (v1<0))),(N v1.natAbs),(V.bool (decide (v2<0))),(N v2.natAbs)]⟩,⟨true,false,[(V.bool false),V.nil,(V.bool false),V.nil]⟩,⟨true,false,[(V.bool (decide (q1<0))),(N q1.natAbs),(V.bool (decide (q2<0))),(N q2.natAbs)]⟩,⟨true,false,[(V.bool (decide ((sqS fa fb (2^(((sc+hh)+24)).toNat) x.1).1<0))),(N (((sqS fa fb (2^(((sc+hh)+24)).toNat) x.1).1).natAbs)),(V.bool (decide ((sqS fa fb (2^(((sc+hh)+24)).toNat) x.1).2<0))),(N (((sqS fa fb (2^(((sc+hh)+24)).toNat) x.1).2).natAbs))]⟩]⟩
def fx_exp_2_I (_ hh _ _ _ _ _ _:Int)(x:Nat × Int):Prop:=x.2=(x.1:Int)∧(x.1:Int)≤hh
def fx_exp_2_mu (_ hh _ _ _ _ _ _:Int)(x:Nat × Int):Nat:=(hh-x.1).toNat
def fx_exp_2_ex (sc hh v1 v2 q1 q2 fa fb:Int)(y:Nat):Ex × St:=(.exit 4,⟨mkS 63 [(1,(.val (.int .i64 sc))),(4,(.own 1 0)),(6,(.val (.int .i64 ((sc+hh)+24)))),(8,(.own 3 0))],[⟨true,false,[(V.bool (decide (v1<0))),(N v1.natAbs),(V.bool (decide (v2<0))),(N v2.natAbs)]⟩,⟨true,false,[(V.bool false),V.nil,(V.bool false),V.nil]⟩,⟨true,false,[(V.bool (decide (q1<0))),(N q1.natAbs),(V.bool (decide (q2<0))),(N q2.natAbs)]⟩,⟨true,false,[(V.bool (decide ((sqS fa fb (2^(((sc+hh)+24)).toNat) y).1<0))),(N (((sqS fa fb (2^(((sc+hh)+24)).toNat) y).1).natAbs)),(V.bool (decide ((sqS fa fb (2^(((sc+hh)+24)).toNat) y).2<0))),(N (((sqS fa fb (2^(((sc+hh)+24)).toNat) y).2).natAbs))]⟩]⟩)
def fx_exp_2_J (_ hh _ _ _ _ _ _:Int)(y:Nat):Prop:=(y:Int)=hh
abbrev fx_exp_2_N (sc hh v1 v2 q1 q2 fa fb:Int):=NX (fx_exp_2_mk sc hh v1 v2 q1 q2 fa fb) (fx_exp_2_I sc hh v1 v2 q1 q2 fa fb) (fx_exp_2_mu sc hh v1 v2 q1 q2 fa fb) (fx_exp_2_ex sc hh v1 v2 q1 q2 fa fb) (fx_exp_2_J sc hh v1 v2 q1 q2 fa fb)
theorem fx_exp_2 (sc hh v1 v2 q1 q2 fa fb:Int)(c0:∀ i:Nat,(i:Int)<hh→Impl Tryz.prog Amb 236 [(.agg [(.bool (decide ((sqS fa fb (2^(((sc+hh)+24)).toNat) i).1<0))),(N (((sqS fa fb (2^(((sc+hh)+24)).toNat) i).1).natAbs)),(.bool (decide ((sqS fa fb (2^(((sc+hh)+24)).toNat) i).2<0))),(N (((sqS fa fb (2^(((sc+hh)+24)).toNat) i).2).natAbs))]),(.agg [(.bool (decide ((sqS fa fb (2^(((sc+hh)+24)).toNat) i).1<0))),(N (((sqS fa fb (2^(((sc+hh)+24)).toNat) i).1).natAbs)),(.bool (decide ((sqS fa fb (2^(((sc+hh)+24)).toNat) i).2<0))),(N (((sqS fa fb (2^(((sc+hh)+24)).toNat) i).2).natAbs))]),(.int .i64 ((sc+hh)+24))] (.agg [(.bool (decide ((sqS fa fb (2^(((sc+hh)+24)).toNat) (i+1)).1<0))),(N (((sqS fa fb (2^(((sc+hh)+24)).toNat) (i+1)).1).natAbs)),(.bool (decide ((sqS fa fb (2^(((sc+hh)+24)).toNat) (i+1)).2<0))),(N (((sqS fa fb (2^(((sc+hh)+24)).toNat) (i+1)).2).natAbs))]))(c1:4≤hh∧hh≤200)(x0:Nat × Int)(hI:fx_exp_2_I sc hh v1 v2 q1 q2 fa fb x0):LoopOk Tryz.prog Amb (loopN Tryz.f232 2) (fx_exp_2_mk sc hh v1 v2 q1 q2 fa fb x0) (fun e st_=>∃ y,fx_exp_2_J sc hh v1 v2 q1 q2 fa fb y∧fx_exp_2_ex sc hh v1 v2 q1 q2 fa fb y=(e,st_)) :=
 loop_ob hP hAmb ⟨[1,4,6,8,50,51],4,[]⟩ (fx_exp_2_mk sc hh v1 v2 q1 q2 fa fb) (fx_exp_2_I sc hh v1 v2 q1 q2 fa fb) (fx_exp_2_mu sc hh v1 v2 q1 q2 fa fb) (fx_exp_2_ex sc hh v1 v2 q1 q2 fa fb) (fx_exp_2_J sc hh v1 v2 q1 q2 fa fb) x0 hI (fun (i,ii)=>.lit<|.both (.lits 3<|.call (.agg [(.bool (decide ((sqS fa fb (2^(((sc+hh)+24)).toNat) (i+1)).1<0))),(N (((sqS fa fb (2^(((sc+hh)+24)).toNat) (i+1)).1).natAbs)),(.bool (decide ((sqS fa fb (2^(((sc+hh)+24)).toNat) (i+1)).2<0))),(N (((sqS fa fb (2^(((sc+hh)+24)).toNat) (i+1)).2).natAbs))])<|.lits 2<|.yes<|.fin2 ⟨[1,4,6,8,50,51],4,[]⟩) (.fin2 ⟨[1,4,6,8],4,[]⟩)) (by
  rintro ⟨i,ii⟩ hI
  have hI:ii=(i:Int)∧(i:Int)≤hh:=hI
  obtain ⟨h1,h2⟩:=hI
  exact cast_ob (aI True.intro (aI (fun (h101:(iLt ii hh)=true)=>have _gh101:=iLt_t h101; aI (c0 i oO ) (aI (fits_i64 oO:(fits .i64 (ii+1))=true) (aI tT ((nx_next ((i+1),(ii+1)) (show (ii+1)=((i+1):Int)∧((i+1):Int)≤hh from ⟨by omega,by omega⟩) (show (hh-((i+1:Nat):Int)).toNat<(hh-i).toNat by omega):fx_exp_2_N sc hh v1 v2 q1 q2 fa fb (i,ii) .normal (fx_exp_2_mk sc hh v1 v2 q1 q2 fa fb ((i+1),(ii+1)))))))) (fun (h102:(iLt ii hh)=false)=>have _gh102:=iLt_f h102; aI tT ((nx_exit 4 ((fx_exp_2_ex sc hh v1 v2 q1 q2 fa fb i).2) i (show (i:Int)=hh from show (i:Int)=hh by omega) rfl:fx_exp_2_N sc hh v1 v2 q1 q2 fa fb (i,ii) (.exit 4) ((fx_exp_2_ex sc hh v1 v2 q1 q2 fa fb i).2)))))) (by kernel_rfl))
theorem fx_exp0 (x1 x2 sc hh w1 w2 v1 v2 r1 r2:Int)(nn:Nat)(pp1:Nat→Int)(pp2:Nat→Int)(mm1:Nat→Int)(mm2:Nat→Int)(c0:0≤sc∧sc≤20000)(c1:4≤hh∧hh≤200)(c2:∀ i:Int,4≤i→i<hh→i*i<sc)(c3:sc≤hh*hh)(c4:Impl Tryz.prog Amb 216 [(sV x1 x2),(.int .i64 (((sc+hh)+24)-sc))] (sV w1 w2))(c5:Impl Tryz.prog Amb 162 [(sV w1 w2),(.int .i64 hh)] (sV v1 v2))(c6:Impl Tryz.prog Amb 213 [(.int .i64 ((sc+hh)+24))] (sV (pp1 0) (pp2 0)))(c7:∀ j,j<nn→Impl Tryz.prog Amb 236 [(sV (pp1 j) (pp2 j)),(sV v1 v2),(.int .i64 ((sc+hh)+24))] (sV (mm1 j) (mm2 j)))(c8:∀ (j:Nat) (kk:Int),j<nn→kk=(j:Int)+1→Impl Tryz.prog Amb 242 [(sV (mm1 j) (mm2 j)),(.int .u32 kk)] (sV (pp1 (j+1)) (pp2 (j+1))))(c9:∀ j,j<nn→Impl Tryz.prog Amb 179 [(sV (saS pp1 j) (saS pp2 j)),(sV (pp1 (j+1)) (pp2 (j+1)))] (sV (saS pp1 (j+1)) (saS pp2 (j+1))))(c10:∀ j,j<nn→Impl Tryz.prog Amb 241 [(sV (pp1 (j+1)) (pp2 (j+1)))] (.bool (decide (nn≤j+1))))(c11:L (saS pp2 nn).natAbs≤20000∧L (pp2 nn).natAbs≤20000)(c12:1≤nn∧nn≤10000)(c13:∀ i:Nat,(i:Int)<hh→Impl Tryz.prog Amb 236 [(.agg [(.bool (decide ((sqS (saS pp1 nn) ((saS pp2 nn)+(pp2 nn)) (2^(((sc+hh)+24)).toNat) i).1<0))),(N (((sqS (saS pp1 nn) ((saS pp2 nn)+(pp2 nn)) (2^(((sc+hh)+24)).toNat) i).1).natAbs)),(.bool (decide ((sqS (saS pp1 nn) ((saS pp2 nn)+(pp2 nn)) (2^(((sc+hh)+24)).toNat) i).2<0))),(N (((sqS (saS pp1 nn) ((saS pp2 nn)+(pp2 nn)) (2^(((sc+hh)+24)).toNat) i).2).natAbs))]),(.agg [(.bool (decide ((sqS (saS pp1 nn) ((saS pp2 nn)+(pp2 nn)) (2^(((sc+hh)+24)).toNat) i).1<0))),(N (((sqS (saS pp1 nn) ((saS pp2 nn)+(pp2 nn)) (2^(((sc+hh)+24)).toNat) i).1).natAbs)),(.bool (decide ((sqS (saS pp1 nn) ((saS pp2 nn)+(pp2 nn)) (2^(((sc+hh)+24)).toNat) i).2<0))),(N (((sqS (saS pp1 nn) ((saS pp2 nn)+(pp2 nn)) (2^(((sc+hh)+24)).toNat) i).2).natAbs))]),(.int .i64 ((sc+hh)+24))] (.agg [(.bool (decide ((sqS (saS pp1 nn) ((saS pp2 nn)+(pp2 nn)) (2^(((sc+hh)+24)).toNat) (i+1)).1<0))),(N (((sqS (saS pp1 nn) ((saS pp2 nn)+(pp2 nn)) (2^(((sc+hh)+24)).toNat) (i+1)).1).natAbs)),(.bool (decide ((sqS (saS pp1 nn) ((saS pp2 nn)+(pp2 nn)) (2^(((sc+hh)+24)).toNat) (i+1)).2<0))),(N (((sqS (saS pp1 nn) ((saS pp2 nn)+(pp2 nn)) (2^(((sc+hh)+24)).toNat) (i+1)).2).natAbs))]))(c14:∀ i:Nat,(i:Int)=hh→Impl Tryz.prog Amb 162 [(.agg [(.bool (decide ((sqS (saS pp1 nn) ((saS pp2 nn)+(pp2 nn)) (2^(((sc+hh)+24)).toNat) i).1<0))),(N (((sqS (saS pp1 nn) ((saS pp2 nn)+(pp2 nn)) (2^(((sc+hh)+24)).toNat) i).1).natAbs)),(.bool (decide ((sqS (saS pp1 nn) ((saS pp2 nn)+(pp2 nn)) (2^(((sc+hh)+24)).toNat) i).2<0))),(N (((sqS (saS pp1 nn) ((saS pp2 nn)+(pp2 nn)) (2^(((sc+hh)+24)).toNat) i).2).natAbs))]),(.int .i64 (((sc+hh)+24)-sc))] (sV r1 r2)):Impl Tryz.prog Amb 232 [(sV x1 x2),(.int .i64 sc)] (sV r1 r2):=by
 exact impl_ob hP hAmb Tryz.func232 (by kernel_rfl) (.loop ⟨[1,2,4,5],2,[]⟩ ((fx_exp_0_mk x1 x2 sc hh 4)) (Int) (fx_exp_0_ex x1 x2 sc hh) (fx_exp_0_J x1 x2 sc hh) (fun y=>.lit<|.yes<|.lit<|.yes<|.lits 2<|.yes<|.lit<|.call (sV w1 w2)<|.lit<|.call (sV v1 v2)<|.lits 2<|.call (sV (pp1 0) (pp2 0))<|.lits 3<|.loop ⟨[1,2,4,5,6,7,8,9],4,[]⟩ ((fx_exp_1_mk sc y v1 v2 nn pp1 pp2 mm1 mm2 (0,1))) (Nat) (fx_exp_1_ex sc y v1 v2 nn pp1 pp2 mm1 mm2) (fx_exp_1_J sc y v1 v2 nn pp1 pp2 mm1 mm2) (fun z=>.loop ⟨[1,4,6,8,50,51],4,[]⟩ ((fx_exp_2_mk sc y v1 v2 (pp1 z) (pp2 z) (saS pp1 z) ((saS pp2 z)+(pp2 z)) (0,0))) (Nat) (fx_exp_2_ex sc y v1 v2 (pp1 z) (pp2 z) (saS pp1 z) ((saS pp2 z)+(pp2 z))) (fx_exp_2_J sc y v1 v2 (pp1 z) (pp2 z) (saS pp1 z) ((saS pp2 z)+(pp2 z))) (fun u=>.lits 2<|.yes<|.lit<|.call (sV r1 r2)<|.lits 2<|.ret))))
  (cast_ob (aI True.intro (aI tT (aI (rfl:(fx_exp_0_mk x1 x2 sc hh 4)=(fx_exp_0_mk x1 x2 sc hh 4)) (aI (fx_exp_0 x1 x2 sc hh c0 c1 c2 c3 4 (show 4≤4∧4≤hh from ⟨by omega,by omega⟩)) (fun y (hJ:fx_exp_0_J x1 x2 sc hh y)=>have hJ:y=hh:=hJ; have hY:=hJ; aI (fits_i64 oS:(fits .i64 (sc+y))=true) (aI (fits_i64 oS:(fits .i64 ((sc+y)+24))=true) (aI (fits_i64 oS:(fits .i64 (((sc+y)+24)-sc))=true) (aI ((hY ▸ c4) ) (aI ((hY ▸ c5) ) (aI ((hY ▸ c6) ) (aI tT (aI (rfl:(fx_exp_1_mk sc y v1 v2 nn pp1 pp2 mm1 mm2 (0,1))=(fx_exp_1_mk sc y v1 v2 nn pp1 pp2 mm1 mm2 (0,1))) (aI (fx_exp_1 sc y v1 v2 nn pp1 pp2 mm1 mm2 (hY ▸ c7) c8 c9 c10 c11 c12 (0,1) (show 0<nn∧1=(0:Int)+1 from ⟨by omega,by omega⟩)) (fun z (hJ:fx_exp_1_J sc y v1 v2 nn pp1 pp2 mm1 mm2 z)=>have hJ:z=nn:=hJ; have hZ:=hJ; aI tT (aI (rfl:(fx_exp_2_mk sc y v1 v2 (pp1 z) (pp2 z) (saS pp1 z) ((saS pp2 z)+(pp2 z)) (0,0))=(fx_exp_2_mk sc y v1 v2 (pp1 z) (pp2 z) (saS pp1 z) ((saS pp2 z)+(pp2 z)) (0,0))) (aI (fx_exp_2 sc y v1 v2 (pp1 z) (pp2 z) (saS pp1 z) ((saS pp2 z)+(pp2 z)) (hZ ▸ hY ▸ c13) (hY ▸ c1) (0,0) (show 0=(0:Int)∧(0:Int)≤y from ⟨by omega,by omega⟩)) (fun u (hJ:fx_exp_2_J sc y v1 v2 (pp1 z) (pp2 z) (saS pp1 z) ((saS pp2 z)+(pp2 z)) u)=>have hJ:(u:Int)=y:=hJ; have hV:=hJ; aI (fits_i64 oS:(fits .i64 (((sc+y)+24)-sc))=true) (aI ((hZ ▸ (show _ from (hY ▸ (c14 u oO)))) ) ((vsub_refl (sV r1 r2))))))))))))))))))))) (by kernel_rfl))
end Go.Proofs.YtcbihoojfakhdaaGreatDoor

namespace Go.Proofs.YtcbihoojfakhdaaGreatDoor
open Go.RowKit
set_option maxRecDepth 100000
theorem wrap_neg {x:Int}(h:x<0)(k:-4294967295≤x):IntKind.wrap .i64 (IntKind.wrap .u64 ((0:Int)-(x.natAbs:Int)))=x:=by
 rw [wrap_u64]
 have e:((0:Int)-(x.natAbs:Int))%18446744073709551616=18446744073709551616+x:=by omega
 rw [e]
 simp [IntKind.wrap,IntKind.bits,IntKind.signed]
 omega
theorem nat_Uint1 (a:Nat)(c0:a<4294967296):Impl Tryz.prog Amb 238 [(N a)] (.tup [(.int .u64 (a:Int)),(.bool true)]):=by
 have l1:=L_le (n:=a) (k:=1) (by rw [Nat.pow_one]; exact c0)
 have e0:=L_len a
 have g0:=gi_nonneg (limbs a) 0
 have g1:=gi_lt (dig_limbs a) 0
 exact impl_ob hP hAmb Tryz.func238 (by kernel_rfl) (.lit<|.call (.int .i64 (L a:Int))<|.lit<|.both (.lit<|.ret) (.lit<|.both (.yes<|.yes<|.lit<|.yes<|.lit<|.ret) (.lit<|.both (.yes<|.yes<|.lit<|.yes<|.lit<|.yes<|.yes<|.yes<|.lit<|.yes<|.lits 2<|.ret) (.lit<|.ret))))
  (cast_ob (aI True.intro (aI (nat_sizeN a oO) (aI (fun (h1:(iEq (L a:Int) 0)=true)=>have _gh1:=iEq_t h1; (vsub_of (by rw [show a=0 from Decidable.byContradiction fun h=>by have:=L_pos h; omega]; rfl):vsub (.tup [(.int .u64 0),(.bool true)]) (.tup [(.int .u64 (a:Int)),(.bool true)]))) (fun (h2:(iEq (L a:Int) 0)=false)=>have _gh2:=iEq_f h2; aI (fun (h3:(iEq (L a:Int) 1)=true)=>have _gh3:=iEq_t h3; aI (inB_mk oO:(inB (0:Int) ((lim a).length))=true) (aI (ld_L oO:(Nat.blt 0 (lim a).length && isIntK .u32 (nth (lim a) 0 .unk))=true) (aI (fits_u64 oO:(fits .u64 (gi (limbs a) 0))=true) ((vsub_of (by rw [gi_one (show L a=1 by omega)]):vsub (.tup [(.int .u64 (gi (limbs a) 0)),(.bool true)]) (.tup [(.int .u64 (a:Int)),(.bool true)])))))) (fun (h4:(iEq (L a:Int) 1)=false)=>have _gh4:=iEq_f h4; aI (fun (h5:(iEq (L a:Int) 2)=true)=>have _gh5:=iEq_t h5; aI (inB_mk oO:(inB (1:Int) ((lim a).length))=true) (aI (ld_L oO:(Nat.blt 1 (lim a).length && isIntK .u32 (nth (lim a) 1 .unk))=true) (aI (fits_u64 oO:(fits .u64 (gi (limbs a) 1))=true) (aI (fits_u64 oO:(fits .u64 ((gi (limbs a) 1)*2^32))=true) (aI (inB_mk oO:(inB (0:Int) ((lim a).length))=true) (aI (ld_L oO:(Nat.blt 0 (lim a).length && isIntK .u32 (nth (lim a) 0 .unk))=true) (aI (fits_u64 oO:(fits .u64 (gi (limbs a) 0))=true) ((False.elim oO:vsub (.tup [(.int .u64 (wOr .u64 ((gi (limbs a) 1)*2^32) (gi (limbs a) 0))),(.bool true)]) (.tup [(.int .u64 (a:Int)),(.bool true)])))))))))) (fun (h6:(iEq (L a:Int) 2)=false)=>have _gh6:=iEq_f h6; (False.elim oO:vsub (.tup [(.int .u64 0),(.bool false)]) (.tup [(.int .u64 (a:Int)),(.bool true)])))))))) (by kernel_rfl))
theorem int_Int1 (x:Int)(c0:-4294967295≤x∧x≤4294967295):Impl Tryz.prog Amb 211 [(zV x)] (.tup [(.int .i64 x),(.bool true)]):=by
 have wz:=wrap_neg (x:=x)
 exact impl_ob hP hAmb Tryz.func211 (by kernel_rfl) (.lits 2<|.call (.tup [(.int .u64 (x.natAbs:Int)),(.bool true)])<|.lits 4<|.both (.lits 3<|.yes<|.lit<|.yes<|.lit<|.ret) (.lits 4<|.both (.lits 3<|.yes<|.lit<|.no<|.lit<|.no<|.lit<|.ret) (.lits 4<|.ret)))
  (cast_ob (aI True.intro (aI (nat_Uint1 x.natAbs oO) (aI (fun (h1:(!(decide (x<0)))=true)=>have _gh1:=of_decide_eq_false (notb_t h1); aI (iLt_mk oO:(iLt (x.natAbs:Int) 9223372036854775808)=true) (aI (fits_i64 oO:(fits .i64 (x.natAbs:Int))=true) ((vsub_of (by rw [show (x.natAbs:Int)=x by omega]):vsub (.tup [(.int .i64 (x.natAbs:Int)),(.bool true)]) (.tup [(.int .i64 x),(.bool true)]))))) (fun (h2:(!(decide (x<0)))=false)=>have _gh2:=of_decide_eq_true (notb_f h2); aI (fun (h3:(decide (x<0))=true)=>have _gh3:=of_decide_eq_true h3; aI (iLe_mk oO:(iLe (x.natAbs:Int) 9223372036854775808)=true) ((vsub_of (by rw [wz oO oO]):vsub (.tup [(.int .i64 (IntKind.wrap .i64 (IntKind.wrap .u64 ((0:Int)-(x.natAbs:Int))))),(.bool true)]) (.tup [(.int .i64 x),(.bool true)])))) (fun (h4:(decide (x<0))=false)=>have _gh4:=of_decide_eq_false h4; (False.elim oO:vsub (.tup [(.int .i64 0),(.bool false)]) (.tup [(.int .i64 x),(.bool true)]))))))) (by kernel_rfl))
theorem fx_Nearest (a b c d:Int)(c0:L (a).natAbs≤3000)(c1:L (b).natAbs≤3000)(c2:L (c).natAbs≤3000)(c3:L (d).natAbs≤3000)(c4:0<c+d)(c5:-4294967295≤(Int.fdiv (((a+b)*2^1)+(c+d)) ((c+d)*2^1))∧(Int.fdiv (((a+b)*2^1)+(c+d)) ((c+d)*2^1))≤4294967295):Impl Tryz.prog Amb 163 [(sV a b),(sV c d)] (.int .i64 (Int.fdiv (((a+b)*2^1)+(c+d)) ((c+d)*2^1))):=by
 exact impl_ob hP hAmb Tryz.func163 (by kernel_rfl) (.lits 3<|.call (zV (a+b))<|.lits 3<|.call (zV (c+d))<|.lits 2<|.call (zV ((a+b)*2^1))<|.lits 2<|.call (zV (((a+b)*2^1)+(c+d)))<|.lits 2<|.call (zV ((c+d)*2^1))<|.lit<|.call (.tup [(zV (Int.fdiv (((a+b)*2^1)+(c+d)) ((c+d)*2^1))),(zV ((((a+b)*2^1)+(c+d))-(Int.fdiv (((a+b)*2^1)+(c+d)) ((c+d)*2^1))*((c+d)*2^1))),(.bool true)])<|.lits 2<|.call (.tup [(.int .i64 (Int.fdiv (((a+b)*2^1)+(c+d)) ((c+d)*2^1))),(.bool true)])<|.lit<|.ret)
  (cast_ob (aI True.intro (aI (int_Add a b oO oO) (have f7:=L_abs_add a b; aI (int_Add c d oO oO) (have f6:=L_abs_add c d; aI (int_Shl (a+b) 1 oO oO) (have f5:=L_abs_shl (a+b) 1; aI (int_Add ((a+b)*2^1) (c+d) oO oO) (have f4:=L_abs_add ((a+b)*2^1) (c+d); aI (int_Shl (c+d) 1 oO oO) (have f3:=L_abs_shl (c+d) 1; aI (int_DivMod (((a+b)*2^1)+(c+d)) ((c+d)*2^1) oO oO oO) (have f2:=L_rm (((a+b)*2^1)+(c+d)) ((c+d)*2^1); have f1:=L_fdiv (((a+b)*2^1)+(c+d)) ((c+d)*2^1); aI (int_Int1 (Int.fdiv (((a+b)*2^1)+(c+d)) ((c+d)*2^1)) oO) ((vsub_refl (.int .i64 (Int.fdiv (((a+b)*2^1)+(c+d)) ((c+d)*2^1))))))))))))) (by kernel_rfl))
end Go.Proofs.YtcbihoojfakhdaaGreatDoor

namespace Go.Proofs.YtcbihoojfakhdaaGreatDoor
open Go.RowKit
set_option maxRecDepth 100000
theorem gt_dec (x:Int):iGt x 0=decide (0<x):=rfl
theorem fx_Exp_aw (q1 q2 u1 u2 t1 t2 s1 s2 x1 x2 y1 y2 r1 r2:Int)(c0:Impl Tryz.prog Amb 161 [(yV (0:Int) 0),(.int .i64 32)] (sV (0:Int) (0:Int)))(c1:Impl Tryz.prog Amb 112 [(.int .i64 32)] (sV q1 q2))(c2:Impl Tryz.prog Amb 163 [(sV (0:Int) (0:Int)),(sV q1 q2)] (.int .i64 0))(c3:Impl Tryz.prog Amb 161 [(yV (0:Int) 0),(.int .i64 67)] (sV (0:Int) (0:Int)))(c4:Impl Tryz.prog Amb 112 [(.int .i64 67)] (sV u1 u2))(c5:Impl Tryz.prog Amb 165 [(sV u1 u2),(.int .i64 (-1))] (sV t1 t2))(c6:Impl Tryz.prog Amb 164 [(sV (0:Int) (0:Int)),(sV t1 t2)] (sV s1 s2))(c7:Impl Tryz.prog Amb 162 [(sV s1 s2),(.int .i64 16)] (sV x1 x2))(c8:Impl Tryz.prog Amb 232 [(sV x1 x2),(.int .i64 51)] (sV y1 y2))(c9:Impl Tryz.prog Amb 162 [(sV y1 y2),(.int .i64 25)] (sV r1 r2)):Impl Tryz.prog Amb 194 [(yV (0:Int) 0),(.int .i64 27)] (sV r1 r2):=by
 exact impl_ob hP hAmb Tryz.func194 (by kernel_rfl) (.lits 2<|.call (sV (0:Int) (0:Int))<|.lit<|.call (sV q1 q2)<|.lit<|.call (.int .i64 0)<|.lit<|.yes<|.lits 2<|.yes<|.lit<|.yes<|.lits 2<|.yes<|.lit<|.call (sV (0:Int) (0:Int))<|.lit<|.yes<|.lit<|.call (sV u1 u2)<|.lit<|.call (sV t1 t2)<|.lit<|.call (sV s1 s2)<|.lit<|.call (sV x1 x2)<|.lits 3<|.call (sV y1 y2)<|.lits 3<|.yes<|.lit<|.yes<|.lit<|.call (sV r1 r2)<|.lits 2<|.ret)
  (cast_ob (aI True.intro (aI (c0 ) (aI (c1 ) (aI (c2 ) (aI tT (aI tT (aI tT (aI tT (aI (c3 ) (aI tT (aI (c4 ) (aI (c5 ) (aI (c6 ) (aI (c7 ) (aI (c8 ) (aI tT (aI tT (aI (c9 ) ((vsub_refl (sV r1 r2))))))))))))))))))))) (by kernel_rfl))
theorem ex_at (m ee ss lo hi:Int)(c0:Impl Tryz.prog Amb 194 [(yV m ee),(.int .i64 ss)] (sV lo hi)):Impl Tryz.prog Amb 134 [(yV m ee),(.int .i64 ss)] (sV lo hi):=by
 exact impl_ob hP hAmb Tryz.func134 (by kernel_rfl) (.lits 2<|.call (sV lo hi)<|.lits 2<|.ret)
  (cast_ob (aI True.intro (aI (c0 ) ((vsub_refl (sV lo hi))))) (by kernel_rfl))
theorem ex_beyond (m ee n:Int)(c0:L (m).natAbs≤8000)(c1:-65536≤ee∧ee≤65536)(c2:-9223372036854775808≤n∧n≤9223372036854775807):Impl Tryz.prog Amb 69 [(yV m ee),(.int .i64 n)] (.bool (decide (0<(cmpD m ee (mkM n 0) (mkX n 0))))):=by
 have of1:=of_fit (n:=n) oO
 exact impl_ob hP hAmb Tryz.func69 (by kernel_rfl) (.lits 2<|.call (yV (mkM n 0) (mkX n 0))<|.lit<|.call (.int .i64 (cmpD m ee (mkM n 0) (mkX n 0)))<|.lits 2<|.ret)
  (cast_ob (aI True.intro (aI (dy_Of n oO) (have f3:=(L_i64 oO:L (n:Int).natAbs≤2); have f2:=mk_facts n 0; aI (dy_Cmp m ee (mkM n 0) (mkX n 0) oO oO oO oO) (have f1:=cmpD_range m ee (mkM n 0) (mkX n 0); (vsub_of (congrArg V.bool (gt_dec _)):vsub (.bool (iGt (cmpD m ee (mkM n 0) (mkX n 0)) 0)) (.bool (decide (0<(cmpD m ee (mkM n 0) (mkX n 0)))))))))) (by kernel_rfl))
def exM (o v1 v2 T:Int):Nat→Int × Int
 | 0=>(o,o)
 | j+1=>(ptLo ((exM o v1 v2 T j).1*v1 / T) ((j:Int)+1),ptHi (-(-((exM o v1 v2 T j).2*v2) / T)) ((j:Int)+1))
def exOk (o v1 v2 T:Int)(nn:Nat):Bool:=(List.range (nn+1)).all fun j =>
 decide ((exM o v1 v2 T j).1.natAbs<2^500) && decide ((exM o v1 v2 T j).2.natAbs<2^500) && decide ((saS (fun i=>(exM o v1 v2 T i).1) j).natAbs<2^500) && decide ((saS (fun i=>(exM o v1 v2 T i).2) j).natAbs<2^500) &&
 decide (((exM o v1 v2 T j).1*v1 / T).natAbs<2^500) && decide ((-(-((exM o v1 v2 T j).2*v2) / T)).natAbs<2^500) && (decide (j=0) || (decide ((exM o v1 v2 T j).2.natAbs<8) == decide (nn≤j)))
def sqOk (a b T:Int)(h:Nat):Bool:=(List.range (h+1)).all fun i=>decide ((sqS a b T i).1.natAbs<2^500) && decide ((sqS a b T i).2.natAbs<2^500)
theorem L500 {x:Int}(h:x.natAbs<2^500):L x.natAbs≤16:=L_pow2 h oO
theorem fx_expG (x1 x2 sc hh w1 w2 v1 v2 fa fb:Int)(nn:Nat)(h0:0≤sc∧sc≤10000)(h1:4≤hh∧hh≤200)(h2:∀ i:Int,4≤i→i<hh→i*i<sc)(h3:sc≤hh*hh)(hn:1≤nn∧nn≤10000)
  (lx1:L x1.natAbs≤2000) (lx2:L x2.natAbs≤2000) (ew1:w1=x1*2^(((sc+hh)+24)-sc).toNat) (ew2:w2=x2*2^(((sc+hh)+24)-sc).toNat) (ev1:v1=w1 / 2^hh.toNat) (ev2:v2=-(-w2 / 2^hh.toNat)) (lv1:L v1.natAbs≤2000) (lv2:L v2.natAbs≤2000)
  (ok:exOk ((1:Int)*2^((sc+hh)+24).toNat) v1 v2 (2^((sc+hh)+24).toNat) nn=true) (efa:fa=saS (fun i=>(exM ((1:Int)*2^((sc+hh)+24).toNat) v1 v2 (2^((sc+hh)+24).toNat) i).1) nn) (efb:fb=saS (fun i=>(exM ((1:Int)*2^((sc+hh)+24).toNat) v1 v2 (2^((sc+hh)+24).toNat) i).2) nn+(exM ((1:Int)*2^((sc+hh)+24).toNat) v1 v2 (2^((sc+hh)+24).toNat) nn).2)
  (sq:sqOk fa fb (2^((sc+hh)+24).toNat) hh.toNat=true) :
  Impl Tryz.prog Amb 232 [(sV x1 x2),(.int .i64 sc)] (sV ((sqS fa fb (2^((sc+hh)+24).toNat) hh.toNat).1 / 2^(((sc+hh)+24)-sc).toNat) (-(-(sqS fa fb (2^((sc+hh)+24).toNat) hh.toNat).2 / 2^(((sc+hh)+24)-sc).toNat))):=by
 have ok:=List.all_eq_true.1 ok
 have sq:=List.all_eq_true.1 sq
 have ok:∀ j,j≤nn→_:=fun j hj=>ok j (List.mem_range.2 oO)
 have sq:∀ j,j≤hh.toNat→_:=fun j hj=>sq j (List.mem_range.2 oO)
 simp only [Bool.and_eq_true,Bool.or_eq_true,decide_eq_true_eq,beq_iff_eq] at ok sq
 have lw1:=L_abs_shl x1 (((sc+hh)+24)-sc).toNat
 have lw2:=L_abs_shl x2 (((sc+hh)+24)-sc).toNat
 have hT:=fx_Twice x1 x2 (((sc+hh)+24)-sc) oO oO oO
 rw [← ew1] at hT lw1
 rw [← ew2] at hT lw2
 have hH:=fx_Half w1 w2 hh oO oO oO
 rw [← ev1,← ev2] at hH
 have hO:=fx_One ((sc+hh)+24) oO
 have pN:=(ok nn (Nat.le_refl _))
 have l2:=L500 pN.1.1.1.2
 have l3:=L500 pN.1.1.1.1.1.2
 subst efa; subst efb
 refine fx_exp0 x1 x2 sc hh w1 w2 v1 v2 _ _ nn (fun i=>(exM ((1:Int)*2^((sc+hh)+24).toNat) v1 v2 (2^((sc+hh)+24).toNat) i).1) (fun i=>(exM ((1:Int)*2^((sc+hh)+24).toNat) v1 v2 (2^((sc+hh)+24).toNat) i).2) (fun i=>(exM ((1:Int)*2^((sc+hh)+24).toNat) v1 v2 (2^((sc+hh)+24).toNat) i).1*v1 / (2^((sc+hh)+24).toNat)) (fun i=>-(-((exM ((1:Int)*2^((sc+hh)+24).toNat) v1 v2 (2^((sc+hh)+24).toNat) i).2*v2) / (2^((sc+hh)+24).toNat))) oO h1 h2 h3 hT hH hO ?_ ?_ ?_ ?_ ⟨by omega,by omega⟩ hn ?_ ?_
 ·intro j hj
  have a:=ok j oO
  exact fx_Mul _ _ v1 v2 ((sc+hh)+24) (Nat.le_trans (L500 a.1.1.1.1.1.1) oO) (Nat.le_trans (L500 a.1.1.1.1.1.2) oO) oO oO oO
 ·intro j kk hj hk
  subst hk
  have a:=ok j oO
  exact fx_Part _ _ ((j:Int)+1) (Nat.le_trans (L500 a.1.1.2) oO) (Nat.le_trans (L500 a.1.2) oO) oO
 ·intro j hj
  have a:=ok j oO
  have b:=ok (j+1) oO
  exact fx_Add _ _ _ _ (Nat.le_trans (L500 a.1.1.1.1.2) oO) (Nat.le_trans (L500 a.1.1.1.2) oO) (Nat.le_trans (L500 b.1.1.1.1.1.1) oO) (Nat.le_trans (L500 b.1.1.1.1.1.2) oO)
 ·intro j hj
  have b:=ok (j+1) oO
  have c:=b.2.resolve_left oO
  exact impl_eq (congrArg V.bool c) (fx_Tiny _ _ (Nat.le_trans (L500 b.1.1.1.1.1.2) oO))
 ·intro i hi
  have a:=sq i oO
  exact fx_Mul _ _ _ _ ((sc+hh)+24) (Nat.le_trans (L500 a.1) oO) (Nat.le_trans (L500 a.2) oO) (Nat.le_trans (L500 a.1) oO) (Nat.le_trans (L500 a.2) oO) oO
 ·intro i hi
  have e:i=hh.toNat:=by omega
  subst e
  have a:=sq hh.toNat (Nat.le_refl _)
  exact fx_Half _ _ (((sc+hh)+24)-sc) (Nat.le_trans (L500 a.1) oO) (Nat.le_trans (L500 a.2) oO) oO
end Go.Proofs.YtcbihoojfakhdaaGreatDoor

namespace Go.Proofs.YtcbihoojfakhdaaGreatDoor
def Sm (f:Nat→Rat):Nat→Rat
 | 0=>0
 | n+1=>Sm f n+f n
theorem Sm_congr {f g:Nat→Rat}:∀ {n:Nat},(∀ i,i<n→f i=g i)→Sm f n=Sm g n
 | 0,_=>rfl
 | n+1,h=>by
  show Sm f n+f n=Sm g n+g n
  rw [Sm_congr (n:=n) (fun i hi=>h i (by omega)),h n (by omega)]
theorem Sm_add (f g:Nat→Rat):∀ n,Sm (fun i=>f i+g i) n=Sm f n+Sm g n
 | 0=>by show (0:Rat)=0+0; grind
 | n+1=>by
  show Sm (fun i=>f i+g i) n+(f n+g n)=Sm f n+f n+(Sm g n+g n)
  rw [Sm_add f g n]; grind
theorem Sm_mul (f:Nat→Rat)(c:Rat):∀ n,Sm f n*c=Sm (fun i=>f i*c) n
 | 0=>by show (0:Rat)*c=0; grind
 | n+1=>by
  show (Sm f n+f n)*c=Sm (fun i=>f i*c) n+f n*c
  rw [← Sm_mul f c n]; grind
theorem Sm_shift (f:Nat→Rat):∀ n,Sm f (n+1)=f 0+Sm (fun i=>f (i+1)) n
 | 0=>by show (0:Rat)+f 0=f 0+0; grind
 | n+1=>by
  show Sm f (n+1)+f (n+1)=f 0+(Sm (fun i=>f (i+1)) n+f (n+1))
  rw [Sm_shift f n]; grind
theorem Sm_le {f g:Nat→Rat}:∀ {n:Nat},(∀ i,i<n→f i≤g i)→Sm f n≤Sm g n
 | 0,_=>Rat.le_refl
 | n+1,h=>by
  have a:=Sm_le (n:=n) (fun i hi=>h i (by omega))
  have b:=h n (by omega)
  show Sm f n+f n≤Sm g n+g n
  grind
theorem Sm_nonneg {f:Nat→Rat}(h:∀ i,0≤f i):∀ n,0≤Sm f n
 | 0=>Rat.le_refl
 | n+1=>Rat.add_nonneg (Sm_nonneg h n) (h n)
theorem Sm_mono {f:Nat→Rat}(h:∀ i,0≤f i){n m:Nat}(hn:n≤m):Sm f n≤Sm f m:=by
 obtain ⟨k,rfl⟩:∃ k,m=n+k:=⟨m-n,by omega⟩
 induction k with
 | zero=>exact Rat.le_refl
 | succ k ih =>
  have a:=ih (by omega)
  have b:=h (n+k)
  show Sm f n≤Sm f (n+k)+f (n+k)
  grind
theorem Sm_tri (f:Nat→Nat→Rat):∀ K,Sm (fun n=>Sm (fun i=>f i (n-i)) (n+1)) K=Sm (fun i=>Sm (f i) (K-i)) K
 | 0=>rfl
 | K+1=>by
  have h:=Sm_tri f K
  have e:Sm (fun i=>Sm (f i) (K+1-i)) (K+1)=Sm (fun i=>Sm (f i) (K-i)+f i (K-i)) (K+1):=Sm_congr fun i hi=>by
   rw [show K+1-i=(K-i)+1 by omega]; rfl
  rw [e,Sm_add]
  show Sm (fun n=>Sm (fun i=>f i (n-i)) (n+1)) K+Sm (fun i=>f i (K-i)) (K+1)=Sm (fun i=>Sm (f i) (K-i)) K+Sm (f K) (K-K)+Sm (fun i=>f i (K-i)) (K+1)
  rw [h,Nat.sub_self]
  show _=_+0+_
  grind
theorem Sm_prod (f g:Nat→Rat)(K:Nat):∀ n,Sm f n*Sm g K=Sm (fun i=>Sm (fun j=>f i*g j) K) n
 | 0=>by show (0:Rat)*_=0; grind
 | n+1=>by
  have h:=Sm_prod f g K n
  have e:f n*Sm g K=Sm (fun j=>f n*g j) K:=by
   rw [Rat.mul_comm,Sm_mul]
   exact Sm_congr fun i _=>Rat.mul_comm _ _
  show (Sm f n+f n)*Sm g K=Sm (fun i=>Sm (fun j=>f i*g j) K) n+Sm (fun j=>f n*g j) K
  rw [← h,← e]; grind
def nx (n:Nat):Int:=(n:Int)+1
theorem nx_pos (n:Nat):(0:Rat)<(nx n:Rat):=Rat.intCast_pos.2 (by unfold nx; omega)
def tE (x:Rat):Nat→Rat
 | 0=>1
 | n+1=>tE x n*x / (nx n:Rat)
theorem tE_mul (x:Rat)(n:Nat):tE x n*x=(nx n:Rat)*tE x (n+1):=by
 show tE x n*x=(nx n:Rat)*(tE x n*x / (nx n:Rat))
 have:=nx_pos n
 rw [Rat.mul_comm (nx n:Rat),Rat.div_mul_cancel (by grind)]
theorem tE_nonneg {x:Rat}(h:0≤x):∀ n,0≤tE x n
 | 0=>by show (0:Rat)≤1; decide
 | n+1=>by
  show 0≤tE x n*x / (nx n:Rat)
  rw [Rat.div_def]
  exact Rat.mul_nonneg (Rat.mul_nonneg (tE_nonneg h n) h) (Rat.le_of_lt (Rat.inv_pos.2 (nx_pos n)))
def EP (x:Rat)(K:Nat):Rat:=Sm (tE x) K
theorem tE_add (x y:Rat):∀ n,tE (x+y) n=Sm (fun i=>tE x i*tE y (n-i)) (n+1)
 | 0=>by show (1:Rat)=0+1*1; grind
 | n+1=>by
  have h:=tE_add x y n
  have np:=nx_pos n
  have key:Sm (fun i=>tE x i*tE y (n-i)) (n+1)*(x+y)=(nx n:Rat)*Sm (fun i=>tE x i*tE y (n+1-i)) (n+2):=by
   have ex:Sm (fun i=>tE x i*tE y (n-i)) (n+1)*x=Sm (fun i=>(i:Rat)*(tE x i*tE y (n+1-i))) (n+2):=by
    rw [Sm_mul,Sm_shift (fun i=>(i:Rat)*(tE x i*tE y (n+1-i))) (n+1)]
    have z:(((0:Nat):Nat):Rat)*(tE x 0*tE y (n+1-0))=0:=by
     rw [show ((0:Nat):Rat)=0 from rfl]; grind
    rw [z,Rat.zero_add]
    refine Sm_congr fun i hi=>?_
    rw [show n+1-(i+1)=n-i by omega]
    have t:=tE_mul x i
    have c:((i+1:Nat):Rat)=(nx i:Rat):=rfl
    show tE x i*tE y (n-i)*x=((i+1:Nat):Rat)*(tE x (i+1)*tE y (n-i))
    rw [c]
    grind
   have ey:Sm (fun i=>tE x i*tE y (n-i)) (n+1)*y=Sm (fun i=>((nx n:Rat)-(i:Rat))*(tE x i*tE y (n+1-i))) (n+2):=by
    rw [Sm_mul]
    show _=Sm (fun i=>((nx n:Rat)-(i:Rat))*(tE x i*tE y (n+1-i))) (n+1)+((nx n:Rat)-((n+1:Nat):Rat))*(tE x (n+1)*tE y (n+1-(n+1)))
    have c:((n+1:Nat):Rat)=(nx n:Rat):=rfl
    rw [c]
    have z:((nx n:Rat)-(nx n:Rat))*(tE x (n+1)*tE y (n+1-(n+1)))=0:=by grind
    rw [z,Rat.add_zero]
    refine Sm_congr fun i hi=>?_
    have t:=tE_mul y (n-i)
    rw [show n+1-i=(n-i)+1 by omega]
    have d:(nx (n-i):Rat)=(nx n:Rat)-(i:Rat):=by
     have e:nx (n-i)=nx n-(i:Int):=by unfold nx; omega
     rw [e,Rat.intCast_sub]; rfl
    rw [← d]
    grind
   rw [show Sm (fun i=>tE x i*tE y (n-i)) (n+1)*(x+y)=Sm (fun i=>tE x i*tE y (n-i)) (n+1)*x+Sm (fun i=>tE x i*tE y (n-i)) (n+1)*y by grind,ex,ey,← Sm_add,Rat.mul_comm (nx n:Rat),Sm_mul]
   exact Sm_congr fun i _=>by grind
  show tE (x+y) n*(x+y) / (nx n:Rat)=_
  rw [h,key,Rat.mul_comm,Rat.mul_div_cancel (by grind)]
theorem EP_conv (x y:Rat)(K:Nat):EP (x+y) K=Sm (fun i=>Sm (fun j=>tE x i*tE y j) (K-i)) K:=by
 unfold EP
 rw [← Sm_tri (fun i j=>tE x i*tE y j) K]
 exact Sm_congr fun n _=>tE_add x y n
theorem EP_mul {x y:Rat}(hx:0≤x)(hy:0≤y)(K:Nat):EP (x+y) K≤EP x K*EP y K∧EP x K*EP y K≤EP (x+y) (2*K):=by
 have nn:∀ i j,0≤tE x i*tE y j:=fun i j=>Rat.mul_nonneg (tE_nonneg hx i) (tE_nonneg hy j)
 have p:EP x K*EP y K=Sm (fun i=>Sm (fun j=>tE x i*tE y j) K) K:=Sm_prod _ _ K K
 rw [p,EP_conv,EP_conv]
 constructor
 ·exact Sm_le fun i _=>Sm_mono (nn i) (by omega)
 ·refine Rat.le_trans (Sm_le (g:=fun i=>Sm (fun j=>tE x i*tE y j) (2*K-i)) fun i hi=>Sm_mono (nn i) (by omega)) (Sm_mono (fun i=>Sm_nonneg (nn i) _) (by omega))
theorem EP_nonneg {x:Rat}(h:0≤x)(K:Nat):0≤EP x K:=Sm_nonneg (tE_nonneg h) K
theorem EP_mono {x:Rat}(h:0≤x){n m:Nat}(hn:n≤m):EP x n≤EP x m:=Sm_mono (tE_nonneg h) hn
end Go.Proofs.YtcbihoojfakhdaaGreatDoor

namespace Go.Proofs.YtcbihoojfakhdaaGreatDoor
theorem tE_half {x:Rat}(h0:0≤x){m:Nat}(h:2*x≤(nx m:Rat)):2*tE x (m+1)≤tE x m:=by
 have np:=nx_pos m
 have t:=tE_mul x m
 have p:=tE_nonneg h0 m
 refine Rat.le_of_mul_le_mul_right (c:=(nx m:Rat)) ?_ np
 have e:2*tE x (m+1)*(nx m:Rat)=tE x m*(2*x):=by grind
 rw [e]
 exact Rat.mul_le_mul_of_nonneg_left h p
theorem nx_mono {a b:Nat}(h:a≤b):(nx a:Rat)≤(nx b:Rat):=Rat.intCast_le_intCast.2 (by unfold nx; omega)
theorem EP_tail {x:Rat}(h0:0≤x){n:Nat}(h:2*x≤(nx n:Rat))(K:Nat):EP x K≤EP x (n+1)+tE x n:=by
 have key:∀ k,EP x (n+1+k)+tE x (n+k)≤EP x (n+1)+tE x n:=by
  intro k
  induction k with
  | zero=>exact Rat.le_refl
  | succ k ih =>
   have a:=tE_half h0 (m:=n+k) (Rat.le_trans h (nx_mono (by omega)))
   have e:EP x (n+1+(k+1))=EP x (n+1+k)+tE x (n+k+1):=by
    show Sm (tE x) (n+1+k)+tE x (n+1+k)=_
    rw [show n+1+k=n+k+1 by omega]; rfl
   rw [e]
   show EP x (n+1+k)+tE x (n+k+1)+tE x (n+k+1)≤_
   grind
 have a:=key K
 have b:=EP_mono h0 (show K≤n+1+K by omega)
 have c:=tE_nonneg h0 (n+K)
 grind
theorem EP_four {x:Rat}(h0:0≤x)(h1:10*x≤11)(K:Nat):EP x K≤4:=by
 have t:=EP_tail h0 (n:=2) (by show 2*x≤(3:Rat); grind) K
 have e:EP x 3+tE x 2=1+x+x*x:=by
  have a:=tE_mul x 0
  have b:=tE_mul x 1
  have a':tE x 0*x=1*tE x 1:=a
  have b':tE x 1*x=2*tE x 2:=b
  have z:tE x 0=1:=rfl
  show 0+tE x 0+tE x 1+tE x 2+tE x 2=_
  rw [z] at a' ⊢
  have c:tE x 1=x:=by grind
  rw [c] at b' ⊢
  grind
 have m:=Rat.mul_le_mul_of_nonneg_left (c:=x) (show x≤11 / 10 by grind) h0
 grind
theorem lowT {p:Nat→Int}{T v1 v:Rat}{n:Nat}(hT:0<T)(h0:(p 0:Rat)≤T)(hv:0≤v1)(h1:v1≤v*T)(hp:0≤v)(hs:∀ j,j<n→(p (j+1):Rat)*(T*(nx j:Rat))≤(p j:Rat)*v1):∀ j,j≤n→(p j:Rat)≤tE v j*T:=by
 intro j
 induction j with
 | zero=>intro _; show (p 0:Rat)≤1*T; grind
 | succ j ih =>
  intro hj
  have a:=ih (by omega)
  have b:=hs j (by omega)
  have t:=tE_mul v j
  have m1:=Rat.mul_le_mul_of_nonneg_right a hv
  have m2:=Rat.mul_le_mul_of_nonneg_left h1 (Rat.mul_nonneg (tE_nonneg hp j) (Rat.le_of_lt hT))
  refine Rat.le_of_mul_le_mul_right (c:=T*(nx j:Rat)) ?_ (Rat.mul_pos hT (nx_pos j))
  have e:tE v (j+1)*T*(T*(nx j:Rat))=tE v j*T*(v*T):=by grind
  rw [e]
  exact Rat.le_trans b (Rat.le_trans m1 m2)
theorem highT {p:Nat→Int}{T v2 v:Rat}{n:Nat}(hT:0<T)(h0:T≤(p 0:Rat))(h1:v*T≤v2)(hp:0≤v)(hs:∀ j,j<n→(p j:Rat)*v2≤(p (j+1):Rat)*(T*(nx j:Rat))):∀ j,j≤n→tE v j*T≤(p j:Rat):=by
 intro j
 induction j with
 | zero=>intro _; show 1*T≤(p 0:Rat); grind
 | succ j ih =>
  intro hj
  have a:=ih (by omega)
  have b:=hs j (by omega)
  have t:=tE_mul v j
  have tn:=Rat.mul_nonneg (tE_nonneg hp j) (Rat.le_of_lt hT)
  have m1:=Rat.mul_le_mul_of_nonneg_right a (Rat.mul_nonneg hp (Rat.le_of_lt hT))
  have m2:=Rat.mul_le_mul_of_nonneg_left h1 (Rat.le_trans tn a)
  refine Rat.le_of_mul_le_mul_right (c:=T*(nx j:Rat)) ?_ (Rat.mul_pos hT (nx_pos j))
  have e:tE v (j+1)*T*(T*(nx j:Rat))=tE v j*T*(v*T):=by grind
  rw [e]
  exact Rat.le_trans m1 (Rat.le_trans m2 b)
theorem sumLow {p s:Nat→Int}{T v:Rat}{n:Nat}(hs0:s 0=p 0)(hs:∀ j,j<n→s (j+1)=s j+p (j+1))(h:∀ j,j≤n→(p j:Rat)≤tE v j*T):∀ j,j≤n→(s j:Rat)≤EP v (j+1)*T:=by
 intro j
 induction j with
 | zero =>
  intro _
  have a:=h 0 (by omega)
  rw [hs0]
  show _≤(0+tE v 0)*T
  grind
 | succ j ih =>
  intro hj
  have a:=ih (by omega)
  have b:=h (j+1) hj
  rw [hs j (by omega),Rat.intCast_add]
  show _≤(EP v (j+1)+tE v (j+1))*T
  grind
theorem sumHigh {p s:Nat→Int}{T v:Rat}{n:Nat}(hs0:s 0=p 0)(hs:∀ j,j<n→s (j+1)=s j+p (j+1))(h:∀ j,j≤n→tE v j*T≤(p j:Rat)):∀ j,j≤n→EP v (j+1)*T≤(s j:Rat):=by
 intro j
 induction j with
 | zero =>
  intro _
  have a:=h 0 (by omega)
  rw [hs0]
  show (0+tE v 0)*T≤_
  grind
 | succ j ih =>
  intro hj
  have a:=ih (by omega)
  have b:=h (j+1) hj
  rw [hs j (by omega),Rat.intCast_add]
  show (EP v (j+1)+tE v (j+1))*T≤_
  grind
def dbl (v:Rat):Nat→Rat
 | 0=>v
 | i+1=>dbl v i+dbl v i
theorem dbl_nonneg {v:Rat}(h:0≤v):∀ i,0≤dbl v i
 | 0=>h
 | i+1=>Rat.add_nonneg (dbl_nonneg h i) (dbl_nonneg h i)
theorem dbl_pow (v:Rat):∀ i,dbl v i=v*((2^i:Int):Rat)
 | 0=>by show v=v*((1:Int):Rat); rw [show ((1:Int):Rat)=1 from rfl]; grind
 | i+1=>by
  show dbl v i+dbl v i=_
  rw [dbl_pow v i,Int.pow_succ,Rat.intCast_mul,show ((2:Int):Rat)=2 from rfl]; grind
theorem sqLow {a:Nat→Int}{T v:Rat}{K h:Nat}(hT:0<T)(hp:0≤v)(pos:∀ i,i≤h→(0:Rat)≤(a i:Rat))(h0:(a 0:Rat)≤EP v K*T)(hs:∀ i,i<h→(a (i+1):Rat)*T≤(a i:Rat)*(a i:Rat)):∀ i,i≤h→(a i:Rat)≤EP (dbl v i) (2^i*K)*T:=by
 intro i
 induction i with
 | zero=>intro _; rw [Nat.pow_zero,Nat.one_mul]; exact h0
 | succ i ih =>
  intro hi
  have x:=ih (by omega)
  have y:=hs i (by omega)
  have p:=pos i (by omega)
  have d:=dbl_nonneg hp i
  have m:=(EP_mul d d (2^i*K)).2
  have en:=EP_nonneg d (2^i*K)
  have m1:=Rat.mul_le_mul_of_nonneg_left x p
  have m2:=Rat.mul_le_mul_of_nonneg_right x (Rat.mul_nonneg en (Rat.le_of_lt hT))
  have m3:=Rat.mul_le_mul_of_nonneg_right m (Rat.le_of_lt (Rat.mul_pos hT hT))
  refine Rat.le_of_mul_le_mul_right (c:=T) ?_ hT
  rw [show 2^(i+1)*K=2*(2^i*K) by rw [Nat.pow_succ]; grind]
  show _≤EP (dbl v i+dbl v i) (2*(2^i*K))*T*T
  generalize EP (dbl v i+dbl v i) (2*(2^i*K))=E2 at *
  generalize EP (dbl v i) (2^i*K)=E1 at *
  grind
theorem sqHigh {b:Nat→Int}{T v:Rat}{h:Nat}(hT:0<T)(hp:0≤v)(h0:∀ K,EP v K*T≤(b 0:Rat))(hs:∀ i,i<h→(b i:Rat)*(b i:Rat)≤(b (i+1):Rat)*T):∀ i,i≤h→∀ K,EP (dbl v i) K*T≤(b i:Rat):=by
 intro i
 induction i with
 | zero=>intro _ K; exact h0 K
 | succ i ih =>
  intro hi K
  have x:=ih (by omega) K
  have y:=hs i (by omega)
  have d:=dbl_nonneg hp i
  have m:=(EP_mul d d K).1
  have en:=Rat.mul_nonneg (EP_nonneg d K) (Rat.le_of_lt hT)
  have m1:=Rat.mul_le_mul_of_nonneg_left x en
  have m2:=Rat.mul_le_mul_of_nonneg_right x (Rat.le_trans en x)
  have m3:=Rat.mul_le_mul_of_nonneg_right m (Rat.le_of_lt (Rat.mul_pos hT hT))
  refine Rat.le_of_mul_le_mul_right (c:=T) ?_ hT
  show EP (dbl v i+dbl v i) K*T*T≤_
  generalize EP (dbl v i+dbl v i) K=E2 at *
  generalize EP (dbl v i) K=E1 at *
  grind
theorem one_pow_le {q:Rat}(h:1≤q):∀ n:Nat,1≤q^n
 | 0=>by rw [Rat.pow_zero]; exact Rat.le_refl
 | n+1=>by
  have a:=one_pow_le h n
  have m:=Rat.mul_le_mul_of_nonneg_left h (show (0:Rat)≤q^n by grind)
  rw [Rat.pow_succ]; grind
theorem bern {y:Rat}(h:0≤y):∀ n:Nat,(1+y)^n*(1-(n:Rat)*y)≤1
 | 0=>by rw [Rat.pow_zero,show ((0:Nat):Rat)=0 from rfl]; grind
 | n+1=>by
  have a:=bern h n
  have p:0≤(1+y)^n:=by have:=one_pow_le (q:=1+y) (by grind) n; grind
  have c:((n+1:Nat):Rat)=(n:Rat)+1:=by rw [Rat.natCast_add]; rfl
  have n0:(0:Rat)≤(n:Rat):=Rat.natCast_nonneg
  have q:(1+y)*(1-((n:Rat)+1)*y)≤1-(n:Rat)*y:=by
   have:=Rat.mul_nonneg (Rat.mul_nonneg h h) (show (0:Rat)≤(n:Rat)+1 by grind)
   grind
  have m:=Rat.mul_le_mul_of_nonneg_left q p
  rw [Rat.pow_succ,c]
  grind
theorem inv_bern {y:Rat}{n:Nat}(h:0≤y)(h2:2*((n:Rat)*y)≤1):(1+y)^n≤1+2*((n:Rat)*y):=by
 have b:=bern h n
 have n0:(0:Rat)≤(n:Rat)*y:=Rat.mul_nonneg Rat.natCast_nonneg h
 have p:0<1-(n:Rat)*y:=by grind
 refine Rat.le_of_mul_le_mul_right (c:=1-(n:Rat)*y) ?_ p
 have m:=Rat.mul_le_mul_of_nonneg_left (c:=(n:Rat)*y) (show 2*((n:Rat)*y)≤1 from h2) n0
 grind
end Go.Proofs.YtcbihoojfakhdaaGreatDoor

namespace Go.Proofs.YtcbihoojfakhdaaGreatDoor
theorem rpow_add (q:Rat)(m:Nat):∀ n:Nat,q^(m+n)=q^m*q^n
 | 0=>by rw [Nat.add_zero,Rat.pow_zero,Rat.mul_one]
 | n+1=>by rw [← Nat.add_assoc,Rat.pow_succ,Rat.pow_succ,rpow_add q m n,Rat.mul_assoc]
theorem k_step {u:Rat}(h0:0<u)(h3:3*u≤1):1+u≤(1-u)*(1+3*u):=by
 have:=Rat.mul_le_mul_of_nonneg_left h3 (Rat.le_of_lt h0)
 grind
theorem st_step {a b T u K:Rat}(hu0:0<u)(hu:u*T=1)(a0:T≤a)(k0:0≤K)(kT:K≤T)(hk:b≤a+K):b*(1+3*u)≤a*(1+(K+10)*u):=by
 have m1:=Rat.mul_le_mul_of_nonneg_right hk (show 0≤1+3*u by grind)
 have m2:=Rat.mul_le_mul_of_nonneg_right a0 (Rat.mul_nonneg (Rat.le_of_lt hu0) k0)
 have m3:=Rat.mul_le_mul_of_nonneg_right (Rat.le_trans kT a0) (Rat.le_of_lt hu0)
 have m4:=Rat.mul_le_mul_of_nonneg_right a0 (Rat.le_of_lt hu0)
 have e:T*(u*K)=K:=by rw [← Rat.mul_assoc,Rat.mul_comm T u,hu,Rat.one_mul]
 rw [e] at m2
 have f:a*(1+(K+10)*u)=a+a*(u*K)+10*(a*u):=by grind
 have g:(a+K)*(1+3*u)=a+K+3*(a*u)+3*(K*u):=by grind
 rw [f]; rw [g] at m1
 have h:T*u=1:=by rw [Rat.mul_comm]; exact hu
 rw [h] at m4
 generalize a*(u*K)=x1 at *
 generalize a*u=x2 at *
 generalize K*u=x3 at *
 grind
theorem pow_dbl (q:Rat)(i:Nat):q^(2^(i+1))=q^(2^i)*q^(2^i):=by
 rw [Nat.pow_succ,Nat.mul_two,rpow_add]
theorem sq_step {A B A' B' T u c Q:Rat}(hT:3≤T)(hu0:0<u)(hu:u*T=1)(hc:c=1+3*u)(hA:T≤A)(hB:T≤B)(hQ:0≤Q)
  (h1:A*A≤(A'+1)*T) (h2:(B'-1)*T≤B*B) (h3:B*c≤A*Q):B'*c≤A'*(Q*Q):=by
 have u3:3*u≤1:=by have:=Rat.mul_le_mul_of_nonneg_left hT (Rat.le_of_lt hu0); grind
 have au:1≤A*u:=by have:=Rat.mul_le_mul_of_nonneg_right hA (Rat.le_of_lt hu0); grind
 have bu:1≤B*u:=by have:=Rat.mul_le_mul_of_nonneg_right hB (Rat.le_of_lt hu0); grind
 have a2:1≤(A*u)*(A*u):=by have:=Rat.mul_le_mul_of_nonneg_left au (show 0≤A*u by grind); grind
 have b2:1≤(B*u)*(B*u):=by have:=Rat.mul_le_mul_of_nonneg_left bu (show 0≤B*u by grind); grind
 have e1:=Rat.mul_le_mul_of_nonneg_right h1 (Rat.le_of_lt hu0)
 have e2:=Rat.mul_le_mul_of_nonneg_right h2 (Rat.le_of_lt hu0)
 have f1:A*A*u*(1-u)≤A':=by
  have:(A'+1)*T*u=A'+1:=by grind
  grind
 have f2:B'≤B*B*u*(1+u):=by
  have:(B'-1)*T*u=B'-1:=by grind
  grind
 have B0:0≤B:=by grind
 have c0:0≤c:=by grind
 have BBu:0≤B*B*u:=Rat.mul_nonneg (Rat.mul_nonneg B0 B0) (Rat.le_of_lt hu0)
 have k:1+u≤(1-u)*c:=by rw [hc]; exact k_step hu0 u3
 have g1:=Rat.mul_le_mul_of_nonneg_right f2 c0
 have g2:=Rat.mul_le_mul_of_nonneg_left k (Rat.mul_nonneg BBu c0)
 have s1:=Rat.mul_le_mul_of_nonneg_left h3 (Rat.mul_nonneg B0 c0)
 have s2:=Rat.mul_le_mul_of_nonneg_right h3 (Rat.mul_nonneg (show 0≤A by grind) hQ)
 have s3:B*c*(B*c)≤A*Q*(A*Q):=Rat.le_trans s1 s2
 have g3:=Rat.mul_le_mul_of_nonneg_right s3 (Rat.mul_nonneg (Rat.le_of_lt hu0) (show 0≤1-u by grind))
 have g4:=Rat.mul_le_mul_of_nonneg_right f1 (Rat.mul_nonneg hQ hQ)
 grind
theorem sqRatio {a b:Nat→Int}{T u c q:Rat}{h:Nat}(hT:3≤T)(hu0:0<u)(hu:u*T=1)(hc:c=1+3*u)(hq:0≤q)(ha:∀ i,i≤h→T≤(a i:Rat))(hb:∀ i,i≤h→T≤(b i:Rat))
  (h1:∀ i,i<h→(a i:Rat)*(a i:Rat)≤((a (i+1):Rat)+1)*T) (h2:∀ i,i<h→((b (i+1):Rat)-1)*T≤(b i:Rat)*(b i:Rat)) (h0:(b 0:Rat)*c≤(a 0:Rat)*q) :
  ∀ i,i≤h→(b i:Rat)*c≤(a i:Rat)*q^(2^i):=by
 intro i
 induction i with
 | zero=>intro _; rw [Nat.pow_zero,Rat.pow_succ,Rat.pow_zero,Rat.one_mul]; exact h0
 | succ i ih =>
  intro hi
  rw [pow_dbl]
  exact sq_step hT hu0 hu hc (ha i (by omega)) (hb i (by omega)) (Rat.pow_nonneg hq) (h1 i (by omega)) (h2 i (by omega)) (ih (by omega))
theorem sqWidth {a b:Nat→Int}{T u K0:Rat}{h:Nat}(hT:3≤T)(hu0:0<u)(hu:u*T=1)(ha:∀ i,i≤h→T≤(a i:Rat))(hb:∀ i,i≤h→T≤(b i:Rat))
  (h1:∀ i,i<h→(a i:Rat)*(a i:Rat)≤((a (i+1):Rat)+1)*T) (h2:∀ i,i<h→((b (i+1):Rat)-1)*T≤(b i:Rat)*(b i:Rat)) (k0:0≤K0) (kT:K0≤T) (hk:(b 0:Rat)≤(a 0:Rat)+K0)
  (hm:2*(((2^h:Nat):Rat)*((K0+10)*u))≤1):(b h:Rat)≤(a h:Rat)*(1+2*(((2^h:Nat):Rat)*((K0+10)*u))):=by
 have y0:0≤(K0+10)*u:=Rat.mul_nonneg (by grind) (Rat.le_of_lt hu0)
 have a0:=ha 0 (by omega)
 have ah:=ha h (Nat.le_refl _)
 have bh:=hb h (Nat.le_refl _)
 have st:=st_step hu0 hu a0 k0 kT hk
 have r:=sqRatio hT hu0 hu rfl (show 0≤1+(K0+10)*u by grind) ha hb h1 h2 st h (Nat.le_refl _)
 have p:=inv_bern y0 hm
 have m:=Rat.mul_le_mul_of_nonneg_left p (show 0≤(a h:Rat) by grind)
 have n:=Rat.mul_nonneg (show 0≤(b h:Rat) by grind) (show 0≤3*u by grind)
 grind
theorem sum_step {p q p' q' v1 v2 T x t:Rat}(hT:0<T)(hx:1≤x)(h8:8*v2≤T)(hv:v1≤v2)(h1:p*v1≤(p'+2)*(T*x))(h2:(q'-2)*(T*x)≤q*v2)(hpq:p≤q)(ht0:0≤t)(ht:p≤t*T):8*(q'-p')≤(q-p)+8*(t*(v2-v1))+32:=by
 have Tx:0<T*x:=Rat.mul_pos hT (by grind)
 have m1:=Rat.mul_le_mul_of_nonneg_left h8 (show 0≤q-p by grind)
 have m2:=Rat.mul_le_mul_of_nonneg_right ht (show 0≤v2-v1 by grind)
 have tD:0≤t*(v2-v1):=Rat.mul_nonneg ht0 (by grind)
 have z:0≤(q-p)+8*(t*(v2-v1)):=by grind
 have m3:=Rat.mul_le_mul_of_nonneg_left hx (Rat.mul_nonneg z (Rat.le_of_lt hT))
 refine Rat.le_of_mul_le_mul_right (c:=T*x) ?_ Tx
 grind
theorem sumWidth {p q s r:Nat→Int}{T v1 v2 v:Rat}{n:Nat}(hT:0<T)(h8:8*v2≤T)(hv:v1≤v2)(hp:0≤v)(hs0:s 0=p 0)(hs:∀ j,j<n→s (j+1)=s j+p (j+1))(hr0:r 0=q 0)(hr:∀ j,j<n→r (j+1)=r j+q (j+1))
  (h0:p 0=q 0) (hpl:∀ j,j≤n→(p j:Rat)≤tE v j*T) (hqh:∀ j,j≤n→tE v j*T≤(q j:Rat)) (h1:∀ j,j<n→(p j:Rat)*v1≤((p (j+1):Rat)+2)*(T*(nx j:Rat))) (h2:∀ j,j<n→((q (j+1):Rat)-2)*(T*(nx j:Rat))≤(q j:Rat)*v2) :
  ∀ j,j≤n→7*((r j:Rat)-(s j:Rat))+((q j:Rat)-(p j:Rat))≤8*(EP v j*(v2-v1))+32*(j:Rat):=by
 intro j
 induction j with
 | zero =>
  intro _
  rw [hs0,hr0,h0,show ((0:Nat):Rat)=0 from rfl]
  show _≤8*((0:Rat)*(v2-v1))+32*0
  grind
 | succ j ih =>
  intro hj
  have a:=ih (by omega)
  have l:=hpl j (by omega)
  have st:=sum_step hT (show (1:Rat)≤(nx j:Rat) from nx_mono (a:=0) (by omega)) h8 hv (h1 j (by omega)) (h2 j (by omega)) (Rat.le_trans l (hqh j (by omega))) (tE_nonneg hp j) l
  rw [hs j (by omega),hr j (by omega),Rat.intCast_add,Rat.intCast_add,show ((j+1:Nat):Rat)=(j:Rat)+1 by rw [Rat.natCast_add]; rfl]
  show _≤8*((EP v j+tE v j)*(v2-v1))+32*((j:Rat)+1)
  grind
theorem sum_end {q:Nat→Int}{t:Nat}(h3:3≤t)(h0:q 0=2^t)(hs:∀ j,8≤q j→8*q (j+1)≤q j+16):∃ nn,1≤nn∧nn≤t∧∀ j,j<nn→(q (j+1)<8↔nn≤j+1):=by
 have ex:∃ j,j<t∧q (j+1)<8:=by
  refine Decidable.byContradiction fun hn=>?_
  have big:∀ j,j≤t→8≤q j:=by
   intro j hj
   cases j with
   | zero =>
    rw [h0]
    have:=Int.ofNat_le.2 (Nat.pow_le_pow_right (n:=2) (by omega) h3)
    rw [← pow_cast,← pow_cast] at this
    omega
   | succ j=>exact Decidable.byContradiction fun h=>hn ⟨j,by omega,by omega⟩
  have dec:∀ j,j≤t→q j*2^j≤2^t:=by
   intro j
   induction j with
   | zero=>intro _; rw [h0]; omega
   | succ j ih =>
    intro hj
    have a:=ih (by omega)
    have b:=big j (by omega)
    have c:=hs j b
    have p:=two_pos j
    have m:q (j+1)*2^j*2≤q j*2^j:=by
     have:=Int.mul_le_mul_of_nonneg_right (show q (j+1)*2≤q j by omega) (Int.le_of_lt p)
     rw [Int.mul_right_comm] at this
     exact this
    rw [Int.pow_succ,← Int.mul_assoc]
    omega
  have a:=dec t (Nat.le_refl _)
  have b:=big t (Nat.le_refl _)
  have p:=two_pos t
  have m:=Int.mul_le_mul_of_nonneg_right b (Int.le_of_lt p)
  omega
 obtain ⟨j0,hj0,hq0⟩:=ex
 obtain ⟨m,m1,m2,m3⟩:=least (P:=fun j=>q (j+1)<8) (n:=j0) hq0
 refine ⟨m+1,by omega,by omega,fun j hj=>⟨fun h=>?_,fun h=>?_⟩⟩
 ·exact Decidable.byContradiction fun hn=>m3 j (by omega) h
 ·rw [show j=m by omega]; exact m2
end Go.Proofs.YtcbihoojfakhdaaGreatDoor

namespace Go.Proofs.YtcbihoojfakhdaaGreatDoor
open Go.RowKit
set_option maxRecDepth 100000
set_option maxHeartbeats 2000000
theorem fl2 {A T n:Int}(hT:0<T)(hn:0<n):A / T / n*(T*n)≤A∧A≤(A / T / n+1)*(T*n):=by
 rw [Int.ediv_ediv_of_nonneg (Int.le_of_lt hT)]
 have p:=Int.mul_pos hT hn
 exact ⟨Int.ediv_mul_le _ oO,Int.le_of_lt (Int.lt_ediv_add_one_mul_self _ p)⟩
theorem ce2 {B T n:Int}(hT:0<T)(hn:0<n):B≤-(-(-(-B / T)) / n)*(T*n)∧(-(-(-(-B / T)) / n)-1)*(T*n)≤B:=by
 have f:=fl2 (A:=-B) hT hn
 rw [Int.neg_neg]
 generalize -B / T / n=g at *
 have e1:-g*(T*n)=-(g*(T*n)):=Int.neg_mul _ _
 have e2:(-g-1)*(T*n)=-((g+1)*(T*n)):=by rw [← Int.neg_mul]; congr 1; omega
 omega
theorem L_big {x:Int}{t:Nat}(h:x.natAbs<2^(t+20))(ht:t≤20000):L x.natAbs≤700:=L_pow2 h oO
theorem exm_facts {T v1 v2:Int}(hT:16≤T)(h1:0≤v1)(h12:v1≤v2)(h8:8*v2≤T)(j:Nat) :
  (0≤(exM T v1 v2 T j).1∧(exM T v1 v2 T j).1≤T∧0≤(exM T v1 v2 T j).2∧(exM T v1 v2 T j).2≤T):=by
 induction j with
 | zero=>show 0≤T∧T≤T∧0≤T∧T≤T; omega
 | succ j ih =>
  obtain ⟨a1,a2,b1,b2⟩:=ih
  show 0≤ptLo ((exM T v1 v2 T j).1*v1 / T) ((j:Int)+1)∧ptLo ((exM T v1 v2 T j).1*v1 / T) ((j:Int)+1)≤T∧0≤ptHi (-(-((exM T v1 v2 T j).2*v2) / T)) ((j:Int)+1)∧ptHi (-(-((exM T v1 v2 T j).2*v2) / T)) ((j:Int)+1)≤T
  generalize (exM T v1 v2 T j).1=p at *
  generalize (exM T v1 v2 T j).2=q at *
  have T0:0<T:=by omega
  have n0:(0:Int)<(j:Int)+1:=by omega
  have pv:=Int.mul_nonneg a1 h1
  have qv:=Int.mul_nonneg b1 (Int.le_trans h1 h12)
  have f0:=Int.ediv_nonneg pv (Int.le_of_lt T0)
  have c0:0≤-(-(q*v2) / T):=by have:=Int.ediv_le_ediv T0 (show -(q*v2)≤0 by omega); rw [Int.zero_ediv] at this; omega
  rw [ptLo_eq f0 n0,ptHi_eq c0 n0]
  have f:=fl2 (A:=p*v1) T0 n0
  have c:=ce2 (B:=q*v2) T0 n0
  have g0:0≤p*v1 / T / ((j:Int)+1):=Int.ediv_nonneg f0 (Int.le_of_lt n0)
  have d0:0≤-(-(-(-(q*v2) / T)) / ((j:Int)+1)):=by have:=Int.ediv_le_ediv n0 (show -(-(-(q*v2) / T))≤0 by omega); rw [Int.zero_ediv] at this; omega
  have Tn:T≤T*((j:Int)+1):=by have:=Int.mul_le_mul_of_nonneg_left (show (1:Int)≤(j:Int)+1 by omega) (Int.le_of_lt T0); omega
  have k1:p*v1≤T*v1:=Int.mul_le_mul_of_nonneg_right a2 h1
  have k2:q*v2≤T*v2:=Int.mul_le_mul_of_nonneg_right b2 (Int.le_trans h1 h12)
  generalize p*v1 / T / ((j:Int)+1)=g at *
  generalize -(-(-(-(q*v2) / T)) / ((j:Int)+1))=d at *
  generalize T*((j:Int)+1)=X at *
  have up:∀ z w:Int,0≤z→z*X≤w→w≤T*v2→z≤T:=by
   intro z w z0 zw wv
   refine Decidable.byContradiction fun hn=>?_
   have m1:=Int.mul_le_mul_of_nonneg_right (show T+1≤z by omega) (show 0≤X by omega)
   have m2:=Int.mul_le_mul_of_nonneg_left Tn (show 0≤T+1 by omega)
   have m3:=Int.mul_le_mul_of_nonneg_left (show v2≤T by omega) (Int.le_of_lt T0)
   rw [Int.add_mul] at m2
   omega
  refine ⟨g0,up g (p*v1) g0 f.1 (Int.le_trans k1 (Int.mul_le_mul_of_nonneg_left h12 (Int.le_of_lt T0))),d0,?_⟩
  by_cases hd:d=0
  ·omega
  ·refine Decidable.byContradiction fun hn=>?_
   have m1:=Int.mul_le_mul_of_nonneg_right (show T≤d-1 by omega) (show 0≤X by omega)
   have m2:=Int.mul_le_mul_of_nonneg_left Tn (Int.le_of_lt T0)
   have m3:=Int.mul_le_mul_of_nonneg_left h8 (Int.le_of_lt T0)
   have m4:=Int.mul_pos T0 T0
   rw [← Int.mul_assoc,Int.mul_comm T 8,Int.mul_assoc] at m3
   omega
theorem exm_next {T v1 v2:Int}(hT:16≤T)(h1:0≤v1)(h12:v1≤v2)(h8:8*v2≤T)(j:Nat) :
  ((exM T v1 v2 T (j+1)).1*(T*nx j)≤(exM T v1 v2 T j).1*v1∧(exM T v1 v2 T j).1*v1≤((exM T v1 v2 T (j+1)).1+2)*(T*nx j)) ∧
  ((exM T v1 v2 T j).2*v2≤(exM T v1 v2 T (j+1)).2*(T*nx j)∧((exM T v1 v2 T (j+1)).2-2)*(T*nx j)≤(exM T v1 v2 T j).2*v2)∧8*(exM T v1 v2 T (j+1)).2≤(exM T v1 v2 T j).2+16 ∧
  ((0≤(exM T v1 v2 T j).1*v1 / T∧(exM T v1 v2 T j).1*v1 / T≤T)∧0≤-(-((exM T v1 v2 T j).2*v2) / T)∧-(-((exM T v1 v2 T j).2*v2) / T)≤T+1):=by
 obtain ⟨a1,a2,b1,b2⟩:=exm_facts hT h1 h12 h8 j
 show (ptLo ((exM T v1 v2 T j).1*v1 / T) ((j:Int)+1)*(T*((j:Int)+1))≤_∧_≤(ptLo ((exM T v1 v2 T j).1*v1 / T) ((j:Int)+1)+2)*(T*((j:Int)+1)))∧(_≤ptHi (-(-((exM T v1 v2 T j).2*v2) / T)) ((j:Int)+1)*(T*((j:Int)+1))∧(ptHi (-(-((exM T v1 v2 T j).2*v2) / T)) ((j:Int)+1)-2)*(T*((j:Int)+1))≤_)∧8*ptHi (-(-((exM T v1 v2 T j).2*v2) / T)) ((j:Int)+1)≤_∧_
 generalize (exM T v1 v2 T j).1=p at *
 generalize (exM T v1 v2 T j).2=q at *
 have T0:0<T:=by omega
 have n0:(0:Int)<(j:Int)+1:=by omega
 have pv:=Int.mul_nonneg a1 h1
 have qv:=Int.mul_nonneg b1 (Int.le_trans h1 h12)
 have f0:=Int.ediv_nonneg pv (Int.le_of_lt T0)
 have c0:0≤-(-(q*v2) / T):=by have:=Int.ediv_le_ediv T0 (show -(q*v2)≤0 by omega); rw [Int.zero_ediv] at this; omega
 rw [ptLo_eq f0 n0,ptHi_eq c0 n0]
 have f:=fl2 (A:=p*v1) T0 n0
 have c:=ce2 (B:=q*v2) T0 n0
 have d0:0≤-(-(-(-(q*v2) / T)) / ((j:Int)+1)):=by have:=Int.ediv_le_ediv n0 (show -(-(-(q*v2) / T))≤0 by omega); rw [Int.zero_ediv] at this; omega
 have Tn:T≤T*((j:Int)+1):=by have:=Int.mul_le_mul_of_nonneg_left (show (1:Int)≤(j:Int)+1 by omega) (Int.le_of_lt T0); omega
 have k1:p*v1≤T*v1:=Int.mul_le_mul_of_nonneg_right a2 h1
 have k2:q*v2≤T*v2:=Int.mul_le_mul_of_nonneg_right b2 (Int.le_trans h1 h12)
 have k3:q*(8*v2)≤q*T:=Int.mul_le_mul_of_nonneg_left h8 b1
 have e1:p*v1 / T≤T:=by
  have a:=Int.ediv_mul_le (p*v1) (show T≠0 by omega)
  refine Decidable.byContradiction fun hn=>?_
  have m:=Int.mul_le_mul_of_nonneg_right (show T+1≤p*v1 / T by omega) (Int.le_of_lt T0)
  have m3:=Int.mul_le_mul_of_nonneg_left (show v1≤T by omega) (Int.le_of_lt T0)
  rw [Int.add_mul] at m
  omega
 have e2:-(-(q*v2) / T)≤T+1:=by
  have a:=Int.lt_ediv_add_one_mul_self (-(q*v2)) T0
  refine Decidable.byContradiction fun hn=>?_
  have m:=Int.mul_le_mul_of_nonneg_right (show -(q*v2) / T+1≤-T by omega) (Int.le_of_lt T0)
  have m3:=Int.mul_le_mul_of_nonneg_left (show v2≤T by omega) (Int.le_of_lt T0)
  rw [Int.neg_mul] at m
  omega
 have nxe:nx j=(j:Int)+1:=rfl
 generalize -(-(-(-(q*v2) / T)) / ((j:Int)+1))=d at *
 generalize p*v1 / T / ((j:Int)+1)=g at *
 generalize hX:T*((j:Int)+1)=X at *
 have X0:0≤X:=by omega
 have s1:(g+2)*X=(g+1)*X+X:=by rw [show g+2=g+1+1 by omega,Int.add_mul,Int.one_mul]
 have s2:(d-2)*X=(d-1)*X-X:=by rw [show d-2=d-1-1 by omega,Int.sub_mul,Int.one_mul]
 refine ⟨⟨f.1,by omega⟩,⟨c.1,by omega⟩,?_,⟨⟨f0,e1⟩,c0,e2⟩⟩
 by_cases hd:d=0
 ·omega
 ·have m1:=Int.mul_le_mul_of_nonneg_left Tn (show 0≤d-1 by omega)
  refine Decidable.byContradiction fun hn=>?_
  have m2:=Int.mul_le_mul_of_nonneg_right (show q+9≤8*d by omega) (Int.le_of_lt T0)
  rw [← Int.mul_assoc,Int.mul_comm q 8,Int.mul_assoc] at k3
  rw [Int.add_mul,Int.mul_assoc] at m2
  rw [Int.sub_mul,Int.one_mul] at m1
  omega
end Go.Proofs.YtcbihoojfakhdaaGreatDoor

namespace Go.Proofs.YtcbihoojfakhdaaGreatDoor
open Go.RowKit
set_option maxRecDepth 100000
set_option maxHeartbeats 2000000
theorem sqS_facts {a b T:Int}(hT:0<T)(i:Nat):(sqS a b T (i+1)).1*T≤(sqS a b T i).1*(sqS a b T i).1∧(sqS a b T i).1*(sqS a b T i).1<((sqS a b T (i+1)).1+1)*T ∧
  (sqS a b T i).2*(sqS a b T i).2≤(sqS a b T (i+1)).2*T∧((sqS a b T (i+1)).2-1)*T≤(sqS a b T i).2*(sqS a b T i).2:=by
 show (sqS a b T i).1*(sqS a b T i).1 / T*T≤_∧_<((sqS a b T i).1*(sqS a b T i).1 / T+1)*T∧_≤-(-((sqS a b T i).2*(sqS a b T i).2) / T)*T∧(-(-((sqS a b T i).2*(sqS a b T i).2) / T)-1)*T≤_
 generalize (sqS a b T i).1*(sqS a b T i).1=A
 generalize (sqS a b T i).2*(sqS a b T i).2=B
 have f1:=Int.ediv_mul_le A (show T≠0 by omega)
 have f2:=Int.lt_ediv_add_one_mul_self A hT
 have g1:=Int.ediv_mul_le (-B) (show T≠0 by omega)
 have g2:=Int.lt_ediv_add_one_mul_self (-B) hT
 generalize -B / T=z at *
 have e1:-z*T=-(z*T):=Int.neg_mul _ _
 have e2:(-z-1)*T=-((z+1)*T):=by rw [← Int.neg_mul]; congr 1; omega
 omega
theorem sqS_ge {a b T:Int}(hT:0<T)(ha:T≤a)(hb:T≤b):∀ i,T≤(sqS a b T i).1∧T≤(sqS a b T i).2
 | 0=>⟨ha,hb⟩
 | i+1=>by
  obtain ⟨x,y⟩:=sqS_ge hT ha hb i
  have f:=sqS_facts (a:=a) (b:=b) hT i
  have m1:=Int.mul_le_mul x x (Int.le_of_lt hT) oO
  have m2:=Int.mul_le_mul y y (Int.le_of_lt hT) oO
  generalize (sqS a b T i).1*(sqS a b T i).1=A at *
  generalize (sqS a b T i).2*(sqS a b T i).2=B at *
  constructor
  ·refine Decidable.byContradiction fun hn=>?_
   have m:=Int.mul_le_mul_of_nonneg_right (show (sqS a b T (i+1)).1+1≤T by omega) (Int.le_of_lt hT)
   omega
  ·refine Decidable.byContradiction fun hn=>?_
   have m3:=Int.mul_le_mul_of_nonneg_right (show (sqS a b T (i+1)).2≤T-1 by omega) (Int.le_of_lt hT)
   rw [Int.sub_mul] at m3
   omega
theorem saS_le {p:Nat→Int}{T:Int}(h:∀ j,0≤p j∧p j≤T):∀ j:Nat,0≤saS p j∧saS p j≤((j:Int)+1)*T∧p 0≤saS p j
 | 0=>by have:=h 0; show 0≤p 0∧p 0≤((0:Int)+1)*T∧p 0≤p 0; omega
 | j+1=>by
  have a:=saS_le h j
  have b:=h (j+1)
  show 0≤saS p j+p (j+1)∧saS p j+p (j+1)≤(((j+1:Nat):Int)+1)*T∧p 0≤saS p j+p (j+1)
  have e:(((j+1:Nat):Int)+1)*T=((j:Int)+1)*T+T:=by
   rw [show ((j+1:Nat):Int)=(j:Int)+1 from rfl,Int.add_mul _ 1 T,Int.one_mul]
  omega
end Go.Proofs.YtcbihoojfakhdaaGreatDoor

namespace Go.Proofs.YtcbihoojfakhdaaGreatDoor
open Go.RowKit
set_option maxRecDepth 100000
set_option maxHeartbeats 2000000
theorem dbl_mono {v:Rat}(hv:0≤v){h:Nat}:∀ k i,i+k=h→dbl v i≤dbl v h
 | 0,i,e=>by rw [Nat.add_zero] at e; rw [e]; exact Rat.le_refl
 | k+1,i,e=>by
  have a:=dbl_mono hv (h:=h) k (i+1) oO
  have b:=dbl_nonneg hv i
  have c:dbl v (i+1)=dbl v i+dbl v i:=rfl
  grind
theorem ex_sums {T v1 v2:Int}{nn:Nat}{v:Rat}(hT:16≤T)(hv1:0≤v1)(h12:v1≤v2)(h8:8*v2≤T)(e1:(v1:Rat)≤v*(T:Rat))(e2:v*(T:Rat)≤(v2:Rat))(hv0:0≤v) :
  (((saS (fun j=>(exM T v1 v2 T j).1) nn):Int):Rat)≤EP v (nn+1)*(T:Rat)∧(∀ K,EP v K*(T:Rat)≤(((saS (fun j=>(exM T v1 v2 T j).2) nn+(exM T v1 v2 T nn).2):Int):Rat))∧7*(saS (fun j=>(exM T v1 v2 T j).2) nn-saS (fun j=>(exM T v1 v2 T j).1) nn)≤32*(v2-v1)+32*(nn:Int):=by
 have T0:(0:Rat)<(T:Rat):=Rat.intCast_pos.2 oO
 have v1R:(0:Rat)≤(v1:Rat):=Rat.intCast_nonneg.2 hv1
 have nxt:=fun j=>exm_next hT hv1 h12 h8 j
 have v8:8*v≤1:=by
  have a:(8:Rat)*(v2:Rat)≤(T:Rat):=by
   have:=Rat.intCast_le_intCast.2 h8
   rw [Rat.intCast_mul] at this; exact this
  refine Rat.le_of_mul_le_mul_right (c:=(T:Rat)) ?_ T0
  grind
 have vD:(0:Rat)≤(v2:Rat)-(v1:Rat):=by have:=Rat.intCast_le_intCast.2 h12; grind
 have z0:(exM T v1 v2 T 0).1=T∧(exM T v1 v2 T 0).2=T:=⟨rfl,rfl⟩
 have L1:=lowT (p:=(fun j=>(exM T v1 v2 T j).1)) (T:=(T:Rat)) (v1:=(v1:Rat)) (v:=v) (n:=nn) T0 Rat.le_refl v1R e1 hv0 (fun j _=>by
  have a:=Rat.intCast_le_intCast.2 (nxt j).1.1
  simp only [Rat.intCast_mul] at a; exact a)
 have H1:=highT (p:=(fun j=>(exM T v1 v2 T j).2)) (T:=(T:Rat)) (v2:=(v2:Rat)) (v:=v) (n:=nn) T0 Rat.le_refl e2 hv0 (fun j _=>by
  have a:=Rat.intCast_le_intCast.2 (nxt j).2.1.1
  simp only [Rat.intCast_mul] at a; exact a)
 have SL:=sumLow (p:=(fun j=>(exM T v1 v2 T j).1)) (s:=saS (fun j=>(exM T v1 v2 T j).1)) (n:=nn) rfl (fun j _=>rfl) L1 nn (Nat.le_refl _)
 have SH:=sumHigh (p:=(fun j=>(exM T v1 v2 T j).2)) (s:=saS (fun j=>(exM T v1 v2 T j).2)) (n:=nn) rfl (fun j _=>rfl) H1 nn (Nat.le_refl _)
 have HL:=H1 nn (Nat.le_refl _)
 have W:=sumWidth (p:=(fun j=>(exM T v1 v2 T j).1)) (q:=(fun j=>(exM T v1 v2 T j).2)) (s:=saS (fun j=>(exM T v1 v2 T j).1)) (r:=saS (fun j=>(exM T v1 v2 T j).2)) (T:=(T:Rat)) (v1:=(v1:Rat)) (v2:=(v2:Rat)) (v:=v) (n:=nn) T0 (by
   have:=Rat.intCast_le_intCast.2 h8
   rw [Rat.intCast_mul] at this; exact this) (Rat.intCast_le_intCast.2 h12) hv0 rfl (fun j _=>rfl) rfl (fun j _=>rfl) rfl L1 H1
  (fun j _=>by
   have a:=Rat.intCast_le_intCast.2 (nxt j).1.2
   simp only [Rat.intCast_mul,Rat.intCast_add] at a; exact a)
  (fun j _=>by
   have a:=Rat.intCast_le_intCast.2 (nxt j).2.1.2
   simp only [Rat.intCast_mul,Rat.intCast_sub] at a; exact a) nn (Nat.le_refl _)
 have LL:=L1 nn (Nat.le_refl _)
 refine ⟨SL,fun K=>?_,?_⟩
 ·have t:=EP_tail hv0 (n:=nn) (Rat.le_trans (show 2*v≤1 by grind) (show (1:Rat)≤(nx nn:Rat) from nx_mono (a:=0) oO)) K
  have m:=Rat.mul_le_mul_of_nonneg_right t (Rat.le_of_lt T0)
  rw [Rat.intCast_add]
  have HL:tE v nn*(T:Rat)≤(((exM T v1 v2 T nn).2:Int):Rat):=HL
  grind
 ·have f:=EP_four hv0 (show 10*v≤11 by grind) nn
  have m:=Rat.mul_le_mul_of_nonneg_right f vD
  refine Rat.intCast_le_intCast.1 ?_
  simp only [Rat.intCast_mul,Rat.intCast_add,Rat.intCast_sub]
  have HL:tE v nn*(T:Rat)≤(((exM T v1 v2 T nn).2:Int):Rat):=HL
  have LL:(((exM T v1 v2 T nn).1:Int):Rat)≤tE v nn*(T:Rat):=LL
  have W:7*(((saS (fun j=>(exM T v1 v2 T j).2) nn:Int):Rat)-((saS (fun j=>(exM T v1 v2 T j).1) nn:Int):Rat))+((((exM T v1 v2 T nn).2:Int):Rat)-(((exM T v1 v2 T nn).1:Int):Rat))≤8*(EP v nn*((v2:Rat)-(v1:Rat)))+32*(nn:Rat):=W
  have c7:((7:Int):Rat)=7:=rfl
  have c32:((32:Int):Rat)=32:=rfl
  have cn:(((nn:Int)):Rat)=(nn:Rat):=rfl
  rw [c7,c32,cn]
  grind
theorem ex_plain {T v1 v2 K0:Int}{h nn:Nat}{v:Rat}(hT:16≤T)(hv1:0≤v1)(h12:v1≤v2)(h8:8*v2≤T)(e1:(v1:Rat)≤v*(T:Rat))(e2:v*(T:Rat)≤(v2:Rat))(hv0:0≤v)(hx:10*dbl v h≤11)
  (hl:(exM T v1 v2 T nn).2≤8) (hK:5*(v2-v1)+5*(nn:Int)+8≤K0) (hm:2*(2^h*(K0+10))≤T) :
  (∀ i,i≤h→(T≤(sqS (saS (fun j=>(exM T v1 v2 T j).1) nn) (saS (fun j=>(exM T v1 v2 T j).2) nn+(exM T v1 v2 T nn).2) T i).1∧(sqS (saS (fun j=>(exM T v1 v2 T j).1) nn) (saS (fun j=>(exM T v1 v2 T j).2) nn+(exM T v1 v2 T nn).2) T i).1≤4*T)∧T≤(sqS (saS (fun j=>(exM T v1 v2 T j).1) nn) (saS (fun j=>(exM T v1 v2 T j).2) nn+(exM T v1 v2 T nn).2) T i).2∧(sqS (saS (fun j=>(exM T v1 v2 T j).1) nn) (saS (fun j=>(exM T v1 v2 T j).2) nn+(exM T v1 v2 T nn).2) T i).2≤8*T)∧(∃ N,(((sqS (saS (fun j=>(exM T v1 v2 T j).1) nn) (saS (fun j=>(exM T v1 v2 T j).2) nn+(exM T v1 v2 T nn).2) T h).1:Int):Rat)≤EP (dbl v h) N*(T:Rat))∧(∀ K,EP (dbl v h) K*(T:Rat)≤(((sqS (saS (fun j=>(exM T v1 v2 T j).1) nn) (saS (fun j=>(exM T v1 v2 T j).2) nn+(exM T v1 v2 T nn).2) T h).2:Int):Rat))∧(sqS (saS (fun j=>(exM T v1 v2 T j).1) nn) (saS (fun j=>(exM T v1 v2 T j).2) nn+(exM T v1 v2 T nn).2) T h).2-(sqS (saS (fun j=>(exM T v1 v2 T j).1) nn) (saS (fun j=>(exM T v1 v2 T j).2) nn+(exM T v1 v2 T nn).2) T h).1≤8*(2^h*(K0+10)):=by
 obtain ⟨SL,SH,W⟩:=ex_sums (nn:=nn) hT hv1 h12 h8 e1 e2 hv0
 have T0:(0:Rat)<(T:Rat):=Rat.intCast_pos.2 oO
 have f1:=saS_le (p:=(fun j=>(exM T v1 v2 T j).1)) (T:=T) (fun j=>by have:=exm_facts hT hv1 h12 h8 j; exact ⟨this.1,this.2.1⟩) nn
 have f2:=saS_le (p:=(fun j=>(exM T v1 v2 T j).2)) (T:=T) (fun j=>by have:=exm_facts hT hv1 h12 h8 j; exact ⟨this.2.2.1,this.2.2.2⟩) nn
 have f3:=(exm_facts hT hv1 h12 h8 nn).2.2.1
 have f1:T≤(saS (fun j=>(exM T v1 v2 T j).1) nn):=f1.2.2
 have f2:T≤(saS (fun j=>(exM T v1 v2 T j).2) nn+(exM T v1 v2 T nn).2):=by have:=f2.2.2; have:T≤saS (fun j=>(exM T v1 v2 T j).2) nn:=this; omega
 have w:(saS (fun j=>(exM T v1 v2 T j).2) nn+(exM T v1 v2 T nn).2)≤(saS (fun j=>(exM T v1 v2 T j).1) nn)+K0:=by omega
 generalize (saS (fun j=>(exM T v1 v2 T j).1) nn)=fa at *
 generalize (saS (fun j=>(exM T v1 v2 T j).2) nn+(exM T v1 v2 T nn).2)=fb at *
 have TI:0<T:=by omega
 have ge:=fun i=>sqS_ge (a:=fa) (b:=fb) TI f1 f2 i
 have sf:=fun i=>sqS_facts (a:=fa) (b:=fb) TI i
 have geR1:∀ i,(T:Rat)≤(((sqS fa fb T i).1:Int):Rat):=fun i=>Rat.intCast_le_intCast.2 (ge i).1
 have geR2:∀ i,(T:Rat)≤(((sqS fa fb T i).2:Int):Rat):=fun i=>Rat.intCast_le_intCast.2 (ge i).2
 have lo:=sqLow (a:=fun i=>(sqS fa fb T i).1) (T:=(T:Rat)) (v:=v) (K:=nn+1) (h:=h) T0 hv0 (fun i _=>Rat.le_trans (Rat.le_of_lt T0) (geR1 i)) SL (fun i _=>by
  have a:=Rat.intCast_le_intCast.2 (sf i).1
  simp only [Rat.intCast_mul] at a; exact a)
 have hi:=sqHigh (b:=fun i=>(sqS fa fb T i).2) (T:=(T:Rat)) (v:=v) (h:=h) T0 hv0 SH (fun i _=>by
  have a:=Rat.intCast_le_intCast.2 (sf i).2.2.1
  simp only [Rat.intCast_mul] at a; exact a)
 have four:∀ i,i≤h→(((sqS fa fb T i).1:Int):Rat)≤4*(T:Rat):=fun i hi=>by
  have a:=lo i hi
  have b:=dbl_mono hv0 (h:=h) (h-i) i oO
  have c:=EP_four (dbl_nonneg hv0 i) (show 10*dbl v i≤11 by grind) (2^i*(nn+1))
  exact Rat.le_trans a (Rat.mul_le_mul_of_nonneg_right c (Rat.le_of_lt T0))
 have u0:(0:Rat)<(T:Rat)⁻¹:=Rat.inv_pos.2 T0
 have uT:(T:Rat)⁻¹*(T:Rat)=1:=Rat.inv_mul_cancel _ (by grind)
 have p0:=two_pos h
 have K00:0≤K0:=by omega
 have kT:K0≤T:=by
  have:=Int.mul_le_mul_of_nonneg_right (show (1:Int)≤2^h by omega) (show 0≤K0+10 by omega)
  omega
 have mR:∀ i,i≤h→2*(((2^i:Nat):Rat)*(((K0:Rat)+10)*(T:Rat)⁻¹))≤1:=fun i hi=>by
  have a:2*((((2^i:Nat):Int):Rat)*((K0:Rat)+10))≤(T:Rat):=by
   have q:2*(((2^i:Nat):Int)*(K0+10))≤T:=by
    have:=Int.mul_le_mul_of_nonneg_right (Int.ofNat_le.2 (Nat.pow_le_pow_right (n:=2) oO hi)) (show 0≤K0+10 by omega)
    rw [pow_cast] at hm
    omega
   have:=Rat.intCast_le_intCast.2 q
   simp only [Rat.intCast_mul,Rat.intCast_add] at this
   exact this
  have b:=Rat.mul_le_mul_of_nonneg_right a (Rat.le_of_lt u0)
  have c:(((2^i:Nat):Int):Rat)=((2^i:Nat):Rat):=rfl
  rw [c] at b
  grind
 have wid:∀ i,i≤h→(((sqS fa fb T i).2:Int):Rat)≤(((sqS fa fb T i).1:Int):Rat)*(1+2*(((2^i:Nat):Rat)*(((K0:Rat)+10)*(T:Rat)⁻¹))):=fun i hi =>
  sqWidth (a:=fun i=>(sqS fa fb T i).1) (b:=fun i=>(sqS fa fb T i).2) (T:=(T:Rat)) (u:=(T:Rat)⁻¹) (K0:=(K0:Rat)) (h:=i) (Rat.intCast_le_intCast.2 (show (3:Int)≤T by omega)) u0 uT (fun i _=>geR1 i) (fun i _=>geR2 i)
   (fun i _=>by
    have a:=Rat.intCast_le_intCast.2 (Int.le_of_lt (sf i).2.1)
    simp only [Rat.intCast_mul,Rat.intCast_add] at a; exact a)
   (fun i _=>by
    have a:=Rat.intCast_le_intCast.2 (sf i).2.2.2
    simp only [Rat.intCast_mul,Rat.intCast_sub] at a; exact a)
   (Rat.intCast_nonneg.2 K00) (Rat.intCast_le_intCast.2 kT) (by
    have a:=Rat.intCast_le_intCast.2 w
    rw [Rat.intCast_add] at a; exact a) (mR i hi)
 refine ⟨fun i hi'=>⟨⟨(ge i).1,?_⟩,(ge i).2,?_⟩,⟨_,lo h (Nat.le_refl _)⟩,hi h (Nat.le_refl _),?_⟩
 ·refine Rat.intCast_le_intCast.1 ?_
  rw [Rat.intCast_mul]; exact four i hi'
 ·refine Rat.intCast_le_intCast.1 ?_
  rw [Rat.intCast_mul,show ((8:Int):Rat)=8 from rfl]
  have a:=wid i hi'
  have b:=Rat.mul_le_mul_of_nonneg_left (mR i hi') (Rat.le_trans (Rat.le_of_lt T0) (geR1 i))
  have c:=four i hi'
  grind
 ·refine Rat.intCast_le_intCast.1 ?_
  have a:=wid h (Nat.le_refl _)
  have c:=four h (Nat.le_refl _)
  have q0:(0:Rat)≤2*(((2^h:Nat):Rat)*(((K0:Rat)+10)*(T:Rat)⁻¹)):=by
   have k0:(0:Rat)≤(K0:Rat):=Rat.intCast_nonneg.2 K00
   have:=Rat.mul_nonneg (Rat.natCast_nonneg (a:=2^h)) (Rat.mul_nonneg (show (0:Rat)≤(K0:Rat)+10 by grind) (Rat.le_of_lt u0))
   grind
  have m:=Rat.mul_le_mul_of_nonneg_right c q0
  have e:4*(T:Rat)*(2*(((2^h:Nat):Rat)*(((K0:Rat)+10)*(T:Rat)⁻¹)))=8*(((2^h:Nat):Rat)*((K0:Rat)+10)):=by grind
  rw [e] at m
  rw [pow_cast]
  simp only [Rat.intCast_mul,Rat.intCast_add,Rat.intCast_sub]
  have c8:((8:Int):Rat)=8:=rfl
  have c10:((10:Int):Rat)=10:=rfl
  have cp:(((2^h:Nat):Int):Rat)=((2^h:Nat):Rat):=rfl
  rw [c8,c10,cp]
  grind
end Go.Proofs.YtcbihoojfakhdaaGreatDoor

namespace Go.Proofs.YtcbihoojfakhdaaGreatDoor
open Go.RowKit
set_option maxRecDepth 100000
set_option maxHeartbeats 2000000
theorem shl_half (x:Int)(h:Nat):x*2^(h+24) / 2^h=x*16777216∧-(-(x*2^(h+24)) / 2^h)=x*16777216:=by
 have e:x*2^(h+24)=x*16777216*2^h:=by
  rw [Int.pow_add,show (2:Int)^24=16777216 from rfl,Int.mul_comm (2^h),Int.mul_assoc]
 have p:=two_pos h
 rw [e]
 constructor
 ·exact Int.mul_ediv_cancel _ oO
 ·rw [← Int.neg_mul,Int.mul_ediv_cancel _ oO]; omega
theorem hh_of (sc:Int)(hs:0≤sc∧sc≤9000):∃ hh:Int,(4≤hh∧hh≤100)∧(∀ i:Int,4≤i→i<hh→i*i<sc)∧sc≤hh*hh:=by
 obtain ⟨n,h1,h2,h3⟩:=least (P:=fun n:Nat=>sc≤((n:Int)+4)*((n:Int)+4)) (n:=96) (show sc≤(((96:Nat):Int)+4)*(((96:Nat):Int)+4) by omega)
 refine ⟨(n:Int)+4,by omega,fun i a b=>?_,h2⟩
 obtain ⟨j,hj⟩:∃ j:Nat,(j:Int)+4=i:=⟨(i-4).toNat,by omega⟩
 have:=h3 j oO
 rw [hj] at this
 omega
theorem fx_expE (x1 x2 sc:Int)(x:Rat)(hs:0≤sc∧sc≤9000)(e1:(x1:Rat)≤x*((2^sc.toNat:Int):Rat))(e2:x*((2^sc.toNat:Int):Rat)≤(x2:Rat))(hx1:0≤x1)(hx2:10*x2≤11*2^sc.toNat)(hW:16*(x2-x1+1)≤2^sc.toNat) :
  ∃ r1 r2:Int,Impl Tryz.prog Amb 232 [(sV x1 x2),(.int .i64 sc)] (sV r1 r2)∧Encl (EP x) sc.toNat r1 r2∧r2-r1≤40*(x2-x1)+4∧(0≤r1∧r2≤9*2^sc.toNat):=by
 obtain ⟨hh,h4,h5,h6⟩:=hh_of sc hs
 obtain ⟨h,hh_⟩:∃ h:Nat,(h:Int)=hh:=⟨hh.toNat,by omega⟩
 have hhn:hh.toNat=h:=by omega
 have tn:((sc+hh)+24).toNat=sc.toNat+h+24:=by omega
 have tsn:(((sc+hh)+24)-sc).toNat=h+24:=by omega
 have P0:=two_pos sc.toNat
 have Q0:=two_pos h
 have Q16:(16:Int)≤2^h:=by
  have:=Int.ofNat_le.2 (Nat.pow_le_pow_right (n:=2) oO (show 4≤h by omega))
  rw [← pow_cast,← pow_cast] at this
  exact this
 have TF:(2:Int)^((sc+hh)+24).toNat=2^sc.toNat*2^h*16777216:=by
  rw [tn,Int.pow_add,Int.pow_add]; rfl
 have PQ:=Int.mul_le_mul_of_nonneg_left Q16 (Int.le_of_lt P0)
 have x12:x1≤x2:=Rat.intCast_le_intCast.1 (Rat.le_trans e1 e2)
 have hT16:(16:Int)≤(2^((sc+hh)+24).toNat):=by rw [TF]; omega
 have h8:8*(x2*16777216)≤(2^((sc+hh)+24).toNat):=by rw [TF]; omega
 have hv1:0≤(x1*16777216):=by omega
 have h12:(x1*16777216)≤(x2*16777216):=by omega
 -- the number of terms
 obtain ⟨nn,n1,n2,n3⟩:=sum_end (q:=(fun i=>(exM (2^((sc+hh)+24).toNat) (x1*16777216) (x2*16777216) (2^((sc+hh)+24).toNat) i).2)) (t:=((sc+hh)+24).toNat) oO rfl (fun j _=>(exm_next hT16 hv1 h12 h8 j).2.2.1)
 have hl:(exM (2^((sc+hh)+24).toNat) (x1*16777216) (x2*16777216) (2^((sc+hh)+24).toNat) nn).2≤8:=by
  have:=(n3 (nn-1) oO).2 oO
  rw [show nn-1+1=nn by omega] at this
  have:(exM (2^((sc+hh)+24).toNat) (x1*16777216) (x2*16777216) (2^((sc+hh)+24).toNat) nn).2<8:=this
  omega
 -- the argument of the sum
 have PR:(0:Rat)<((2^sc.toNat:Int):Rat):=Rat.intCast_pos.2 P0
 have QR:(0:Rat)<((2^h:Int):Rat):=Rat.intCast_pos.2 Q0
 have TR:(((2^((sc+hh)+24).toNat):Int):Rat)=((2^sc.toNat:Int):Rat)*((2^h:Int):Rat)*16777216:=by rw [TF,Rat.intCast_mul,Rat.intCast_mul]; rfl
 have x0:0≤x:=by
  refine Rat.le_of_mul_le_mul_right (c:=((2^sc.toNat:Int):Rat)) ?_ PR
  rw [Rat.zero_mul]
  exact Rat.le_trans (Rat.intCast_nonneg.2 hx1) e1
 have x11:10*x≤11:=by
  refine Rat.le_of_mul_le_mul_right (c:=((2^sc.toNat:Int):Rat)) ?_ PR
  have:=Rat.intCast_le_intCast.2 hx2
  simp only [Rat.intCast_mul] at this
  have:(10:Rat)*(x2:Rat)≤11*((2^sc.toNat:Int):Rat):=this
  grind
 have vq:x / ((2^h:Int):Rat)*((2^h:Int):Rat)=x:=Rat.div_mul_cancel (by grind)
 have v0:0≤x / ((2^h:Int):Rat):=by rw [Rat.div_def]; exact Rat.mul_nonneg x0 (Rat.le_of_lt (Rat.inv_pos.2 QR))
 generalize hv:x / ((2^h:Int):Rat)=v at *
 have dv_:dbl v h=x:=by rw [dbl_pow]; exact vq
 have g1:(((x1*16777216):Int):Rat)≤v*(((2^((sc+hh)+24).toNat):Int):Rat):=by
  rw [TR,Rat.intCast_mul,show ((16777216:Int):Rat)=16777216 from rfl]
  have e:v*(((2^sc.toNat:Int):Rat)*((2^h:Int):Rat)*16777216)=x*((2^sc.toNat:Int):Rat)*16777216:=by rw [← vq]; grind
  rw [e]; exact Rat.mul_le_mul_of_nonneg_right e1 (by decide)
 have g2:v*(((2^((sc+hh)+24).toNat):Int):Rat)≤(((x2*16777216):Int):Rat):=by
  rw [TR,Rat.intCast_mul,show ((16777216:Int):Rat)=16777216 from rfl]
  have e:v*(((2^sc.toNat:Int):Rat)*((2^h:Int):Rat)*16777216)=x*((2^sc.toNat:Int):Rat)*16777216:=by rw [← vq]; grind
  rw [e]; exact Rat.mul_le_mul_of_nonneg_right e2 (by decide)
 have hm:2*(2^h*((5*((x2*16777216)-(x1*16777216))+5*(nn:Int)+8)+10))≤(2^((sc+hh)+24).toNat):=by
  have a:2*((5*((x2*16777216)-(x1*16777216))+5*(nn:Int)+8)+10)≤2^sc.toNat*16777216:=by omega
  have b:=Int.mul_le_mul_of_nonneg_left a (Int.le_of_lt Q0)
  rw [TF]
  have c1:(2:Int)^h*(2*((5*((x2*16777216)-(x1*16777216))+5*(nn:Int)+8)+10))=2*(2^h*((5*((x2*16777216)-(x1*16777216))+5*(nn:Int)+8)+10)):=by rw [← Int.mul_assoc,Int.mul_comm (2^h) 2,Int.mul_assoc]
  have c2:(2:Int)^h*(2^sc.toNat*16777216)=2^sc.toNat*2^h*16777216:=by rw [← Int.mul_assoc,Int.mul_comm (2^h)]
  omega
 have R:=ex_plain (h:=h) (nn:=nn) (K0:=5*((x2*16777216)-(x1*16777216))+5*(nn:Int)+8) hT16 hv1 h12 h8 g1 g2 v0 (by rw [dv_]; exact x11) hl (Int.le_refl _) hm
 rw [dv_] at R
 obtain ⟨sz,⟨N,lo⟩,hi,wd⟩:=R
 have ef:=fun j=>exm_facts hT16 hv1 h12 h8 j
 have en:=fun j=>exm_next hT16 hv1 h12 h8 j
 have s1:=fun j=>saS_le (p:=(fun i=>(exM (2^((sc+hh)+24).toNat) (x1*16777216) (x2*16777216) (2^((sc+hh)+24).toNat) i).1)) (T:=(2^((sc+hh)+24).toNat)) (fun j=>⟨(ef j).1,(ef j).2.1⟩) j
 have s2:=fun j=>saS_le (p:=(fun i=>(exM (2^((sc+hh)+24).toNat) (x1*16777216) (x2*16777216) (2^((sc+hh)+24).toNat) i).2)) (T:=(2^((sc+hh)+24).toNat)) (fun j=>⟨(ef j).2.2.1,(ef j).2.2.2⟩) j
 have sT:∀ j:Nat,j≤nn→((j:Int)+1)*(2^((sc+hh)+24).toNat)≤10000*(2^((sc+hh)+24).toNat):=fun j hj=>Int.mul_le_mul_of_nonneg_right oO oO
 have Lb:∀ y:Int,-(20000*(2^((sc+hh)+24).toNat))≤y→y≤20000*(2^((sc+hh)+24).toNat)→L y.natAbs≤700:=fun y a b=>by
  refine L_big (t:=((sc+hh)+24).toNat) ?_ oO
  have e:((2^(((sc+hh)+24).toNat+20):Nat):Int)=(2^((sc+hh)+24).toNat)*1048576:=by rw [← pow_cast,Int.pow_add]; rfl
  omega
 have hTw:=fx_Twice x1 x2 (((sc+hh)+24)-sc) (Nat.le_trans (Lb x1 oO oO) oO) (Nat.le_trans (Lb x2 oO oO) oO) oO
 rw [tsn] at hTw
 have wb:0≤x1*2^(h+24)∧x1*2^(h+24)≤2*(2^((sc+hh)+24).toNat)∧0≤x2*2^(h+24)∧x2*2^(h+24)≤2*(2^((sc+hh)+24).toNat):=by
  have w:=two_pos (h+24)
  have a:=Int.mul_nonneg hx1 (Int.le_of_lt w)
  have b:=Int.mul_le_mul_of_nonneg_right x12 (Int.le_of_lt w)
  have c:=Int.mul_le_mul_of_nonneg_right (show x2≤2*2^sc.toNat by omega) (Int.le_of_lt w)
  have d:(2:Int)*2^sc.toNat*2^(h+24)=2*(2^((sc+hh)+24).toNat):=by rw [tn,Int.mul_assoc,← Int.pow_add,Nat.add_assoc]
  omega
 have hHf:=fx_Half (x1*2^(h+24)) (x2*2^(h+24)) hh (Nat.le_trans (Lb _ oO oO) oO) (Nat.le_trans (Lb _ oO oO) oO) oO
 rw [hhn,(shl_half x1 h).1,(shl_half x2 h).2] at hHf
 have hO:=fx_One ((sc+hh)+24) oO
 rw [Int.one_mul] at hO
 have lv1:L (x1*16777216).natAbs≤700:=Lb _ oO oO
 have lv2:L (x2*16777216).natAbs≤700:=Lb _ oO oO
 have l1:∀ j,L ((exM (2^((sc+hh)+24).toNat) (x1*16777216) (x2*16777216) (2^((sc+hh)+24).toNat) j).1).natAbs≤700:=fun j=>by have:=ef j; exact Lb _ oO oO
 have l2:∀ j,L ((exM (2^((sc+hh)+24).toNat) (x1*16777216) (x2*16777216) (2^((sc+hh)+24).toNat) j).2).natAbs≤700:=fun j=>by have:=ef j; exact Lb _ oO oO
 have m1:∀ j,L ((exM (2^((sc+hh)+24).toNat) (x1*16777216) (x2*16777216) (2^((sc+hh)+24).toNat) j).1*(x1*16777216) / (2^((sc+hh)+24).toNat)).natAbs≤700:=fun j=>by have:=(en j).2.2.2; exact Lb _ oO oO
 have m2:∀ j,L (-(-((exM (2^((sc+hh)+24).toNat) (x1*16777216) (x2*16777216) (2^((sc+hh)+24).toNat) j).2*(x2*16777216)) / (2^((sc+hh)+24).toNat))).natAbs≤700:=fun j=>by have:=(en j).2.2.2; exact Lb _ oO oO
 have a1:∀ j,j≤nn→L (saS (fun i=>(exM (2^((sc+hh)+24).toNat) (x1*16777216) (x2*16777216) (2^((sc+hh)+24).toNat) i).1) j).natAbs≤700:=fun j hj=>by have:=s1 j; have:=sT j hj; exact Lb _ oO oO
 have a2:∀ j,j≤nn→L (saS (fun i=>(exM (2^((sc+hh)+24).toNat) (x1*16777216) (x2*16777216) (2^((sc+hh)+24).toNat) i).2) j).natAbs≤700:=fun j hj=>by have:=s2 j; have:=sT j hj; exact Lb _ oO oO
 have q1:∀ i,i≤h→L ((sqS (saS (fun i=>(exM (2^((sc+hh)+24).toNat) (x1*16777216) (x2*16777216) (2^((sc+hh)+24).toNat) i).1) nn) (saS (fun i=>(exM (2^((sc+hh)+24).toNat) (x1*16777216) (x2*16777216) (2^((sc+hh)+24).toNat) i).2) nn+(exM (2^((sc+hh)+24).toNat) (x1*16777216) (x2*16777216) (2^((sc+hh)+24).toNat) nn).2) (2^((sc+hh)+24).toNat) i).1).natAbs≤700:=fun i hi=>by have:=sz i hi; exact Lb _ oO oO
 have q2:∀ i,i≤h→L ((sqS (saS (fun i=>(exM (2^((sc+hh)+24).toNat) (x1*16777216) (x2*16777216) (2^((sc+hh)+24).toNat) i).1) nn) (saS (fun i=>(exM (2^((sc+hh)+24).toNat) (x1*16777216) (x2*16777216) (2^((sc+hh)+24).toNat) i).2) nn+(exM (2^((sc+hh)+24).toNat) (x1*16777216) (x2*16777216) (2^((sc+hh)+24).toNat) nn).2) (2^((sc+hh)+24).toNat) i).2).natAbs≤700:=fun i hi=>by have:=sz i hi; exact Lb _ oO oO
 have C:=fx_exp0 x1 x2 sc hh _ _ _ _ ((sqS (saS (fun i=>(exM (2^((sc+hh)+24).toNat) (x1*16777216) (x2*16777216) (2^((sc+hh)+24).toNat) i).1) nn) (saS (fun i=>(exM (2^((sc+hh)+24).toNat) (x1*16777216) (x2*16777216) (2^((sc+hh)+24).toNat) i).2) nn+(exM (2^((sc+hh)+24).toNat) (x1*16777216) (x2*16777216) (2^((sc+hh)+24).toNat) nn).2) (2^((sc+hh)+24).toNat) h).1 / 2^(h+24)) (-(-((sqS (saS (fun i=>(exM (2^((sc+hh)+24).toNat) (x1*16777216) (x2*16777216) (2^((sc+hh)+24).toNat) i).1) nn) (saS (fun i=>(exM (2^((sc+hh)+24).toNat) (x1*16777216) (x2*16777216) (2^((sc+hh)+24).toNat) i).2) nn+(exM (2^((sc+hh)+24).toNat) (x1*16777216) (x2*16777216) (2^((sc+hh)+24).toNat) nn).2) (2^((sc+hh)+24).toNat) h).2) / 2^(h+24))) nn (fun i=>(exM (2^((sc+hh)+24).toNat) (x1*16777216) (x2*16777216) (2^((sc+hh)+24).toNat) i).1) (fun i=>(exM (2^((sc+hh)+24).toNat) (x1*16777216) (x2*16777216) (2^((sc+hh)+24).toNat) i).2) (fun i=>(exM (2^((sc+hh)+24).toNat) (x1*16777216) (x2*16777216) (2^((sc+hh)+24).toNat) i).1*(x1*16777216) / (2^((sc+hh)+24).toNat)) (fun i=>-(-((exM (2^((sc+hh)+24).toNat) (x1*16777216) (x2*16777216) (2^((sc+hh)+24).toNat) i).2*(x2*16777216)) / (2^((sc+hh)+24).toNat))) oO oO h5 h6 hTw hHf hO
  (fun j _=>fx_Mul _ _ (x1*16777216) (x2*16777216) ((sc+hh)+24) (Nat.le_trans (l1 j) oO) (Nat.le_trans (l2 j) oO) oO oO oO)
  (fun j kk _ hk=>by subst hk; exact fx_Part _ _ ((j:Int)+1) (Nat.le_trans (m1 j) oO) (Nat.le_trans (m2 j) oO) oO)
  (fun j hj=>fx_Add _ _ _ _ (Nat.le_trans (a1 j oO) oO) (Nat.le_trans (a2 j oO) oO) (Nat.le_trans (l1 (j+1)) oO) (Nat.le_trans (l2 (j+1)) oO))
  (fun j hj=>by
   have c:decide (((exM (2^((sc+hh)+24).toNat) (x1*16777216) (x2*16777216) (2^((sc+hh)+24).toNat) (j+1)).2).natAbs<8)=decide (nn≤j+1):=decide_eq_decide.2 (by have:=n3 j hj; have:=(ef (j+1)).2.2.1; omega)
   exact impl_eq (congrArg V.bool c) (fx_Tiny _ _ (Nat.le_trans (l2 (j+1)) oO)))
  ⟨Nat.le_trans (a2 nn (Nat.le_refl _)) oO,Nat.le_trans (l2 nn) oO⟩ ⟨n1,by omega⟩
  (fun i hi=>fx_Mul _ _ _ _ ((sc+hh)+24) (Nat.le_trans (q1 i oO) oO) (Nat.le_trans (q2 i oO) oO) (Nat.le_trans (q1 i oO) oO) (Nat.le_trans (q2 i oO) oO) oO)
  (fun i hi=>by
   have e:i=h:=by omega
   subst e
   have r:=fx_Half (sqS (saS (fun i=>(exM (2^((sc+hh)+24).toNat) (x1*16777216) (x2*16777216) (2^((sc+hh)+24).toNat) i).1) nn) (saS (fun i=>(exM (2^((sc+hh)+24).toNat) (x1*16777216) (x2*16777216) (2^((sc+hh)+24).toNat) i).2) nn+(exM (2^((sc+hh)+24).toNat) (x1*16777216) (x2*16777216) (2^((sc+hh)+24).toNat) nn).2) (2^((sc+hh)+24).toNat) i).1 (sqS (saS (fun i=>(exM (2^((sc+hh)+24).toNat) (x1*16777216) (x2*16777216) (2^((sc+hh)+24).toNat) i).1) nn) (saS (fun i=>(exM (2^((sc+hh)+24).toNat) (x1*16777216) (x2*16777216) (2^((sc+hh)+24).toNat) i).2) nn+(exM (2^((sc+hh)+24).toNat) (x1*16777216) (x2*16777216) (2^((sc+hh)+24).toNat) nn).2) (2^((sc+hh)+24).toNat) i).2 (((sc+hh)+24)-sc) (Nat.le_trans (q1 i (Nat.le_refl _)) oO) (Nat.le_trans (q2 i (Nat.le_refl _)) oO) oO
   rw [tsn] at r
   exact r)
 have szh:=sz h (Nat.le_refl _)
 have tT:(((2^((sc+hh)+24).toNat):Int):Rat)=((2^(sc.toNat+(h+24)):Int):Rat):=by rw [tn,Nat.add_assoc]
 rw [tT] at lo
 have hi:=fun K=>(show EP x K*((2^(sc.toNat+(h+24)):Int):Rat)≤_ from by have:=hi K; rw [tT] at this; exact this)
 generalize (sqS (saS (fun i=>(exM (2^((sc+hh)+24).toNat) (x1*16777216) (x2*16777216) (2^((sc+hh)+24).toNat) i).1) nn) (saS (fun i=>(exM (2^((sc+hh)+24).toNat) (x1*16777216) (x2*16777216) (2^((sc+hh)+24).toNat) i).2) nn+(exM (2^((sc+hh)+24).toNat) (x1*16777216) (x2*16777216) (2^((sc+hh)+24).toNat) nn).2) (2^((sc+hh)+24).toNat) h).1=A at *
 generalize (sqS (saS (fun i=>(exM (2^((sc+hh)+24).toNat) (x1*16777216) (x2*16777216) (2^((sc+hh)+24).toNat) i).1) nn) (saS (fun i=>(exM (2^((sc+hh)+24).toNat) (x1*16777216) (x2*16777216) (2^((sc+hh)+24).toNat) i).2) nn+(exM (2^((sc+hh)+24).toNat) (x1*16777216) (x2*16777216) (2^((sc+hh)+24).toNat) nn).2) (2^((sc+hh)+24).toNat) h).2=B at *
 have z0:(0:Rat)≤((2^(sc.toNat+(h+24)):Int):Rat):=Rat.intCast_nonneg.2 (Int.le_of_lt (two_pos _))
 have W24:(2:Int)^(h+24)=2^h*16777216:=by rw [Int.pow_add]; rfl
 have D0:=two_pos (h+24)
 have wf:B-A≤(40*(x2-x1)+3)*2^(h+24):=by
  have a:=Int.mul_le_mul_of_nonneg_left (show 8*((5*((x2*16777216)-(x1*16777216))+5*(nn:Int)+8)+10)≤(40*(x2-x1)+3)*16777216 by omega) (Int.le_of_lt Q0)
  have c1:(2:Int)^h*(8*((5*((x2*16777216)-(x1*16777216))+5*(nn:Int)+8)+10))=8*(2^h*((5*((x2*16777216)-(x1*16777216))+5*(nn:Int)+8)+10)):=by rw [← Int.mul_assoc,Int.mul_comm (2^h) 8,Int.mul_assoc]
  have c2:(40*(x2-x1)+3)*(2:Int)^(h+24)=2^h*((40*(x2-x1)+3)*16777216):=by rw [W24,Int.mul_comm,Int.mul_assoc,Int.mul_comm 16777216]
  omega
 have hw:=half_w (a:=A) (b:=B) (W:=40*(x2-x1)+3) (n:=h+24) wf
 have hE:Encl (EP x) (sc.toNat+(h+24)) A B:=⟨N,fun K hK=>⟨Rat.le_trans lo (Rat.mul_le_mul_of_nonneg_right (EP_mono x0 hK) z0),hi K⟩⟩
 refine ⟨_,_,C,hE.half rfl,by omega,Int.ediv_nonneg oO (Int.le_of_lt D0),?_⟩
 have T8:((2^((sc+hh)+24).toNat):Int)=2^sc.toNat*2^(h+24):=by rw [tn,Nat.add_assoc,Int.pow_add]
 rw [T8] at szh
 have u:=Int.lt_ediv_add_one_mul_self (-B) D0
 refine Decidable.byContradiction fun hn=>?_
 have m:=Int.mul_le_mul_of_nonneg_right (show -B / 2^(h+24)+1≤-(9*2^sc.toNat)+1-1 by omega) (Int.le_of_lt D0)
 have m':(-(9*2^sc.toNat)+1-1:Int)*2^(h+24)=-(9*(2^sc.toNat*2^(h+24))):=by rw [Int.add_sub_cancel,Int.neg_mul,Int.mul_assoc]
 have:=Int.mul_pos P0 D0
 omega
end Go.Proofs.YtcbihoojfakhdaaGreatDoor

namespace Go.Proofs.YtcbihoojfakhdaaGreatDoor
open Go.RowKit
set_option maxRecDepth 100000
set_option maxHeartbeats 2000000
theorem fx_ExpW (m ee s1 p1 p2 q1 q2 k0 a1 a2 u1 u2 t1 t2 d1 d2 x1 x2 y1 y2 r1 r2:Int)(c0:0≤s1∧s1≤9000)(c1:-20000≤k0∧k0≤20000)(c2:Impl Tryz.prog Amb 161 [(yV m ee),(.int .i64 32)] (sV p1 p2))(c3:Impl Tryz.prog Amb 112 [(.int .i64 32)] (sV q1 q2))(c4:Impl Tryz.prog Amb 163 [(sV p1 p2),(sV q1 q2)] (.int .i64 k0))(c5:Impl Tryz.prog Amb 161 [(yV m ee),(.int .i64 (((s1+(iMax (k0-1) (0:Int)))+24)+16))] (sV a1 a2))(c6:Impl Tryz.prog Amb 112 [(.int .i64 (((s1+(iMax (k0-1) (0:Int)))+24)+16))] (sV u1 u2))(c7:Impl Tryz.prog Amb 165 [(sV u1 u2),(.int .i64 (k0-1))] (sV t1 t2))(c8:Impl Tryz.prog Amb 164 [(sV a1 a2),(sV t1 t2)] (sV d1 d2))(c9:Impl Tryz.prog Amb 162 [(sV d1 d2),(.int .i64 16)] (sV x1 x2))(c10:Impl Tryz.prog Amb 232 [(sV x1 x2),(.int .i64 ((s1+(iMax (k0-1) (0:Int)))+24))] (sV y1 y2))(c11:Impl Tryz.prog Amb 162 [(sV y1 y2),(.int .i64 ((((s1+(iMax (k0-1) (0:Int)))+24)-s1)-(k0-1)))] (sV r1 r2)):Impl Tryz.prog Amb 194 [(yV m ee),(.int .i64 s1)] (sV r1 r2):=by
 have im1:=iMax_range (k0-1) 0
 exact impl_ob hP hAmb Tryz.func194 (by kernel_rfl) (.lits 2<|.call (sV p1 p2)<|.lit<|.call (sV q1 q2)<|.lit<|.call (.int .i64 k0)<|.lit<|.yes<|.lits 2<|.yes<|.lit<|.yes<|.lits 2<|.yes<|.lit<|.call (sV a1 a2)<|.lit<|.yes<|.lit<|.call (sV u1 u2)<|.lit<|.call (sV t1 t2)<|.lit<|.call (sV d1 d2)<|.lit<|.call (sV x1 x2)<|.lits 3<|.call (sV y1 y2)<|.lits 3<|.yes<|.lit<|.yes<|.lit<|.call (sV r1 r2)<|.lits 2<|.ret)
  (cast_ob (aI True.intro (aI (c2 ) (aI (c3 ) (aI (c4 ) (aI (fits_i64 oS:(fits .i64 (k0-1))=true) (aI (fits_i64 oS:(fits .i64 (s1+(iMax (k0-1) (0:Int))))=true) (aI (fits_i64 oS:(fits .i64 ((s1+(iMax (k0-1) (0:Int)))+24))=true) (aI (fits_i64 oS:(fits .i64 (((s1+(iMax (k0-1) (0:Int)))+24)+16))=true) (aI (c5 ) (aI (fits_i64 oS:(fits .i64 (((s1+(iMax (k0-1) (0:Int)))+24)+16))=true) (aI (c6 ) (aI (c7 ) (aI (c8 ) (aI (c9 ) (aI (c10 ) (aI (fits_i64 oS:(fits .i64 (((s1+(iMax (k0-1) (0:Int)))+24)-s1))=true) (aI (fits_i64 oS:(fits .i64 ((((s1+(iMax (k0-1) (0:Int)))+24)-s1)-(k0-1)))=true) (aI (c11 ) ((vsub_refl (sV r1 r2))))))))))))))))))))) (by kernel_rfl))
end Go.Proofs.YtcbihoojfakhdaaGreatDoor

namespace Go.Proofs.YtcbihoojfakhdaaGreatDoor
open Go.RowKit
set_option maxRecDepth 100000
set_option maxHeartbeats 2000000
def fx_SettleB_0_mk (fk:Nat)(u1:V)(_ _ w:Int)(x:Int):St:=⟨mkS 27 [(0,(.val (.int .i64 w))),(1,(.val (.bnd fk [u1]))),(4,(.own 0 0)),(5,(.val (.int .i64 24)))],[⟨true,false,[(V.bool false),V.nil,(V.bool false),V.nil]⟩]⟩
def fx_SettleB_0_I (_:Nat)(_:V)(_ _ _:Int)(x:Int):Prop:=x=x
def fx_SettleB_0_mu (_:Nat)(_:V)(_ _ _:Int)(x:Int):Nat:=0
def fx_SettleB_0_ex (_:Nat)(_:V)(ka kb _:Int)(y:Int):Ex × St:=(.ret,⟨mkS 27 [(4,(.own 0 0))],[⟨true,false,[(V.bool (decide ((ka / 2^24)<0))),(N ((ka / 2^24).natAbs)),(V.bool (decide ((-(-kb / 2^24))<0))),(N ((-(-kb / 2^24)).natAbs))]⟩]⟩)
def fx_SettleB_0_J (_:Nat)(_:V)(_ _ _:Int)(y:Int):Prop:=y=y
theorem fx_SettleB_0 (fk:Nat)(u1:V)(ka kb w:Int)(c0:Impl Tryz.prog Amb fk [u1,(.int .i64 (w+24))] (sV ka kb))(c1:L ka.natAbs≤8192∧L kb.natAbs≤8192)(c2:nbits (kb-ka).natAbs≤24)(c3:(0:Int)≤w∧w≤5000)(x0:Int)(hI:fx_SettleB_0_I fk u1 ka kb w x0):LoopOk Tryz.prog Amb (loopN Tryz.f133 0) (fx_SettleB_0_mk fk u1 ka kb w x0) (fun e st_=>∃ y,fx_SettleB_0_J fk u1 ka kb w y∧fx_SettleB_0_ex fk u1 ka kb w y=(e,st_)) :=
 loop_ob hP hAmb ⟨[0,1,4,5],1,[]⟩ (fx_SettleB_0_mk fk u1 ka kb w) (fx_SettleB_0_I fk u1 ka kb w) (fx_SettleB_0_mu fk u1 ka kb w) (fx_SettleB_0_ex fk u1 ka kb w) (fx_SettleB_0_J fk u1 ka kb w) x0 hI (fun j=>.lit<|.yes<|.lit<|.call (sV ka kb)<|.lits 3<|.call (zV (kb-ka))<|.lits 2<|.call (.int .i64 (nbits ((kb-ka).natAbs):Int))<|.lit<|.yes<|.lits 5<|.call (sV (ka / 2^24) (-(-kb / 2^24)))<|.lit<|.fin3 ⟨[4],[0]⟩) (by
  rintro j hI
  have hI:j=j:=hI
  have h1:=hI
  exact cast_ob (aI True.intro (aI (fits_i64 oS:(fits .i64 (w+24))=true) (aI (c0 ) (aI (fx_Width ka kb oS oS) (have f106:=L_abs_sub kb ka; aI (nat_Bits ((kb-ka).natAbs) oS) (have f105:=nbits_L ((kb-ka).natAbs); aI (iLe_mk oO:(iLe (nbits ((kb-ka).natAbs):Int) 24)=true) (aI (fx_Half ka kb 24 oS oS oS) (have f104:=L_abs_neg (-kb / 2^24); have f103:=L_abs_shr (-kb) 24; have f102:=L_abs_neg kb; have f101:=L_abs_shr ka 24; aI tT ((nx_ret ((fx_SettleB_0_ex fk u1 ka kb w j).2) j (show j=j from rfl) rfl:NX (fx_SettleB_0_mk fk u1 ka kb w) (fx_SettleB_0_I fk u1 ka kb w) (fx_SettleB_0_mu fk u1 ka kb w) (fx_SettleB_0_ex fk u1 ka kb w) (fx_SettleB_0_J fk u1 ka kb w) j .ret ((fx_SettleB_0_ex fk u1 ka kb w j).2))))))))))) (by kernel_rfl))
theorem fx_SettleB (fk:Nat)(u1:V)(ka kb w:Int)(c0:Impl Tryz.prog Amb fk [u1,(.int .i64 (w+24))] (sV ka kb))(c1:L ka.natAbs≤8192∧L kb.natAbs≤8192)(c2:nbits (kb-ka).natAbs≤24)(c3:(0:Int)≤w∧w≤5000):Impl Tryz.prog Amb 133 [(.int .i64 w),(.bnd fk [u1])] (sV (ka / 2^24) (-(-kb / 2^24))):=by
 exact impl_ob hP hAmb Tryz.func133 (by kernel_rfl) (.loop ⟨[0,1,4,5],1,[]⟩ ((fx_SettleB_0_mk fk u1 ka kb w (0:Int))) (Int) (fx_SettleB_0_ex fk u1 ka kb w) (fx_SettleB_0_J fk u1 ka kb w) (fun y=>.lit<|.ret))
  (cast_ob (aI True.intro (aI tT (aI (rfl:(fx_SettleB_0_mk fk u1 ka kb w (0:Int))=(fx_SettleB_0_mk fk u1 ka kb w (0:Int))) (aI (fx_SettleB_0 fk u1 ka kb w c0 c1 c2 c3 (0:Int) (show (0:Int)=(0:Int) from rfl)) (fun y (hJ:fx_SettleB_0_J fk u1 ka kb w y)=>have hJ:y=y:=hJ; (vsub_refl (sV (ka / 2^24) (-(-kb / 2^24))))))))) (by kernel_rfl))
theorem ex_value0 (m ee w lo hi:Int)(c0:L (m).natAbs≤8000)(c1:-4096≤w∧w≤4096)(c2:Impl Tryz.prog Amb 69 [(yV (-m) ee),(.int .i64 (w+1))] (.bool false))(c3:Impl Tryz.prog Amb 133 [(.int .i64 w),(.bnd 134 [(yV m ee)])] (sV lo hi)):Impl Tryz.prog Amb 71 [(yV m ee),(.int .i64 w)] (sV lo hi):=by
 exact impl_ob hP hAmb Tryz.func71 (by kernel_rfl) (.lits 2<|.call (yV (-m) ee)<|.lit<|.yes<|.lit<|.call (.bool false)<|.lits 4<|.call (sV lo hi)<|.lits 2<|.ret)
  (cast_ob (aI True.intro (aI (dy_Neg m ee oS) (have f1:=L_abs_neg m; aI (fits_i64 oS:(fits .i64 (w+1))=true) (aI (c2 ) (aI (c3 ) ((vsub_refl (sV lo hi)))))))) (by kernel_rfl))
theorem ex_Exp0 (m ee n f w l1 h1 l2 h2 a1 a2 b1 b2:Int)(c0:0≤w∧w≤4096)(c1:Impl Tryz.prog Amb 69 [(yV n f),(.int .i64 1000)] (.bool false))(c2:Impl Tryz.prog Amb 71 [(yV m ee),(.int .i64 w)] (sV l1 h1))(c3:Impl Tryz.prog Amb 71 [(yV n f),(.int .i64 w)] (sV l2 h2))(c4:Impl Tryz.prog Amb 70 [(zV l1),(.int .i64 ((0:Int)-w))] (.tup [(yV a1 a2),(.int .i64 0)]))(c5:Impl Tryz.prog Amb 70 [(zV h2),(.int .i64 ((0:Int)-w))] (.tup [(yV b1 b2),(.int .i64 0)])):Impl Tryz.prog Amb 20 [(wV m ee n f),(.int .i64 w)] (.tup [(wV a1 a2 b1 b2),(.int .i64 0)]):=by
 exact impl_ob hP hAmb Tryz.func20 (by kernel_rfl) (.lit<|.no<|.lits 3<|.no<|.lits 2<|.call (.bool false)<|.lits 3<|.call (sV l1 h1)<|.lits 2<|.yes<|.lit<|.call (.tup [(yV a1 a2),(.int .i64 0)])<|.lits 3<|.call (sV l2 h2)<|.lits 2<|.yes<|.lit<|.call (.tup [(yV b1 b2),(.int .i64 0)])<|.lits 12<|.ret)
  (cast_ob (aI True.intro (aI (iLt_mkF oS:(iLt w 0)=false) (aI (iGt_mkF oS:(iGt w 4096)=false) (aI (c1 ) (aI (c2 ) (aI (fits_i64 oS:(fits .i64 ((0:Int)-w))=true) (aI (c4 ) (aI (c3 ) (aI (fits_i64 oS:(fits .i64 ((0:Int)-w))=true) (aI (c5 ) ((vsub_refl (.tup [(wV a1 a2 b1 b2),(.int .i64 0)]))))))))))))) (by kernel_rfl))
theorem ex_ExpL (m ee n f w:Int)(c0:0≤w∧w≤4096)(c1:Impl Tryz.prog Amb 69 [(yV n f),(.int .i64 1000)] (.bool true)):Impl Tryz.prog Amb 20 [(wV m ee n f),(.int .i64 w)] (e0T 3):=by
 exact impl_ob hP hAmb Tryz.func20 (by kernel_rfl) (.lit<|.no<|.lits 3<|.no<|.lits 2<|.call (.bool true)<|.lits 4<|.ret)
  (cast_ob (aI True.intro (aI (iLt_mkF oS:(iLt w 0)=false) (aI (iGt_mkF oS:(iGt w 4096)=false) (aI (c1 ) ((vsub_refl (e0T 3))))))) (by kernel_rfl))
theorem l14_awake0 (a1 a2 b1 b2 m ee:Int)(qq:Rat)(c0:Impl Tryz.prog Amb 65 [(.int .i64 0),(.int .i64 0)] (wV (0:Int) 0 (0:Int) 0))(c1:Impl Tryz.prog Amb 20 [(wV (0:Int) 0 (0:Int) 0),(.int .i64 3)] (.tup [(wV a1 a2 b1 b2),(.int .i64 0)]))(c2:Impl Tryz.prog Amb 65 [(.int .i64 2000),(.int .i64 2000)] (wV m ee m ee))(c3:Impl Tryz.prog Amb 20 [(wV m ee m ee),(.int .i64 3)] (e0T 3))(c4:Impl Tryz.prog Amb 58 [(.int .i64 1)] (.agg [(.bool (decide (qq.num<0))),(N qq.num.natAbs),(N qq.den)]))(c5:Impl Tryz.prog Amb 57 [(wV a1 a2 b1 b2),(.agg [(.bool (decide (qq.num<0))),(N qq.num.natAbs),(N qq.den)])] (.bool true)):Impl Tryz.prog Amb 14 [] (.bool true):=by
 exact impl_ob hP hAmb Tryz.func14 (by kernel_rfl) (.lit<|.call (wV (0:Int) 0 (0:Int) 0)<|.lit<|.call (.tup [(wV a1 a2 b1 b2),(.int .i64 0)])<|.lits 2<|.call (wV m ee m ee)<|.lit<|.call (e0T 3)<|.lits 10<|.call (.agg [(.bool (decide (qq.num<0))),(N qq.num.natAbs),(N qq.den)])<|.lits 2<|.call (.bool true)<|.lits 2<|.ret)
  (cast_ob (aI True.intro (aI (c0 ) (aI (c1 ) (aI (c2 ) (aI (c3 ) (aI (c4 ) (aI (c5 ) ((vsub_refl (.bool true)))))))))) (by kernel_rfl))
theorem l14_of (a b:Int)(c0:(-9223372036854775808:Int)≤a∧a≤9223372036854775807)(c1:(-9223372036854775808:Int)≤b∧b≤9223372036854775807):Impl Tryz.prog Amb 65 [(.int .i64 a),(.int .i64 b)] (wV (mkM a 0) (mkX a 0) (mkM b 0) (mkX b 0)):=by
 exact impl_ob hP hAmb Tryz.func65 (by kernel_rfl) (.lit<|.call (yV (mkM a 0) (mkX a 0))<|.lit<|.call (yV (mkM b 0) (mkX b 0))<|.lits 3<|.ret)
  (cast_ob (aI True.intro (aI (r08_Of a oO) (have f4:=(L_i64 oO:L (a:Int).natAbs≤2); have f3:=mk_facts a 0; aI (r08_Of b oO) (have f2:=(L_i64 oO:L (b:Int).natAbs≤2); have f1:=mk_facts b 0; (vsub_refl (wV (mkM a 0) (mkX a 0) (mkM b 0) (mkX b 0))))))) (by kernel_rfl))
end Go.Proofs.YtcbihoojfakhdaaGreatDoor
